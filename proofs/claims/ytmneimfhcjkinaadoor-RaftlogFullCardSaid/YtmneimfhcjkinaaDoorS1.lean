/- Chapter 9: four, fourth, summed, unsummed, body, within, numbers, text. -/
import Derived.Test.YtmneimfhcjkinaaDoorEn
import Derived.Test.YtmneimfhcjkinaaDoorWr
import Derived.Test.YtmneimfhcjkinaaDoorD3
namespace Go.Proofs.YtmneimfhcjkinaaDoor
open Go Go.HL
set_option maxHeartbeats 1600000
set_option maxRecDepth 10000

theorem strN_app (a b : List Nat) : strN a ++ strN b = strN (a ++ b) := by
  unfold strN
  cases h : (⟨(a.map UInt8.ofNat).toArray⟩ : ByteArray) ++ ⟨(b.map UInt8.ofNat).toArray⟩ with
  | mk d =>
    have := congrArg ByteArray.data h
    simp at this
    rw [← this]; simp
theorem strN_nb (s : ByteArray) : strN (nb s) = s := nb_inj (nb_str (nb_byte s))
theorem strN_size {l : List Nat} (h : ∀ b ∈ l, b < 256) : (strN l).size = l.length := by rw [← nb_len, nb_str h]
theorem or_add {x y m i : Nat} (hm : 2 ^ i = m) (h : y < m) : (x * m) ||| y = x * m + y := by
  subst hm
  rw [← Nat.shiftLeft_eq, Nat.shiftLeft_add_eq_or_of_lt h]
theorem or64 {a b : Nat} (ha : a < 9223372036854775808) (hb : b < 9223372036854775808) : orI .i64 (a : Int) (b : Int) = ((a ||| b : Nat) : Int) := by
  have h : a ||| b < 9223372036854775808 := Nat.or_lt_two_pow (n := 63) ha hb
  have e : (BitVec.ofInt IntKind.i64.bits (a : Int) ||| BitVec.ofInt IntKind.i64.bits (b : Int)).toNat = a ||| b := by
    rw [BitVec.toNat_or, ofInt_nat, ofInt_nat]
    have h64 : 2 ^ IntKind.i64.bits = 18446744073709551616 := rfl
    rw [h64, Nat.mod_eq_of_lt (by omega), Nat.mod_eq_of_lt (by omega)]
  unfold orI
  rw [e]
  exact wrap64_id (by omega) (by omega)
theorem shl64 {a k m : Nat} (hm : 2 ^ k = m) (hk : k < 64) (h : a * m < 9223372036854775808) : shlI .i64 (a : Int) (k : Nat) = ((a * m : Nat) : Int) := by
  have h2 : min k IntKind.i64.bits = k := Nat.min_eq_left (by have : IntKind.i64.bits = 64 := rfl; omega)
  unfold shlI
  rw [Int.toNat_natCast, h2]
  have e : (a : Int) * 2 ^ k = ((a * m : Nat) : Int) := by rw [← hm]; simp
  rw [e]
  exact wrap64_id (by omega) (by omega)
theorem k_a {a : Nat} (ha : a < 256) : a * 16777216 < 9223372036854775808 := by omega
theorem k_b {b : Nat} (hb : b < 256) : b * 65536 < 9223372036854775808 := by omega
theorem k_c {c : Nat} (hc : c < 256) : c * 256 < 9223372036854775808 := by omega
theorem k_d {d : Nat} (hd : d < 256) : d < 9223372036854775808 := by omega
theorem k_b2 {b : Nat} (hb : b < 256) : b * 65536 < 16777216 := by omega
theorem k_c2 {c : Nat} (hc : c < 256) : c * 256 < 65536 := by omega
theorem k_ab {a b : Nat} (ha : a < 256) (hb : b < 256) : (a * 256 + b) * 65536 < 9223372036854775808 := by omega
theorem k_abc {a b c : Nat} (ha : a < 256) (hb : b < 256) (hc : c < 256) : ((a * 256 + b) * 256 + c) * 256 < 9223372036854775808 := by omega
theorem k_e4 (a b : Nat) : a * 16777216 + b * 65536 = (a * 256 + b) * 65536 := by omega
theorem k_e5 (m c : Nat) : m * 65536 + c * 256 = (m * 256 + c) * 256 := by omega
theorem k_e7 (a b c d : Nat) : ((a * 256 + b) * 256 + c) * 256 + d = a * 16777216 + b * 65536 + c * 256 + d := by omega
theorem k_w {a : Nat} (ha : a < 256) : IntKind.wrap .i64 (a : Int) = a := wrap64_id (by omega) (by omega)
theorem fourth_val {a b c d : Nat} (ha : a < 256) (hb : b < 256) (hc : c < 256) (hd : d < 256) :
    orI .i64 (orI .i64 (orI .i64 (shlI .i64 (IntKind.wrap .i64 (a : Int)) 24) (shlI .i64 (IntKind.wrap .i64 (b : Int)) 16)) (shlI .i64 (IntKind.wrap .i64 (c : Int)) 8)) (IntKind.wrap .i64 (d : Int)) = ((a * 16777216 + b * 65536 + c * 256 + d : Nat) : Int) := by
  rw [k_w ha, k_w hb, k_w hc, k_w hd]
  have e1 : shlI .i64 (a : Int) 24 = ((a * 16777216 : Nat) : Int) := shl64 (k := 24) rfl (by decide) (k_a ha)
  have e2 : shlI .i64 (b : Int) 16 = ((b * 65536 : Nat) : Int) := shl64 (k := 16) rfl (by decide) (k_b hb)
  have e3 : shlI .i64 (c : Int) 8 = ((c * 256 : Nat) : Int) := shl64 (k := 8) rfl (by decide) (k_c hc)
  have f1 : a * 16777216 ||| b * 65536 = a * 16777216 + b * 65536 := or_add (i := 24) rfl (k_b2 hb)
  have f2 : (a * 256 + b) * 65536 ||| c * 256 = (a * 256 + b) * 65536 + c * 256 := or_add (i := 16) rfl (k_c2 hc)
  have f3 : ((a * 256 + b) * 256 + c) * 256 ||| d = ((a * 256 + b) * 256 + c) * 256 + d := or_add (i := 8) rfl hd
  rw [e1, e2, e3, or64 (k_a ha) (k_b hb), f1, k_e4, or64 (k_ab ha hb) (k_c hc), f2, k_e5, or64 (k_abc ha hb hc) (k_d hd), f3, k_e7]
theorem nb_get {s : ByteArray} {i v : Nat} (h : (nb s)[i]? = some v) : ∃ c : UInt8, s[i]? = some c ∧ c.toNat = v := by
  unfold nb at h
  rw [List.getElem?_map] at h
  cases e : s.data.toList[i]? with
  | none => rw [e] at h; cases h
  | some c =>
    rw [e] at h
    refine ⟨c, ?_, by simpa using h⟩
    rw [Array.getElem?_toList] at e; exact e
abbrev sumd (l : List Nat) : List Nat := fourN (crcN l) ++ l
theorem sumd_bytes {l : List Nat} (h : ∀ b ∈ l, b < 256) : ∀ b ∈ sumd l, b < 256 := fun b hb => by
  rcases List.mem_append.1 hb with w | w
  · exact fourN_bytes _ b w
  · exact h b w
theorem sumd_len (l : List Nat) : (sumd l).length = 4 + l.length := by simp [sumd, fourN]; omega
def bodyN (x : En) : List Nat := encN x.1 ++ (encN x.2.1 ++ (encN (x.2.2.size : Nat) ++ nb x.2.2))
theorem app_bytes {l m : List Nat} (h : ∀ b ∈ l, b < 256) (g : ∀ b ∈ m, b < 256) : ∀ b ∈ l ++ m, b < 256 := fun b hb => by
  rcases List.mem_append.1 hb with w | w
  · exact h b w
  · exact g b w
theorem bodyN_bytes (x : En) : ∀ b ∈ bodyN x, b < 256 := app_bytes (encN_bytes _) (app_bytes (encN_bytes _) (app_bytes (encN_bytes _) (nb_byte _)))
theorem bodyN_len (x : En) : (bodyN x).length ≤ 30 + x.2.2.size := by
  have h1 := encN_len x.1
  have h2 := encN_len x.2.1
  have h3 := encN_len (x.2.2.size : Nat)
  unfold bodyN
  rw [List.length_append, List.length_append, List.length_append, nb_len]
  omega
def entN (x : En) : List Nat := fourN (bodyN x).length ++ sumd (bodyN x)
theorem entN_bytes (x : En) : ∀ b ∈ entN x, b < 256 := app_bytes (fourN_bytes _) (sumd_bytes (bodyN_bytes x))
theorem entN_len (x : En) : (entN x).length = 8 + (bodyN x).length := by simp [entN, sumd, fourN]; omega
section
variable {cs : List Chunk} {H : Heap} {K : Value → Heap → Prop}
theorem four9_spec {c : Nat} (hc : c < 4294967296) (k : ∀ H', HL.Sub H H' → K (.string (strN (fourN c))) H') : FnH Tryd.prog 48 #[.int .i64 (c : Int)] H K := by
  apply raftlog_four_fn
  unfold raftlog_four_vc
  refine (Holds.whole H).newS fun q H1 s1 h1 => ?_
  have e1 : ∀ k : Nat, k < 64 → IntKind.wrap .u8 (shrI .i64 (c : Int) k) = ((c / 2 ^ k % 256 : Nat) : Int) := fun k hk => by
    rw [shr_n _ _ hk, wrap_u8]; omega
  have ea : IntKind.wrap .u8 (shrI .i64 (c : Int) 24) = ((c / 16777216 % 256 : Nat) : Int) := e1 24 (by decide)
  have eb : IntKind.wrap .u8 (shrI .i64 (c : Int) 16) = ((c / 65536 % 256 : Nat) : Int) := e1 16 (by decide)
  have ec : IntKind.wrap .u8 (shrI .i64 (c : Int) 8) = ((c / 256 % 256 : Nat) : Int) := e1 8 (by decide)
  have ed : IntKind.wrap .u8 (c : Int) = ((c % 256 : Nat) : Int) := by rw [wrap_u8]; omega
  rw [ea, eb, ec, ed] at h1
  have ho : Own H1 5 1 ⟨some ⟨q, 0, none⟩, 4, 4⟩ (byV (fourN c)) := ⟨rfl, Nat.le_refl _, .inr ⟨q, _, rfl, h1.get 0 rfl, rfl, fun i hi => by
    have z : i = 0 ∨ i = 1 ∨ i = 2 ∨ i = 3 := by simp [fourN] at hi; omega
    rcases z with rfl | rfl | rfl | rfl <;> rfl⟩⟩
  exact toStr (r := ⟨some ⟨q, 0, none⟩, 4, 4⟩) ho (fourN_bytes _) ⟨_, rfl, k H1 s1⟩
theorem fourth9_spec {s : ByteArray} {c : Nat} {r : List Nat} (hs : nb s = fourN c ++ r) (hc : c < 4294967296) (k : K (.int .i64 (c : Int)) H) : FnH Tryd.prog 44 #[.string s] H K := by
  apply raftlog_fourth_fn
  unfold raftlog_fourth_vc
  obtain ⟨c1, a1, b1⟩ := nb_get (s := s) (i := 0) (v := c / 16777216 % 256) (by rw [hs]; rfl)
  obtain ⟨c2, a2, b2⟩ := nb_get (s := s) (i := 1) (v := c / 65536 % 256) (by rw [hs]; rfl)
  obtain ⟨c3, a3, b3⟩ := nb_get (s := s) (i := 2) (v := c / 256 % 256) (by rw [hs]; rfl)
  obtain ⟨c4, a4, b4⟩ := nb_get (s := s) (i := 3) (v := c % 256) (by rw [hs]; rfl)
  refine ⟨by decide, c1, a1, by decide, c2, a2, by decide, c3, a3, by decide, c4, a4, ?_⟩
  rw [b1, b2, b3, b4, fourth_val (Nat.mod_lt _ (by decide)) (Nat.mod_lt _ (by decide)) (Nat.mod_lt _ (by decide)) (Nat.mod_lt _ (by decide))]
  have e : c / 16777216 % 256 * 16777216 + c / 65536 % 256 * 65536 + c / 256 % 256 * 256 + c % 256 = c := by omega
  rw [e]; exact k
theorem summed9_spec {s : ByteArray} (hs : s.size ≤ 268435456) (k : ∀ H', HL.Sub H H' → K (.string (strN (sumd (nb s)))) H') : FnH Tryd.prog 30 #[.string s] H K := by
  apply raftlog_summed_fn
  unfold raftlog_summed_vc
  refine crc_spec (by omega) ⟨_, rfl, four9_spec (crcN_lt _ (nb_byte _)) fun H1 s1 => ⟨_, rfl, ?_, ?_⟩⟩
  · rw [strN_size (fourN_bytes _)]; simp [fourN]; omega
  · have := k H1 s1
    rw [← strN_app, strN_nb] at this; exact this
theorem sumd_ext {l : List Nat} (h : ∀ b ∈ l, b < 256) : (strN (sumd l)).extract 4 (strN (sumd l)).size = strN l := by
  refine nb_inj ?_
  rw [nb_extract, nb_str (sumd_bytes h), nb_str h, List.take_of_length_le (by rw [strN_size (sumd_bytes h)]; exact Nat.le_refl _)]
  rfl
theorem unsummed9_spec {l : List Nat} (hl : ∀ b ∈ l, b < 256) (hsz : l.length ≤ 268435456) (k : ∀ H', HL.Sub H H' → K (.tuple #[.string (strN l), .int .i64 0]) H') : FnH Tryd.prog 26 #[.string (strN (sumd l))] H K := by
  apply raftlog_unsummed_fn
  unfold raftlog_unsummed_vc
  have hs : (strN (sumd l)).size = 4 + l.length := by rw [strN_size (sumd_bytes hl), sumd_len]
  have ex : (strN (sumd l)).extract (Int.toNat 4) (Int.toNat ((strN (sumd l)).size : Nat)) = strN l := sumd_ext hl
  rw [ex]
  refine br_f (decide_eq_false (by omega)) ⟨by decide, by omega, fourth9_spec (r := l) (nb_str (sumd_bytes hl)) (crcN_lt _ hl) ⟨_, rfl, HL.Sub.refl _, crc_spec (by rw [strN_size hl]; omega) ⟨_, rfl, HL.Sub.refl _, ?_⟩⟩⟩
  rw [nb_str hl]
  exact br_f (by simp) ⟨by decide, by omega, k H (HL.Sub.refl _)⟩
theorem body9_spec {x : En} (h1 : i64B x.1) (h2 : i64B x.2.1) (h3 : x.2.2.size ≤ 268435456) (k : ∀ H', HL.Sub H H' → K (.string (strN (bodyN x))) H') : FnH Tryd.prog 50 #[.agg #[.int .i64 x.1, .int .i64 x.2.1, .string x.2.2]] H K := by
  apply raftlog_body_fn
  unfold raftlog_body_vc
  have l1 := encN_len x.1
  have l2 := encN_len x.2.1
  have l3 := encN_len (x.2.2.size : Nat)
  have z1 := strN_size (encN_bytes x.1)
  have z2 := strN_size (encN_bytes x.2.1)
  have z3 := strN_size (encN_bytes (x.2.2.size : Nat))
  refine int_spec h1 fun H1 s1 => ⟨_, rfl, s1, int_spec h2 fun H2 s2 => ⟨_, rfl, s1.trans s2, by omega, int_spec (n := (x.2.2.size : Nat)) ⟨by omega, by omega⟩ fun H3 s3 => ⟨_, rfl, (s1.trans s2).trans s3, by rw [ByteArray.size_append]; omega, by rw [ByteArray.size_append, ByteArray.size_append]; omega, ?_⟩⟩⟩
  have := k H3 ((s1.trans s2).trans s3)
  unfold bodyN at this
  rw [← strN_app, ← strN_app, ← strN_app, strN_nb] at this
  rw [ByteArray.append_assoc, ByteArray.append_assoc]
  exact this
theorem within9_spec {n least : Int} (h0 : least ≤ n) (h1 : n ≤ 1000000000) (k : K (.bool true) H) : FnH Tryd.prog 28 #[.int .i64 n, .int .i64 least] H K := by
  apply raftlog_within_fn
  unfold raftlog_within_vc
  refine br_t (decide_eq_true h0) ?_
  rw [decide_eq_true h1]; exact k
end
end Go.Proofs.YtmneimfhcjkinaaDoor
