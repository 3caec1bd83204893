/- Strings of bytes: joined, cut; four bytes as a number. -/
import Derived.Test.YtokceblmbmajgaaGreatDoorWr
namespace Go.Proofs.YtokceblmbmajgaaGreatDoor
open Go Go.HL
set_option maxRecDepth 10000

theorem strN_app (a b : List Nat) : strN a ++ strN b = strN (a ++ b) := by
  unfold strN
  cases h : (⟨(a.map UInt8.ofNat).toArray⟩ : ByteArray) ++ ⟨(b.map UInt8.ofNat).toArray⟩ with
  | mk d =>
    have := congrArg ByteArray.data h
    simp at this
    rw [← this]; simp
theorem strN_nb (s : ByteArray) : strN (nb s) = s := nb_inj (nb_str (nb_byte s))
theorem strN_size {l : List Nat} (h : ∀ b ∈ l, b < 256) : (strN l).size = l.length := by rw [← nb_len, nb_str h]
theorem or_add {x y m i : Nat} (hm : 2 ^ i = m) (h : y < m) : (x * m) ||| y = x * m + y := by
  subst hm
  rw [← Nat.shiftLeft_eq, Nat.shiftLeft_add_eq_or_of_lt h]
theorem or64 {a b : Nat} (ha : a < 9223372036854775808) (hb : b < 9223372036854775808) : orI .i64 (a : Int) (b : Int) = ((a ||| b : Nat) : Int) := by
  have h : a ||| b < 9223372036854775808 := Nat.or_lt_two_pow (n := 63) ha hb
  have e : (BitVec.ofInt IntKind.i64.bits (a : Int) ||| BitVec.ofInt IntKind.i64.bits (b : Int)).toNat = a ||| b := by
    rw [BitVec.toNat_or, ofInt_nat, ofInt_nat]
    have h64 : 2 ^ IntKind.i64.bits = 18446744073709551616 := rfl
    rw [h64, Nat.mod_eq_of_lt (by omega), Nat.mod_eq_of_lt (by omega)]
  unfold orI
  rw [e]
  exact wrap64_id (by omega) (by omega)
theorem shl64 {a k m : Nat} (hm : 2 ^ k = m) (hk : k < 64) (h : a * m < 9223372036854775808) : shlI .i64 (a : Int) (k : Nat) = ((a * m : Nat) : Int) := by
  have h2 : min k IntKind.i64.bits = k := Nat.min_eq_left (by have : IntKind.i64.bits = 64 := rfl; omega)
  unfold shlI
  rw [Int.toNat_natCast, h2]
  have e : (a : Int) * 2 ^ k = ((a * m : Nat) : Int) := by rw [← hm]; simp
  rw [e]
  exact wrap64_id (by omega) (by omega)
theorem k_a {a : Nat} (ha : a < 256) : a * 16777216 < 9223372036854775808 := by omega
theorem k_b {b : Nat} (hb : b < 256) : b * 65536 < 9223372036854775808 := by omega
theorem k_c {c : Nat} (hc : c < 256) : c * 256 < 9223372036854775808 := by omega
theorem k_d {d : Nat} (hd : d < 256) : d < 9223372036854775808 := by omega
theorem k_b2 {b : Nat} (hb : b < 256) : b * 65536 < 16777216 := by omega
theorem k_c2 {c : Nat} (hc : c < 256) : c * 256 < 65536 := by omega
theorem k_ab {a b : Nat} (ha : a < 256) (hb : b < 256) : (a * 256 + b) * 65536 < 9223372036854775808 := by omega
theorem k_abc {a b c : Nat} (ha : a < 256) (hb : b < 256) (hc : c < 256) : ((a * 256 + b) * 256 + c) * 256 < 9223372036854775808 := by omega
theorem k_e4 (a b : Nat) : a * 16777216 + b * 65536 = (a * 256 + b) * 65536 := by omega
theorem k_e5 (m c : Nat) : m * 65536 + c * 256 = (m * 256 + c) * 256 := by omega
theorem k_e7 (a b c d : Nat) : ((a * 256 + b) * 256 + c) * 256 + d = a * 16777216 + b * 65536 + c * 256 + d := by omega
theorem k_w {a : Nat} (ha : a < 256) : IntKind.wrap .i64 (a : Int) = a := wrap64_id (by omega) (by omega)
theorem fourth_val {a b c d : Nat} (ha : a < 256) (hb : b < 256) (hc : c < 256) (hd : d < 256) :
    orI .i64 (orI .i64 (orI .i64 (shlI .i64 (IntKind.wrap .i64 (a : Int)) 24) (shlI .i64 (IntKind.wrap .i64 (b : Int)) 16)) (shlI .i64 (IntKind.wrap .i64 (c : Int)) 8)) (IntKind.wrap .i64 (d : Int)) = ((a * 16777216 + b * 65536 + c * 256 + d : Nat) : Int) := by
  rw [k_w ha, k_w hb, k_w hc, k_w hd]
  have e1 : shlI .i64 (a : Int) 24 = ((a * 16777216 : Nat) : Int) := shl64 (k := 24) rfl (by decide) (k_a ha)
  have e2 : shlI .i64 (b : Int) 16 = ((b * 65536 : Nat) : Int) := shl64 (k := 16) rfl (by decide) (k_b hb)
  have e3 : shlI .i64 (c : Int) 8 = ((c * 256 : Nat) : Int) := shl64 (k := 8) rfl (by decide) (k_c hc)
  have f1 : a * 16777216 ||| b * 65536 = a * 16777216 + b * 65536 := or_add (i := 24) rfl (k_b2 hb)
  have f2 : (a * 256 + b) * 65536 ||| c * 256 = (a * 256 + b) * 65536 + c * 256 := or_add (i := 16) rfl (k_c2 hc)
  have f3 : ((a * 256 + b) * 256 + c) * 256 ||| d = ((a * 256 + b) * 256 + c) * 256 + d := or_add (i := 8) rfl hd
  rw [e1, e2, e3, or64 (k_a ha) (k_b hb), f1, k_e4, or64 (k_ab ha hb) (k_c hc), f2, k_e5, or64 (k_abc ha hb hc) (k_d hd), f3, k_e7]
theorem nb_get {s : ByteArray} {i v : Nat} (h : (nb s)[i]? = some v) : ∃ c : UInt8, s[i]? = some c ∧ c.toNat = v := by
  unfold nb at h
  rw [List.getElem?_map] at h
  cases e : s.data.toList[i]? with
  | none => rw [e] at h; cases h
  | some c =>
    rw [e] at h
    refine ⟨c, ?_, by simpa using h⟩
    rw [Array.getElem?_toList] at e; exact e
theorem app_bytes {l m : List Nat} (h : ∀ b ∈ l, b < 256) (g : ∀ b ∈ m, b < 256) : ∀ b ∈ l ++ m, b < 256 := fun b hb => by
  rcases List.mem_append.1 hb with w | w
  · exact h b w
  · exact g b w
theorem ext_skip {p X : List Nat} (hp : ∀ b ∈ p, b < 256) (hX : ∀ b ∈ X, b < 256) {i j : Nat} (hi : i = p.length) (hj : j = p.length + X.length) : (strN (p ++ X)).extract i j = strN X := by
  refine nb_inj ?_
  rw [nb_extract, nb_str (app_bytes hp hX), nb_str hX, List.take_of_length_le (by rw [List.length_append]; omega), hi, List.drop_left]
theorem ext_mid {p X r : List Nat} (hp : ∀ b ∈ p, b < 256) (hX : ∀ b ∈ X, b < 256) (hr : ∀ b ∈ r, b < 256) {i j : Nat} (hi : i = p.length) (hj : j = p.length + X.length) : (strN (p ++ (X ++ r))).extract i j = strN X := by
  refine nb_inj ?_
  have e : p ++ (X ++ r) = (p ++ X) ++ r := by simp
  rw [nb_extract, nb_str (app_bytes hp (app_bytes hX hr)), nb_str hX, e, hj, ← List.length_append, List.take_left, hi, List.drop_left]
theorem app_size {p X : List Nat} (hp : ∀ b ∈ p, b < 256) (hX : ∀ b ∈ X, b < 256) : (strN (p ++ X)).size = p.length + X.length := by rw [strN_size (app_bytes hp hX), List.length_append]
end Go.Proofs.YtokceblmbmajgaaGreatDoor
