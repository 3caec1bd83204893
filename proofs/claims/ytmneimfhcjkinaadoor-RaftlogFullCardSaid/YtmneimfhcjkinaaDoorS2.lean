/- Chapter 9: numbers, text, one, bytes. -/
import Derived.Test.YtmneimfhcjkinaaDoorS1
namespace Go.Proofs.YtmneimfhcjkinaaDoor
open Go Go.HL
set_option maxHeartbeats 1600000
set_option maxRecDepth 10000

theorem ext_skip {p X : List Nat} (hp : ∀ b ∈ p, b < 256) (hX : ∀ b ∈ X, b < 256) {i j : Nat} (hi : i = p.length) (hj : j = p.length + X.length) : (strN (p ++ X)).extract i j = strN X := by
  refine nb_inj ?_
  rw [nb_extract, nb_str (app_bytes hp hX), nb_str hX, List.take_of_length_le (by rw [List.length_append]; omega), hi, List.drop_left]
theorem ext_mid {p X r : List Nat} (hp : ∀ b ∈ p, b < 256) (hX : ∀ b ∈ X, b < 256) (hr : ∀ b ∈ r, b < 256) {i j : Nat} (hi : i = p.length) (hj : j = p.length + X.length) : (strN (p ++ (X ++ r))).extract i j = strN X := by
  refine nb_inj ?_
  have e : p ++ (X ++ r) = (p ++ X) ++ r := by simp
  rw [nb_extract, nb_str (app_bytes hp (app_bytes hX hr)), nb_str hX, e, hj, ← List.length_append, List.take_left, hi, List.drop_left]
theorem app_size {p X : List Nat} (hp : ∀ b ∈ p, b < 256) (hX : ∀ b ∈ X, b < 256) : (strN (p ++ X)).size = p.length + X.length := by rw [strN_size (app_bytes hp hX), List.length_append]
section
variable {cs : List Chunk} {H : Heap} {K : Value → Heap → Prop}
theorem numbers9_spec {a b least : Int} {r : List Nat} (hr : ∀ b ∈ r, b < 256) (hl : -1000000000 ≤ least) (a0 : least ≤ a) (a1 : a ≤ 1000000000) (b0 : least ≤ b) (b1 : b ≤ 1000000000) (hsz : r.length ≤ 268435456) (k : K (.tuple #[.int .i64 a, .int .i64 b, .string (strN r), .bool true]) H) :
    FnH Tryd.prog 42 #[.string (strN (encN a ++ (encN b ++ r))), .int .i64 least] H K := by
  apply raftlog_numbers_fn
  unfold raftlog_numbers_vc
  have ea := encN_bytes a
  have eb := encN_bytes b
  have la := encN_len a
  have lb := encN_len b
  have hs : (strN (encN a ++ (encN b ++ r))).size = (encN a).length + ((encN b).length + r.length) := by rw [app_size ea (app_bytes eb hr), List.length_append]
  refine readInt_spec ?_
  rw [nb_str (app_bytes ea (app_bytes eb hr)), read_enc (by omega) (by omega)]
  have e1 : (strN (encN a ++ (encN b ++ r))).extract (Int.toNat ((encN a).length : Nat)) (Int.toNat ((strN (encN a ++ (encN b ++ r))).size : Nat)) = strN (encN b ++ r) := ext_skip ea (app_bytes eb hr) (by simp) (by rw [hs, List.length_append]; simp; omega)
  refine ⟨a, ((encN a).length : Int), 0, rfl, br_f rfl ⟨by omega, by omega, ?_⟩⟩
  rw [e1]
  refine readInt_spec ?_
  rw [nb_str (app_bytes eb hr), read_enc (by omega) (by omega)]
  refine ⟨b, ((encN b).length : Int), 0, rfl, ?_⟩
  rw [wrap64_id (n := ((encN a).length : Int) + ((encN b).length : Int)) (by omega) (by omega), if_neg (by omega)]
  have e2 : (strN (encN a ++ (encN b ++ r))).extract (Int.toNat (((encN a).length : Int) + ((encN b).length : Int))) (Int.toNat ((strN (encN a ++ (encN b ++ r))).size : Nat)) = strN r := by
    have e : encN a ++ (encN b ++ r) = (encN a ++ encN b) ++ r := by simp
    rw [hs, e]
    exact ext_skip (app_bytes ea eb) hr (by rw [List.length_append]; omega) (by rw [List.length_append]; omega)
  rw [e2]
  exact ⟨by omega, by omega, br_t rfl (within9_spec a0 a1 ⟨_, rfl, HL.Sub.refl _, br_t rfl (within9_spec b0 b1 ⟨_, rfl, HL.Sub.refl _, k⟩)⟩)⟩
theorem text9_spec {t : ByteArray} {most : Int} (ht : (t.size : Int) ≤ most) (hm : most ≤ 268435456) (k : K (.tuple #[.string t, .bool true]) H) : FnH Tryd.prog 43 #[.string (strN (encN (t.size : Nat) ++ nb t)), .int .i64 most] H K := by
  apply raftlog_text_fn
  unfold raftlog_text_vc
  have ea := encN_bytes (t.size : Nat)
  have la := encN_len (t.size : Nat)
  have hs : (strN (encN (t.size : Nat) ++ nb t)).size = (encN (t.size : Nat)).length + t.size := by rw [app_size ea (nb_byte t), nb_len]
  refine readInt_spec ?_
  rw [nb_str (app_bytes ea (nb_byte t)), read_enc (by omega) (by omega)]
  have e1 : (strN (encN (t.size : Nat) ++ nb t)).extract (Int.toNat ((encN (t.size : Nat)).length : Nat)) (Int.toNat ((strN (encN (t.size : Nat) ++ nb t)).size : Nat)) = t := by
    rw [ext_skip ea (nb_byte t) (by simp) (by rw [hs, nb_len]; omega), strN_nb]
  refine ⟨(t.size : Nat), ((encN (t.size : Nat)).length : Int), 0, rfl, br_f rfl (br_f (decide_eq_false (by omega)) (br_f (decide_eq_false (by omega)) ?_))⟩
  rw [wrap64_id (n := ((strN (encN (t.size : Nat) ++ nb t)).size : Int) - ((encN (t.size : Nat)).length : Int)) (by omega) (by omega), e1]
  refine br_f ?_ ⟨by omega, by omega, k⟩
  have : ((strN (encN (t.size : Nat) ++ nb t)).size : Int) - ((encN (t.size : Nat)).length : Int) = (t.size : Int) := by omega
  rw [this]; simp
/-- An entry that may be kept. -/
def EnOk (x : En) : Prop := (1 ≤ x.1 ∧ x.1 ≤ 1000000000) ∧ (1 ≤ x.2.1 ∧ x.2.1 ≤ 1000000000) ∧ x.2.2.size ≤ 2048
theorem one9_spec {x : En} {r : List Nat} (hx : EnOk x) (hr : ∀ b ∈ r, b < 256) (hsz : r.length ≤ 268435456) (k : ∀ H', HL.Sub H H' → K (.tuple #[.agg #[.int .i64 x.1, .int .i64 x.2.1, .string x.2.2], .int .i64 ((entN x).length : Nat), .int .i64 0]) H') :
    FnH Tryd.prog 46 #[.string (strN (entN x ++ r))] H K := by
  apply raftlog_one_fn
  unfold raftlog_one_vc
  obtain ⟨⟨x0, x1⟩, ⟨y0, y1⟩, z⟩ := hx
  have lb := bodyN_len x
  have le := entN_len x
  have eb := entN_bytes x
  have hs : (strN (entN x ++ r)).size = 8 + (bodyN x).length + r.length := by rw [app_size eb hr, le]
  have hn : nb (strN (entN x ++ r)) = fourN (bodyN x).length ++ (sumd (bodyN x) ++ r) := by rw [nb_str (app_bytes eb hr)]; simp [entN]
  refine br_f (decide_eq_false (by omega)) (fourth9_spec hn (by omega) ⟨_, rfl, br_f (decide_eq_false (by omega)) ?_⟩)
  rw [wrap64_id (n := 8 + (((bodyN x).length : Nat) : Int)) (by omega) (by omega)]
  have e1 : (strN (entN x ++ r)).extract (Int.toNat 4) (Int.toNat (8 + (((bodyN x).length : Nat) : Int))) = strN (sumd (bodyN x)) := by
    have e : entN x ++ r = fourN (bodyN x).length ++ (sumd (bodyN x) ++ r) := by simp [entN]
    rw [e]
    exact ext_mid (fourN_bytes _) (sumd_bytes (bodyN_bytes x)) hr rfl (by rw [sumd_len]; simp [fourN]; omega)
  refine br_f (decide_eq_false (by omega)) ⟨by omega, by omega, by decide, by omega, ?_⟩
  rw [e1]
  refine unsummed9_spec (bodyN_bytes x) (by omega) fun H1 s1 => ⟨_, _, rfl, br_f rfl ?_⟩
  refine numbers9_spec (a := x.1) (b := x.2.1) (r := encN (x.2.2.size : Nat) ++ nb x.2.2) (app_bytes (encN_bytes _) (nb_byte _)) (by decide) x0 x1 y0 y1 ?_ ⟨_, _, _, _, rfl, text9_spec (by omega) (by decide) ⟨_, _, rfl, br_f rfl (br_f rfl ?_)⟩⟩
  · have := encN_len (x.2.2.size : Nat)
    rw [List.length_append, nb_len]; omega
  · have := k H1 s1
    have el : (((entN x).length : Nat) : Int) = 8 + (((bodyN x).length : Nat) : Int) := by omega
    rw [el] at this; exact this
theorem ents_bytes (l : List En) : ∀ b ∈ l.flatMap entN, b < 256 := fun b hb => by
  obtain ⟨e, -, h⟩ := List.mem_flatMap.1 hb
  exact entN_bytes e b h
theorem ents_len {l : List En} (h : ∀ x ∈ l, x.2.2.size ≤ 2048) : (l.flatMap entN).length ≤ l.length * 2086 := by
  induction l with
  | nil => simp
  | cons x l ih =>
    have h1 := bodyN_len x
    have h2 := h x (by simp)
    have h3 := ih fun y hy => h y (List.mem_cons_of_mem _ hy)
    rw [List.flatMap_cons, List.length_append, entN_len, List.length_cons]
    omega
end
end Go.Proofs.YtmneimfhcjkinaaDoor
