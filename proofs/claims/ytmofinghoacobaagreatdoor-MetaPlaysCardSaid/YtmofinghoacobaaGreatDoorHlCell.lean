import Derived.Test.YtmofinghoacobaaGreatDoorHlSep
namespace Go.HL
set_option linter.unusedVariables false
theorem Holds.setCell {e sz : Nat} {s : Sl} {vs : List Value} {cs : List Chunk} {H : Heap} (h : Holds (HL.own e sz s vs :: cs) H) {q o : Nat} (hq : s.p = some ⟨q, o, none⟩) {j : Nat} (hj : j < vs.length) {v : Value} {f : Heap → Prop} (k : ∀ H', Holds (HL.own e sz s (vs.set j v) :: cs) H' → f H') :
    (∃ u, cellH H ⟨q, o + j, none⟩ = some u) ∧ frozenH H ⟨q, o + j, none⟩ = false ∧ letH (H.set ⟨q, o + j, none⟩ v) f := by
  have ho := h.own 0 rfl
  have hl := ho.1
  have hpos : 0 < s.n := by
    rcases Nat.eq_zero_or_pos s.n with z | z
    · rw [z, Nat.zero_mul] at hl; omega
    · exact z
  obtain ⟨b, arr, hp, hb, hs, ha⟩ := ho.some_ hpos
  rw [hp] at hq
  simp only [Option.some.injEq, Addr.mk.injEq, and_true] at hq
  obtain ⟨rfl, rfl⟩ := hq
  have hc := ho.2.1
  have hi : j < arr.size := by
    have := Nat.mul_le_mul_right sz hc
    omega
  rw [Nat.zero_add]
  refine ⟨⟨arr[j], by rw [cellH_eq hb]; exact Array.getElem?_eq_getElem hi⟩, frozenH_eq hb, letH_intro fun H1 g1 => k H1 ?_⟩
  rw [g1, Heap.set_block hb]
  refine h.ownUpd hp hb (by rw [List.length_set]; exact hl) (by simpa using hs) fun i hi2 => ?_
  simp only [List.length_set] at hi2
  rw [Array.getElem?_setIfInBounds, List.getElem_set]
  by_cases z : j = i
  · subst z; simp [hi]
  · rw [if_neg z, if_neg z]; exact ha i hi2
theorem flat_set {α : Type} {enc : α → List Value} {k : Nat} (hk : ∀ a, (enc a).length = k) : ∀ {l : List α} {j : Nat} {a a' : α} {f : Nat} {v : Value}, l[j]? = some a → f < k → enc a' = (enc a).set f v → (l.flatMap enc).set (j * k + f) v = (l.set j a').flatMap enc := by
  intro l
  induction l with
  | nil => intro j a a' f v h; simp at h
  | cons b l ih =>
    intro j a a' f v h hf he
    cases j with
    | zero =>
      simp at h; subst h
      rw [List.flatMap_cons, Nat.zero_mul, Nat.zero_add, List.set_append_left _ _ (by rw [hk]; exact hf), ← he]
      rfl
    | succ j =>
      rw [List.flatMap_cons, List.set_append_right _ _ (by rw [hk, Nat.succ_mul]; omega), hk]
      have e : (j + 1) * k + f - k = j * k + f := by rw [Nat.succ_mul]; omega
      rw [e, ih (by simpa using h) hf he]
      rfl
end Go.HL
