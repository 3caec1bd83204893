/- Chapter 5, in plain Lean: batches as bytes, their places in a file, the index. -/
import Derived.Test.YtokceblmbmajgaaGreatDoorBt
namespace Go.Proofs.YtokceblmbmajgaaGreatDoor
open Go Go.HL
set_option maxRecDepth 10000

theorem snoc_ind {α : Type _} {P : List α → Prop} (h0 : P []) (h1 : ∀ l a, P l → P (l ++ [a])) : ∀ l, P l := by
  intro l
  rw [← List.reverse_reverse l]
  generalize l.reverse = m
  induction m with
  | nil => exact h0
  | cons a m ih => rw [List.reverse_cons]; exact h1 _ _ ih
structure Ba where
  base : Int
  epoch : Int
  pid : Int
  pe : Int
  seq : Int
  recs : List Rcd
def textN (s : ByteArray) : List Nat := encN (s.size : Nat) ++ nb s
def recN (r : Rcd) : List Nat := encN r.2.2 ++ (textN r.1 ++ textN r.2.1)
def bodyB (b : Ba) : List Nat := encN b.base ++ (encN b.epoch ++ (encN b.pid ++ (encN b.pe ++ (encN b.seq ++ (encN (b.recs.length : Nat) ++ b.recs.flatMap recN)))))
def frameB (b : Ba) : List Nat := fourN (bodyB b).length ++ (fourN (crcN (bodyB b)) ++ bodyB b)
theorem app_b {l m : List Nat} (h : ∀ b ∈ l, b < 256) (g : ∀ b ∈ m, b < 256) : ∀ b ∈ l ++ m, b < 256 := fun b hb => by
  rcases List.mem_append.1 hb with w | w
  · exact h b w
  · exact g b w
theorem encN_b (n : Int) : ∀ b ∈ encN n, b < 256 := encD_bytes 10 _
theorem textN_b (s : ByteArray) : ∀ b ∈ textN s, b < 256 := app_b (encN_b _) (nb_byte _)
theorem recN_b (r : Rcd) : ∀ b ∈ recN r, b < 256 := app_b (encN_b _) (app_b (textN_b _) (textN_b _))
theorem recsN_b (l : List Rcd) : ∀ b ∈ l.flatMap recN, b < 256 := fun b hb => by
  obtain ⟨e, -, h⟩ := List.mem_flatMap.1 hb
  exact recN_b e b h
theorem bodyB_b (b : Ba) : ∀ x ∈ bodyB b, x < 256 := app_b (encN_b _) (app_b (encN_b _) (app_b (encN_b _) (app_b (encN_b _) (app_b (encN_b _) (app_b (encN_b _) (recsN_b _))))))
theorem fourN_b (n : Nat) : ∀ b ∈ fourN n, b < 256 := fourN_bytes n
theorem frameB_b (b : Ba) : ∀ x ∈ frameB b, x < 256 := app_b (fourN_b _) (app_b (fourN_b _) (bodyB_b b))
def flen (b : Ba) : Nat := (frameB b).length
theorem flen_eq (b : Ba) : flen b = 8 + (bodyB b).length := by simp [flen, frameB, fourN]; omega
theorem frames_b (l : List Ba) : ∀ x ∈ l.flatMap frameB, x < 256 := fun b hb => by
  obtain ⟨e, -, h⟩ := List.mem_flatMap.1 hb
  exact frameB_b e b h
/-- Where batches begin, one behind the other. -/
def froms : Nat → List Ba → List Nat
  | _, [] => []
  | at_, b :: l => at_ :: froms (at_ + flen b) l
theorem froms_len : ∀ (l : List Ba) (a : Nat), (froms a l).length = l.length
  | [], _ => rfl
  | b :: l, a => by simp [froms, froms_len l]
def lenB (l : List Ba) : Nat := (l.flatMap frameB).length
theorem lenB_cons (b : Ba) (l : List Ba) : lenB (b :: l) = flen b + lenB l := by simp [lenB, flen]
theorem lenB_app (l m : List Ba) : lenB (l ++ m) = lenB l + lenB m := by simp [lenB]
theorem froms_at : ∀ (l : List Ba) (a j : Nat), j < l.length → (froms a l)[j]? = some (a + lenB (l.take j))
  | [], _, j, h => by simp at h
  | b :: l, a, 0, _ => by simp [froms, lenB]
  | b :: l, a, j + 1, h => by
    have h : j < l.length := by simpa using h
    rw [froms, List.getElem?_cons_succ, froms_at l _ j h, List.take_succ_cons, lenB_cons, Nat.add_assoc]
theorem froms_app : ∀ (l m : List Ba) (a : Nat), froms a (l ++ m) = froms a l ++ froms (a + lenB l) m
  | [], m, a => by simp [froms, lenB]
  | b :: l, m, a => by rw [List.cons_append, froms, froms, froms_app l m, lenB_cons, List.cons_append, Nat.add_assoc]
theorem froms_take : ∀ (l : List Ba) (a n : Nat), froms a (l.take n) = (froms a l).take n
  | [], _, n => by simp [froms]
  | b :: l, a, 0 => by simp [froms]
  | b :: l, a, n + 1 => by simp [froms, froms_take l]
/-- The index: those that begin 256 bytes at least behind the last one of it. -/
def farI (s fs : List Nat) (f : Nat) : Bool := match s.getLast? with | none => true | some j => decide ((f : Int) - (fs.getD j 0 : Nat) ≥ 256)
def addS (s fs : List Nat) (f : Nat) : List Nat := if farI s fs f = true then s ++ [fs.length] else s
def idxS (l : List Nat) : List Nat × List Nat := l.foldl (fun s f => (addS s.1 s.2 f, s.2 ++ [f])) ([], [])
def idxI (l : List Nat) : List Nat := (idxS l).1
theorem idxS_snd (l : List Nat) : (idxS l).2 = l := by
  have : ∀ (l : List Nat) (s : List Nat × List Nat), (l.foldl (fun s f => (addS s.1 s.2 f, s.2 ++ [f])) s).2 = s.2 ++ l := by
    intro l
    induction l with
    | nil => intro s; simp
    | cons f l ih => intro s; rw [List.foldl_cons, ih]; simp
  have := this l ([], [])
  simpa [idxS] using this
theorem idxI_snoc (l : List Nat) (f : Nat) : idxI (l ++ [f]) = addS (idxI l) l f := by
  have e : idxS (l ++ [f]) = (addS (idxS l).1 (idxS l).2 f, (idxS l).2 ++ [f]) := by unfold idxS; rw [List.foldl_append]; rfl
  unfold idxI
  rw [e, idxS_snd]
theorem idxI_lt : ∀ (l : List Nat), ∀ j ∈ idxI l, j < l.length := by
  refine snoc_ind ?_ ?_
  · intro j hj; cases hj
  · intro l f ih j hj
    rw [idxI_snoc] at hj
    unfold addS at hj
    rw [List.length_append, List.length_singleton]
    split at hj
    · rcases List.mem_append.1 hj with w | w
      · have := ih j w; omega
      · rw [List.mem_singleton.1 w]; omega
    · have := ih j hj; omega
theorem idxI_take (n : Nat) : ∀ l : List Nat, idxI (l.take n) = (idxI l).filter fun j => decide (j < n) := by
  refine snoc_ind ?_ ?_
  · simp; rfl
  · intro l f ih
    by_cases h : n ≤ l.length
    · rw [List.take_append_of_le_length h, ih, idxI_snoc]
      unfold addS
      split
      · rw [List.filter_append]
        have : decide (l.length < n) = false := decide_eq_false (by omega)
        simp [this]
      · rfl
    · rw [List.take_of_length_le (by rw [List.length_append, List.length_singleton]; omega)]
      symm
      rw [List.filter_eq_self]
      intro j hj
      have := idxI_lt _ j hj
      rw [List.length_append, List.length_singleton] at this
      exact decide_eq_true (by omega)
/-- The index rises, and leaves 256 bytes between. -/
structure IdxOk (l s : List Nat) : Prop where
  zero : ∀ j, s[0]? = some j → j = 0
  up : ∀ i a b, s[i]? = some a → s[i + 1]? = some b → a < b ∧ l.getD a 0 + 256 ≤ l.getD b 0
  some_ : l ≠ [] → s ≠ []
theorem getD_app {l : List Nat} {f j : Nat} (h : j < l.length) : (l ++ [f]).getD j 0 = l.getD j 0 := by
  simp [List.getD, List.getElem?_append_left h]
theorem idxI_ok : ∀ l : List Nat, IdxOk l (idxI l) := by
  refine snoc_ind ?_ ?_
  · exact ⟨fun j h => (by cases h), fun i a b h => (by cases h), fun h => absurd rfl h⟩
  · intro l f ih
    have hlt := idxI_lt l
    rw [idxI_snoc]
    unfold addS
    split
    · rename_i hc
      refine ⟨fun j h => ?_, fun i a b ha hb => ?_, fun _ => by simp⟩
      · cases e : idxI l with
        | nil =>
          rw [e] at h
          have hl : l = [] := Decidable.byContradiction fun z => ih.some_ z e
          rw [hl] at h
          simpa using h.symm
        | cons x s =>
          rw [e] at h
          exact ih.zero j (by rw [e]; simpa using h)
      · rw [List.getElem?_append] at ha hb
        split at hb
        · rename_i h1
          rw [if_pos (by omega)] at ha
          obtain ⟨u1, u2⟩ := ih.up i a b ha hb
          rw [getD_app (hlt a (List.mem_of_getElem? ha)), getD_app (hlt b (List.mem_of_getElem? hb))]
          exact ⟨u1, u2⟩
        · rename_i h1
          have hb' := (List.getElem?_eq_some_iff.1 hb).1
          simp only [List.length_singleton] at hb'
          have hi : i + 1 = (idxI l).length := by omega
          rw [if_pos (by omega)] at ha
          have e : i + 1 - (idxI l).length = 0 := by omega
          rw [e] at hb
          simp only [List.getElem?_cons_zero, Option.some.injEq] at hb
          subst hb
          have hla : (idxI l).getLast? = some a := by rw [List.getLast?_eq_getElem?, ← ha]; congr 1; omega
          unfold farI at hc
          rw [hla] at hc
          have hc : (f : Int) - (l.getD a 0 : Nat) ≥ 256 := of_decide_eq_true hc
          have hal := hlt a (List.mem_of_getElem? ha)
          refine ⟨hal, ?_⟩
          rw [getD_app hal]
          have : (l ++ [f]).getD l.length 0 = f := by simp [List.getD]
          rw [this]; omega
    · rename_i hc
      refine ⟨ih.zero, fun i a b ha hb => ?_, fun _ z => ?_⟩
      · obtain ⟨u1, u2⟩ := ih.up i a b ha hb
        rw [getD_app (hlt a (List.mem_of_getElem? ha)), getD_app (hlt b (List.mem_of_getElem? hb))]
        exact ⟨u1, u2⟩
      · unfold farI at hc
        rw [z] at hc
        exact hc rfl
end Go.Proofs.YtokceblmbmajgaaGreatDoor
