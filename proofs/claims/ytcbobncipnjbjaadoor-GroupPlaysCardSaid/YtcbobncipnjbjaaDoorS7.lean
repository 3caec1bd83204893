/- Chapter 15: what stays in bounds; the laws' head. -/
import Derived.Test.YtcbobncipnjbjaaDoorS6
namespace Go.Proofs.YtcbobncipnjbjaaDoor
open Go.HL
set_option maxHeartbeats 800000
set_option maxRecDepth 10000

theorem putL_mem {κ α : Type} [DecidableEq κ] : ∀ {l : List (κ × α)} {k : κ} {v : α} {p : κ × α}, p ∈ putL l k v → p = (k, v) ∨ p ∈ l := by
  intro l
  induction l with
  | nil => intro k v p h; simp [putL] at h; exact .inl h
  | cons a l ih =>
    intro k v p h
    unfold putL at h
    split at h
    · rcases List.mem_cons.1 h with e | e
      · exact .inl e
      · exact .inr (List.mem_cons_of_mem _ e)
    · rcases List.mem_cons.1 h with e | e
      · exact .inr (e ▸ List.mem_cons_self)
      · rcases ih e with x | x
        · exact .inl x
        · exact .inr (List.mem_cons_of_mem _ x)
theorem right_len {m : Rec} {L : List Int} (h : rightB m L = true) : L.length ≤ 16 := by
  unfold rightB at h
  simp only [Bool.and_eq_true] at h
  rcases rising_len h.1.2 with q | q
  · omega
  · rw [q]; simp
theorem right_a {m : Rec} {L : List Int} (h : rightB m L = true) : m.a ≥ 0 := by
  unfold rightB at h
  simp only [Bool.and_eq_true, decide_eq_true_eq] at h
  exact h.2
/-- What a join that is not refused says of the group. -/
theorem join_ok {G : List (ByteArray × Grp)} {m : Rec} {L : List Int} (h : joinC G m L = 0) : rightB m L = true ∧ (m.a = 0 → (theX G m.name).mem.length ≤ 15 ∧ (theX G m.name).ever ≤ 999999) ∧ (m.a ≠ 0 → m.a ∈ (theX G m.name).mem) := by
  unfold joinC at h
  by_cases q : rightB m L = false
  · rw [if_pos q] at h; cases h
  rw [if_neg q] at h
  have hr : rightB m L = true := by simpa using q
  have ha := right_a hr
  by_cases q8 : m.a > 0 ∧ (lookL G m.name).isNone = true
  · rw [if_pos q8] at h; cases h
  rw [if_neg q8] at h
  by_cases q17 : m.a > 0 ∧ hasIn G m.name m.a = false
  · rw [if_pos q17] at h; cases h
  rw [if_neg q17] at h
  by_cases q3 : fullIn G m.name m.a = true
  · rw [if_pos q3] at h; cases h
  refine ⟨hr, fun e => ?_, fun e => ?_⟩
  · unfold fullIn at q3
    unfold theX
    cases el : lookL G m.name with
    | none => simp [newGrp]
    | some y =>
      rw [el] at q3
      simp [e] at q3
      simp only [Option.getD_some]
      omega
  · have hh : hasIn G m.name m.a = true := by
      cases e2 : hasIn G m.name m.a with
      | true => rfl
      | false => exact absurd ⟨by omega, e2⟩ q17
    unfold hasIn at hh
    unfold theX
    cases el : lookL G m.name with
    | none => rw [el] at hh; cases hh
    | some y => rw [el] at hh; exact of_decide_eq_true hh
theorem Fine.mono {G : List (ByteArray × Grp)} {N M : Int} (h : Fine G N) (hm : N ≤ M) : Fine G M := fun p hp => by
  have := h p hp
  exact ⟨this.1, this.2.1, this.2.2.1, by omega, this.2.2.2.2.1, this.2.2.2.2.2⟩
theorem Fine.apply {G : List (ByteArray × Grp)} {N : Int} (h : Fine G N) (h0 : 0 ≤ N) (m : Rec) (L : List Int) : Fine (applyG G m L) (N + 1) := by
  obtain ⟨f1, f2, f3, f4, f5, f6⟩ := h.look h0 m.name
  unfold applyG
  split
  · unfold joinG
    split
    · rename_i hc
      obtain ⟨g1, g2, g3⟩ := join_ok hc
      have hl := right_len g1
      intro p hp
      rcases putL_mem hp with e | e
      · subst e
        unfold joinX addX
        by_cases ha : m.a = 0
        · have := g2 ha
          rw [if_pos ha]
          refine ⟨?_, hl, ?_, ?_, ?_, ?_⟩ <;> dsimp only
          · simp; omega
          · omega
          · omega
          · omega
          · omega
        · rw [if_neg ha]
          refine ⟨?_, hl, ?_, ?_, ?_, ?_⟩ <;> dsimp only <;> omega
      · exact h.mono (by omega) p e
    · exact h.mono (by omega)
  · split
    · split
      · intro p hp
        rcases putL_mem hp with e | e
        · subst e
          unfold doesX
          split
          · have hl : (butI (theX G m.name).mem m.a).length ≤ (theX G m.name).mem.length := List.length_filter_le _ _
            refine ⟨?_, ?_, ?_, ?_, ?_, ?_⟩ <;> dsimp only [leaveG] <;> omega
          · split
            · unfold commitG
              split
              · exact ⟨f1, f2, f3, by dsimp only; omega, f5, f6⟩
              · exact ⟨f1, f2, f3, by dsimp only; omega, f5, f6⟩
            · exact ⟨f1, f2, f3, by dsimp only; omega, f5, f6⟩
        · exact h.mono (by omega) p e
      · exact h.mono (by omega)
    · exact h.mono (by omega)
theorem Fine.nil (N : Int) : Fine [] N := fun p hp => by cases hp
theorem sameList_spec {H : Heap} {a b : Sl} {l m : List Int} {K : Value → Heap → Prop} (hl : Ints H a l) (hm : Ints H b m) (k : K (.bool (decide (l = m))) H) : FnH Tryd.prog 12 #[.slice a.p a.n a.c, .slice b.p b.n b.c] H K := by
  apply logboomlaw15_sameList_fn
  exact ints_formula hl hm k
theorem pick_spec {c n : Int} {H : Heap} {K : Value → Heap → Prop} (hn : n ≠ 0) (k : K (.int .i64 (pickI c n)) H) : FnH Tryd.prog 15 #[.int .i64 c, .int .i64 n] H K := by
  apply logboomlaw15_pick_fn
  exact pick_formula hn k
/-- A record without a list is applied. -/
theorem apply0 {cs : List Chunk} {H : Heap} {g : Nat} {G : List (ByteArray × Grp)} {ep : Int} {K : Value → Heap → Prop} (m : Rec) (hF : Fine G 1000000) (h : Holds (grs g G ep :: cs) H) (hn : m.name.size ≤ 9223372036854775807)
    (k : ∀ (s : Sl) H', Holds (ints s (applyT G ep m []).parts :: grs g (applyG G m []) (applyE ep m) :: cs) H' → K (toldV (applyT G ep m []) s) H') : FnH Tryd.prog 14 #[ptrV g, recV m ⟨none, 0, 0⟩] H K := by
  have h2 : Holds (grs g G ep :: (fun _ => True) :: cs) H := (h.cons_emp (c := fun _ => True) trivial).swap
  exact apply_spec hF h2 ⟨fun _ _ _ _ => trivial, fun A _ => Ints.nil A⟩ (i0 := 0) rfl hn fun s H' h' => k s H' ((h'.pull 2 rfl).tail)
/-- A record whose list is a literal is applied. -/
theorem applyL {cs : List Chunk} {H : Heap} {g : Nat} {G : List (ByteArray × Grp)} {ep : Int} {q : Nat} {K : Value → Heap → Prop} (m : Rec) (L : List Int) (hF : Fine G 1000000) (h : Holds (grs g G ep :: blk q (.cells (iv L).toArray 3 (0, 0)) :: cs) H) (hn : m.name.size ≤ 9223372036854775807) (hb : L.length ≤ 1000000)
    (k : ∀ (s : Sl) H', Holds (ints s (applyT G ep m L).parts :: grs g (applyG G m L) (applyE ep m) :: blk q (.cells (iv L).toArray 3 (0, 0)) :: cs) H' → K (toldV (applyT G ep m L) s) H') : FnH Tryd.prog 14 #[ptrV g, recV m ⟨some ⟨q, 0, none⟩, L.length, L.length⟩] H K :=
  apply_spec hF h ⟨blk_mono _ _, fun A hA => ⟨rfl, by show L.length ≤ _; omega, Nat.le_refl _, CellsAt.block hA fun i hi => by simp [hi]⟩⟩ (i0 := 0) rfl hn k
def gN : ByteArray := ⟨#[103]⟩
def hN : ByteArray := ⟨#[104]⟩
def eN : ByteArray := ⟨#[]⟩
def G1 : List (ByteArray × Grp) := [(gN, ⟨1, 1, [1], [1, 2, 3], [], []⟩)]
def G2 : List (ByteArray × Grp) := [(gN, ⟨2, 2, [1, 2], [1, 2, 3], [], []⟩)]
def G3 : List (ByteArray × Grp) := [(gN, ⟨2, 2, [1, 2], [1, 2, 3], [(1, 7)], [(1, 4)]⟩)]
def mJ : Rec := ⟨1, 0, 0, 0, 0, gN, eN⟩
def mS (b : Int) : Rec := ⟨6, 1, b, 0, 0, gN, eN⟩
def mC (a d : Int) : Rec := ⟨3, a, 2, 1, d, gN, eN⟩
def mR (n : ByteArray) : Rec := ⟨4, 0, 0, 1, 0, n, eN⟩
theorem s1 : applyG [] mJ [1, 2, 3] = G1 ∧ applyT [] 0 mJ [1, 2, 3] = ⟨0, 1, 1, 0, [1, 2, 3]⟩ ∧ applyE 0 mJ = 0 := ⟨by kernel_rfl, by kernel_rfl, by kernel_rfl⟩
theorem s2 : applyG G1 mJ [1, 2, 3] = G2 ∧ applyT G1 0 mJ [1, 2, 3] = ⟨0, 2, 2, 0, [3]⟩ := ⟨by kernel_rfl, by kernel_rfl⟩
theorem s3 : applyG G2 (mS 2) [] = G2 ∧ applyT G2 0 (mS 2) [] = ⟨0, 1, 2, 0, [1, 2]⟩ ∧ applyE 0 (mS 2) = 0 := ⟨by kernel_rfl, by kernel_rfl, by kernel_rfl⟩
theorem s4 : applyG G2 (mS 1) [] = G2 ∧ applyT G2 0 (mS 1) [] = ⟨18, 0, 0, 0, []⟩ ∧ applyE 0 (mS 1) = 0 := ⟨by kernel_rfl, by kernel_rfl, by kernel_rfl⟩
theorem s5 : applyG G2 (mC 1 7) [4] = G3 ∧ applyT G2 0 (mC 1 7) [4] = ⟨0, 1, 2, 7, []⟩ ∧ applyE 0 (mC 1 7) = 0 := ⟨by kernel_rfl, by kernel_rfl, by kernel_rfl⟩
theorem s6 : applyG G3 (mC 1 7) [4] = G3 ∧ applyT G3 0 (mC 1 7) [4] = ⟨12, 0, 0, 0, []⟩ := ⟨by kernel_rfl, by kernel_rfl⟩
theorem s7 : applyG G3 (mR gN) [] = G3 ∧ applyT G3 0 (mR gN) [] = ⟨0, 0, 2, 7, []⟩ ∧ applyE 0 (mR gN) = 0 := ⟨by kernel_rfl, by kernel_rfl, by kernel_rfl⟩
theorem s8 : applyG G3 (mC 2 9) [0] = G3 ∧ applyT G3 0 (mC 2 9) [0] = ⟨19, 0, 0, 0, []⟩ ∧ applyE 0 (mC 2 9) = 0 := ⟨by kernel_rfl, by kernel_rfl, by kernel_rfl⟩
theorem s9 : applyG G3 (mR hN) [] = G3 ∧ applyT G3 0 (mR hN) [] = ⟨8, 0, 0, 0, []⟩ ∧ applyE 0 (mR hN) = 0 := ⟨by kernel_rfl, by kernel_rfl, by kernel_rfl⟩
theorem f1 : Fine G1 1000000 := by intro p hp; simp [G1] at hp; subst hp; decide
theorem f2 : Fine G2 1000000 := by intro p hp; simp [G2] at hp; subst hp; decide
theorem f3 : Fine G3 1000000 := by intro p hp; simp [G3] at hp; subst hp; decide
theorem o1 : ((lookL G3 gN).map fun x => ownerM x 3).getD 0 = 2 := by kernel_rfl
theorem o2 : ((lookL G3 gN).map fun x => offM x 2).getD (-1) = -1 := by kernel_rfl
end Go.Proofs.YtcbobncipnjbjaaDoor
