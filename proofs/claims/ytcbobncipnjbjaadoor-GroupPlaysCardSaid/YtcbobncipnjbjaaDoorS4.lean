/- Chapter 15: all groups; right; what is asked of them. -/
import Derived.Test.YtcbobncipnjbjaaDoorS3
import Derived.Laws.Strings
namespace Go.Proofs.YtcbobncipnjbjaaDoor
open Go.HL
set_option maxHeartbeats 400000
set_option maxRecDepth 10000

abbrev encS : ByteArray → Value := fun s => .string s
theorem kstr : KeyOK Tryd.prog 9 encS := KeyOK.str (by kernel_rfl)
theorem u53 : Tryd.prog.underlying 53 = some (.map 9 56) := by kernel_rfl
theorem z56 : zeroT Tryd.prog 56 = some (.pointer none) := by kernel_rfl
abbrev ptrV (b : Nat) : Value := .pointer (some ⟨b, 0, none⟩)
/-- A group under its name; where it lies. -/
abbrev Held := ByteArray × Nat × Grp
abbrev hptr (ps : List Held) : List (ByteArray × Value) := ps.map fun p => (p.1, ptrV p.2.1)
abbrev hgrp (p : Held) : Chunk := grp p.2.1 p.2.2
abbrev hmod (ps : List Held) : List (ByteArray × Grp) := ps.map fun p => (p.1, p.2.2)
def grs (g : Nat) (G : List (ByteArray × Grp)) (ep : Int) : Chunk := fun H => ∃ q : Nat × List Held, hmod q.2 = G ∧
  Holds [blk g (.cells #[.map (some q.1), .int .i64 ep] 55 (0, 0)), mp q.1 encS (hptr q.2), Holds (q.2.map hgrp)] H
theorem grs_mono {g : Nat} {G : List (ByteArray × Grp)} {ep : Int} : Mono (grs g G ep) := fun _ _ hs ⟨q, e, h⟩ => ⟨q, e, h.up hs⟩
theorem grs_open {cs : List Chunk} {H : Heap} {g : Nat} {G : List (ByteArray × Grp)} {ep : Int} : Holds (grs g G ep :: cs) H ↔ ∃ mb ps, hmod ps = G ∧ Holds (blk g (.cells #[.map (some mb), .int .i64 ep] 55 (0, 0)) :: mp mb encS (hptr ps) :: Holds (ps.map hgrp) :: cs) H := by
  unfold grs
  rw [Holds.ex]
  constructor
  · rintro ⟨⟨mb, ps⟩, h⟩
    obtain ⟨e, h⟩ := Holds.pure.1 h
    exact ⟨mb, ps, e, Holds.flat.1 h⟩
  · rintro ⟨mb, ps, e, h⟩
    exact ⟨(mb, ps), Holds.pure.2 ⟨e, Holds.flat.2 h⟩⟩
theorem idx_ptr {ps : List Held} {n : ByteArray} : idxL (hptr ps) n = (idxL ps n).map fun q => (q.1, ptrV q.2.1) := idxL_map (f := fun p : Nat × Grp => ptrV p.1)
theorem idx_mod {ps : List Held} {n : ByteArray} : idxL (hmod ps) n = (idxL ps n).map fun q => (q.1, q.2.2) := idxL_map (f := fun p : Nat × Grp => p.2)
/-- What is small enough, of all. -/
def AllSmall (G : List (ByteArray × Grp)) : Prop := ∀ p ∈ G, Small p.2
theorem AllSmall.at_ {ps : List Held} (h : AllSmall (hmod ps)) {i : Nat} {n : ByteArray} {b : Nat} {x : Grp} (e : ps[i]? = some (n, b, x)) : Small x :=
  h (n, x) (List.mem_map.2 ⟨_, List.mem_of_getElem? e, rfl⟩)
/-- A group, or none, behind a name. -/
theorem ask {H : Heap} {g : Nat} {G : List (ByteArray × Grp)} {ep : Int} (h : grs g G ep H) (n : ByteArray) : ∃ mb l, cellH H ⟨g, 0, none⟩ = some (.map (some mb)) ∧ cellH H ⟨g, 0 + 1, none⟩ = some (.int .i64 ep) ∧ MapR H mb encS l ∧ l.length = G.length ∧
    ((lookL G n = none ∧ (lookL l n).getD (.pointer none) = .pointer none) ∨ ∃ b x, lookL G n = some x ∧ (lookL l n).getD (.pointer none) = ptrV b ∧ grp b x H) := by
  obtain ⟨⟨mb, ps⟩, rfl, h⟩ := h
  refine ⟨mb, hptr ps, h.cell 0 rfl rfl, h.cell 0 rfl rfl, h.map 1 rfl, by simp, ?_⟩
  unfold lookL
  rw [idx_ptr, idx_mod]
  cases e : idxL ps n with
  | none => exact .inl ⟨rfl, rfl⟩
  | some q =>
    obtain ⟨i, b, x⟩ := q
    refine .inr ⟨b, x, rfl, rfl, ?_⟩
    exact Holds.one (f := hgrp) (fun _ => grp_mono) (h.read 2 rfl (Holds.mono _)) (idxL_get e)
theorem look_small {G : List (ByteArray × Grp)} {n : ByteArray} {x : Grp} (h : AllSmall G) (e : lookL G n = some x) : Small x := by
  obtain ⟨i, hi⟩ := lookL_idx e
  exact h (n, x) (List.mem_of_getElem? (idxL_get hi))
theorem gOffset_spec {H : Heap} {g : Nat} {G : List (ByteArray × Grp)} {ep : Int} {n : ByteArray} {part : Int} {K : Value → Heap → Prop} (hs : AllSmall G) (h : grs g G ep H) (k : K (.int .i64 (((lookL G n).map fun x => offM x part).getD (-1))) H) :
    FnH Tryd.prog 16 #[.pointer (some ⟨g, 0, none⟩), .string n, .int .i64 part] H K := by
  apply groups_Groups_Offset_fn
  obtain ⟨mb, l, c1, c2, hm, -, ⟨e1, e2⟩ | ⟨b, x, e1, e2, hg⟩⟩ := ask h n
  · rw [e1] at k
    refine ⟨some mb, c1, runH_lookup1 u53 kstr z56 hm (k := n) ?_⟩
    rw [e2]; exact ⟨none, rfl, br_f rfl k⟩
  · rw [e1] at k
    refine ⟨some mb, c1, runH_lookup1 u53 kstr z56 hm (k := n) ?_⟩
    rw [e2]; exact ⟨_, rfl, br_t rfl (offset_spec (look_small hs e1) hg ⟨_, rfl, k⟩)⟩
theorem gOwner_spec {H : Heap} {g : Nat} {G : List (ByteArray × Grp)} {ep : Int} {n : ByteArray} {part : Int} {K : Value → Heap → Prop} (hs : AllSmall G) (h : grs g G ep H) (k : ∀ H', HL.Sub H H' → K (.int .i64 (((lookL G n).map fun x => ownerM x part).getD 0)) H') :
    FnH Tryd.prog 19 #[.pointer (some ⟨g, 0, none⟩), .string n, .int .i64 part] H K := by
  apply groups_Groups_Owner_fn
  obtain ⟨mb, l, c1, c2, hm, -, ⟨e1, e2⟩ | ⟨b, x, e1, e2, hg⟩⟩ := ask h n
  · rw [e1] at k
    refine ⟨some mb, c1, runH_lookup1 u53 kstr z56 hm (k := n) ?_⟩
    rw [e2]; exact ⟨none, rfl, br_f rfl (k H (HL.Sub.refl _))⟩
  · rw [e1] at k
    refine ⟨some mb, c1, runH_lookup1 u53 kstr z56 hm (k := n) ?_⟩
    rw [e2]; exact ⟨_, rfl, br_t rfl (owner_spec (look_small hs e1) hg fun H' s' => ⟨_, rfl, k H' s'⟩)⟩
theorem gGen_spec {H : Heap} {g : Nat} {G : List (ByteArray × Grp)} {ep : Int} {n : ByteArray} {K : Value → Heap → Prop} (hs : AllSmall G) (h : grs g G ep H) (k : K (.int .i64 (((lookL G n).map Grp.gen).getD 0)) H) :
    FnH Tryd.prog 18 #[.pointer (some ⟨g, 0, none⟩), .string n] H K := by
  apply groups_Groups_Gen_fn
  obtain ⟨mb, l, c1, c2, hm, -, ⟨e1, e2⟩ | ⟨b, x, e1, e2, hg⟩⟩ := ask h n
  · rw [e1] at k
    refine ⟨some mb, c1, runH_lookup1 u53 kstr z56 hm (k := n) ?_⟩
    rw [e2]; exact ⟨none, rfl, br_f rfl k⟩
  · rw [e1] at k
    obtain ⟨sm, sp, mo, mn, gi⟩ := grp_in (look_small hs e1) hg
    refine ⟨some mb, c1, runH_lookup1 u53 kstr z56 hm (k := n) ?_⟩
    rw [e2]; exact ⟨_, rfl, br_t rfl (ptrm_intro rfl ⟨_, gi.cell rfl, k⟩)⟩
theorem gMembers_spec {H : Heap} {g : Nat} {G : List (ByteArray × Grp)} {ep : Int} {n : ByteArray} {K : Value → Heap → Prop} (hs : AllSmall G) (h : grs g G ep H) (k : ∀ (r : Sl) H', HL.Sub H H' → Ints H' r (((lookL G n).map Grp.mem).getD []) → K (.slice r.p r.n r.c) H') :
    FnH Tryd.prog 17 #[.pointer (some ⟨g, 0, none⟩), .string n] H K := by
  apply groups_Groups_Members_fn
  obtain ⟨mb, l, c1, c2, hm, -, ⟨e1, e2⟩ | ⟨b, x, e1, e2, hg⟩⟩ := ask h n
  · rw [e1] at k
    refine ⟨some mb, c1, runH_lookup1 u53 kstr z56 hm (k := n) ?_⟩
    rw [e2]; exact ⟨none, rfl, br_f rfl (k ⟨none, 0, 0⟩ H (HL.Sub.refl _) (Ints.nil _))⟩
  · rw [e1] at k
    have hsm := look_small hs e1
    obtain ⟨sm, sp, mo, mn, gi⟩ := grp_in hsm hg
    have := hsm.mem
    refine ⟨some mb, c1, runH_lookup1 u53 kstr z56 hm (k := n) ?_⟩
    rw [e2]
    exact ⟨_, rfl, br_t rfl (ptrm_intro rfl ⟨sm, gi.cell rfl, clone_spec (Holds.whole H) gi.mem (by omega) fun r H' h' n' => ⟨r, rfl, k r H' (h'.sub 1 rfl) (own_ints (h'.own 0 rfl) (by show x.mem.length ≤ _; omega))⟩⟩)⟩
theorem gEpoch_spec {H : Heap} {g : Nat} {G : List (ByteArray × Grp)} {ep : Int} {K : Value → Heap → Prop} (h : grs g G ep H) (k : K (.int .i64 ep) H) : FnH Tryd.prog 20 #[.pointer (some ⟨g, 0, none⟩)] H K := by
  apply groups_Groups_Epoch_fn
  obtain ⟨mb, l, c1, c2, -⟩ := ask h ⟨#[]⟩
  exact ⟨ep, c2, k⟩
theorem new_spec {cs : List Chunk} {H : Heap} {K : Value → Heap → Prop} (h : Holds cs H) (k : ∀ g H', Holds (grs g [] 0 :: cs) H' → K (ptrV g) H') : FnH Tryd.prog 13 #[] H K := by
  apply groups_New_fn
  unfold groups_New_vc
  refine h.newMap encS fun q1 H1 h1 => h1.new fun q2 H2 h2 => k q2 H2 ?_
  refine grs_open.2 ⟨q1, [], rfl, ?_⟩
  have h3 : Holds (Holds [] :: blk q2 (.cells #[.map (some q1), .int .i64 0] 55 (0, 0)) :: mp q1 encS [] :: cs) H2 := h2.cons_emp True.intro
  exact h3.perm ((List.Perm.swap _ _ _).trans ((List.Perm.swap _ _ _).cons _))
/-- May a text be a name? -/
def nameCut : List UInt8 := [97, 98, 99, 100, 101, 102, 103, 104, 105, 106, 107, 108, 109, 110, 111, 112, 113, 114, 115, 116, 117, 118, 119, 120, 121, 122, 48, 49, 50, 51, 52, 53, 54, 55, 56, 57, 45]
def nameB (s : ByteArray) : Bool := decide (s.size ≠ 0) && decide (s.size ≤ 32) && s.data.toList.all fun b => nameCut.contains b
/-- Rising numbers of partitions. -/
def risingB : Int → List Int → Bool
  | _, [] => true
  | last, p :: l => decide (last < p) && decide (p ≤ 16) && risingB p l
def rightB (m : Rec) (L : List Int) : Bool := nameB m.name && risingB 0 L && decide (m.a ≥ 0)
theorem dropWhile_all {α : Type} {p : α → Bool} : ∀ {l : List α}, l.dropWhile p = [] ↔ ∀ a ∈ l, p a = true := by
  intro l
  induction l with
  | nil => simp
  | cons a l ih =>
    rw [List.dropWhile_cons]
    split
    · rename_i q; rw [ih]; simp [q]
    · rename_i q; simp [q]
theorem dropWhile_first {α : Type} {p : α → Bool} : ∀ {l : List α} {a : α} {t : List α}, l.dropWhile p = a :: t → p a = false := by
  intro l
  induction l with
  | nil => intro a t h; simp at h
  | cons b l ih =>
    intro a t h
    rw [List.dropWhile_cons] at h
    split at h
    · exact ih h
    · rename_i q
      simp only [List.cons.injEq] at h
      rw [← h.1]; simpa using q
theorem trim_nil {l cs : List UInt8} : Lib.trimS l cs = [] ↔ (l.all fun b => cs.contains b) = true := by
  unfold Lib.trimS Lib.trimLeftS Lib.trimRightS
  rw [dropWhile_all, List.all_eq_true]
  constructor
  · intro h
    have h1 : (l.reverse.dropWhile fun x => cs.contains x) = [] := by
      cases e : l.reverse.dropWhile fun x => cs.contains x with
      | nil => rfl
      | cons a t =>
        have := h a (by rw [e]; simp)
        have h2 : cs.contains a = false := by
          exact dropWhile_first e
        rw [h2] at this; cases this
    have := dropWhile_all.1 h1
    intro a ha
    exact this a (by simpa using ha)
  · intro h
    have : (l.reverse.dropWhile fun x => cs.contains x) = [] := dropWhile_all.2 fun a ha => h a (by simpa using ha)
    rw [this]; simp
theorem bytes_nil (s : ByteArray) : (s.toList == (⟨#[]⟩ : ByteArray).toList) = decide (s.size = 0) := by
  rw [ByteArray.toList_eq, ByteArray.toList_eq]
  have : s.size = s.data.toList.length := (Array.length_toList).symm
  have e2 : (⟨#[]⟩ : ByteArray).data.toList = [] := rfl
  rw [this, e2]
  cases s.data.toList with
  | nil => rfl
  | cons a l => rw [decide_eq_false (by simp)]; rfl
theorem rising_len : ∀ {L : List Int} {last : Int}, risingB last L = true → (L.length : Int) ≤ 16 - last ∨ L = [] := by
  intro L
  induction L with
  | nil => intro last _; exact .inr rfl
  | cons p L ih =>
    intro last h
    simp only [risingB, Bool.and_eq_true, decide_eq_true_eq] at h
    left
    rcases ih h.2 with q | q
    · simp only [List.length_cons]; omega
    · subst q; simp; omega
theorem rising_drop : ∀ {l m : List Int} {last : Int}, risingB last (l ++ m) = (risingB last l && risingB (l.getLast?.getD last) m) := by
  intro l
  induction l with
  | nil => intro m last; rfl
  | cons p l ih =>
    intro m last
    simp only [List.cons_append, risingB]
    rw [ih, ← Bool.and_assoc]
    congr 2
    cases l with
    | nil => rfl
    | cons b l => rw [List.getLast?_cons_cons]; cases e : (b :: l).getLast? with
      | none => simp at e
      | some x => rfl
theorem right_spec {H : Heap} {m : Rec} {ml : Sl} {L : List Int} {K : Value → Heap → Prop} (hL : Ints H ml L) (hn : m.name.size ≤ 9223372036854775807) (k : K (.bool (rightB m L)) H) : FnH Tryd.prog 42 #[recV m ml] H K := by
  apply groups_right_fn
  unfold groups_right_vc
  have hl := hL.len
  have hb := hL.big
  have no : rightB m L = false → K (.bool false) H := fun e => by rw [e] at k; exact k
  refine br_intro (fun q => no ?_) (fun q => br_intro (fun q2 => no ?_) (fun q2 => ?_))
  · rw [bytes_nil] at q
    unfold rightB nameB
    rw [decide_eq_false (show ¬ m.name.size ≠ 0 by simpa using q)]; rfl
  · have q2 := of_decide_eq_true q2
    unfold rightB nameB
    rw [decide_eq_false (show ¬ m.name.size ≤ 32 by omega)]; simp
  rw [bytes_nil] at q
  have q := of_decide_eq_false q
  have q2 := of_decide_eq_false q2
  have ascii : ∀ b ∈ nameCut, b.toNat < 128 := by decide
  refine trim_fn hn (by decide) (fun j b hj => ascii b (List.mem_of_getElem? hj)) ⟨_, rfl, ?_⟩
  rw [bytes_nil]
  have esz : ((⟨(Lib.trimS m.name.data.toList nameCut).toArray⟩ : ByteArray).size = 0) ↔ (m.name.data.toList.all fun b => nameCut.contains b) = true := by
    rw [← trim_nil]
    show ((Lib.trimS m.name.data.toList nameCut).toArray.size = 0) ↔ _
    simp
  refine br_intro (fun q3 => no ?_) (fun q3 => ?_)
  · have q3 : ¬ ((⟨(Lib.trimS m.name.data.toList nameCut).toArray⟩ : ByteArray).size = 0) := by
      have q3 : (!decide ((⟨(Lib.trimS m.name.data.toList nameCut).toArray⟩ : ByteArray).size = 0)) = true := q3
      simpa using q3
    rw [esz] at q3
    unfold rightB nameB
    rw [Bool.eq_false_iff.2 q3]; simp
  have q3 : (m.name.data.toList.all fun b => nameCut.contains b) = true := by
    have q3 : (!decide ((⟨(Lib.trimS m.name.data.toList nameCut).toArray⟩ : ByteArray).size = 0)) = false := q3
    exact esz.1 (by simpa using q3)
  have hname : nameB m.name = true := by
    unfold nameB
    rw [decide_eq_true q, decide_eq_true (show m.name.size ≤ 32 by omega), q3]; rfl
  have er : rightB m L = (risingB 0 L && decide (m.a ≥ 0)) := by unfold rightB; rw [hname]; rfl
  refine ⟨fun last n H1 => H1 = H ∧ 0 ≤ n ∧ n ≤ ml.n ∧ risingB 0 (L.take n.toNat) = true ∧ last = ((L.take n.toNat).getLast?).getD 0, fun _ n _ => (ml.n - n).toNat, ⟨rfl, Int.le_refl _, by omega, rfl, rfl⟩, ?_⟩
  rintro last n H1 ⟨rfl, n0, n1, hr, el⟩
  refine br_intro (fun q4 => ?_) (fun q4 => ?_)
  · have q4 := of_decide_eq_true q4
    obtain ⟨b, o, g1, g2, g3, g4⟩ := hL.at_ n0 q4
    have hnl : n.toNat < L.length := by omega
    have ex := List.take_append_drop n.toNat L
    rw [List.drop_eq_getElem_cons hnl] at ex
    have eg : L.getD n.toNat 0 = L[n.toNat] := by simp [List.getD, hnl]
    have esplit := rising_drop (l := L.take n.toNat) (m := L[n.toNat] :: L.drop (n.toNat + 1)) (last := 0)
    rw [ex, hr, ← el, ← eg] at esplit
    refine ⟨b, o, g1, g2, g3, _, g4, br_intro (fun q5 => no ?_) (fun q5 => br_intro (fun q6 => no ?_) (fun q6 => ?_))⟩
    · have q5 := of_decide_eq_true q5
      rw [er, esplit]
      simp only [risingB]
      rw [decide_eq_false (show ¬ last < L.getD n.toNat 0 by omega)]; rfl
    · have q6 := of_decide_eq_true q6
      rw [er, esplit]
      simp only [risingB]
      rw [decide_eq_false (show ¬ L.getD n.toNat 0 ≤ 16 by omega)]; simp
    · have q5 := of_decide_eq_false q5
      have q6 := of_decide_eq_false q6
      rw [wrap64_id (by omega) (by omega)]
      refine ⟨rfl, ⟨rfl, by omega, by omega, ?_, ?_⟩, by dsimp only; omega⟩
      · rw [take_next (d := 0) n0 (by omega), rising_drop, hr, ← el]
        simp only [risingB]
        rw [decide_eq_true (show last < L.getD n.toNat 0 by omega), decide_eq_true (show L.getD n.toNat 0 ≤ 16 by omega)]; rfl
      · rw [take_next (d := 0) n0 (by omega)]; simp
  · have q4 := of_decide_eq_false q4
    rw [take_all (by omega)] at hr
    rw [er, hr] at k
    exact k
end Go.Proofs.YtcbobncipnjbjaaDoor
