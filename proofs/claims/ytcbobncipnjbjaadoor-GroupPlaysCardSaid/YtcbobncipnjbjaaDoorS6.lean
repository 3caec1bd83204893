/- Chapter 15: what Apply does. -/
import Derived.Test.YtcbobncipnjbjaaDoorS5
namespace Go.Proofs.YtcbobncipnjbjaaDoor
open Go.HL
set_option maxHeartbeats 800000
set_option maxRecDepth 10000

/-- A told thing comes back, in parts. -/
abbrev rt (K : Value → Heap → Prop) : Value → Heap → Prop := fun r H => ∃ n1 n2 n3 n4 : Int, ∃ l1 : Sl, r = .agg #[.int .i64 n1, .int .i64 n2, .int .i64 n3, .int .i64 n4, .slice l1.p l1.n l1.c] ∧ K (.agg #[.int .i64 n1, .int .i64 n2, .int .i64 n3, .int .i64 n4, .slice l1.p l1.n l1.c]) H
/-- Why a record of the kinds 2, 3, 4, 6 is refused; 0: not yet. -/
def doesC (G : List (ByteArray × Grp)) (m : Rec) : Int :=
  match lookL G m.name with
  | none => 8
  | some x => if m.kind ≠ 4 ∧ m.a ∉ x.mem then 17 else if (m.kind = 3 ∨ m.kind = 6) ∧ m.b ≠ x.gen then 18 else 0
def doesX (x : Grp) (m : Rec) (L : List Int) : Grp := if m.kind = 2 then leaveG x m.a else if m.kind = 3 then commitG x m L else x
def doesT (x : Grp) (m : Rec) (L : List Int) : Told :=
  if m.kind = 2 then ⟨0, m.a, x.gen + 1, 0, []⟩ else if m.kind = 3 then commitT x m L else if m.kind = 6 then ⟨0, m.a, x.gen, 0, ofM x m.a⟩ else ⟨0, 0, x.gen, offM x m.c, []⟩
def applyG (G : List (ByteArray × Grp)) (m : Rec) (L : List Int) : List (ByteArray × Grp) :=
  if m.kind = 1 then joinG G m L else if m.kind = 2 ∨ m.kind = 3 ∨ m.kind = 4 ∨ m.kind = 6 then (if doesC G m = 0 then putL G m.name (doesX (theX G m.name) m L) else G) else G
def applyE (ep : Int) (m : Rec) : Int := if m.kind = 5 then (if m.a < ep then ep else m.a) else ep
def applyT (G : List (ByteArray × Grp)) (ep : Int) (m : Rec) (L : List Int) : Told :=
  if m.kind = 1 then joinT G m L else if m.kind = 5 then (if m.a < ep then errT 13 else ⟨0, 0, m.a, 0, []⟩)
  else if m.kind = 2 ∨ m.kind = 3 ∨ m.kind = 4 ∨ m.kind = 6 then (if doesC G m = 0 then doesT (theX G m.name) m L else errT (doesC G m)) else errT 1
theorem putL_self {κ α : Type} [DecidableEq κ] {l : List (κ × α)} {k : κ} {v : α} (h : lookL l k = some v) : putL l k v = l := by
  obtain ⟨i, hi⟩ := lookL_idx h
  rw [putL_set hi]
  have := idxL_get hi
  refine List.ext_getElem? fun j => ?_
  rw [List.getElem?_set]
  split
  · rename_i q; subst q
    rw [this, if_pos (List.getElem?_eq_some_iff.1 this).1]
  · rfl
theorem ask2 {cs : List Chunk} {H : Heap} {g : Nat} {G : List (ByteArray × Grp)} {ep : Int} (h : Holds (grs g G ep :: cs) H) (n : ByteArray) : ∃ mb l, cellH H ⟨g, 0, none⟩ = some (.map (some mb)) ∧ cellH H ⟨g, 0 + 1, none⟩ = some (.int .i64 ep) ∧ MapR H mb encS l ∧
    ((lookL G n = none ∧ (lookL l n).getD (.pointer none) = .pointer none) ∨ ∃ b x, lookL G n = some x ∧ (lookL l n).getD (.pointer none) = ptrV b ∧ grp b x H ∧ Hole g ep cs n b x G H) := by
  obtain ⟨mb, ps, rfl, h1⟩ := grs_open.1 h
  refine ⟨mb, hptr ps, h1.cell 0 rfl rfl, h1.cell 0 rfl rfl, h1.map 1 rfl, ?_⟩
  unfold lookL
  rw [idx_ptr, idx_mod]
  cases e : idxL ps n with
  | none => exact .inl ⟨rfl, rfl⟩
  | some q =>
    obtain ⟨j, b, x⟩ := q
    refine .inr ⟨b, x, rfl, rfl, Holds.one (f := hgrp) (fun _ => grp_mono) (h1.read 2 rfl (Holds.mono _)) (idxL_get e), mb, ps, j, x, idxL_get e, fun z => ?_, ?_⟩
    · have : idxL (hmod ps) n = some (j, x) := by rw [idx_mod, e]; rfl
      rw [putL_set this]
      simp [hmod, List.map_set]
    · have h2 : Holds (Holds (ps.map hgrp) :: blk g (.cells #[.map (some mb), .int .i64 ep] 55 (0, 0)) :: mp mb encS (hptr ps) :: cs) H := h1.rot
      exact Holds.pick (f := hgrp) h2 (idxL_get e)
theorem does_formula {H : Heap} {G : List (ByteArray × Grp)} {m : Rec} {ml : Sl} {xp : Option Addr} {fn : Nat} {K : Value → Heap → Prop} {X1 X2 : List SVal × List (Option (Nat × List Value)) × List Nat}
    (hS : AllSmall G) (hx : (xp = none ∧ lookL G m.name = none) ∨ ∃ b x, xp = some ⟨b, 0, none⟩ ∧ lookL G m.name = some x ∧ grp b x H)
    (bad : ∀ e : Int, doesC G m = e → e ≠ 0 → FnH Tryd.prog 26 #[.int .i64 e] H (rt K)) (good : ∀ b x, xp = some ⟨b, 0, none⟩ → lookL G m.name = some x → doesC G m = 0 → FnH Tryd.prog fn #[.pointer xp, recV m ml] H (rt K)) :
    br (Option.isNone xp) (FnH Tryd.prog 26 #[.int .i64 8] H (rt K)) (∃ J : Bool → Heap → Prop,
      (br ((m.kind : Int) != 4) (ptrm xp fun q o => ∃ l4 : Sl, cellH H ⟨q, o + 2, none⟩ = some (.slice l4.p l4.n l4.c) ∧ FnH Tryd.prog 31 #[.slice l4.p l4.n l4.c, .int .i64 m.a] H fun r5 H5 => ∃ b1 : Bool, r5 = .bool b1 ∧ HL.Sub H H5 ∧ SelfEq X1 ∧ J (!b1) H5) (SelfEq X2 ∧ J false H)) ∧
      ∀ b_1 : Bool, ∀ H6 : Heap, J b_1 H6 → br b_1 (FnH Tryd.prog 26 #[.int .i64 17] H6 (rt K))
        (br ((m.kind : Int) == 3) (ptrm xp fun q o => ∃ n18 : Int, cellH H6 ⟨q, o, none⟩ = some (.int .i64 n18) ∧ br ((m.b : Int) != n18) (FnH Tryd.prog 26 #[.int .i64 18] H6 (rt K)) (FnH Tryd.prog fn #[.pointer xp, recV m ml] H6 (rt K)))
          (br ((m.kind : Int) == 6) (ptrm xp fun q o => ∃ n18 : Int, cellH H6 ⟨q, o, none⟩ = some (.int .i64 n18) ∧ br ((m.b : Int) != n18) (FnH Tryd.prog 26 #[.int .i64 18] H6 (rt K)) (FnH Tryd.prog fn #[.pointer xp, recV m ml] H6 (rt K)))
            (FnH Tryd.prog fn #[.pointer xp, recV m ml] H6 (rt K))))) := by
  rcases hx with ⟨e1, e2⟩ | ⟨b, x, e1, e2, hg⟩
  · rw [e1]
    exact br_t rfl (bad 8 (by unfold doesC; rw [e2]) (by decide))
  · have good := good b x e1 e2
    rw [e1] at good ⊢
    obtain ⟨sm, sp, mo, mn, gi⟩ := grp_in (look_small hS e2) hg
    have eC : doesC G m = if m.kind ≠ 4 ∧ m.a ∉ x.mem then 17 else if (m.kind = 3 ∨ m.kind = 6) ∧ m.b ≠ x.gen then 18 else 0 := by unfold doesC; rw [e2]
    refine br_f rfl ⟨fun bb H' => H' = H ∧ (bb = true ↔ (m.kind ≠ 4 ∧ m.a ∉ x.mem)), br_intro (fun q => ?_) (fun q => ⟨rfl, rfl, ?_⟩), ?_⟩
    · have q : ¬ m.kind = 4 := by simpa using q
      refine ptrm_intro rfl ⟨sm, gi.cell rfl, contains_spec gi.mem ⟨_, rfl, HL.Sub.refl _, rfl, rfl, ?_⟩⟩
      simp [q]
    · have q : m.kind = 4 := by simpa using q
      exact ⟨fun x => (by cases x), fun x => absurd q x.1⟩
    rintro bb H' ⟨rfl, hbb⟩
    refine br_intro (fun q => bad 17 (by rw [eC, if_pos (hbb.1 q)]) (by decide)) (fun q => ?_)
    have h17 : ¬ (m.kind ≠ 4 ∧ m.a ∉ x.mem) := fun y => by rw [hbb.2 y] at q; cases q
    rw [if_neg h17] at eC
    have gen : (m.kind = 3 ∨ m.kind = 6) → ptrm (some ⟨b, 0, none⟩) fun q o => ∃ n18 : Int, cellH H' ⟨q, o, none⟩ = some (.int .i64 n18) ∧ br ((m.b : Int) != n18) (FnH Tryd.prog 26 #[.int .i64 18] H' (rt K)) (FnH Tryd.prog fn #[.pointer (some ⟨b, 0, none⟩), recV m ml] H' (rt K)) := fun hk => by
      refine ptrm_intro rfl ⟨x.gen, gi.cell rfl, br_intro (fun q => bad 18 ?_ (by decide)) (fun q => good ?_)⟩
      · rw [eC, if_pos ⟨hk, by simpa using q⟩]
      · rw [eC, if_neg (fun y => y.2 (by simpa using q))]
    refine br_intro (fun q => gen (.inl (by simpa using q))) (fun q => br_intro (fun q2 => gen (.inr (by simpa using q2))) (fun q2 => good ?_))
    rw [eC, if_neg (fun y => by have a1 : ¬ m.kind = 3 := by simpa using q
                                have a2 : ¬ m.kind = 6 := by simpa using q2
                                rcases y.1 with z | z
                                · exact a1 z
                                · exact a2 z)]
theorem apply_spec {cs : List Chunk} {H : Heap} {g : Nat} {G : List (ByteArray × Grp)} {ep : Int} {m : Rec} {ml : Sl} {L : List Int} {c0 : Chunk} {i0 : Nat} {K : Value → Heap → Prop} (hF : Fine G 1000000) (h : Holds (grs g G ep :: cs) H) (g0 : Gives c0 (ints ml L)) (hi : cs[i0]? = some c0)
    (hn : m.name.size ≤ 9223372036854775807) (k : ∀ (s : Sl) H', Holds (ints s (applyT G ep m L).parts :: grs g (applyG G m L) (applyE ep m) :: cs) H' → K (toldV (applyT G ep m L) s) H') : FnH Tryd.prog 14 #[ptrV g, recV m ml] H K := by
  apply groups_Groups_Apply_fn
  unfold groups_Groups_Apply_vc
  have hS := hF.small
  obtain ⟨mb, l, c1, c2, hm, hcase⟩ := ask2 h m.name
  refine ⟨some mb, c1, runH_lookup1 u53 kstr z56 hm (k := m.name) ?_⟩
  obtain ⟨xp, exp, hx, hhole⟩ : ∃ xp : Option Addr, (lookL l m.name).getD (.pointer none) = .pointer xp ∧ ((xp = none ∧ lookL G m.name = none) ∨ ∃ b x, xp = some ⟨b, 0, none⟩ ∧ lookL G m.name = some x ∧ grp b x H) ∧ (∀ b x, xp = some ⟨b, 0, none⟩ → lookL G m.name = some x → Hole g ep cs m.name b x G H) := by
    rcases hcase with ⟨e1, e2⟩ | ⟨b, x, e1, e2, hg, hh⟩
    · exact ⟨none, e2, .inl ⟨rfl, e1⟩, fun b x q => by cases q⟩
    · refine ⟨_, e2, .inr ⟨b, x, rfl, e1, hg⟩, fun b' x' q q2 => ?_⟩
      simp only [Option.some.injEq, Addr.mk.injEq, and_true] at q
      rw [e1] at q2
      simp only [Option.some.injEq] at q2
      subst q; subst q2; exact hh
  refine ⟨xp, by simpa using exp, HL.Sub.refl _, br_intro (fun q => ?_) (fun q => br_intro (fun q5 => ?_) (fun q5 => ?_))⟩
  · have q : m.kind = 1 := by simpa using q
    refine join_spec hF h g0 hi hn fun s H' h' => ⟨_, _, _, _, s, rfl, ?_⟩
    unfold applyG applyT applyE at k
    have e5 : ¬ m.kind = 5 := by omega
    rw [if_pos q, if_pos q, if_neg e5] at k
    exact k s H' h'
  · have q : ¬ m.kind = 1 := by simpa using q
    have q5 : m.kind = 5 := by simpa using q5
    unfold applyG applyT applyE at k
    have e1 : ¬ (m.kind = 2 ∨ m.kind = 3 ∨ m.kind = 4 ∨ m.kind = 6) := by omega
    rw [if_neg q, if_neg q, if_pos q5, if_pos q5, if_neg e1] at k
    refine ⟨ep, c2, br_intro (fun q6 => ?_) (fun q6 => ?_)⟩
    · have q6 := of_decide_eq_true q6
      rw [if_pos q6, if_pos q6] at k
      exact refuse_spec ⟨13, 0, 0, 0, ⟨none, 0, 0⟩, rfl, k ⟨none, 0, 0⟩ H (Holds.intsNil h)⟩
    · have q6 := of_decide_eq_false q6
      rw [if_neg q6, if_neg q6] at k
      obtain ⟨mb2, ps, eG, h1⟩ := grs_open.1 h
      refine h1.store 0 rfl (by simp) fun H3 h3 => k ⟨none, 0, 0⟩ H3 (Holds.intsNil (grs_open.2 ⟨mb2, ps, eG, h3⟩))
  have q : ¬ m.kind = 1 := by simpa using q
  have q5 : ¬ m.kind = 5 := by simpa using q5
  unfold applyG applyT applyE at k
  rw [if_neg q, if_neg q, if_neg q5, if_neg q5] at k
  -- what is done behind the tests
  have bad : (m.kind = 2 ∨ m.kind = 3 ∨ m.kind = 4 ∨ m.kind = 6) → ∀ e : Int, doesC G m = e → e ≠ 0 → FnH Tryd.prog 26 #[.int .i64 e] H (rt K) := fun hk e he hne => by
    rw [if_pos hk, if_pos hk, he, if_neg hne, if_neg hne] at k
    exact refuse_spec ⟨e, 0, 0, 0, ⟨none, 0, 0⟩, rfl, k ⟨none, 0, 0⟩ H (Holds.intsNil h)⟩
  have pre : (m.kind = 2 ∨ m.kind = 3 ∨ m.kind = 4 ∨ m.kind = 6) → doesC G m = 0 → ∀ b x, xp = some ⟨b, 0, none⟩ → lookL G m.name = some x → ∀ (s : Sl) H', Holds (ints s (doesT x m L).parts :: grs g (putL G m.name (doesX x m L)) ep :: cs) H' → K (toldV (doesT x m L) s) H' := fun hk hc b x e1 e2 s H' h' => by
    rw [if_pos hk, if_pos hk, hc, if_pos rfl, if_pos rfl] at k
    have eX : theX G m.name = x := by unfold theX; rw [e2]; rfl
    rw [eX] at k
    exact k s H' h'
  have gens : ∀ x, lookL G m.name = some x → 0 ≤ x.gen ∧ x.gen ≤ 1000000 := fun x e => by
    obtain ⟨f1, f2, f3, f4, f5, f6⟩ := hF.look (by decide) m.name
    have eX : theX G m.name = x := by unfold theX; rw [e]; rfl
    rw [eX] at f3 f4
    exact ⟨f3, f4⟩
  have memOf : doesC G m = 0 → m.kind ≠ 4 → ∀ x, lookL G m.name = some x → m.a ∈ x.mem := fun hc h4 x e => by
    unfold doesC at hc
    rw [e] at hc
    refine Classical.byContradiction fun y => ?_
    have hc : (if m.kind ≠ 4 ∧ m.a ∉ x.mem then (17 : Int) else if (m.kind = 3 ∨ m.kind = 6) ∧ m.b ≠ x.gen then 18 else 0) = 0 := hc
    rw [if_pos ⟨h4, y⟩] at hc; cases hc
  refine br_intro (fun q2 => ?_) (fun q2 => br_intro (fun q3 => ?_) (fun q3 => br_intro (fun q6 => ?_) (fun q6 => br_intro (fun q4 => ?_) (fun q4 => ?_))))
  · have q2 : m.kind = 2 := by simpa using q2
    refine does_formula hS hx (bad (.inl q2)) fun b x e1 e2 hc => ?_
    have pre := pre (.inl q2) hc b x e1 e2
    obtain ⟨ds, hd, hback, hcs⟩ := (hhole b x e1 e2).turn
    have hg := gens x e2
    rw [e1]
    refine leave_spec (look_small hS e2) ⟨by omega, hg.2⟩ hd fun H' h' => ⟨_, _, _, _, ⟨none, 0, 0⟩, rfl, ?_⟩
    have eT : doesT x m L = ⟨0, m.a, x.gen + 1, 0, []⟩ := by unfold doesT; rw [if_pos q2]
    have eD : doesX x m L = leaveG x m.a := by unfold doesX; rw [if_pos q2]
    rw [eT, eD] at pre
    exact pre ⟨none, 0, 0⟩ H' (Holds.intsNil (hback _ _ h').close)
  · have q2 : ¬ m.kind = 2 := by simpa using q2
    have q3 : m.kind = 3 := by simpa using q3
    refine does_formula hS hx (bad (.inr (.inl q3))) fun b x e1 e2 hc => ?_
    have pre := pre (.inr (.inl q3)) hc b x e1 e2
    obtain ⟨ds, hd, hback, hcs⟩ := (hhole b x e1 e2).turn
    rw [e1]
    have hci := hcs _ _ hi
    -- the record's list beside the group
    have hp := pull_perm hci
    have hd2 : Holds (grp b x :: c0 :: ds.eraseIdx (i0 + 3)) H := hd.perm (hp.cons _)
    have eT : doesT x m L = commitT x m L := by unfold doesT; rw [if_neg q2, if_pos q3]
    have eD : doesX x m L = commitG x m L := by unfold doesX; rw [if_neg q2, if_pos q3]
    rw [eT, eD] at pre
    have ep : (commitT x m L).parts = [] := by unfold commitT errT; split <;> rfl
    rw [ep] at pre
    refine commit_spec (look_small hS e2) hd2 g0 fun H' h' => ⟨_, _, _, _, ⟨none, 0, 0⟩, rfl, ?_⟩
    exact pre ⟨none, 0, 0⟩ H' (Holds.intsNil (hback _ _ (h'.perm (hp.symm.cons _))).close)
  · have q2 : ¬ m.kind = 2 := by simpa using q2
    have q3 : ¬ m.kind = 3 := by simpa using q3
    have q6 : m.kind = 6 := by simpa using q6
    refine does_formula hS hx (bad (.inr (.inr (.inr q6)))) fun b x e1 e2 hc => ?_
    have pre := pre (.inr (.inr (.inr q6))) hc b x e1 e2
    obtain ⟨ds, hd, hback, hcs⟩ := (hhole b x e1 e2).turn
    rw [e1]
    have eT : doesT x m L = ⟨0, m.a, x.gen, 0, ofM x m.a⟩ := by unfold doesT; rw [if_neg q2, if_neg q3, if_pos q6]
    have eD : doesX x m L = x := by unfold doesX; rw [if_neg q2, if_neg q3]
    rw [eT, eD] at pre
    refine sync_spec (look_small hS e2) (memOf hc (by omega) x e2) hd fun r H' h' => ⟨_, _, _, _, r, rfl, ?_⟩
    obtain ⟨A, B, eAB, dAB, pA, pB⟩ := h'
    exact pre r H' ⟨A, B, eAB, dAB, pA, (hback _ _ pB).close⟩
  · have q2 : ¬ m.kind = 2 := by simpa using q2
    have q3 : ¬ m.kind = 3 := by simpa using q3
    have q6 : ¬ m.kind = 6 := by simpa using q6
    have q4 : m.kind = 4 := by simpa using q4
    refine does_formula hS hx (bad (.inr (.inr (.inl q4)))) fun b x e1 e2 hc => ?_
    have pre := pre (.inr (.inr (.inl q4))) hc b x e1 e2
    obtain ⟨ds, hd, hback, hcs⟩ := (hhole b x e1 e2).turn
    rw [e1]
    have eT : doesT x m L = ⟨0, 0, x.gen, offM x m.c, []⟩ := by unfold doesT; rw [if_neg q2, if_neg q3, if_neg q6]
    have eD : doesX x m L = x := by unfold doesX; rw [if_neg q2, if_neg q3]
    rw [eT, eD] at pre
    refine read_spec (look_small hS e2) (hd.read 0 rfl grp_mono) ⟨_, _, _, _, ⟨none, 0, 0⟩, rfl, ?_⟩
    exact pre ⟨none, 0, 0⟩ H (Holds.intsNil (hback _ _ hd).close)
  · have q2 : ¬ m.kind = 2 := by simpa using q2
    have q3 : ¬ m.kind = 3 := by simpa using q3
    have q6 : ¬ m.kind = 6 := by simpa using q6
    have q4 : ¬ m.kind = 4 := by simpa using q4
    have e1 : ¬ (m.kind = 2 ∨ m.kind = 3 ∨ m.kind = 4 ∨ m.kind = 6) := by omega
    rw [if_neg e1, if_neg e1] at k
    exact refuse_spec ⟨1, 0, 0, 0, ⟨none, 0, 0⟩, rfl, k ⟨none, 0, 0⟩ H (Holds.intsNil h)⟩
end Go.Proofs.YtcbobncipnjbjaaDoor
