/- Chapter 15: the document's Apply, walked. -/
import Derived.Test.YtcbobncipnjbjaaDoorT1
namespace Go.Proofs.YtcbobncipnjbjaaDoor
open Go Go.HL
set_option maxHeartbeats 3200000
set_option maxRecDepth 10000

theorem RgOk.more {x : Grp} {fo fn : List (Int × Int)} {N : Nat} (h : RgOk x fo fn N) : RgOk x fo fn (N + 1) := ⟨h.off, h.num, Nat.le_succ_of_le h.offN, Nat.le_succ_of_le h.numN⟩
theorem rgrp_more {b : Nat} {n : ByteArray} {x : Grp} {N : Nat} : ∀ H, rgrp b n x N H → rgrp b n x (N + 1) H := fun _ ⟨q, e, h⟩ => ⟨q, e.more, h⟩
theorem rfs_more {N : Nat} : ∀ (ps : List Held) (H : Heap), HL.Holds (ps.map (rf N)) H → HL.Holds (ps.map (rf (N + 1))) H := by
  intro ps
  induction ps with
  | nil => intro H h; exact h
  | cons a l ih =>
    intro H h
    exact Star.mono (fun _ => rgrp_more _) (fun _ => ih _) h
theorem rgrs_more {r : Nat} {G : List (ByteArray × Grp)} {ep : Int} {N : Nat} {cs : List Chunk} {H : Heap} (h : HL.Holds (rgrs r G ep N :: cs) H) : HL.Holds (rgrs r G ep (N + 1) :: cs) H := by
  obtain ⟨s, ps, e, h⟩ := rgrs_open.1 h
  exact rgrs_open.2 ⟨s, ps, e, h.turn 2 rfl (rfs_more ps)⟩
theorem RHole.turn2 {r : Nat} {ep : Int} {N : Nat} {cs : List Chunk} {n : ByteArray} {b : Nat} {x : Grp} {G : List (ByteArray × Grp)} {H : Heap} (h : RHole r ep N cs n b x G H) :
    ∃ ds, HL.Holds (rgrp b n x N :: ds) H ∧ (∀ x' H', HL.Holds (rgrp b n x' (N + 1) :: ds) H' → HL.Holds (rgrs r (putL G n x') ep (N + 1) :: cs) H') ∧ (∀ i c, cs[i]? = some c → ds[i + 3]? = some c) := by
  obtain ⟨s, ps, i, y, e, hz, h⟩ := h
  exact ⟨_, h, fun x' H' h' => RHole.close ⟨s, ps, i, y, e, hz, h'.turn 1 rfl (rfs_more _)⟩, fun i c hc => by simpa using hc⟩
theorem but_step {l : List Int} {i : Nat} {v m : Int} (h : l[i]? = some v) : butI (l.take (i + 1)) m = if v = m then butI (l.take i) m else butI (l.take i) m ++ [v] := by
  obtain ⟨h1, h2⟩ := List.getElem?_eq_some_iff.1 h
  unfold butI
  rw [List.take_succ_eq_append_getElem h1, h2, List.filter_append]
  split
  · rename_i e; subst e; simp
  · rename_i e; simp [e]
abbrev notC (c : Int) (l : List (Int × Int)) : List (Int × Int) := l.filter fun a => decide (a.1 ≠ c)
theorem notC_step {l : List (Int × Int)} {i : Nat} {v : Int × Int} {c : Int} (h : l[i]? = some v) : notC c (l.take (i + 1)) = if v.1 = c then notC c (l.take i) else notC c (l.take i) ++ [v] := by
  obtain ⟨h1, h2⟩ := List.getElem?_eq_some_iff.1 h
  unfold notC
  rw [List.take_succ_eq_append_getElem h1, h2, List.filter_append]
  split
  · rename_i e; simp [e]
  · rename_i e; simp [e]
theorem RgOk.commit {x : Grp} {fo fn : List (Int × Int)} {N : Nat} (h : RgOk x fo fn N) (c d a v : Int) (y : Grp) (h1 : y.off = putL x.off c d) (h2 : y.num = putL x.num a v) : RgOk y (notC c fo ++ [(c, d)]) (fn ++ [(a, v)]) (N + 1) := by
  refine ⟨fun p => ?_, fun b => ?_, ?_, ?_⟩
  · rw [offD_filter, h.off]
    unfold offM
    rw [h1, lookL_put]
    split <;> rfl
  · rw [numD_app, h.num, h2, lookL_put]
    by_cases z : a = b
    · rw [if_pos z, if_pos z.symm]; rfl
    · rw [if_neg z, if_neg (fun w => z w.symm)]
  · have := h.offN
    have : (notC c fo).length ≤ fo.length := List.length_filter_le _ _
    simp only [List.length_append, List.length_singleton]; omega
  · have := h.numN
    simp only [List.length_append, List.length_singleton]; omega
theorem noTups_eK (l : List (Int × Int)) : noTups (l.flatMap eK) = true := by
  induction l with
  | nil => rfl
  | cons a l ih => exact ih
theorem rapply_spec {cs : List Chunk} {H : Heap} {r : Nat} {G : List (ByteArray × Grp)} {ep : Int} {N : Nat} {m : Rec} {ml : Sl} {L : List Int} {c0 : Chunk} {i0 : Nat} {K : Value → Heap → Prop} (hF : Fine G 1000000) (hGl : G.length ≤ 1000) (hN : N ≤ 99999) (hnod : ∀ p ∈ G, p.2.mem.Nodup)
    (h : HL.Holds (rgrs r G ep N :: cs) H) (g0 : Gives c0 (ints ml L)) (hi : cs[i0]? = some c0)
    (k : ∀ (s : Sl) H', HL.Holds (ints s (applyT G ep m L).parts :: rgrs r (applyG G m L) (applyE ep m) (N + 1) :: cs) H' → K (toldV (applyT G ep m L) s) H') : FnH Tryd.prog 22 #[ptrV r, recV m ml] H K := by
  apply logboomref15_Groups_Apply_fn
  unfold logboomref15_Groups_Apply_vc
  have hL : Ints H ml L := g0.at_ h (i0 + 1) (by simpa using hi)
  have hl := hL.len
  have hb := hL.big
  have bad : ∀ e : Int, applyT G ep m L = errT e → applyG G m L = G → applyE ep m = ep → K (.agg #[.int .i64 e, .int .i64 0, .int .i64 0, .int .i64 0, .slice none 0 0]) H := fun e h1 h2 h3 => by
    rw [h1, h2, h3] at k
    exact k ⟨none, 0, 0⟩ H (Holds.intsNil (rgrs_more h))
  refine br_intro (fun q => ?_) (fun q => br_intro (fun q5 => ?_) (fun q5 => ?_))
  · have q : m.kind = 1 := by simpa using q
    refine rjoin_spec hF hGl (by omega) h g0 hi fun s H' h' => ⟨_, _, _, _, s, rfl, ?_⟩
    unfold applyG applyT applyE at k
    have e5 : ¬ m.kind = 5 := by omega
    rw [if_pos q, if_pos q, if_neg e5] at k
    exact k s H' (rgrs_more h'.swap).swap
  · have q : ¬ m.kind = 1 := by simpa using q
    have q5 : m.kind = 5 := by simpa using q5
    unfold applyG applyT applyE at k
    have e1 : ¬ (m.kind = 2 ∨ m.kind = 3 ∨ m.kind = 4 ∨ m.kind = 6) := by omega
    rw [if_neg q, if_neg q, if_pos q5, if_pos q5, if_neg e1] at k
    obtain ⟨s, ps, eG, h1⟩ := rgrs_open.1 h
    refine ⟨ep, h1.cell 0 rfl rfl, br_intro (fun q6 => ?_) (fun q6 => ?_)⟩
    · have q6 := of_decide_eq_true q6
      rw [if_pos q6, if_pos q6] at k
      exact k ⟨none, 0, 0⟩ H (Holds.intsNil (rgrs_more h))
    · have q6 := of_decide_eq_false q6
      rw [if_neg q6, if_neg q6] at k
      refine h1.store 0 rfl (by simp) fun H3 h3 => k ⟨none, 0, 0⟩ H3 (Holds.intsNil (rgrs_more (rgrs_open.2 ⟨s, ps, eG, h3⟩)))
  have q : ¬ m.kind = 1 := by simpa using q
  have q5 : ¬ m.kind = 5 := by simpa using q5
  unfold applyG applyT applyE at k bad
  rw [if_neg q, if_neg q, if_neg q5, if_neg q5] at k
  simp only [if_neg q, if_neg q5] at bad
  refine br_intro (fun w => ?_) (fun w => br_intro (fun w2 => ?_) (fun w2 => ?_))
  · have w := of_decide_eq_true w
    exact bad 1 (by rw [if_neg (by omega)]) (by rw [if_neg (by omega)]) trivial
  · have w2 := of_decide_eq_true w2
    exact bad 1 (by rw [if_neg (by omega)]) (by rw [if_neg (by omega)]) trivial
  have w := of_decide_eq_false w
  have w2 := of_decide_eq_false w2
  have hk : m.kind = 2 ∨ m.kind = 3 ∨ m.kind = 4 ∨ m.kind = 6 := by omega
  rw [if_pos hk, if_pos hk] at k
  simp only [if_pos hk] at bad
  have bad : ∀ e : Int, doesC G m = e → e ≠ 0 → K (.agg #[.int .i64 e, .int .i64 0, .int .i64 0, .int .i64 0, .slice none 0 0]) H := fun e h1 h2 => bad e (by rw [h1, if_neg h2]) (by rw [h1, if_neg h2]) trivial
  obtain ⟨s, ps, ⟨hp, hs⟩, h1⟩ := rgrs_open.1 h
  have hplen : ps.length = G.length := by
    have := hp.length_eq
    simpa using this
  have hR : Recs eP H s ps := Own.recs ePlen (by decide) (h1.own 1 rfl) (by omega)
  have hgs : HL.Holds (ps.map (rf N)) H := h1.read 2 rfl (Holds.mono _)
  have hgp : ∀ p ∈ ps, rgrp p.2.1 p.1 p.2.2 N H := fun p hpm => by
    obtain ⟨j, hj⟩ := List.getElem?_of_mem hpm
    exact Holds.one (f := rf N) (fun _ => rgrp_mono) hgs hj
  refine find_spec (h1.get 0 rfl) hR hgp ⟨_, rfl, ?_⟩
  have hS := hF.small
  rcases look_both hp hs m.name with ⟨e1, e2⟩ | ⟨j, b, x, e1, e2, e3, hz⟩
  · have ep1 : ptrO ps m.name = none := by unfold ptrO; rw [e2]; rfl
    rw [ep1]
    exact br_t rfl (bad 8 (by unfold doesC; rw [e1]) (by decide))
  have ep1 : ptrO ps m.name = some ⟨b, 0, none⟩ := by unfold ptrO; rw [e2]; rfl
  have eX : theX G m.name = x := by unfold theX; rw [e1]; rfl
  have hgx := hgp _ (List.mem_of_getElem? e3)
  have hgx : rgrp b m.name x N H := hgx
  have hsm := look_small hS e1
  obtain ⟨ix, hix⟩ := lookL_idx e1
  have hmG : (m.name, x) ∈ G := List.mem_of_getElem? (idxL_get hix)
  obtain ⟨f1, f2, f3, f4, f5, f6⟩ := hF _ hmG
  have hxn : x.mem.Nodup := hnod _ hmG
  simp only at f1 f2 f3 f4 f5 f6
  have hN2 : N ≤ 100000 := by omega
  obtain ⟨sm, sp, so, sn, fo, fn, gi⟩ := rgrp_in hsm hN2 hgx
  have hml := gi.mem.len
  have hole : RHole r ep N cs m.name b x G H := ⟨s, ps, j, x, e3, hz, by
    have h2 : HL.Holds (HL.Holds (ps.map (rf N)) :: blk r (.cells #[.slice s.p s.n s.c, .int .i64 ep] 46 (0, 0)) :: own 63 1 s (ps.flatMap eP) :: cs) H := h1.rot
    exact Holds.pick (f := rf N) h2 e3⟩
  rw [eX] at k
  rw [ep1]
  have hcx : doesC G m = if m.kind ≠ 4 ∧ m.a ∉ x.mem then 17 else if (m.kind = 3 ∨ m.kind = 6) ∧ m.b ≠ x.gen then 18 else 0 := by unfold doesC; rw [e1]
  have ex := putL_self e1
  refine br_f rfl (br_intro (fun v => ?_) (fun v => ?_))
  · have v : m.kind = 4 := by simpa using v
    have hc : doesC G m = 0 := by rw [hcx, if_neg (fun z => z.1 v), if_neg (fun z => by omega)]
    have et : doesT x m L = ⟨0, 0, x.gen, offM x m.c, []⟩ := by unfold doesT; rw [if_neg (by omega), if_neg (by omega), if_neg (by omega)]
    have eg : doesX x m L = x := by unfold doesX; rw [if_neg (by omega), if_neg (by omega)]
    rw [hc, if_pos rfl, if_pos rfl, et, eg, ex] at k
    exact ptrm_intro rfl ⟨x.gen, gi.cell rfl, roffset_spec hsm hN2 hgx ⟨_, rfl, HL.Sub.refl _, k ⟨none, 0, 0⟩ H (Holds.intsNil (rgrs_more h))⟩⟩
  have v : ¬ m.kind = 4 := by simpa using v
  refine ptrm_intro rfl ⟨sm, gi.cell rfl, has_spec gi.mem ⟨_, rfl, HL.Sub.refl _, br_intro (fun v2 => ?_) (fun v2 => ?_)⟩⟩
  · have v2 : m.a ∉ x.mem := by simpa using v2
    exact bad 17 (by rw [hcx, if_pos ⟨v, v2⟩]) (by decide)
  have v2 : m.a ∈ x.mem := by simpa using v2
  refine br_intro (fun v3 => ?_) (fun v3 => ?_)
  · -- leave
    have v3 : m.kind = 2 := by simpa using v3
    have hc : doesC G m = 0 := by rw [hcx, if_neg (fun z => z.2 v2), if_neg (fun z => by omega)]
    have et : doesT x m L = ⟨0, m.a, x.gen + 1, 0, []⟩ := by unfold doesT; rw [if_pos v3]
    have eg : doesX x m L = leaveG x m.a := by unfold doesX; rw [if_pos v3]
    rw [hc, if_pos rfl, if_pos rfl, et, eg] at k
    obtain ⟨ds, h2, back, -⟩ := hole.turn2
    obtain ⟨sm, sp, so, sn, fo, fn, ho, h3⟩ := rgrp_open.1 h2
    refine ⟨fun l i H6 => 0 ≤ i ∧ i ≤ sm.n ∧ HL.Holds (own 3 1 l (iv (butI (x.mem.take i.toNat) m.a)) :: blk b (.cells #[.string m.name, .int .i64 x.gen, .int .i64 x.ever, .slice sm.p sm.n sm.c, .slice sp.p sp.n sp.c, .slice so.p so.n so.c, .slice sn.p sn.n sn.c] 67 (0, 0)) :: own 3 1 sm (iv x.mem) :: own 3 1 sp (iv x.prt) :: own 70 2 so (fo.flatMap eK) :: own 70 2 sn (fn.flatMap eK) :: ds) H6, fun _ i _ => (sm.n - i).toNat, ⟨Int.le_refl _, by omega, h3.own_nil 3 1⟩, ?_⟩
    rintro l i H6 ⟨i0', i1', h4⟩
    have hI : Ints H6 sm x.mem := own_ints (h4.own 2 rfl) (by omega)
    have hsn := hI.len
    refine ptrm_intro rfl ⟨sm, h4.cell 1 rfl rfl, br_intro (fun u => ?_) (fun u => ?_)⟩
    · have u := of_decide_eq_true u
      obtain ⟨b1, o1, g1, g2, g3, g4⟩ := hI.at_ i0' u
      have hil : i.toNat < x.mem.length := by omega
      have hget : x.mem[i.toNat]? = some (x.mem.getD i.toNat 0) := by rw [List.getElem?_eq_getElem hil, List.getD, List.getElem?_eq_getElem hil]; rfl
      have hst := but_step (m := m.a) hget
      have e4 : (i + 1).toNat = i.toNat + 1 := by omega
      rw [wrap64_id (n := i + 1) (by omega) (by omega)]
      refine ptrm_intro rfl ⟨sm, h4.cell 1 rfl rfl, b1, o1, g1, g2, g3, _, g4, br_intro (fun t => ?_) (fun t => ?_)⟩
      · have t : ¬ x.mem.getD i.toNat 0 = m.a := by simpa using t
        rw [if_neg t] at hst
        refine ptrm_intro rfl ⟨sm, h4.cell 1 rfl rfl, b1, o1, g1, g2, g3, _, g4, ?_⟩
        have hln := (h4.own 0 rfl).1
        have : (butI (x.mem.take i.toNat) m.a).length ≤ (x.mem.take i.toNat).length := List.length_filter_le _ _
        rw [List.length_take] at this
        simp only [List.length_map, Nat.mul_one] at hln
        refine Holds.push ok22 h4 (xs := [.int .i64 (x.mem.getD i.toNat 0)]) (m := 1) rfl rfl (by omega) fun l6 H8 h5 n5 => ⟨l6, rfl, rfl, ⟨by omega, by omega, ?_⟩, by dsimp only; omega⟩
        rw [e4, hst]
        have e6 : iv (butI (x.mem.take i.toNat) m.a ++ [x.mem.getD i.toNat 0]) = iv (butI (x.mem.take i.toNat) m.a) ++ [.int .i64 (x.mem.getD i.toNat 0)] := by simp [iv]
        rw [e6]; exact h5
      · have t : x.mem.getD i.toNat 0 = m.a := by simpa using t
        rw [if_pos t] at hst
        exact ⟨rfl, ⟨by omega, by omega, by rw [e4, hst]; exact h4⟩, by dsimp only; omega⟩
    · have u := of_decide_eq_false u
      rw [take_all (by omega)] at h4
      refine ptrm_intro rfl ?_
      refine h4.store 1 rfl (by simp) fun H9 h5 => ptrm_intro rfl ⟨x.gen, h5.cell 1 rfl rfl, ptrm_intro rfl ?_⟩
      rw [wrap64_id (n := x.gen + 1) (by omega) (by omega)]
      refine h5.store 1 rfl (by simp) fun H10 h6 => ptrm_intro rfl ⟨x.gen + 1, h6.cell 1 rfl rfl, k ⟨none, 0, 0⟩ H10 (Holds.intsNil (back _ _ (rgrp_open.2 ⟨l, sp, so, sn, fo, fn, (RgOk.same (y := leaveG x m.a) ho rfl rfl).more, ?_⟩)))⟩
      have h6 : HL.Holds (own 3 1 l (iv (butI x.mem m.a)) :: blk b (.cells #[.string m.name, .int .i64 (x.gen + 1), .int .i64 x.ever, .slice l.p l.n l.c, .slice sp.p sp.n sp.c, .slice so.p so.n so.c, .slice sn.p sn.n sn.c] 67 (0, 0)) :: own 3 1 sm (iv x.mem) :: own 3 1 sp (iv x.prt) :: own 70 2 so (fo.flatMap eK) :: own 70 2 sn (fn.flatMap eK) :: ds) H10 := h6
      exact ((h6.pull 2 rfl).tail).swap
  have v3 : ¬ m.kind = 2 := by simpa using v3
  refine ptrm_intro rfl ⟨x.gen, gi.cell rfl, br_intro (fun v4 => ?_) (fun v4 => ?_)⟩
  · have v4 : ¬ m.b = x.gen := by simpa using v4
    exact bad 18 (by rw [hcx, if_neg (fun z => z.2 v2), if_pos ⟨by omega, v4⟩]) (by decide)
  have v4 : m.b = x.gen := by simpa using v4
  have hc : doesC G m = 0 := by rw [hcx, if_neg (fun z => z.2 v2), if_neg (fun z => z.2 v4)]
  rw [hc, if_pos rfl, if_pos rfl] at k
  refine br_intro (fun v5 => ?_) (fun v5 => ?_)
  · have v5 : m.kind = 6 := by simpa using v5
    have et : doesT x m L = ⟨0, m.a, x.gen, 0, ofM x m.a⟩ := by unfold doesT; rw [if_neg v3, if_neg (by omega), if_pos v5]
    have eg : doesX x m L = x := by unfold doesX; rw [if_neg v3, if_neg (by omega)]
    rw [et, eg, ex] at k
    refine ptrm_intro rfl ⟨x.gen, gi.cell rfl, rparts_spec hsm hN2 h hgx fun r1 H11 s11 h11 => ⟨r1, rfl, s11, ?_⟩⟩
    unfold shareD at h11
    rw [if_pos v2] at h11
    exact k r1 H11 (rgrs_more h11.swap).swap
  have v5 : ¬ m.kind = 6 := by simpa using v5
  have v6 : m.kind = 3 := by omega
  have et : doesT x m L = commitT x m L := by unfold doesT; rw [if_neg v3, if_pos v6]
  have eg : doesX x m L = commitG x m L := by unfold doesX; rw [if_neg v3, if_pos v6]
  rw [et, eg] at k
  have no : ∀ e : Int, commitC x m L = e → e ≠ 0 → ∀ H', HL.Sub H H' → K (.agg #[.int .i64 e, .int .i64 0, .int .i64 0, .int .i64 0, .slice none 0 0]) H' := fun e h1 h2 H' s' => by
    unfold commitG commitT at k
    rw [h1, if_neg h2, if_neg h2, ex] at k
    exact k ⟨none, 0, 0⟩ H' (Holds.intsNil (rgrs_more (h.up s')))
  have no1 : (m.d < 0 ∨ m.d > 1000000000 ∨ L.length ≠ 1 ∨ L.getD 0 0 < 0 ∨ L.getD 0 0 > 1000000000) → K (.agg #[.int .i64 1, .int .i64 0, .int .i64 0, .int .i64 0, .slice none 0 0]) H := fun z => no 1 (by unfold commitC; rw [if_pos z]) (by decide) H (HL.Sub.refl _)
  refine br_intro (fun c1 => no1 (.inl (of_decide_eq_true c1))) (fun c1 => br_intro (fun c2 => no1 (.inr (.inl (of_decide_eq_true c2)))) (fun c2 => br_intro (fun c3 => no1 (.inr (.inr (.inl ?_)))) (fun c3 => ?_)))
  · have c3 : ¬ ((ml.n : Nat) : Int) = 1 := by simpa using c3
    omega
  have c3 : ((ml.n : Nat) : Int) = 1 := by simpa using c3
  obtain ⟨b1, o1, g1, g2, g3, g4⟩ := hL.at_ (j := 0) (Int.le_refl 0) (by omega)
  have g4 : cellH H ⟨b1, o1 + Int.toNat 0, none⟩ = some (.int .i64 (L.getD 0 0)) := g4
  refine ⟨b1, o1, g1, g2, g3, _, g4, br_intro (fun c4 => no1 (.inr (.inr (.inr (.inl (of_decide_eq_true c4)))))) (fun c4 => ⟨b1, o1, g1, g2, g3, _, g4, br_intro (fun c5 => no1 (.inr (.inr (.inr (.inr (of_decide_eq_true c5)))))) (fun c5 => ?_)⟩)⟩
  have c1 := of_decide_eq_false c1
  have c2 := of_decide_eq_false c2
  have c4 := of_decide_eq_false c4
  have c5 := of_decide_eq_false c5
  have hok : ¬ (m.d < 0 ∨ m.d > 1000000000 ∨ L.length ≠ 1 ∨ L.getD 0 0 < 0 ∨ L.getD 0 0 > 1000000000) := by omega
  refine ⟨b1, o1, g1, g2, g3, _, g4, rnumber_spec hsm hN2 hgx ⟨_, rfl, HL.Sub.refl _, ?_⟩⟩
  have hdup : decide (L.getD 0 0 ≤ (lookL x.num m.a).getD (-1)) = (match lookL x.num m.a with | some last => decide (L.getD 0 0 ≤ last) | none => false) := by
    cases lookL x.num m.a with
    | none => exact decide_eq_false (by show ¬ L.getD 0 0 ≤ -1; omega)
    | some l => rfl
  rw [hdup]
  refine br_intro (fun c6 => no 12 (by unfold commitC; rw [if_neg hok]; exact if_pos c6) (by decide) H (HL.Sub.refl _)) (fun c6 => ?_)
  have c6' : ¬ ((match lookL x.num m.a with | some last => decide (L.getD 0 0 ≤ last) | none => false) = true) := by rw [c6]; simp
  refine rowner_spec hsm hN2 hxn hgx fun H13 s13 => ⟨_, rfl, s13, br_intro (fun c7 => ?_) (fun c7 => ?_)⟩
  · have c7 : ¬ ownerM x m.c = m.a := by simpa using c7
    exact no 19 (by unfold commitC; rw [if_neg hok]; exact (if_neg c6').trans (if_pos c7)) (by decide) H13 s13
  have c7 : ownerM x m.c = m.a := by simpa using c7
  have hcc : commitC x m L = 0 := by unfold commitC; rw [if_neg hok]; exact (if_neg c6').trans (if_neg (fun z => z c7))
  unfold commitG commitT at k
  rw [hcc, if_pos rfl, if_pos rfl] at k
  have hole : RHole r ep N cs m.name b x G H13 := by
    obtain ⟨a1, a2, a3, a4, a5, a6, a7⟩ := hole
    exact ⟨a1, a2, a3, a4, a5, a6, a7.up s13⟩
  obtain ⟨ds, h2, back, fr⟩ := hole.turn2
  obtain ⟨sm, sp, so, sn, fo, fn, ho, h3⟩ := rgrp_open.1 h2
  have o1 := ho.offN
  have o2 := ho.numN
  refine ⟨fun l i H6 => 0 ≤ i ∧ i ≤ so.n ∧ HL.Holds (own 70 2 l ((notC m.c (fo.take i.toNat)).flatMap eK) :: blk b (.cells #[.string m.name, .int .i64 x.gen, .int .i64 x.ever, .slice sm.p sm.n sm.c, .slice sp.p sp.n sp.c, .slice so.p so.n so.c, .slice sn.p sn.n sn.c] 67 (0, 0)) :: own 3 1 sm (iv x.mem) :: own 3 1 sp (iv x.prt) :: own 70 2 so (fo.flatMap eK) :: own 70 2 sn (fn.flatMap eK) :: ds) H6, fun _ i _ => (so.n - i).toNat, ⟨Int.le_refl _, by omega, h3.own_nil 70 2⟩, ?_⟩
  rintro l i H6 ⟨i0', i1', h4⟩
  have hI : Recs eK H6 so fo := Own.recs eKlen (by decide) (h4.own 4 rfl) (by omega)
  have hsn := hI.len
  have hln := (h4.own 0 rfl).1
  rw [flat_len eKlen] at hln
  have hfl : (notC m.c (fo.take i.toNat)).length ≤ (fo.take i.toNat).length := List.length_filter_le _ _
  rw [List.length_take] at hfl
  refine ptrm_intro rfl ⟨so, h4.cell 1 rfl rfl, br_intro (fun u => ?_) (fun u => ?_)⟩
  · have u := of_decide_eq_true u
    obtain ⟨b2, o2', p, p1, p2, p3⟩ := hI.at_ eKlen (by decide) i0' u
    have hst := notC_step (c := m.c) p2
    have e4 : (i + 1).toNat = i.toNat + 1 := by omega
    rw [wrap64_id (n := i + 1) (by omega) (by omega)]
    refine ptrm_intro rfl ⟨so, h4.cell 1 rfl rfl, b2, o2', p1, i0', u, p.1, p3 0 _ rfl, br_intro (fun t => ?_) (fun t => ?_)⟩
    · have t : ¬ p.1 = m.c := by simpa using t
      rw [if_neg t] at hst
      refine ptrm_intro rfl ⟨so, h4.cell 1 rfl rfl, b2, o2', p1, i0', u, p.1, p3 0 _ rfl, p.2, p3 1 _ rfl, ?_⟩
      refine Holds.push ok65 h4 (xs := eK p) (m := 1) rfl rfl (by omega) fun l6 H8 h5 n5 => ⟨l6, rfl, rfl, ⟨by omega, by omega, ?_⟩, by dsimp only; omega⟩
      rw [e4, hst]
      have e6 : (notC m.c (fo.take i.toNat) ++ [p]).flatMap eK = (notC m.c (fo.take i.toNat)).flatMap eK ++ eK p := by simp
      rw [e6]; exact h5
    · have t : p.1 = m.c := by simpa using t
      rw [if_pos t] at hst
      exact ⟨rfl, ⟨by omega, by omega, by rw [e4, hst]; exact h4⟩, by dsimp only; omega⟩
  · have u := of_decide_eq_false u
    rw [List.take_of_length_le (by omega)] at h4 hfl hln
    refine Holds.push ok65 h4 (xs := [.int .i64 m.c, .int .i64 m.d]) (m := 1) rfl rfl (by omega) fun l12 H18 h5 n5 => ⟨l12, rfl, ptrm_intro rfl ?_⟩
    refine h5.store 1 rfl (by simp) fun H19 h6 => ptrm_intro rfl ⟨sn, h6.cell 1 rfl rfl, ?_⟩
    have hL19 : Ints H19 ml L := g0.at_ h6 (i0 + 3 + 6) (by have := fr i0 c0 hi; simpa using this)
    obtain ⟨b3, o3, d1, d2, d3, d4⟩ := hL19.at_ (j := 0) (Int.le_refl 0) (by omega)
    have d4 : cellH H19 ⟨b3, o3 + Int.toNat 0, none⟩ = some (.int .i64 (L.getD 0 0)) := d4
    refine ⟨b3, o3, d1, d2, d3, _, d4, ?_⟩
    have hnn := (h6.own 5 rfl).1
    rw [flat_len eKlen] at hnn
    have h7 := h6.pull 5 rfl
    refine h7.newS fun q28 H20 s20 h8 => ⟨s20, ?_⟩
    have hx : CellsAt H20 (some ⟨q28, 0, none⟩) [.int .i64 m.a, .int .i64 (L.getD 0 0)] := CellsAt.block (h8.get 0 rfl) fun i hi => by
      have hi : i < 2 := hi
      have : i = 0 ∨ i = 1 := by omega
      rcases this with rfl | rfl <;> rfl
    refine Holds.append ok65 ok65.under h8.swap hx rfl rfl (by omega) fun l14 H21 h9 n9 => ⟨l14, rfl, ptrm_intro rfl ?_⟩
    have h9 : HL.Holds (own 70 2 l14 (fn.flatMap eK ++ [.int .i64 m.a, .int .i64 (L.getD 0 0)]) :: blk q28 (.cells #[.int .i64 m.a, .int .i64 (L.getD 0 0)] 70 (0, 0)) :: own 70 2 l12 ((notC m.c fo).flatMap eK ++ [.int .i64 m.c, .int .i64 m.d]) :: blk b (.cells #[.string m.name, .int .i64 x.gen, .int .i64 x.ever, .slice sm.p sm.n sm.c, .slice sp.p sp.n sp.c, .slice l12.p l12.n l12.c, .slice sn.p sn.n sn.c] 67 (0, 0)) :: own 3 1 sm (iv x.mem) :: own 3 1 sp (iv x.prt) :: own 70 2 so (fo.flatMap eK) :: ds) H21 := h9
    refine h9.store 3 rfl (by simp) fun H22 h10 => ptrm_intro rfl ⟨x.gen, h10.cell 3 rfl rfl, k ⟨none, 0, 0⟩ H22 (Holds.intsNil (back _ _ (rgrp_open.2 ⟨sm, sp, l12, l14, notC m.c fo ++ [(m.c, m.d)], fn ++ [(m.a, L.getD 0 0)], ho.commit m.c m.d m.a (L.getD 0 0) _ rfl rfl, ?_⟩)))⟩
    have h10 : HL.Holds (own 70 2 l14 (fn.flatMap eK ++ [.int .i64 m.a, .int .i64 (L.getD 0 0)]) :: blk q28 (.cells #[.int .i64 m.a, .int .i64 (L.getD 0 0)] 70 (0, 0)) :: own 70 2 l12 ((notC m.c fo).flatMap eK ++ [.int .i64 m.c, .int .i64 m.d]) :: blk b (.cells #[.string m.name, .int .i64 x.gen, .int .i64 x.ever, .slice sm.p sm.n sm.c, .slice sp.p sp.n sp.c, .slice l12.p l12.n l12.c, .slice l14.p l14.n l14.c] 67 (0, 0)) :: own 3 1 sm (iv x.mem) :: own 3 1 sp (iv x.prt) :: own 70 2 so (fo.flatMap eK) :: ds) H22 := h10
    have e7 : (notC m.c fo ++ [(m.c, m.d)]).flatMap eK = (notC m.c fo).flatMap eK ++ [.int .i64 m.c, .int .i64 m.d] := by simp
    have e8 : (fn ++ [(m.a, L.getD 0 0)]).flatMap eK = fn.flatMap eK ++ [.int .i64 m.a, .int .i64 (L.getD 0 0)] := by simp
    rw [e7, e8]
    have h11 : HL.Holds (own 70 2 l14 (fn.flatMap eK ++ [.int .i64 m.a, .int .i64 (L.getD 0 0)]) :: own 70 2 l12 ((notC m.c fo).flatMap eK ++ [.int .i64 m.c, .int .i64 m.d]) :: blk b (.cells #[.string m.name, .int .i64 x.gen, .int .i64 x.ever, .slice sm.p sm.n sm.c, .slice sp.p sp.n sp.c, .slice l12.p l12.n l12.c, .slice l14.p l14.n l14.c] 67 (0, 0)) :: own 3 1 sm (iv x.mem) :: own 3 1 sp (iv x.prt) :: ds) H22 := ((h10.pull 1 rfl).tail.pull 5 rfl).tail
    exact ((h11.down 4).down 3)
end Go.Proofs.YtcbobncipnjbjaaDoor
