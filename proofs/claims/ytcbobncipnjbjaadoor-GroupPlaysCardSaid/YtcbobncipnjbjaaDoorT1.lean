/- Chapter 15: the document's join, walked. -/
import Derived.Test.YtcbobncipnjbjaaDoorS9
namespace Go.Proofs.YtcbobncipnjbjaaDoor
open Go Go.HL
set_option maxHeartbeats 3200000
set_option maxRecDepth 10000

theorem last_at {L : List Int} {i : Nat} (h : i + 1 ≤ L.length) : ((L.take (i + 1)).getLast?).getD 0 = L.getD i 0 := by
  rw [List.getLast?_take, if_neg (by omega)]
  have : i + 1 - 1 = i := by omega
  rw [this, List.getElem?_eq_getElem (by omega), List.getD, List.getElem?_eq_getElem (by omega)]
  rfl
theorem own_new {cs : List Chunk} {H : Heap} {q e sz : Nat} (h : HL.Holds (blk q (.cells #[] e (0, 0)) :: cs) H) : HL.Holds (own e sz ⟨some ⟨q, 0, none⟩, 0, 0⟩ [] :: cs) H :=
  h.head fun A hA => ⟨by simp, Nat.le_refl _, .inr ⟨q, #[], rfl, hA, by simp, fun i hi => by simp at hi⟩⟩
theorem rjoin_spec {cs : List Chunk} {H : Heap} {r : Nat} {G : List (ByteArray × Grp)} {ep : Int} {N : Nat} {m : Rec} {ml : Sl} {L : List Int} {c0 : Chunk} {i0 : Nat} {K : Value → Heap → Prop} (hF : Fine G 1000000) (hGl : G.length ≤ 1000) (hN : N ≤ 100000) (h : HL.Holds (rgrs r G ep N :: cs) H) (g0 : Gives c0 (ints ml L)) (hi : cs[i0]? = some c0)
    (k : ∀ (s : Sl) H', HL.Holds (ints s (joinT G m L).parts :: rgrs r (joinG G m L) ep N :: cs) H' → K (toldV (joinT G m L) s) H') : FnH Tryd.prog 34 #[ptrV r, recV m ml] H K := by
  apply logboomref15_Groups_join_fn
  unfold logboomref15_Groups_join_vc
  have hL : Ints H ml L := g0.at_ h (i0 + 1) (by simpa using hi)
  have hl := hL.len
  have hb := hL.big
  have bad : ∀ e : Int, joinC G m L = e → e ≠ 0 → K (.agg #[.int .i64 e, .int .i64 0, .int .i64 0, .int .i64 0, .slice none 0 0]) H := fun e he hne => by
    unfold joinG joinT at k
    rw [he, if_neg hne, if_neg hne] at k
    exact k ⟨none, 0, 0⟩ H (Holds.intsNil h)
  obtain ⟨s, ps, ⟨hp, hs⟩, h1⟩ := rgrs_open.1 h
  have hplen : ps.length = G.length := by
    have := hp.length_eq
    simpa using this
  refine rright_spec ⟨_, rfl, ?_⟩
  refine ⟨fun good i H1 => H1 = H ∧ 0 ≤ i ∧ i ≤ ml.n ∧ good = (nameB m.name && risingB 0 (L.take i.toNat)), fun _ i _ => (ml.n - i).toNat, ⟨rfl, Int.le_refl _, by omega, by simp [risingB]⟩, ?_⟩
  rintro good i H1 ⟨rfl, j0, j1, hg⟩
  refine br_intro (fun q => ?_) (fun q => ?_)
  · have q := of_decide_eq_true q
    obtain ⟨b, o, g1, g2, g3, g4⟩ := hL.at_ j0 q
    have hil : i.toNat < L.length := by omega
    have hget : L[i.toNat]? = some (L.getD i.toNat 0) := by rw [List.getElem?_eq_getElem hil, List.getD, List.getElem?_eq_getElem hil]; rfl
    have hst := rising_step hget
    rw [wrap64_id (n := i + 1) (by omega) (by omega)]
    have e1 : (i + 1).toNat = i.toNat + 1 := by omega
    have next : ∀ g : Bool, g = (good && (decide (((L.take i.toNat).getLast?).getD 0 < L.getD i.toNat 0) && decide (L.getD i.toNat 0 ≤ 16))) → (H1 = H1 ∧ 0 ≤ i + 1 ∧ i + 1 ≤ ml.n ∧ g = (nameB m.name && risingB 0 (L.take (i + 1).toNat))) ∧ (ml.n - (i + 1)).toNat < (ml.n - i).toNat := fun g hgg => by
      refine ⟨⟨rfl, by omega, by omega, ?_⟩, by omega⟩
      rw [e1, hst, hgg, hg, Bool.and_assoc]
    have hpos : good = true → 0 ≤ ((L.take i.toNat).getLast?).getD 0 := fun w => by
      rw [hg, Bool.and_eq_true] at w
      exact rising_last w.2
    generalize L.getD i.toNat 0 = p at *
    refine br_intro (fun w => ⟨b, o, g1, g2, g3, p, g4, br_intro (fun w1 => ⟨b, o, g1, g2, g3, p, g4, br_intro (fun w2 => br_intro (fun w3 => ?_) (fun w3 => ?_)) (fun w2 => ?_)⟩) (fun w1 => ?_)⟩) (fun w => ?_)
    · have w1 := of_decide_eq_true w1
      have w3 : i = 0 := by simpa using w3
      refine ⟨rfl, next true ?_⟩
      subst w3
      rw [w, w2, decide_eq_true (show ((L.take (0 : Int).toNat).getLast?).getD 0 < p by show (0 : Int) < p; omega)]; rfl
    · have w3 : ¬ i = 0 := by simpa using w3
      obtain ⟨b', o', f1, f2, f3, f4⟩ := hL.at_ (j := i - 1) (by omega) (by omega)
      rw [wrap64_id (n := i - 1) (by omega) (by omega)]
      refine ⟨b, o, g1, g2, g3, p, g4, b', o', f1, f2, f3, _, f4, rfl, next _ ?_⟩
      have e4 : ((L.take i.toNat).getLast?).getD 0 = L.getD (i - 1).toNat 0 := by
        have := last_at (L := L) (i := (i - 1).toNat) (by omega)
        rwa [show (i - 1).toNat + 1 = i.toNat by omega] at this
      rw [w, w2, e4]; simp
    · exact ⟨rfl, next false (by rw [w2]; simp)⟩
    · have w1 := of_decide_eq_false w1
      have := hpos w
      exact ⟨rfl, next false (by rw [decide_eq_false (show ¬ ((L.take i.toNat).getLast?).getD 0 < p by omega)]; simp)⟩
    · exact ⟨rfl, next false (by rw [w]; rfl)⟩
  have q := of_decide_eq_false q
  rw [take_all (by omega)] at hg
  have er : rightB m L = (good && decide (m.a ≥ 0)) := by unfold rightB; rw [hg]
  have hR : Recs eP H1 s ps := Own.recs ePlen (by decide) (h1.own 1 rfl) (by omega)
  have hgs : HL.Holds (ps.map (rf N)) H1 := h1.read 2 rfl (Holds.mono _)
  have hgp : ∀ p ∈ ps, rgrp p.2.1 p.1 p.2.2 N H1 := fun p hpm => by
    obtain ⟨j, hj⟩ := List.getElem?_of_mem hpm
    exact Holds.one (f := rf N) (fun _ => rgrp_mono) hgs hj
  refine find_spec (h1.get 0 rfl) hR hgp ⟨_, rfl, ?_⟩
  have hx := look_both hp hs m.name
  have hS := hF.small
  have enone : (ptrO ps m.name).isNone = (lookL G m.name).isNone := by
    unfold ptrO
    rcases hx with ⟨e1, e2⟩ | ⟨j, b, x, e1, e2, -⟩
    · rw [e1, e2]; rfl
    · rw [e1, e2]; rfl
  refine ⟨fun _ _ _ _ _ H' => H' = H1 ∧ joinC G m L = 0, ⟨fun b H' => H' = H1 ∧ b = !rightB m L, br_intro (fun w => ⟨rfl, rfl, ?_⟩) (fun w => ⟨rfl, rfl, ?_⟩), ?_⟩, ?_⟩
  · have w : good = false := by simpa using w
    rw [er, w]; rfl
  · have w : good = true := by simpa using w
    rw [er, w]
    by_cases z : m.a < 0
    · rw [decide_eq_true z, decide_eq_false (by omega)]; rfl
    · rw [decide_eq_false z, decide_eq_true (by omega)]; rfl
  · rintro b1 H4 ⟨rfl, hb1⟩
    refine br_intro (fun w => ?_) (fun w => ?_)
    · have : rightB m L = false := by
        cases e : rightB m L with
        | false => rfl
        | true => rw [w, e] at hb1; cases hb1
      exact bad 1 (by unfold joinC; rw [if_pos this]) (by decide)
    have hr : ¬ rightB m L = false := fun z => by rw [z] at hb1; rw [hb1] at w; cases w
    have ha0 : m.a ≥ 0 := right_a (by simpa using hr)
    refine ⟨fun b H' => H' = H4 ∧ (b = true ↔ (m.a > 0 ∧ (lookL G m.name).isNone = true)), br_intro (fun w => ⟨rfl, rfl, ?_⟩) (fun w => ⟨rfl, rfl, ?_⟩), ?_⟩
    · have w := of_decide_eq_true w
      rw [enone]; simp [w]
    · have w := of_decide_eq_false w
      exact ⟨fun z => (by cases z), fun z => absurd z.1 w⟩
    rintro b2 H5 ⟨rfl, hb2⟩
    refine br_intro (fun w => bad 8 (by unfold joinC; rw [if_neg hr, if_pos (hb2.1 w)]) (by decide)) (fun w => ?_)
    have h8 : ¬ (m.a > 0 ∧ (lookL G m.name).isNone = true) := fun z => by rw [hb2.2 z] at w; cases w
    refine br_intro (fun w => ?_) (fun w => ?_)
    · have w := of_decide_eq_true w
      rcases hx with ⟨e1, e2⟩ | ⟨j, b, x, e1, e2, e3, -⟩
      · exact absurd ⟨w, by rw [e1]; rfl⟩ h8
      · have hgx := hgp _ (List.mem_of_getElem? e3)
        obtain ⟨sm, sp, so, sn, fo, fn, gi⟩ := rgrp_in (look_small hS e1) hN hgx
        have ep1 : ptrO ps m.name = some ⟨b, 0, none⟩ := by unfold ptrO; rw [e2]; rfl
        have hin : hasIn G m.name m.a = decide (m.a ∈ x.mem) := by unfold hasIn; rw [e1]
        refine ptrm_intro ep1 ⟨sm, gi.cell rfl, has_spec gi.mem ⟨_, rfl, HL.Sub.refl _, br_intro (fun v => ?_) (fun v => ⟨rfl, rfl, ?_⟩)⟩⟩
        · have v : hasIn G m.name m.a = false := by rw [hin]; simpa using v
          exact bad 17 (by unfold joinC; rw [if_neg hr, if_neg h8, if_pos ⟨w, v⟩]) (by decide)
        · have v : hasIn G m.name m.a = true := by rw [hin]; simpa using v
          have hf : ¬ fullIn G m.name m.a = true := by unfold fullIn; rw [e1, decide_eq_false (show ¬ m.a = 0 by omega)]; simp
          unfold joinC
          rw [if_neg hr, if_neg h8, if_neg (fun z => by rw [v] at z; cases z.2), if_neg hf]
    · have w := of_decide_eq_false w
      have hz : m.a = 0 := by omega
      have h17 : ¬ (m.a > 0 ∧ hasIn G m.name m.a = false) := fun z => w z.1
      have c0 : cellH H5 ⟨r, 0, none⟩ = some (.slice s.p s.n s.c) := h1.cell 0 rfl rfl
      have hsn : s.n = G.length := by rw [hR.len, hplen]
      rcases hx with ⟨e1, e2⟩ | ⟨j, b, x, e1, e2, e3, -⟩
      · have ep1 : ptrO ps m.name = none := by unfold ptrO; rw [e2]; rfl
        have ef : fullIn G m.name m.a = decide (G.length ≥ 8) := by unfold fullIn; rw [e1]
        rw [ep1]
        refine br_t rfl ⟨s, c0, br_intro (fun v => ?_) (fun v => br_f rfl ⟨rfl, rfl, ?_⟩)⟩
        · have v := of_decide_eq_true v
          exact bad 3 (by unfold joinC; rw [if_neg hr, if_neg h8, if_neg h17, if_pos (by rw [ef]; simp; omega)]) (by decide)
        · have v := of_decide_eq_false v
          unfold joinC
          rw [if_neg hr, if_neg h8, if_neg h17, if_neg (by rw [ef]; simp; omega)]
      · have hgx := hgp _ (List.mem_of_getElem? e3)
        obtain ⟨sm, sp, so, sn, fo, fn, gi⟩ := rgrp_in (look_small hS e1) hN hgx
        have hml := gi.mem.len
        have ep1 : ptrO ps m.name = some ⟨b, 0, none⟩ := by unfold ptrO; rw [e2]; rfl
        have ef : fullIn G m.name m.a = (decide (x.mem.length ≥ 16) || decide (x.ever ≥ 1000000)) := by unfold fullIn; rw [e1, hz]; rfl
        rw [ep1]
        refine br_f rfl (br_t rfl (ptrm_intro rfl ⟨sm, gi.cell rfl, br_intro (fun v => ?_) (fun v => ptrm_intro rfl ⟨x.ever, gi.cell rfl, br_intro (fun v2 => ?_) (fun v2 => ⟨rfl, rfl, ?_⟩)⟩)⟩))
        · have v := of_decide_eq_true v
          exact bad 3 (by unfold joinC; rw [if_neg hr, if_neg h8, if_neg h17, if_pos (by rw [ef]; simp; left; omega)]) (by decide)
        · have v2 := of_decide_eq_true v2
          exact bad 3 (by unfold joinC; rw [if_neg hr, if_neg h8, if_neg h17, if_pos (by rw [ef]; simp; right; omega)]) (by decide)
        · have v := of_decide_eq_false v
          have v2 := of_decide_eq_false v2
          unfold joinC
          rw [if_neg hr, if_neg h8, if_neg h17, if_neg (by rw [ef]; simp; omega)]
  rintro _ _ _ _ _ H7 ⟨rfl, hc⟩
  obtain ⟨f1, f2, f3, f4, f5, f6⟩ := hF.look (by decide) m.name
  obtain ⟨ok1, ok2, ok3⟩ := join_ok hc
  have hll := right_len ok1
  refine ⟨fun x1 H' => ∃ b, x1 = some ⟨b, 0, none⟩ ∧ RHole r ep N cs m.name b (theX G m.name) G H', ?_, ?_⟩
  · rcases hx with ⟨e1, e2⟩ | ⟨j, b, x, e1, e2, e3, hz⟩
    · have ep1 : ptrO ps m.name = none := by unfold ptrO; rw [e2]; rfl
      have eX : theX G m.name = newGrp := by unfold theX; rw [e1]; rfl
      rw [ep1, eX]
      refine br_t rfl (h1.new fun b H8 h2 => ?_)
      refine ⟨fun i H' => H' = H8 ∧ 0 ≤ i ∧ i ≤ s.n ∧ insL ltB (hmod ps) m.name newGrp = (hmod ps).take i.toNat ++ (m.name, newGrp) :: (hmod ps).drop i.toNat ∧ ∀ z, insL ltB (hmod ps) m.name z = (hmod ps).take i.toNat ++ (m.name, z) :: (hmod ps).drop i.toNat, ?_, ?_⟩
      · refine ⟨fun i H' => H' = H8 ∧ 0 ≤ i ∧ i ≤ s.n ∧ ∀ p ∈ (hmod ps).take i.toNat, ltB p.1 m.name = true, fun i _ => (s.n - i).toNat, ⟨rfl, Int.le_refl _, by omega, by simp⟩, ?_⟩
        rintro i H9 ⟨rfl, i0', i1', hlt⟩
        have c0 : cellH H9 ⟨r, 0, none⟩ = some (.slice s.p s.n s.c) := h2.cell 1 rfl rfl
        have hR9 : Recs eP H9 s ps := Own.recs ePlen (by decide) (h2.own 2 rfl) (by omega)
        have hsn : s.n = ps.length := hR9.len
        refine ⟨s, c0, br_intro (fun w => ?_) (fun w => ?_)⟩
        · have w := of_decide_eq_true w
          obtain ⟨q1, o1, p, g1, g2, g3⟩ := hR9.at_ ePlen (by decide) i0' w
          have hgp9 := Holds.one (f := rf N) (fun _ => rgrp_mono) (h2.read 3 rfl (Holds.mono _)) g2
          obtain ⟨qq, -, hgp9⟩ := hgp9
          have c1 : cellH H9 ⟨q1, o1 + i.toNat, none⟩ = some (ptrV p.2.1) := by
            have := g3 0 _ rfl
            simpa using this
          have hmg : (hmod ps)[i.toNat]? = some (p.1, p.2.2) := by rw [List.getElem?_map, g2]; rfl
          refine ⟨s, c0, q1, o1, g1, i0', w, _, c1, ptrm_intro rfl ⟨p.1, hgp9.cell 0 rfl rfl, ?_⟩⟩
          rw [wrap64_id (n := i + 1) (by omega) (by omega)]
          refine br_intro (fun v => ⟨rfl, ⟨rfl, by omega, by omega, fun x hx2 => ?_⟩, by dsimp only; omega⟩) (fun v => ⟨rfl, rfl, i0', i1', ?_⟩)
          · rw [take_step i0' hmg] at hx2
            rcases List.mem_append.1 hx2 with y | y
            · exact hlt x y
            · simp only [List.mem_singleton] at y; rw [y]; exact v
          · have hne : p.1 ≠ m.name := fun e => by
              have := idx_firstH (ps := ps) (n := m.name) (m := i.toNat) (p := p) (fun x hx2 e4 => by
                have := hlt (x.1, x.2.2) (by rw [← List.map_take]; exact List.mem_map.2 ⟨x, hx2, rfl⟩)
                rw [e4, ltB_ok.irr] at this; cases this) g2 e
              rw [e2] at this; cases this
            have hsp := fun z => insL_split (v := z) hlt (.inr ⟨_, hmg, v, hne⟩)
            exact ⟨hsp _, hsp⟩
        · have w := of_decide_eq_false w
          have hsp := fun z => insL_split (k := m.name) (v := z) hlt (.inl (by simp; omega))
          exact ⟨rfl, rfl, i0', i1', hsp _, hsp⟩
      · rintro i H10 ⟨rfl, i0', i1', -, hsp⟩
        refine h2.new fun q13 H11 h3 => ?_
        have hR11 : Recs eP H11 s ps := Own.recs ePlen (by decide) (h3.own 3 rfl) (by omega)
        have hsn : s.n = ps.length := hR11.len
        have hsc := hR11.cap
        refine ⟨s, h3.cell 2 rfl rfl, i0', by omega, ?_⟩
        have hup := hR11.upto ePlen i0' i1'
        have hdr := hR11.from_ ePlen i0' i1'
        refine Holds.append (s := ⟨some ⟨q13, 0, none⟩, 0, 0⟩) ok44 ok44.under (own_new h3) hup.cells (by rw [flat_len ePlen]; simp; omega) (noTups_ptrs _) (by show 0 + _ ≤ _; omega) fun l9 H12 h4 n9 => ⟨l9, rfl, ?_⟩
        have n9 : l9.n = 0 + Int.toNat (i - 0) := n9
        refine Holds.push ok44 h4 (xs := [ptrV b]) (m := 1) rfl rfl (by omega) fun l10 H14 h5 n10 => ⟨l10, rfl, s, h5.cell 2 rfl rfl, i0', i1', ?_⟩
        have hR14 : Recs eP H14 s ps := Own.recs ePlen (by decide) (h5.own 3 rfl) (by omega)
        refine Holds.append ok44 ok44.under h5 (hR14.from_ ePlen i0' i1').cells (by rw [flat_len ePlen]; simp; omega) (noTups_ptrs _) (by omega) fun l12 H15 h6 n12 => ⟨l12, rfl, ?_⟩
        refine h6.store 2 rfl (by simp) fun H16 h7 => ⟨rfl, b, rfl, ?_⟩
        have h7 : HL.Holds (own 63 1 l12 (([] ++ (ps.take i.toNat).flatMap eP ++ [ptrV b]) ++ (ps.drop i.toNat).flatMap eP) :: blk b (.cells #[.string m.name, .int .i64 0, .int .i64 0, .slice none 0 0, .slice none 0 0, .slice none 0 0, .slice none 0 0] 67 (0, 0)) ::
            blk r (.cells #[.slice l12.p l12.n l12.c, .int .i64 ep] 46 (0, 0)) :: own 63 1 s (ps.flatMap eP) :: HL.Holds (ps.map (rf N)) :: cs) H16 := h7
        have hil : i.toNat ≤ ps.length := by omega
        have ef : ([] ++ (ps.take i.toNat).flatMap eP ++ [ptrV b]) ++ (ps.drop i.toNat).flatMap eP = (ps.take i.toNat ++ (m.name, b, newGrp) :: ps.drop i.toNat).flatMap eP := by simp
        rw [ef] at h7
        have hlen : (ps.take i.toNat).length = i.toNat := by rw [List.length_take]; omega
        refine ⟨l12, ps.take i.toNat ++ (m.name, b, newGrp) :: ps.drop i.toNat, i.toNat, newGrp, ?_, fun z => ?_, ?_⟩
        · rw [List.getElem?_append_right (by omega), hlen]; simp
        · have e4 : hmod ((ps.take i.toNat ++ (m.name, b, newGrp) :: ps.drop i.toNat).set i.toNat (m.name, b, z)) = insL ltB (hmod ps) m.name z := by
            rw [hsp z, List.set_append_right _ _ (by omega), hlen]
            simp [hmod, List.map_take, List.map_drop]
          rw [e4]
          exact ⟨insL_sorted ltB_ok hs, (put_ins ltB_ok hp.symm hs m.name z).symm⟩
        · have e5 : (ps.take i.toNat ++ (m.name, b, newGrp) :: ps.drop i.toNat).eraseIdx i.toNat = ps := by
            rw [List.eraseIdx_append_of_length_le (by omega), hlen]; simp
          rw [e5]
          have h8 := (((h7.pull 1 rfl).own_nil 70 2).own_nil 70 2).own_nil 3 1 |>.own_nil 3 1
          have h9 := rgrp_open.2 ⟨⟨none, 0, 0⟩, ⟨none, 0, 0⟩, ⟨none, 0, 0⟩, ⟨none, 0, 0⟩, [], [], RgOk.new N, (show HL.Holds (blk b (.cells #[.string m.name, .int .i64 newGrp.gen, .int .i64 newGrp.ever, .slice none 0 0, .slice none 0 0, .slice none 0 0, .slice none 0 0] 67 (0, 0)) :: own 3 1 ⟨none, 0, 0⟩ (iv newGrp.mem) ::
            own 3 1 ⟨none, 0, 0⟩ (iv newGrp.prt) :: own 70 2 ⟨none, 0, 0⟩ (([] : List (Int × Int)).flatMap eK) :: own 70 2 ⟨none, 0, 0⟩ (([] : List (Int × Int)).flatMap eK) :: own 63 1 l12 ((ps.take i.toNat ++ (m.name, b, newGrp) :: ps.drop i.toNat).flatMap eP) ::
            blk r (.cells #[.slice l12.p l12.n l12.c, .int .i64 ep] 46 (0, 0)) :: own 63 1 s (ps.flatMap eP) :: HL.Holds (ps.map (rf N)) :: cs) H16 from ?_)⟩
          · have h10 : HL.Holds (rgrp b m.name newGrp N :: own 63 1 l12 ((ps.take i.toNat ++ (m.name, b, newGrp) :: ps.drop i.toNat).flatMap eP) :: blk r (.cells #[.slice l12.p l12.n l12.c, .int .i64 ep] 46 (0, 0)) :: own 63 1 s (ps.flatMap eP) :: HL.Holds (ps.map (rf N)) :: cs) H16 := h9
            have h11 : HL.Holds (rgrp b m.name newGrp N :: own 63 1 l12 ((ps.take i.toNat ++ (m.name, b, newGrp) :: ps.drop i.toNat).flatMap eP) :: blk r (.cells #[.slice l12.p l12.n l12.c, .int .i64 ep] 46 (0, 0)) :: HL.Holds (ps.map (rf N)) :: cs) H16 := (h10.pull 3 rfl).tail
            refine h11.perm (List.Perm.cons _ ?_)
            exact ((List.Perm.swap _ _ _).trans ((List.Perm.swap _ _ _).cons _)).trans (((List.Perm.swap _ _ _).trans ((List.Perm.swap _ _ _).cons _)).trans ((List.Perm.swap _ _ _).cons _))
          · exact h8.pull 4 rfl
    · have ep1 : ptrO ps m.name = some ⟨b, 0, none⟩ := by unfold ptrO; rw [e2]; rfl
      have eX : theX G m.name = x := by unfold theX; rw [e1]; rfl
      rw [ep1, eX]
      refine br_f rfl ⟨rfl, b, rfl, s, ps, j, x, e3, hz, ?_⟩
      have h2 : HL.Holds (HL.Holds (ps.map (rf N)) :: blk r (.cells #[.slice s.p s.n s.c, .int .i64 ep] 46 (0, 0)) :: own 63 1 s (ps.flatMap eP) :: cs) H7 := h1.rot
      exact Holds.pick (f := rf N) h2 e3
  rintro x1 H17 ⟨b, rfl, hole⟩
  generalize hX : theX G m.name = x at *
  have hsm : Small x := ⟨by omega, by omega⟩
  refine ⟨fun id H' => id = joinA x m.a ∧ RHole r ep N cs m.name b (addX x m.a) G H', ?_, ?_⟩
  · unfold joinA addX
    refine br_intro (fun w => ?_) (fun w => ?_)
    · have w : m.a = 0 := by simpa using w
      rw [if_pos w, if_pos w]
      obtain ⟨g1, g2⟩ := ok2 w
      obtain ⟨ds, h2, back, -⟩ := hole.turn
      obtain ⟨sm, sp, so, sn, fo, fn, ho, h3⟩ := rgrp_open.1 h2
      refine ptrm_intro rfl ⟨x.ever, h3.cell 0 rfl rfl, ptrm_intro rfl ?_⟩
      rw [wrap64_id (n := x.ever + 1) (by omega) (by omega)]
      refine h3.store 0 rfl (by simp) fun H18 h4 => ptrm_intro rfl ⟨x.ever + 1, h4.cell 0 rfl rfl, ptrm_intro rfl ⟨sm, h4.cell 0 rfl rfl, ?_⟩⟩
      have hmn := (h4.own 1 rfl).1
      simp only [List.length_map, Nat.mul_one] at hmn
      refine Holds.push ok22 h4.swap (xs := [.int .i64 (x.ever + 1)]) (m := 1) rfl rfl (by omega) fun l14 H20 h5 n5 => ⟨l14, rfl, ptrm_intro rfl ?_⟩
      refine h5.store 1 rfl (by simp) fun H21 h6 => ⟨rfl, rfl, back _ _ ?_⟩
      have h6 := (h6.swap : HL.Holds (blk b (.cells #[.string m.name, .int .i64 x.gen, .int .i64 (x.ever + 1), .slice l14.p l14.n l14.c, .slice sp.p sp.n sp.c, .slice so.p so.n so.c, .slice sn.p sn.n sn.c] 67 (0, 0)) :: own 3 1 l14 (iv x.mem ++ [.int .i64 (x.ever + 1)]) :: own 3 1 sp (iv x.prt) :: own 70 2 so (fo.flatMap eK) :: own 70 2 sn (fn.flatMap eK) :: ds) H21)
      refine rgrp_open.2 ⟨l14, sp, so, sn, fo, fn, ho.same rfl rfl, ?_⟩
      have e6 : iv (x.mem ++ [x.ever + 1]) = iv x.mem ++ [.int .i64 (x.ever + 1)] := by simp [iv]
      show HL.Holds (blk b (.cells #[.string m.name, .int .i64 x.gen, .int .i64 (x.ever + 1), .slice l14.p l14.n l14.c, .slice sp.p sp.n sp.c, .slice so.p so.n so.c, .slice sn.p sn.n sn.c] 67 (0, 0)) :: own 3 1 l14 (iv (x.mem ++ [x.ever + 1])) :: own 3 1 sp (iv x.prt) :: own 70 2 so (fo.flatMap eK) :: own 70 2 sn (fn.flatMap eK) :: ds) H21
      rw [e6]; exact h6
    · have w : ¬ m.a = 0 := by simpa using w
      rw [if_neg w, if_neg w]
      exact ⟨rfl, rfl, hole⟩
  rintro id1 H22 ⟨rfl, hole⟩
  have hjm : joinA x m.a ∈ (joinX x m.a L).mem := by
    unfold joinA joinX addX
    by_cases w : m.a = 0
    · rw [if_pos w, if_pos w]; simp
    · rw [if_neg w, if_neg w]
      exact ok3 w
  have hal : (addX x m.a).mem.length ≤ 17 := by
    unfold addX
    split
    · simp; omega
    · omega
  have hag : (addX x m.a).gen = x.gen := by unfold addX; split <;> rfl
  obtain ⟨ds, h2, back, fr⟩ := hole.turn
  obtain ⟨sm, sp, so, sn, fo, fn, ho, h3⟩ := rgrp_open.1 h2
  refine h3.new fun q21 H23 h4 => ?_
  have hL23 : Ints H23 ml L := g0.at_ h4 (i0 + 3 + 6) (by have := fr i0 c0 hi; simpa using this)
  refine Holds.append (s := ⟨some ⟨q21, 0, none⟩, 0, 0⟩) ok22 ok22.under (own_new h4) hL23.cells (by simp [hL23.len]) (noTups_ints _ _) (by rw [hL23.len]; show 0 + L.length ≤ _; omega) fun l15 H24 h5 n15 => ⟨l15, rfl, ptrm_intro rfl ?_⟩
  refine h5.store 1 rfl (by simp) fun H25 h6 => ptrm_intro rfl ⟨(addX x m.a).gen, h6.cell 1 rfl rfl, ptrm_intro rfl ?_⟩
  rw [wrap64_id (n := (addX x m.a).gen + 1) (by omega) (by omega)]
  refine h6.store 1 rfl (by simp) fun H26 h7 => ptrm_intro rfl ⟨(addX x m.a).gen + 1, h7.cell 1 rfl rfl, ?_⟩
  have h7 : HL.Holds (own 3 1 l15 ([] ++ iv L) :: blk b (.cells #[.string m.name, .int .i64 ((addX x m.a).gen + 1), .int .i64 (addX x m.a).ever, .slice sm.p sm.n sm.c, .slice l15.p l15.n l15.c, .slice so.p so.n so.c, .slice sn.p sn.n sn.c] 67 (0, 0)) :: own 3 1 sm (iv (addX x m.a).mem) :: own 3 1 sp (iv (addX x m.a).prt) :: own 70 2 so (fo.flatMap eK) :: own 70 2 sn (fn.flatMap eK) :: ds) H26 := h7
  have h8 : HL.Holds (own 3 1 l15 (iv L) :: blk b (.cells #[.string m.name, .int .i64 ((addX x m.a).gen + 1), .int .i64 (addX x m.a).ever, .slice sm.p sm.n sm.c, .slice l15.p l15.n l15.c, .slice so.p so.n so.c, .slice sn.p sn.n sn.c] 67 (0, 0)) :: own 3 1 sm (iv (addX x m.a).mem) :: own 70 2 so (fo.flatMap eK) :: own 70 2 sn (fn.flatMap eK) :: ds) H26 := (h7.pull 3 rfl).tail
  have h9 := h8.perm ((List.Perm.swap _ _ _).trans ((List.Perm.swap _ _ _).cons _))
  have hJ : HL.Holds (rgrp b m.name (joinX x m.a L) N :: ds) H26 := rgrp_open.2 ⟨sm, l15, so, sn, fo, fn, ho.same rfl rfl, by
    have e7 : (joinX x m.a L).gen = (addX x m.a).gen + 1 := by rw [hag]; rfl
    show HL.Holds (blk b (.cells #[.string m.name, .int .i64 (joinX x m.a L).gen, .int .i64 (addX x m.a).ever, .slice sm.p sm.n sm.c, .slice l15.p l15.n l15.c, .slice so.p so.n so.c, .slice sn.p sn.n sn.c] 67 (0, 0)) :: own 3 1 sm (iv (addX x m.a).mem) :: own 3 1 l15 (iv L) :: own 70 2 so (fo.flatMap eK) :: own 70 2 sn (fn.flatMap eK) :: ds) H26
    rw [e7]; exact h9⟩
  have hd := (back _ _ hJ).close
  refine rparts_spec (b := b) (n := m.name) (x := joinX x m.a L) (N := N) ⟨by show (addX x m.a).mem.length ≤ _; omega, by show L.length ≤ _; omega⟩ hN hd (hJ.read 0 rfl rgrp_mono) fun l16 H27 s27 h10 => ⟨l16, rfl, s27, ?_⟩
  unfold shareD at h10
  rw [if_pos hjm] at h10
  unfold joinG joinT at k
  rw [hX, hc, if_pos rfl, if_pos rfl] at k
  have := k l16 H27 h10
  rw [hag]; exact this
end Go.Proofs.YtcbobncipnjbjaaDoor
