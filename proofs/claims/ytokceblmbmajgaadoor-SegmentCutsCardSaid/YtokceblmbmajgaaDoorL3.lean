/- Chapter 5: SegmentCuts: the walk. -/
import Derived.Test.YtokceblmbmajgaaDoorL2
namespace Go.Proofs.YtokceblmbmajgaaDoor
open Go Go.HL
set_option maxHeartbeats 3200000
set_option maxRecDepth 10000

abbrev rcs (ps : List (Ba × Sl)) : Chunk := HL.Holds (ps.map fun p => ownR p.2 p.1.recs)
theorem ps_recs {H : Heap} {ps : List (Ba × Sl)} {bs : List Ba} (e : ps.map Prod.fst = bs) (h2 : rcs ps H) (hf : FewB bs) : ∀ p ∈ ps, Recs eR H p.2 p.1.recs := fun p hp => by
  obtain ⟨i, hi⟩ := List.getElem?_of_mem hp
  have hb := hf p.1 (by rw [← e]; exact List.mem_map_of_mem hp)
  exact Own.recs eRlen (by decide) (h2.own (e := 74) (sz := 3) (s := p.2) (vs := p.1.recs.flatMap eR) i (by rw [List.getElem?_map, hi]; rfl)) (by omega)
theorem ps_bts {H : Heap} {s : Sl} {ps : List (Ba × Sl)} {bs : List Ba} (e : ps.map Prod.fst = bs) (h1 : Own H 34 6 s (ps.flatMap eBt)) (h2 : rcs ps H) (hf : FewB bs) (hl : bs.length ≤ 1000000) : Recs eBt H s ps ∧ Bts H s bs := by
  have hpl : ps.length = bs.length := by rw [← e, List.length_map]
  have h3 : Recs eBt H s ps := Own.recs eBtlen (by decide) h1 (by omega)
  exact ⟨h3, ps, e, h3, ps_recs e h2 hf⟩
section
variable {K : Value → Heap → Prop}
theorem cuts5 {H0 : Heap} {off more : Int} {sizes : Sl} {L : List Int} (hI : Ints H0 sizes L) (hw : ∀ n ∈ L, -9223372036854775808 ≤ n ∧ n ≤ 9223372036854775807) (ho : i64B off) (hm : i64B more) (k : ∀ H', HL.Sub H0 H' → K (.bool true) H') :
    FnH Tryd.prog 7 #[.slice sizes.p sizes.n sizes.c, .int .i64 off, .int .i64 more] H0 K := by
  apply logboomlaw5_SegmentCuts_fn
  unfold logboomlaw5_SegmentCuts_vc
  have g : Gives (ro H0) fun A => Ints A sizes L := ⟨ro_mono H0, fun A hA => hI.sub hA⟩
  refine shown5_spec (Holds.whole H0) fun H1 h1 => ⟨_, rfl, ?_⟩
  refine filled5_spec h1 g (i := 0) rfl hw (Int.le_refl _) (by decide) fun q d bs z H2 hs hbl hnx h2 => ⟨_, rfl, br_f rfl (br_f rfl ?_)⟩
  have hln := lenB_sixty hs (by omega)
  have hfew := hs.few
  have hn0 := hs.next0
  refine read5_spec (i := 0) (j := 1) h2 rfl rfl hs (by decide) fun l1 H3 s3 h3 => ⟨l1, rfl, next5_spec (i := 1) h3 rfl hs.len ⟨_, rfl, ?_⟩⟩
  rw [read_all hs (by omega)] at h3
  obtain ⟨ps, eps, h3⟩ := btl_open.1 h3
  rw [wrap64_id (n := nextB 0 bs + 3) (by omega) (by omega)]
  obtain ⟨o0, o1⟩ := pickI_in (c := off) (n := nextB 0 bs + 3) (by omega) ho.1 ho.2
  refine pick5_spec (by omega) ⟨_, rfl, ?_⟩
  generalize pickI off (nextB 0 bs + 3) = o at *
  have h3b : HL.Holds (sgc q d 0 bs :: dsk d 2000000 (F1 (fB bs) z) :: own 34 6 l1 (ps.flatMap eBt) :: rcs ps :: [ro H0]) H3 := (h3.pull 3 rfl).pull 3 rfl
  refine cut5_spec h3b hs (fun hlt => absurd hlt (by omega)) fun _ H6 h6 => ⟨_, rfl, br_f rfl ?_⟩
  have hcl : cutB o bs = bs.take (cutB o bs).length := takeWhile_len (fun b => decide (endB b ≤ o)) bs
  have hcle : (cutB o bs).length ≤ bs.length := (List.takeWhile_prefix (fun b => decide (endB b ≤ o))).length_le
  have hcat : ∀ r, r ≤ bs.length → (∀ j x, j < r → bs[j]? = some x → endB x ≤ o) → (∀ x, bs[r]? = some x → ¬ endB x ≤ o) → (cutB o bs).length = r := fun r h1 h2 h3 => takeWhile_at _ bs r h1 (fun j x hj hx => decide_eq_true (h2 j x hj hx)) fun x hx => decide_eq_false (h3 x hx)
  have hoc : SegOk 0 (cutB o bs) := by rw [hcl]; exact hs.take _
  generalize hcut : cutB o bs = cu at *
  generalize (if ((lenB cu : Nat) : Int) < z then ((lenB cu : Nat) : Int) else z) = z2 at *
  obtain ⟨hR6, hB6⟩ := ps_bts eps (h6.own 2 rfl) (h6.read 3 rfl (Holds.mono _)) hfew (by omega)
  have hn1 := hB6.len
  have hcap := hR6.cap
  refine ⟨fun n H' => H' = H6 ∧ n = (cu.length : Nat), ⟨fun n H' => H' = H6 ∧ 0 ≤ n ∧ n ≤ (bs.length : Nat) ∧ ∀ j x, j < n.toNat → bs[j]? = some x → endB x ≤ o, fun n _ => ((bs.length : Int) - n).toNat, ⟨rfl, Int.le_refl _, by omega, fun j x hj => absurd hj (by simp)⟩, ?_⟩, ?_⟩
  · rintro n H7 ⟨rfl, n0, n1, hall⟩
    refine br_intro (fun w => ?_) (fun w => ⟨rfl, rfl, ?_⟩)
    · have w := of_decide_eq_true w
      obtain ⟨qa, oa, b, sl, a1, a2, a3, a4⟩ := hB6.at_ n0 w
      have hkb := right_facts (hs.chain.all b (List.mem_of_getElem? a2))
      have hb := hkb.base
      have hfw := hkb.few
      have hsl := a3.len
      have heb : endB b = b.base + (b.recs.length : Nat) := rfl
      rw [wrap64_id (n := n + 1) (by omega) (by omega)]
      refine ⟨qa, oa, a1, n0, w, _, a4 0 _ rfl, qa, oa, a1, n0, w, sl, a4 5 _ rfl, ?_⟩
      rw [wrap64_id (n := b.base + (sl.n : Nat)) (by omega) (by omega)]
      refine br_intro (fun v => ?_) (fun v => ⟨rfl, rfl, ?_⟩)
      · have v := of_decide_eq_true v
        refine ⟨rfl, ⟨rfl, by omega, by omega, fun j x hj hx => ?_⟩, by dsimp only; omega⟩
        by_cases e : j = n.toNat
        · subst e; rw [a2] at hx; cases hx; omega
        · exact hall j x (by omega) hx
      · have v := of_decide_eq_false v
        have := hcat n.toNat (by omega) hall fun x hx => by rw [a2] at hx; cases hx; omega
        omega
    · have w := of_decide_eq_false w
      have := hcat n.toNat (by omega) hall fun x hx => by
        have := (List.getElem?_eq_some_iff.1 hx).1
        omega
      omega
  rintro n H8 ⟨rfl, rfl⟩
  have hlc := lenB_sixty hoc (by omega)
  refine ⟨by omega, by omega, read5_spec (i := 0) (j := 1) h6 rfl rfl hoc (by decide) fun l3 H9 s9 h9 => ⟨l3, rfl, s9, ?_⟩⟩
  rw [read_all hoc (by omega)] at h9
  have hfc : FewB cu := hoc.few
  have hB9 : Bts H9 l3 cu := btl_bts (h9.read 0 rfl btl_mono) hfc (by omega)
  have hup := (Bts.mono _ _ s9 hB6).upto (j := (cu.length : Nat)) (by omega) (by omega)
  rw [Int.toNat_natCast, ← hcl] at hup
  refine same_true (s := l3) (t := l1.upto (cu.length : Nat) 6) hB9 hup (by omega) ⟨_, rfl, s9, next5_spec (i := 1) h9 rfl hoc.len ⟨_, rfl, ?_⟩⟩
  obtain ⟨m0, m1⟩ := pickI_in (c := more) (n := 9) (by decide) hm.1 hm.2
  obtain ⟨nn, hnn⟩ : ∃ nn : Nat, 1 + pickI more 9 = (nn : Int) := ⟨(1 + pickI more 9).toNat, by omega⟩
  refine pick5_spec (by decide) ⟨_, rfl, ?_⟩
  rw [wrap64_id (n := 1 + pickI more 9) (by omega) (by omega), hnn]
  have hcn := hoc.next0
  have hcnx : nextB 0 cu ≤ 1000000 := by
    have h1 := hs.chain
    unfold nextB
    cases e : cu.getLast? with
    | none => decide
    | some b =>
      have hbm : b ∈ bs := by rw [hcl] at e; exact List.mem_of_mem_take (List.mem_of_getLast? e)
      have := hs.chain.end_le hbm
      dsimp only
      omega
  have hfl := flen_small (n := nn) hoc (by omega) (by omega) (by omega)
  refine small5_spec (n := nn) h9 (by omega) fun l4 H13 s13 h13 => ⟨_, _, _, _, _, l4, rfl, ?_⟩
  generalize hx : nextB 0 cu = x at *
  have h13b : HL.Holds (ownR l4 (smallB x nn).recs :: sgc q d 0 cu :: dsk d 2000000 (F1 (fB cu) z2) :: btl l3 cu :: own 34 6 l1 (ps.flatMap eBt) :: rcs ps :: [ro H0]) H13 := ((h13.pull 3 rfl).pull 3 rfl).pull 2 rfl
  refine append_small (n := nn) h13b hoc hx.symm (by omega) (by omega) (by omega) (by omega) (by omega) fun H14 o14 h14 => ⟨_, rfl, ?_⟩
  have hl14 := lenB_sixty o14 (by rw [List.length_append]; simp; omega)
  refine read5_spec (i := 0) (j := 1) h14 rfl rfl o14 (by decide) fun l5 H15 s15 h15 => ⟨l5, rfl, ?_⟩
  rw [read_all o14 (by omega)] at h15
  refine h15.new fun q3 H16 h16 => ⟨by omega, by omega, ?_⟩
  have h16b : HL.Holds (own 34 6 ⟨some ⟨q3, 0, none⟩, 0, 0⟩ [] :: btl l5 (cu ++ [smallB x nn]) :: sgc q d 0 (cu ++ [smallB x nn]) :: dsk d 2000000 (F1 (fB (cu ++ [smallB x nn])) z2) :: ownR l4 (smallB x nn).recs :: btl l3 cu :: own 34 6 l1 (ps.flatMap eBt) :: rcs ps :: [ro H0]) H16 := h16.head fun A hA => ⟨by simp, Nat.le_refl _, .inr ⟨q3, #[], rfl, hA, by simp, fun i hi => by simp at hi⟩⟩
  obtain ⟨hR16, -⟩ := ps_bts eps (h16b.own 6 rfl) (h16b.read 7 rfl (Holds.mono _)) hfew (by omega)
  have hpl : ps.length = bs.length := by rw [← eps, List.length_map]
  have hup16 := hR16.upto eBtlen (j := (cu.length : Nat)) (by omega) (by omega)
  rw [Int.toNat_natCast] at hup16
  have hcells : CellsAt H16 (slP l1.p l1.c (0 : Int) 6) ((ps.take cu.length).flatMap eBt) := hup16.cells
  have hnt : ∀ l : List (Ba × Sl), noTups (l.flatMap eBt) = true := fun l => by
    induction l with
    | nil => rfl
    | cons a l ih => exact ih
  refine Holds.append (s := ⟨some ⟨q3, 0, none⟩, 0, 0⟩) okBt okBt.under h16b hcells (by rw [flat_len eBtlen, List.length_take]; congr 1; omega) (hnt _) (by show 0 + Int.toNat _ ≤ _; omega) fun l6 H17 h17 n17 => ⟨l6, rfl, ?_⟩
  have n17 : l6.n = 0 + (((cu.length : Nat) : Int) - 0).toNat := n17
  refine Holds.push okBt h17 (xs := eBt (smallB x nn, l4)) (m := 1) rfl rfl (by omega) fun l7 H19 h19 n19 => ⟨l7, rfl, ?_⟩
  have hf14 : FewB (cu ++ [smallB x nn]) := o14.few
  have hB5 : Bts H19 l5 (cu ++ [smallB x nn]) := btl_bts (h19.read 1 rfl btl_mono) hf14 (by rw [List.length_append]; simp; omega)
  have hB7 : Bts H19 l7 (cu ++ [smallB x nn]) := by
    refine ⟨ps.take cu.length ++ [(smallB x nn, l4)], by rw [List.map_append, List.map_take, eps, ← hcl]; rfl, Own.recs (e := 34) eBtlen (by decide) ?_ (by rw [List.length_append, List.length_take]; simp; omega), fun p hp => ?_⟩
    · have := h19.own 0 rfl
      rw [List.flatMap_append]
      exact this
    · rcases List.mem_append.1 hp with hp | hp
      · exact ps_recs eps (h19.read 7 rfl (Holds.mono _)) hfew p (List.mem_of_mem_take hp)
      · rw [List.mem_singleton.1 hp]
        exact (ownR_gives (by show (List.replicate nn vr).length ≤ _; rw [List.length_replicate]; omega)).at_ h19 4 rfl
  exact same_true hB5 hB7 (by rw [List.length_append]; simp; omega) ⟨_, rfl, br_t rfl (br_t rfl (k H19 (h19.sub 8 rfl)))⟩
end
end Go.Proofs.YtokceblmbmajgaaDoor
