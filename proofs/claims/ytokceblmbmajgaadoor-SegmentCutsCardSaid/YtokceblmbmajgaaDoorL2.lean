/- Chapter 5: a segment that is filled; SegmentReads: the walk. -/
import Derived.Test.YtokceblmbmajgaaDoorL1
import Derived.Test.YtokceblmbmajgaaDoorV5
namespace Go.Proofs.YtokceblmbmajgaaDoor
open Go Go.HL
set_option maxHeartbeats 3200000
set_option maxRecDepth 10000

theorem SegOk.few {base : Int} {bs : List Ba} (h : SegOk base bs) : FewB bs := fun b hb => by
  have := (right_facts (h.chain.all b hb)).few
  omega
theorem lenB_sixty {base : Int} {bs : List Ba} (h : SegOk base bs) (hl : bs.length ≤ 61) : lenB bs ≤ 249856 := by
  have := lenB_le h.chain.all
  omega
theorem flen_small {base : Int} {bs : List Ba} {n : Nat} (h : SegOk base bs) (n0 : 1 ≤ n) (n1 : n ≤ 64) (he : nextB base bs + n ≤ 1000000000) : flen (smallB (nextB base bs) n) ≤ 4096 := (right_facts (small_right (n := n) h.next0 (by omega) n0 n1)).flen.2
theorem read_all {base most : Int} {bs : List Ba} (h : SegOk base bs) (hm : (lenB bs : Nat) ≤ most) : readB base base most bs = bs := by
  unfold readB
  rw [if_neg (by omega)]
  have e : (bs.dropWhile fun b => decide (endB b ≤ base)) = bs := by
    cases bs with
    | nil => rfl
    | cons b l =>
      obtain ⟨c1, c2, c3, c4, c5⟩ := h.chain
      have : endB b = b.base + (b.recs.length : Nat) := rfl
      rw [List.dropWhile_cons, if_neg (by simp; omega)]
  rw [e, takeB_all _ _ _ _ (by omega)]
section
variable {cs : List Chunk} {H : Heap} {K : Value → Heap → Prop}
theorem filled5_spec {base : Int} {sizes : Sl} {L : List Int} {c0 : Chunk} {i : Nat} (h : HL.Holds cs H) (g : Gives c0 fun A => Ints A sizes L) (ei : cs[i]? = some c0) (hw : ∀ n ∈ L, -9223372036854775808 ≤ n ∧ n ≤ 9223372036854775807) (b0 : 0 ≤ base) (b1 : base ≤ 1000)
    (k : ∀ q d bs z H', SegOk base bs → bs.length ≤ 60 → nextB base bs ≤ base + 1800 → HL.Holds (sgc q d base bs :: dsk d 2000000 (F1 (fB bs) z) :: cs) H' → K (.pointer (some ⟨q, 0, none⟩)) H') : FnH Tryd.prog 20 #[.int .i64 base, .slice sizes.p sizes.n sizes.c] H K := by
  apply logboomlaw5_filled_fn
  unfold logboomlaw5_filled_vc
  refine dnew_spec h (fun q => by omega) fun _ _ d H1 h1 => ⟨_, _, rfl, br_f rfl (br_f rfl (open_new h1 b0 (by omega) fun q H2 h2 => ⟨_, _, _, rfl, br_f rfl (br_f rfl ?_)⟩))⟩
  refine ⟨fun m H' => 0 ≤ m ∧ m ≤ 60 ∧ ∃ bs z, SegOk base bs ∧ (bs.length : Int) = m ∧ nextB base bs ≤ base + 30 * m ∧ HL.Holds (sgc q d base bs :: dsk d 2000000 (F1 (fB bs) z) :: cs) H', fun m _ => (60 - m).toNat, ⟨Int.le_refl _, by decide, [], 0, SegOk.nil b0 (by omega), rfl, by rw [nextB_nil]; omega, h2⟩, ?_⟩
  rintro m H3 ⟨m0, m1, bs, z, hs, hbl, hnx, h3⟩
  have fin : K (.pointer (some ⟨q, 0, none⟩)) H3 := k q d bs z H3 hs (by omega) (by omega) h3
  refine br_intro (fun w => br_intro (fun w2 => ?_) (fun _ => fin)) (fun _ => fin)
  have w := of_decide_eq_true w
  have w2 := of_decide_eq_true w2
  have hI := g.at_ h3 (i + 2) ei
  have hIl := hI.len
  obtain ⟨q1, o1, p1, p2, p3, p4⟩ := hI.at_ m0 w
  have hm : L.getD m.toNat 0 ∈ L := getD_mem m0 (by omega)
  obtain ⟨y0, y1⟩ := pickI_in (c := L.getD m.toNat 0) (n := 30) (by decide) (hw _ hm).1 (hw _ hm).2
  obtain ⟨nn, hnn⟩ : ∃ nn : Nat, 1 + pickI (L.getD m.toNat 0) 30 = (nn : Int) := ⟨(1 + pickI (L.getD m.toNat 0) 30).toNat, by omega⟩
  refine ⟨q1, o1, p1, m0, w, _, p4, next5_spec (i := 0) h3 rfl hs.len ⟨_, rfl, HL.Sub.refl _, pick5_spec (by decide) ⟨_, rfl, HL.Sub.refl _, ?_⟩⟩⟩
  rw [wrap64_id (n := 1 + pickI (L.getD m.toNat 0) 30) (by omega) (by omega), hnn, wrap64_id (n := m + 1) (by omega) (by omega)]
  have hln := lenB_sixty hs (by omega)
  have hfl := flen_small (n := nn) hs (by omega) (by omega) (by omega)
  refine small5_spec (n := nn) h3 (by omega) fun l1 H6 s6 h6 => ⟨_, _, _, _, _, l1, rfl, s6, append_small (n := nn) h6 hs rfl (by omega) (by omega) (by omega) (by omega) (by omega) fun H7 o7 h7 => ⟨_, rfl, br_f rfl ⟨rfl, ⟨by omega, by omega, bs ++ [smallB (nextB base bs) nn], z, o7, by rw [List.length_append]; simp; omega, ?_, (h7.pull 2 rfl).tail⟩, by dsimp only; omega⟩⟩⟩
  rw [nextB_snoc, small_end]
  omega
theorem reads5 {H0 : Heap} {base off most : Int} {sizes : Sl} {L : List Int} (hb : i64B base) (hI : Ints H0 sizes L) (hw : ∀ n ∈ L, -9223372036854775808 ≤ n ∧ n ≤ 9223372036854775807) (ho : i64B off) (hm : i64B most) (k : ∀ H', HL.Sub H0 H' → K (.bool true) H') :
    FnH Tryd.prog 4 #[.int .i64 base, .slice sizes.p sizes.n sizes.c, .int .i64 off, .int .i64 most] H0 K := by
  apply logboomlaw5_SegmentReads_fn
  unfold logboomlaw5_SegmentReads_vc
  obtain ⟨z0, z1⟩ := pickI_in (c := base) (n := 1000) (by decide) hb.1 hb.2
  have g : Gives (ro H0) fun A => Ints A sizes L := ⟨ro_mono H0, fun A hA => hI.sub hA⟩
  refine shown5_spec (Holds.whole H0) fun H1 h1 => ⟨_, rfl, pick5_spec (by decide) ⟨_, rfl, ?_⟩⟩
  generalize pickI base 1000 = bb at *
  refine filled5_spec h1 g (i := 0) rfl hw z0 (by omega) fun q d bs z H3 hs hbl hnx h3 => ⟨_, rfl, br_f rfl (br_f rfl (next5_spec (i := 0) h3 rfl hs.len ⟨_, rfl, ?_⟩))⟩
  have hn0 := hs.chain.next_ge
  rw [wrap64_id (n := nextB bb bs - bb) (by omega) (by omega), wrap64_id (n := nextB bb bs - bb + 2) (by omega) (by omega)]
  obtain ⟨o0, o1⟩ := pickI_in (c := off) (n := nextB bb bs - bb + 2) (by omega) ho.1 ho.2
  obtain ⟨m0, m1⟩ := pickI_in (c := most) (n := 3000) (by decide) hm.1 hm.2
  refine pick5_spec (by omega) ⟨_, rfl, pick5_spec (by decide) ⟨_, rfl, ?_⟩⟩
  rw [wrap64_id (n := bb + pickI off (nextB bb bs - bb + 2)) (by omega) (by omega)]
  generalize hoff : bb + pickI off (nextB bb bs - bb + 2) = o at *
  generalize pickI most 3000 = ms at *
  have hln := lenB_sixty hs (by omega)
  have hfew := hs.few
  refine read5_spec (i := 0) (j := 1) h3 rfl rfl hs (by omega) fun l1 H7 s7 h7 => ⟨l1, rfl, next5_spec (i := 1) h7 rfl hs.len ⟨_, rfl, ?_⟩⟩
  unfold readB at h7
  rw [if_neg (by omega)] at h7
  refine br_intro (fun w => ?_) (fun w => ?_)
  · have w := of_decide_eq_true w
    rw [read_nil hs.chain w] at h7
    have hl1 := (btl_bts (h7.read 0 rfl btl_mono) (fun b hb => (by cases hb)) (show ([] : List Ba).length ≤ 1000000 by decide)).len
    have e : l1.n = 0 := hl1
    rw [e]
    exact k H7 (h7.sub 3 rfl)
  have w := of_decide_eq_false w
  obtain ⟨x, r, hd, hx0, hx1, hch, hnxt⟩ := read_head (off := o) hs.chain (by omega) (by omega)
  rw [hd] at h7
  obtain ⟨r', hr'⟩ := takeB_one (most := ms) (s := 0) (b := x) (l := r)
  have hpre := takeB_prefix ms (x :: r) 0 false
  rw [hr'] at h7 hpre
  have hsuf : ∀ y ∈ x :: r, y ∈ bs := fun y hy => by
    rw [← hd] at hy
    exact (List.dropWhile_suffix _).subset hy
  have hsl : (x :: r).length ≤ bs.length := by
    have := (List.dropWhile_suffix (fun b : Ba => decide (endB b ≤ o)) (l := bs)).length_le
    rw [hd] at this; exact this
  have hfr : FewB (x :: r) := fun y hy => hfew y (hsuf y hy)
  have hfr' : FewB (x :: r') := fun y hy => hfr y (hpre.subset hy)
  have hpl := hpre.length_le
  refine read5_spec (i := 1) (j := 2) h7 rfl rfl hs (by decide) fun l2 H9 s9 h9 => ⟨l2, rfl, ?_⟩
  have hlx : lenB (x :: r) ≤ lenB bs := by
    have hdl := dropWhile_len (fun b => decide (endB b ≤ o)) bs
    rw [hd] at hdl
    have e := congrArg lenB (List.take_append_drop (bs.takeWhile fun b => decide (endB b ≤ o)).length bs)
    rw [← hdl, lenB_app] at e
    omega
  unfold readB at h9
  rw [if_neg (by omega), hd, takeB_all _ _ _ _ (by omega)] at h9
  have hB1 : Bts H9 l1 (x :: r') := btl_bts (h9.read 1 rfl btl_mono) hfr' (by omega)
  have hB2 : Bts H9 l2 (x :: r) := btl_bts (h9.read 0 rfl btl_mono) hfr (by omega)
  have hn1 := hB1.len
  have hn2 := hB2.len
  have hn1p : 0 < l1.n := by rw [hn1]; simp
  refine br_f (by simp; omega) ?_
  obtain ⟨q1, o2, b1, sl1, e1, e2, e3, e4⟩ := hB1.at_ (j := 0) (Int.le_refl _) (by omega)
  have e2 : some x = some b1 := e2
  cases e2
  have hsl1 := e3.len
  have hf1 := hfr x (by simp)
  have hbx := hs.chain.all x (hsuf x (by simp))
  have hkx := right_facts hbx
  have hbb := hkx.base
  refine ⟨q1, o2, e1, by decide, by omega, _, e4 0 _ rfl, br_f (decide_eq_false (show ¬ x.base > o by omega)) ⟨q1, o2, e1, by decide, by omega, _, e4 0 _ rfl, q1, o2, e1, by decide, by omega, sl1, e4 5 _ rfl, ?_⟩⟩
  have hex : endB x = x.base + (x.recs.length : Nat) := rfl
  rw [wrap64_id (n := x.base + (sl1.n : Nat)) (by omega) (by omega)]
  have hcap : l2.n ≤ l2.c := by
    obtain ⟨ps, -, hR, -⟩ := hB2
    exact hR.cap
  refine br_f (decide_eq_false (by omega)) (br_f (decide_eq_false (by omega)) ⟨by omega, by omega, ?_⟩)
  have hup := hB2.upto (j := (l1.n : Int)) (by omega) (by omega)
  have htk : (x :: r).take ((l1.n : Nat) : Int).toNat = x :: r' := by
    rw [Int.toNat_natCast, hn1]
    exact (List.prefix_iff_eq_take.1 hpre).symm
  rw [htk] at hup
  refine same_true (s := l1) (t := l2.upto (l1.n : Int) 6) hB1 hup (by omega) ⟨_, rfl, ?_⟩
  refine ⟨fun i H' => H' = H9 ∧ 1 ≤ i ∧ i ≤ l2.n, fun i _ => ((l2.n : Int) - i).toNat, ⟨rfl, Int.le_refl _, by omega⟩, ?_⟩
  rintro i H11 ⟨rfl, i0, i1⟩
  have at_ : ∀ {j : Int}, 0 ≤ j → j < l2.n → ∃ (q o : Nat) (b : Ba) (sl : Sl), l2.p = some ⟨q, o, none⟩ ∧ (x :: r)[j.toNat]? = some b ∧ sl.n = b.recs.length ∧ 0 ≤ b.base ∧ b.base ≤ 1000000000 ∧ b.recs.length ≤ 64 ∧ ∀ (f : Nat) (v : Value), (eBt (b, sl))[f]? = some v → cellH H11 ⟨q, o + j.toNat * 6 + f, none⟩ = some v := fun {j} j0 j1 => by
    obtain ⟨q, o, b, sl, f1, f2, f3, f4⟩ := hB2.at_ j0 j1
    have hkb := right_facts (hs.chain.all b (hsuf b (List.mem_of_getElem? f2)))
    exact ⟨q, o, b, sl, f1, f2, f3.len, hkb.base.1, hkb.base.2, hkb.few, f4⟩
  refine br_intro (fun u => ?_) (fun u => ?_)
  · have u := of_decide_eq_true u
    obtain ⟨qa, oa, ba, sa, a1, a2, a3, a4, a5, a6, a7⟩ := at_ (j := i) (by omega) u
    obtain ⟨qc, oc, bc, sc, c1, c2, c3, c4, c5, c6, c7⟩ := at_ (j := i - 1) (by omega) (by omega)
    rw [wrap64_id (n := i - 1) (by omega) (by omega), wrap64_id (n := i + 1) (by omega) (by omega)]
    have hst := hch.step (j := (i - 1).toNat) c2 (by rw [show (i - 1).toNat + 1 = i.toNat by omega]; exact a2)
    refine ⟨qa, oa, a1, by omega, u, _, a7 0 _ rfl, qc, oc, c1, by omega, by omega, _, c7 0 _ rfl, qc, oc, c1, by omega, by omega, sc, c7 5 _ rfl, ?_⟩
    rw [wrap64_id (n := bc.base + (sc.n : Nat)) (by omega) (by omega)]
    have hec : endB bc = bc.base + (bc.recs.length : Nat) := rfl
    exact br_f (by simp; omega) ⟨rfl, ⟨rfl, by omega, by omega⟩, by dsimp only; omega⟩
  · have u := of_decide_eq_false u
    rw [wrap64_id (n := (l2.n : Int) - 1) (by omega) (by omega)]
    obtain ⟨qa, oa, ba, sa, a1, a2, a3, a4, a5, a6, a7⟩ := at_ (j := (l2.n : Int) - 1) (by omega) (by omega)
    refine ⟨qa, oa, a1, by omega, by omega, _, a7 0 _ rfl, _, a7 1 _ rfl, _, a7 2 _ rfl, _, a7 3 _ rfl, _, a7 4 _ rfl, sa, a7 5 _ rfl, br_t rfl (next5_spec (i := 2) h9 rfl hs.len ⟨_, rfl, HL.Sub.refl _, ?_⟩)⟩
    rw [wrap64_id (n := ba.base + (sa.n : Nat)) (by omega) (by omega)]
    have hlast : nextB bb bs = ba.base + (sa.n : Nat) := by
      rw [hnxt]
      unfold nextB
      have ej : ((l2.n : Int) - 1).toNat = (x :: r).length - 1 := by omega
      rw [List.getLast?_eq_getElem?, ← ej, a2]
      show endB ba = _
      unfold endB
      rw [a3]
    rw [hlast]
    simp only [beq_self_eq_true]
    exact k H11 (h9.sub 4 rfl)
end
end Go.Proofs.YtokceblmbmajgaaDoor
