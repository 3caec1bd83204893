/- Chapter 5: SegmentIndex: the walk. -/
import Derived.Test.YtokceblmbmajgaaDoorL2
import Derived.Test.YtokceblmbmajgaaDoorV6
namespace Go.Proofs.YtokceblmbmajgaaDoor
open Go Go.HL
set_option maxHeartbeats 3200000
set_option maxRecDepth 10000

theorem ixE_nil (bs : List Ba) : ixE bs = [] ↔ bs = [] := by
  constructor
  · intro h
    unfold ixE at h
    rw [List.map_eq_nil_iff] at h
    exact Decidable.byContradiction fun z => by
      cases bs with
      | nil => exact z rfl
      | cons b l => exact (idxI_ok (froms 0 (b :: l))).some_ (by simp [froms]) h
  · rintro rfl; rfl
theorem ixE_at {bs : List Ba} {i : Nat} {e : En} (h : (ixE bs)[i]? = some e) : ∃ (m : Nat) (b : Ba), (idxI (froms 0 bs))[i]? = some m ∧ bs[m]? = some b ∧ e = (((lenB (bs.take m) : Nat) : Int), b.base, ⟨#[]⟩) := by
  unfold ixE at h
  rw [List.getElem?_map] at h
  cases hm : (idxI (froms 0 bs))[i]? with
  | none => rw [hm] at h; cases h
  | some m =>
    rw [hm] at h
    have hml := idxI_lt _ m (List.mem_of_getElem? hm)
    rw [froms_len] at hml
    obtain ⟨b, hb⟩ : ∃ b, bs[m]? = some b := ⟨_, List.getElem?_eq_getElem hml⟩
    refine ⟨m, b, rfl, hb, ?_⟩
    have h : some (ixE1 bs m) = some e := h
    cases h
    unfold ixE1
    rw [hb]
theorem ixE_rise {base : Int} {bs : List Ba} (hs : SegOk base bs) {i : Nat} {a b : En} (ha : (ixE bs)[i]? = some a) (hb : (ixE bs)[i + 1]? = some b) : a.2.1 < b.2.1 ∧ a.1 + 256 ≤ b.1 := by
  obtain ⟨m, x, h1, h2, rfl⟩ := ixE_at ha
  obtain ⟨n, y, g1, g2, rfl⟩ := ixE_at hb
  obtain ⟨u1, u2⟩ := (idxI_ok (froms 0 bs)).up _ _ _ h1 g1
  have hm := (List.getElem?_eq_some_iff.1 h2).1
  have hn := (List.getElem?_eq_some_iff.1 g2).1
  have e1 : (froms 0 bs).getD m 0 = lenB (bs.take m) := by rw [List.getD, froms_at bs 0 m hm]; simp
  have e2 : (froms 0 bs).getD n 0 = lenB (bs.take n) := by rw [List.getD, froms_at bs 0 n hn]; simp
  rw [e1, e2] at u2
  have h3 := hs.chain.lt h2 g2 u1
  have h4 := (hs.chain.at_ h2).2.2.1
  have h5 : endB x = x.base + (x.recs.length : Nat) := rfl
  exact ⟨by show x.base < y.base; omega, by show ((lenB (bs.take m) : Nat) : Int) + 256 ≤ (lenB (bs.take n) : Nat); omega⟩
section
variable {K : Value → Heap → Prop}
theorem index5 {H0 : Heap} {sizes : Sl} {L : List Int} (hI : Ints H0 sizes L) (hw : ∀ n ∈ L, -9223372036854775808 ≤ n ∧ n ≤ 9223372036854775807) (k : ∀ H', HL.Sub H0 H' → K (.bool true) H') :
    FnH Tryd.prog 5 #[.slice sizes.p sizes.n sizes.c] H0 K := by
  apply logboomlaw5_SegmentIndex_fn
  unfold logboomlaw5_SegmentIndex_vc
  have hIl := hI.len
  have hbig := hI.big
  refine shown5_spec (Holds.whole H0) fun H1 h1 => ⟨_, rfl, dnew_spec h1 (fun q => by omega) fun _ _ d H2 h2 => ⟨_, _, rfl, br_f rfl (br_f rfl (br_f rfl (open_new h2 (by decide) (by decide) fun q H3 h3 => ⟨_, _, _, rfl, br_f rfl (br_f rfl ?_)⟩)))⟩⟩
  refine ⟨fun H' => ∃ bs z, SegOk 3 bs ∧ bs.length ≤ 60 ∧ (bs = [] ↔ sizes.n = 0) ∧ HL.Holds (sgc q d 3 bs :: dsk d 2000000 (F1 (fB bs) z) :: [ro H0]) H', ⟨fun m H' => 0 ≤ m ∧ m ≤ 60 ∧ m ≤ sizes.n ∧ ∃ bs z, SegOk 3 bs ∧ (bs.length : Int) = m ∧ nextB 3 bs ≤ 3 + 30 * m ∧ HL.Holds (sgc q d 3 bs :: dsk d 2000000 (F1 (fB bs) z) :: [ro H0]) H', fun m _ => (60 - m).toNat, ⟨Int.le_refl _, by decide, by omega, [], 0, SegOk.nil (by decide) (by decide), rfl, by decide, h3⟩, ?_⟩, ?_⟩
  · rintro m H3 ⟨m0, m1, m2, bs, z, hs, hbl, hnx, h3⟩
    refine br_intro (fun w => br_intro (fun w2 => ?_) (fun w2 => ⟨rfl, bs, z, hs, by omega, ?_, h3⟩)) (fun w => ⟨rfl, bs, z, hs, by omega, ?_, h3⟩)
    · have w := of_decide_eq_true w
      have w2 := of_decide_eq_true w2
      have hI3 := hI.sub (h3.sub 2 rfl)
      obtain ⟨q1, o1, p1, p2, p3, p4⟩ := hI3.at_ m0 w
      have hm : L.getD m.toNat 0 ∈ L := getD_mem m0 (by omega)
      obtain ⟨y0, y1⟩ := pickI_in (c := L.getD m.toNat 0) (n := 30) (by decide) (hw _ hm).1 (hw _ hm).2
      obtain ⟨nn, hnn⟩ : ∃ nn : Nat, 1 + pickI (L.getD m.toNat 0) 30 = (nn : Int) := ⟨(1 + pickI (L.getD m.toNat 0) 30).toNat, by omega⟩
      have hln := lenB_sixty hs (by omega)
      have hfl := flen_small (n := nn) hs (by omega) (by omega) (by omega)
      refine ⟨fun b H' => b = false ∧ 0 ≤ m + 1 ∧ m + 1 ≤ 60 ∧ m + 1 ≤ sizes.n ∧ ∃ bs z, SegOk 3 bs ∧ (bs.length : Int) = m + 1 ∧ nextB 3 bs ≤ 3 + 30 * (m + 1) ∧ HL.Holds (sgc q d 3 bs :: dsk d 2000000 (F1 (fB bs) z) :: [ro H0]) H', ⟨q1, o1, p1, m0, w, _, p4, next5_spec (i := 0) h3 rfl hs.len ⟨_, rfl, HL.Sub.refl _, pick5_spec (by decide) ⟨_, rfl, HL.Sub.refl _, ?_⟩⟩⟩, ?_⟩
      · rw [wrap64_id (n := 1 + pickI (L.getD m.toNat 0) 30) (by omega) (by omega), hnn]
        refine small5_spec (n := nn) h3 (by omega) fun l1 H6 s6 h6 => ⟨_, _, _, _, _, l1, rfl, s6, append_small (n := nn) h6 hs rfl (by omega) (by omega) (by omega) (by omega) (by omega) fun H7 o7 h7 => ⟨_, rfl, rfl, rfl, by omega, by omega, by omega, bs ++ [smallB (nextB 3 bs) nn], z, o7, by rw [List.length_append]; simp; omega, ?_, (h7.pull 2 rfl).tail⟩⟩
        rw [nextB_snoc, small_end]
        omega
      · rintro b H8 ⟨rfl, h8⟩
        rw [wrap64_id (n := m + 1) (by omega) (by omega)]
        exact br_f rfl ⟨rfl, h8, by dsimp only; omega⟩
    · have w := of_decide_eq_true w
      have w2 := of_decide_eq_false w2
      constructor
      · rintro rfl; simp at hbl; omega
      · intro e; omega
    · have w := of_decide_eq_false w
      constructor
      · rintro rfl; simp at hbl; omega
      · intro e; exact List.eq_nil_of_length_eq_zero (by omega)
  rintro H4 ⟨bs, z, hs, hbl, hemp, h4⟩
  refine index5_spec (i := 0) h4 rfl hs.len fun l2 H10 s10 h10 => ⟨l2, rfl, ?_⟩
  have hil := ixV_len bs
  rw [List.length_map] at hil
  have hR : Recs eE H10 l2 (ixE bs) := Own.recs eElen (by decide) (h10.own 0 rfl) (by rw [ixE, List.length_map]; omega)
  have hn := hR.len
  have hz : l2.n = 0 ↔ sizes.n = 0 := by
    rw [hn, ← hemp, ← ixE_nil]
    exact List.length_eq_zero_iff
  have hbd : ∀ {i : Nat} {e : En}, (ixE bs)[i]? = some e → 0 ≤ e.1 ∧ e.1 ≤ 300000 ∧ 0 ≤ e.2.1 ∧ e.2.1 ≤ 1000000000 := fun {i e} he => by
    obtain ⟨m, b, -, g2, rfl⟩ := ixE_at he
    have hln := lenB_sixty hs (by omega)
    have hle := lenB_take_mono bs (i := m) (j := bs.length) (by have := (List.getElem?_eq_some_iff.1 g2).1; omega)
    rw [List.take_length] at hle
    have hkb := (right_facts (hs.chain.all b (List.mem_of_getElem? g2))).base
    exact ⟨by show (0 : Int) ≤ (lenB (bs.take m) : Nat); omega, by show ((lenB (bs.take m) : Nat) : Int) ≤ _; omega, hkb.1, hkb.2⟩
  refine ⟨fun H' => H' = H10, br_f ?_ (br_intro (fun w => ?_) (fun _ => ⟨rfl, rfl⟩)), ?_⟩
  · by_cases e : l2.n = 0
    · have e2 := hz.1 e
      rw [e, e2]; rfl
    · have e2 : ¬ sizes.n = 0 := fun z => e (hz.2 z)
      have a1 : ((l2.n : Nat) : Int) ≠ 0 := by omega
      have a2 : ((sizes.n : Nat) : Int) ≠ 0 := by omega
      rw [beq_false_of_ne a1, beq_false_of_ne a2]; rfl
  · have w := of_decide_eq_true w
    obtain ⟨q1, o1, x, x1, x2, x3⟩ := hR.at_ eElen (by decide) (j := 0) (Int.le_refl _) (by omega)
    have x2 : (ixE bs)[0]? = some x := x2
    obtain ⟨m, b, g1, g2, rfl⟩ := ixE_at x2
    have hm0 := (idxI_ok (froms 0 bs)).zero m g1
    subst hm0
    have hb := (hs.chain.at_ g2).1
    rw [List.take_zero, nextB_nil] at hb
    exact ⟨q1, o1, x1, by decide, by omega, _, x3 1 _ rfl, br_f (show (b.base != 3) = false by rw [hb]; rfl) ⟨q1, o1, x1, by decide, by omega, _, x3 0 _ rfl, br_f (show (((lenB (bs.take 0) : Nat) : Int) != 0) = false by rw [List.take_zero]; rfl) ⟨rfl, rfl⟩⟩⟩
  rintro H11 rfl
  refine ⟨fun i H' => H' = H11 ∧ 1 ≤ i, fun i _ => ((l2.n : Int) - i).toNat, ⟨rfl, Int.le_refl _⟩, ?_⟩
  rintro i H12 ⟨rfl, i0⟩
  refine br_intro (fun w => ?_) (fun w => ?_)
  · have w := of_decide_eq_true w
    obtain ⟨qa, oa, a, a1, a2, a3⟩ := hR.at_ eElen (by decide) (j := i) (by omega) w
    obtain ⟨qb, ob, b, b1, b2, b3⟩ := hR.at_ eElen (by decide) (j := i - 1) (by omega) (by omega)
    obtain ⟨r1, r2⟩ := ixE_rise hs b2 (by rw [show (i - 1).toNat + 1 = i.toNat by omega]; exact a2)
    obtain ⟨d1, d2, d3, d4⟩ := hbd b2
    have hcap := hR.big
    rw [wrap64_id (n := i - 1) (by omega) (by omega), wrap64_id (n := i + 1) (by omega) (by omega)]
    refine ⟨qa, oa, a1, by omega, w, _, a3 1 _ rfl, qb, ob, b1, by omega, by omega, _, b3 1 _ rfl, br_f (decide_eq_false (by omega)) ⟨qa, oa, a1, by omega, w, _, a3 0 _ rfl, qb, ob, b1, by omega, by omega, _, b3 0 _ rfl, ?_⟩⟩
    rw [wrap64_id (n := b.1 + 256) (by omega) (by omega)]
    exact br_f (decide_eq_false (by omega)) ⟨rfl, ⟨rfl, by omega⟩, by dsimp only; omega⟩
  · have hF : F1 (fB bs) z = F1 (strN (bs.flatMap frameB ++ [])) z := by rw [List.append_nil]
    refine open5_spec (z := z) (bs := bs) (tail := []) (h10.pull 2 rfl) (.inr hF) hs (.inl rfl) fun q2 H14 h13 => ⟨_, _, _, rfl, br_f rfl (br_f rfl (br_f rfl ?_))⟩
    have h13 : HL.Holds (sgc q2 d 3 bs :: dsk d 2000000 (F1 (fB bs) (lenB bs : Nat)) :: ownE l2 (ixE bs) :: sgc q d 3 bs :: [ro H0]) H14 := h13
    refine index5_spec (i := 0) h13 rfl hs.len fun l3 H15 s15 h15 => ⟨l3, rfl, ?_⟩
    have hR3 : Recs eE H15 l3 (ixE bs) := Own.recs eElen (by decide) (h15.own 0 rfl) (by rw [ixE, List.length_map]; omega)
    have hR2 : Recs eE H15 l2 (ixE bs) := Own.recs eElen (by decide) (h15.own 3 rfl) (by rw [ixE, List.length_map]; omega)
    refine sameIndex_true hR3 hR2 ⟨_, rfl, br_t rfl (next5_spec (i := 1) h15 rfl hs.len ⟨_, rfl, next5_spec (i := 4) h15 rfl hs.len ⟨_, rfl, ?_⟩⟩)⟩
    simp only [beq_self_eq_true]
    exact k H15 (h15.sub 5 rfl)
end
end Go.Proofs.YtokceblmbmajgaaDoor
