/- Chapter 5: SegmentFull: the walk. -/
import Derived.Test.YtokceblmbmajgaaDoorL2
import Derived.Test.YtokceblmbmajgaaDoorV7
namespace Go.Proofs.YtokceblmbmajgaaDoor
open Go Go.HL
set_option maxHeartbeats 3200000
set_option maxRecDepth 10000

theorem small_app2 {size base : Int} {bs : List Ba} {n : Nat} (h : SegOk base bs) (n0 : 1 ≤ n) (n1 : n ≤ 64) (he : nextB base bs + n ≤ 1000000000) (hl : bs.length < 4096) :
    (appB size base bs (smallB (nextB base bs) n) = 0 ∧ SegOk base (bs ++ [smallB (nextB base bs) n])) ∨ appB size base bs (smallB (nextB base bs) n) = 7 := by
  by_cases hr : ((lenB bs + flen (smallB (nextB base bs) n) : Nat) : Int) ≤ size
  · exact .inl (small_app h n0 n1 he hl hr)
  · right
    have h0 := h.next0
    have hrt := small_right (n := n) h0 (by omega) n0 n1
    have hend := small_end (nextB base bs) n
    unfold appB
    rw [if_neg (fun z => z hrt), if_neg (fun z => z rfl), if_neg (by omega), if_neg (by omega), if_pos (by omega)]
section
variable {K : Value → Heap → Prop}
theorem full5 {H0 : Heap} {size : Int} {sizes : Sl} {L : List Int} (hb : i64B size) (hI : Ints H0 sizes L) (hw : ∀ n ∈ L, -9223372036854775808 ≤ n ∧ n ≤ 9223372036854775807) (k : ∀ H', HL.Sub H0 H' → K (.bool true) H') :
    FnH Tryd.prog 6 #[.int .i64 size, .slice sizes.p sizes.n sizes.c] H0 K := by
  apply logboomlaw5_SegmentFull_fn
  unfold logboomlaw5_SegmentFull_vc
  have hIl := hI.len
  have hbig := hI.big
  obtain ⟨z0, z1⟩ := pickI_in (c := size) (n := 2000) (by decide) hb.1 hb.2
  refine shown5_spec (Holds.whole H0) fun H1 h1 => ⟨_, rfl, pick5_spec (by decide) ⟨_, rfl, ?_⟩⟩
  rw [wrap64_id (n := 1 + pickI size 2000) (by omega) (by omega)]
  obtain ⟨sz, hsz⟩ : ∃ sz, 1 + pickI size 2000 = sz := ⟨_, rfl⟩
  rw [hsz]
  refine dnew_spec h1 (fun q => by omega) fun _ _ d H3 h3 => ⟨_, _, rfl, br_f rfl (br_f rfl (br_f rfl (open_new h3 (by decide) (by decide) fun q H4 h4 => ⟨_, _, _, rfl, br_f rfl (br_f rfl ?_)⟩)))⟩
  refine ⟨fun m H' => 0 ≤ m ∧ m ≤ 60 ∧ ∃ (bs : List Ba) (z : Int), SegOk 7 bs ∧ (bs.length : Int) ≤ m ∧ nextB 7 bs ≤ 7 + 30 * m ∧ HL.Holds (sgc q d 7 bs :: dsk d sz (F1 (fB bs) z) :: [ro H0]) H', fun m _ => (60 - m).toNat,
    ⟨Int.le_refl _, by decide, [], 0, SegOk.nil (by decide) (by decide), Int.le_refl _, by decide, h4⟩, ?_⟩
  clear h1 h3 h4
  rintro m H5 ⟨m0, m1, bs, z, hs, hbl, hnx, h5⟩
  refine br_intro (fun w => br_intro (fun w2 => ?_) (fun _ => k H5 (h5.sub 2 rfl))) (fun _ => k H5 (h5.sub 2 rfl))
  have w := of_decide_eq_true w
  have w2 := of_decide_eq_true w2
  have hn0 := hs.next0
  obtain ⟨y1, y2, y3, y4⟩ := dsk_safe (h5.pull 1 rfl)
  rw [fB_size] at y2 y3
  refine read5_spec (i := 0) (j := 1) h5 rfl rfl hs (by decide) fun l1 H6 s6 h6 => ⟨l1, rfl, ?_⟩
  rw [read_all hs (by omega)] at h6
  obtain ⟨q1, o1, p1, p2, p3, p4⟩ := (hI.sub (h6.sub 3 rfl)).at_ m0 w
  have hm : L.getD m.toNat 0 ∈ L := getD_mem m0 (by omega)
  obtain ⟨v0, v1⟩ := pickI_in (c := L.getD m.toNat 0) (n := 30) (by decide) (hw _ hm).1 (hw _ hm).2
  obtain ⟨nn, hnn⟩ : ∃ nn : Nat, 1 + pickI (L.getD m.toNat 0) 30 = (nn : Int) := ⟨(1 + pickI (L.getD m.toNat 0) 30).toNat, by omega⟩
  have hfl := flen_small (n := nn) hs (by omega) (by omega) (by omega)
  have ew : IntKind.wrap .i64 (1 + pickI (L.getD m.toNat 0) 30) = (nn : Int) := by rw [wrap64_id (by omega) (by omega), hnn]
  rw [wrap64_id (n := m + 1) (by omega) (by omega)]
  have happ := small_app2 (size := sz) (n := nn) hs (by omega) (by omega) (by omega) (by omega)
  have hsend := small_end (nextB 7 bs) nn
  have hsm0 : ∀ {X : Value → Heap → Prop}, (∀ (s : Sl) H', HL.Sub H6 H' → HL.Holds (ownR s (smallB (nextB 7 bs) nn).recs :: btl l1 bs :: sgc q d 7 bs :: dsk d sz (F1 (fB bs) z) :: [ro H0]) H' → X (.agg #[.int .i64 (smallB (nextB 7 bs) nn).base, .int .i64 (smallB (nextB 7 bs) nn).epoch, .int .i64 (smallB (nextB 7 bs) nn).pid, .int .i64 (smallB (nextB 7 bs) nn).pe, .int .i64 (smallB (nextB 7 bs) nn).seq, .slice s.p s.n s.c]) H') →
      FnH Tryd.prog 11 #[.int .i64 (nextB 7 bs), .int .i64 (nn : Nat)] H6 X := fun kk => small5_spec (n := nn) h6 (by omega) kk
  obtain ⟨b, hbe⟩ : ∃ b, smallB (nextB 7 bs) nn = b := ⟨_, rfl⟩
  rw [hbe] at hsm0
  have hrl : b.recs.length ≤ 1000000 := by rw [← hbe]; show (List.replicate nn vr).length ≤ _; rw [List.length_replicate]; omega
  have hsm := fun {X : Value → Heap → Prop} (kk : ∀ (s : Sl) H', HL.Sub H6 H' → HL.Holds (ownR s b.recs :: btl l1 bs :: sgc q d 7 bs :: dsk d sz (F1 (fB bs) z) :: [ro H0]) H' → X (.agg #[.int .i64 b.base, .int .i64 b.epoch, .int .i64 b.pid, .int .i64 b.pe, .int .i64 b.seq, .slice s.p s.n s.c]) H') => hsm0 (X := X) kk
  rw [hbe] at happ hsend
  refine ⟨q1, o1, p1, p2, w, _, p4, ?_⟩
  refine ⟨next5_spec (i := 1) h6 rfl hs.len ⟨_, rfl, HL.Sub.refl _, pick5_spec (by decide) ⟨_, rfl, HL.Sub.refl _, ?_⟩, HL.Sub.refl _, pick5_spec (by decide) ⟨_, rfl, HL.Sub.refl _, ?_⟩⟩, HL.Sub.refl _, next5_spec (i := 1) h6 rfl hs.len ⟨_, rfl, HL.Sub.refl _, pick5_spec (by decide) ⟨_, rfl, HL.Sub.refl _, ?_⟩⟩⟩
  rw [ew]
  refine ⟨hsm fun l2 H9 s9 h9 => ⟨_, _, _, _, _, l2, rfl, s9, s9, ?_⟩, HL.Sub.refl _, hsm fun l2 H9 s9 h9 => ⟨_, _, _, _, _, l2, rfl, s9, ?_⟩⟩
  rotate_left 2
  rw [ew]
  refine hsm fun l2 H9 s9 h9 => ⟨_, _, _, _, _, l2, rfl, s9, ?_⟩
  rotate_left 1
  rw [ew]
  refine hsm fun l2 H9 s9 h9 => ⟨_, _, _, _, _, l2, rfl, s9, ?_⟩
  all_goals
    have h10 : HL.Holds (sgc q d 7 bs :: dsk d sz (F1 (fB bs) z) :: ownR l2 b.recs :: btl l1 bs :: [ro H0]) H9 := (h9.pull 3 rfl).pull 3 rfl
    refine append5_spec (b := b) (i := 0) h10 hs (ownR_gives hrl) rfl fun H10 h11 => ⟨_, rfl, ?_⟩
    obtain ⟨bs', hbs', o', hbl', hnx', hcase⟩ : ∃ bs', appL sz 7 bs b = bs' ∧ SegOk 7 bs' ∧ (bs'.length : Int) ≤ m + 1 ∧ nextB 7 bs' ≤ 7 + 30 * (m + 1) ∧ ((appB sz 7 bs b = 0 ∧ bs' = bs ++ [b]) ∨ (appB sz 7 bs b = 7 ∧ bs' = bs)) := by
      refine ⟨_, rfl, ?_⟩
      unfold appL
      rcases happ with ⟨e, o⟩ | e
      · rw [if_pos e]
        exact ⟨o, by rw [List.length_append]; simp; omega, by rw [nextB_snoc]; omega, .inl ⟨e, rfl⟩⟩
      · rw [e, if_neg (by decide)]
        exact ⟨hs, by omega, by omega, .inr ⟨rfl, rfl⟩⟩
    rw [hbs'] at h11
    obtain ⟨x1, x2, x3, x4⟩ := dsk_safe (h11.pull 1 rfl)
    rw [fB_size] at x2 x3
    refine read5_spec (i := 0) (j := 1) h11 rfl rfl o' (by decide) fun l3 H11 s11 h12 => ⟨l3, rfl, ?_⟩
    rw [read_all o' (by omega)] at h12
    refine ⟨fun was H' => HL.Holds (btl was bs' :: btl l3 bs' :: sgc q d 7 bs' :: dsk d sz (F1 (fB bs') z) :: [ro H0]) H', ?_, ?_⟩
    · rcases hcase with ⟨e, rfl⟩ | ⟨e, rfl⟩
      · rw [e]
        have h13 : HL.Holds (btl l1 bs :: ownR l2 b.recs :: btl l3 (bs ++ [b]) :: sgc q d 7 (bs ++ [b]) :: dsk d sz (F1 (fB (bs ++ [b])) z) :: [ro H0]) H11 := (h12.pull 3 rfl).pull 4 rfl
        exact br_t rfl (btl_push h13 (by omega) fun l4 H13 h14 => ⟨l4, rfl, rfl, h14⟩)
      · rw [e]
        have h13 : HL.Holds (btl l1 bs' :: btl l3 bs' :: sgc q d 7 bs' :: dsk d sz (F1 (fB bs') z) :: ownR l2 b.recs :: [ro H0]) H11 := h12.pull 4 rfl
        exact br_f rfl (br_f rfl ⟨rfl, ((h13.pull 4 rfl).tail)⟩)
    rintro was H14 h14
    have hBn : Bts H14 l3 bs' := btl_bts (h14.read 1 rfl btl_mono) o'.few (by omega)
    have hBw : Bts H14 was bs' := btl_bts (h14.read 0 rfl btl_mono) o'.few (by omega)
    refine same_true hBn hBw (by omega) ⟨_, rfl, fun H' => HL.Holds (sgc q d 7 bs' :: dsk d sz (F1 (fB bs') (lenB bs' : Nat)) :: btl was bs' :: [ro H0]) H', br_f rfl ?_, ?_⟩
    · have h15 : HL.Holds (sgc q d 7 bs' :: dsk d sz (F1 (fB bs') z) :: btl was bs' :: [ro H0]) H14 := ((h14.pull 1 rfl).tail).down 2
      exact sync5_spec h15 fun H16 h16 => ⟨_, rfl, br_f rfl ⟨rfl, h16⟩⟩
    rintro H17 h17
    refine dclone_spec (h17.pull 1 rfl) fun d' H18 h18 s18 => ⟨_, rfl, br_f rfl ?_⟩
    have h18 : HL.Holds (dsk d' sz (F1 (fB bs') (lenB bs' : Nat)) :: dsk d sz (F1 (fB bs') (lenB bs' : Nat)) :: sgc q d 7 bs' :: btl was bs' :: [ro H0]) H18 := h18
    have gk : Gives (ro H0) fun A => Ints A ⟨none, 0, 0⟩ [] := ⟨ro_mono H0, fun A hA => Ints.nil A⟩
    refine crash_spec (keep := ⟨none, 0, 0⟩) (L := []) (i := 3) h18 gk rfl (by simp) fun H19 h19 => ⟨rfl, ?_⟩
    obtain ⟨n, n0, n1, hcr⟩ := crash1 [] (b := fB bs') (z := (lenB bs' : Nat)) (by omega) (by rw [fB_size]; omega) (by simp)
    rw [fB_size] at n1
    have hn : n = lenB bs' := by omega
    have hex : (fB bs').extract 0 (lenB bs') = fB bs' := by
      have := fB_extract bs' ⟨#[]⟩
      have e : fB bs' ++ (⟨#[]⟩ : ByteArray) = fB bs' := ByteArray.append_empty
      rw [e] at this; exact this
    rw [hcr, hn, hex] at h19
    have hF : F1 (fB bs') (lenB bs' : Nat) = F1 (strN (bs'.flatMap frameB ++ [])) (lenB bs' : Nat) := by rw [List.append_nil]
    refine open5_spec (z := (lenB bs' : Nat)) (bs := bs') (tail := []) h19 (.inr hF) o' (.inl rfl) fun q2 H20 h20 => ⟨_, _, _, rfl, br_f rfl (br_f rfl ?_)⟩
    have h20 : HL.Holds (sgc q2 d' 7 bs' :: dsk d' sz (F1 (fB bs') (lenB bs' : Nat)) :: dsk d sz (F1 (fB bs') (lenB bs' : Nat)) :: sgc q d 7 bs' :: btl was bs' :: [ro H0]) H20 := h20
    refine read5_spec (i := 0) (j := 1) h20 rfl rfl o' (by decide) fun l5 H21 s21 h21 => ⟨l5, rfl, ?_⟩
    rw [read_all o' (by omega)] at h21
    have hB5 : Bts H21 l5 bs' := btl_bts (h21.read 0 rfl btl_mono) o'.few (by omega)
    have hBw2 : Bts H21 was bs' := btl_bts (h21.read 5 rfl btl_mono) o'.few (by omega)
    refine same_true hB5 hBw2 (by omega) ⟨_, rfl, br_f rfl ⟨rfl, ⟨by omega, by omega, bs', ((lenB bs' : Nat) : Int), o', hbl', hnx', ?_⟩, by dsimp only; omega⟩⟩
    have h22 : HL.Holds (dsk d sz (F1 (fB bs') (lenB bs' : Nat)) :: sgc q d 7 bs' :: btl was bs' :: [ro H0]) H21 := h21.tail.tail.tail
    exact ((h22.swap).pull 2 rfl).tail
end
end Go.Proofs.YtokceblmbmajgaaDoor
