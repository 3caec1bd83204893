/- Chapter 5: SegmentSurvives: the walk. -/
import Derived.Test.YtokceblmbmajgaaDoorL2
namespace Go.Proofs.YtokceblmbmajgaaDoor
open Go Go.HL
set_option maxHeartbeats 3200000
set_option maxRecDepth 10000

theorem nextB_app : ∀ (l m : List Ba) (b : Int), nextB b (l ++ m) = nextB (nextB b l) m
  | [], _, _ => rfl
  | a :: l, m, b => by rw [List.cons_append, nextB_cons, nextB_app l m, nextB_cons]
theorem next_take_mono {base : Int} {bs : List Ba} (h : Chain okR base bs) {j k : Nat} (hjk : j ≤ k) : nextB base (bs.take j) ≤ nextB base (bs.take k) := by
  have hk := h.take k
  have hd := hk.drop j
  have e : bs.take k = (bs.take k).take j ++ (bs.take k).drop j := (List.take_append_drop j (bs.take k)).symm
  have e2 : (bs.take k).take j = bs.take j := by rw [List.take_take, Nat.min_eq_left hjk]
  rw [e2] at hd
  rw [e, e2, nextB_app]
  exact hd.next_ge
section
variable {K : Value → Heap → Prop}
theorem survives5 {H0 : Heap} {sizes keep : Sl} {L M : List Int} {safe : Int} (hI : Ints H0 sizes L) (hw : ∀ n ∈ L, -9223372036854775808 ≤ n ∧ n ≤ 9223372036854775807) (hJ : Ints H0 keep M) (hv : ∀ n ∈ M, -9223372036854775808 ≤ n ∧ n ≤ 9223372036854775807) (k : ∀ H', HL.Sub H0 H' → K (.bool true) H') :
    FnH Tryd.prog 3 #[.slice sizes.p sizes.n sizes.c, .int .i64 safe, .slice keep.p keep.n keep.c] H0 K := by
  apply logboomlaw5_SegmentSurvives_fn
  unfold logboomlaw5_SegmentSurvives_vc
  have hIl := hI.len
  have hbig := hI.big
  obtain ⟨nm, hnm⟩ : ∃ nm : Int, (if 40 < ((sizes.n : Nat) : Int) then 40 else ((sizes.n : Nat) : Int)) = nm := ⟨_, rfl⟩
  have hnm0 : 0 ≤ nm ∧ nm ≤ 40 ∧ nm ≤ sizes.n := by rw [← hnm]; split <;> omega
  refine shown5_spec (Holds.whole H0) fun H1 h1 => ⟨_, rfl, dnew_spec h1 (fun q => by omega) fun _ _ d H2 h2 => ⟨_, _, rfl, br_f rfl (br_f rfl (br_f rfl (open_new h2 (by decide) (by decide) fun q H3 h3 => ⟨_, _, _, rfl, br_f rfl (br_f rfl ?_)⟩)))⟩⟩
  rw [hnm]
  refine ⟨fun all syn m H' => 0 ≤ m ∧ m ≤ nm ∧ ∃ (bs : List Ba) (js : Nat), SegOk 0 bs ∧ (bs.length : Int) = m ∧ nextB 0 bs ≤ 20 * m ∧ js ≤ bs.length ∧ syn = nextB 0 (bs.take js) ∧ HL.Holds (btl all bs :: sgc q d 0 bs :: dsk d 1000000 (F1 (fB bs) (lenB (bs.take js) : Nat)) :: [ro H0]) H', fun _ _ m _ => (nm - m).toNat,
    ⟨Int.le_refl _, hnm0.1, [], 0, SegOk.nil (by decide) (by decide), rfl, by decide, Nat.le_refl _, rfl, btl_nil h3⟩, ?_⟩
  clear h1 h2 h3
  rintro all syn m H4 ⟨m0, m1, bs, js, hs, hbl, hnx, hjs, rfl, h4⟩
  have hln := lenB_sixty hs (by omega)
  have hn0 := hs.next0
  refine br_intro (fun w => ?_) (fun w => ?_)
  · have w := of_decide_eq_true w
    obtain ⟨q1, o1, p1, p2, p3, p4⟩ := (hI.sub (h4.sub 3 rfl)).at_ m0 (by omega)
    have hm : L.getD m.toNat 0 ∈ L := getD_mem m0 (by omega)
    obtain ⟨y0, y1⟩ := pickI_in (c := L.getD m.toNat 0) (n := 20) (by decide) (hw _ hm).1 (hw _ hm).2
    obtain ⟨nn, hnn⟩ : ∃ nn : Nat, 1 + pickI (L.getD m.toNat 0) 20 = (nn : Int) := ⟨(1 + pickI (L.getD m.toNat 0) 20).toNat, by omega⟩
    have hfl := flen_small (n := nn) hs (by omega) (by omega) (by omega)
    have ew : IntKind.wrap .i64 (1 + pickI (L.getD m.toNat 0) 20) = (nn : Int) := by rw [wrap64_id (by omega) (by omega), hnn]
    rw [wrap64_id (n := m + 1) (by omega) (by omega)]
    refine ⟨q1, o1, p1, p2, by omega, _, p4, ?_⟩
    have hsm := fun {X : Value → Heap → Prop} (kk : ∀ (s : Sl) H', HL.Sub H4 H' → HL.Holds (ownR s (smallB (nextB 0 bs) nn).recs :: btl all bs :: sgc q d 0 bs :: dsk d 1000000 (F1 (fB bs) (lenB (bs.take js) : Nat)) :: [ro H0]) H' → X (.agg #[.int .i64 (nextB 0 bs), .int .i64 1, .int .i64 0, .int .i64 0, .int .i64 0, .slice s.p s.n s.c]) H') => small5_spec (K := X) (n := nn) h4 (by omega) kk
    refine ⟨next5_spec (i := 1) h4 rfl hs.len ⟨_, rfl, HL.Sub.refl _, pick5_spec (by decide) ⟨_, rfl, HL.Sub.refl _, ?_⟩, HL.Sub.refl _, pick5_spec (by decide) ⟨_, rfl, HL.Sub.refl _, ?_⟩⟩, HL.Sub.refl _, next5_spec (i := 1) h4 rfl hs.len ⟨_, rfl, HL.Sub.refl _, pick5_spec (by decide) ⟨_, rfl, HL.Sub.refl _, ?_⟩⟩⟩
    rw [ew]
    refine ⟨hsm fun l1 H7 s7 h7 => ⟨_, _, _, _, _, l1, rfl, s7, s7, ?_⟩, HL.Sub.refl _, hsm fun l1 H7 s7 h7 => ⟨_, _, _, _, _, l1, rfl, s7, ?_⟩⟩
    rotate_left 2
    rw [ew]
    refine hsm fun l1 H7 s7 h7 => ⟨_, _, _, _, _, l1, rfl, s7, ?_⟩
    rotate_left 1
    rw [ew]
    refine hsm fun l1 H7 s7 h7 => ⟨_, _, _, _, _, l1, rfl, s7, ?_⟩
    all_goals
      have h8 : HL.Holds (ownR l1 (smallB (nextB 0 bs) nn).recs :: sgc q d 0 bs :: dsk d 1000000 (F1 (fB bs) (lenB (bs.take js) : Nat)) :: btl all bs :: [ro H0]) H7 := ((h7.pull 3 rfl).pull 3 rfl).pull 2 rfl
      refine append_small (n := nn) h8 hs rfl (by omega) (by omega) (by omega) (by omega) (by omega) fun H8 o8 h9 => ⟨_, rfl, br_f rfl ?_⟩
      have h10 : HL.Holds (btl all bs :: ownR l1 (smallB (nextB 0 bs) nn).recs :: sgc q d 0 (bs ++ [smallB (nextB 0 bs) nn]) :: dsk d 1000000 (F1 (fB (bs ++ [smallB (nextB 0 bs) nn])) (lenB (bs.take js) : Nat)) :: [ro H0]) H8 := ((h9.pull 3 rfl).pull 3 rfl).swap
      have hnx2 : nextB 0 (bs ++ [smallB (nextB 0 bs) nn]) ≤ 20 * (m + 1) := by rw [nextB_snoc, small_end]; omega
      have hbl2 : (((bs ++ [smallB (nextB 0 bs) nn]).length : Nat) : Int) = m + 1 := by rw [List.length_append]; simp; omega
      have htk : ∀ j, j ≤ bs.length → (bs ++ [smallB (nextB 0 bs) nn]).take j = bs.take j := fun j hj => List.take_append_of_le_length hj
      refine btl_push h10 (by omega) fun l2 H10 h11 => ⟨l2, rfl, pick5_spec (by omega) ⟨_, rfl, br_intro (fun _ => ?_) (fun _ => ⟨rfl, ⟨by omega, by omega, _, js, o8, hbl2, hnx2, by omega, by rw [htk js hjs], by rw [htk js hjs]; exact h11⟩, by dsimp only; omega⟩)⟩⟩
      refine sync5_spec (h11.down 2) fun H12 h12 => ⟨_, rfl, br_f rfl (next5_spec (i := 0) h12 rfl o8.len ⟨_, rfl, rfl, ⟨by omega, by omega, _, (bs ++ [smallB (nextB 0 bs) nn]).length, o8, hbl2, hnx2, Nat.le_refl _, by rw [List.take_length], by rw [List.take_length]; exact h12.pull 2 rfl⟩, by dsimp only; omega⟩)⟩
  · have w := of_decide_eq_false w
    have gk : Gives (ro H0) fun A => Ints A keep M := ⟨ro_mono H0, fun A hA => hJ.sub hA⟩
    obtain ⟨z0, z1, z2, z3⟩ := dsk_safe (h4.pull 2 rfl)
    obtain ⟨n, n0, n1, hcr⟩ := crash1 M (b := fB bs) (z := (lenB (bs.take js) : Nat)) z0 z1 hv
    rw [fB_size] at n1
    refine crash_spec (i := 2) (h4.pull 2 rfl) gk rfl hv fun H38 h38 => ⟨rfl, ?_⟩
    obtain ⟨kk, tail, t1, t2, t3, t4, t5⟩ := torn bs n n1
    rw [hcr, fB_take, t2] at h38
    have ok : SegOk 0 (bs.take kk) := hs.take kk
    have hst : Stops (nextB 0 (bs.take kk)) tail := by
      rcases t3 with t3 | ⟨b, mm, c1, c2, c3, c4⟩
      · exact .inl t3
      · exact .inr (.inl ⟨b, mm, hs.chain.all b (List.mem_of_getElem? c1), c2, c3, c4⟩)
    have hjk : js ≤ kk := Decidable.byContradiction fun hlt => by
      have h1 := t5 (by omega)
      have h2 := lenB_take_mono bs (i := kk + 1) (j := js) (by omega)
      omega
    have hmono := next_take_mono hs.chain hjk
    refine open5_spec (z := n) h38 (.inr rfl) ok hst fun q2 H39 h39 => ⟨_, _, _, rfl, br_f rfl (br_f rfl ?_)⟩
    have h39 : HL.Holds (sgc q2 d 0 (bs.take kk) :: dsk d 1000000 (F1 (fB (bs.take kk)) (lenB (bs.take kk) : Nat)) :: btl all bs :: sgc q d 0 bs :: [ro H0]) H39 := h39
    refine next5_spec (i := 0) h39 rfl ok.len ⟨_, rfl, br_f (decide_eq_false (by omega)) (safe5_spec (i := 0) (j := 1) h39 rfl rfl ok.len fun H41 s41 => ⟨_, rfl, ?_⟩)⟩
    have h41 := h39.up s41
    rw [safe_all, List.take_length]
    refine next5_spec (i := 0) h41 rfl ok.len ⟨_, rfl, br_f (by simp) ?_⟩
    have hlk := lenB_take_mono bs (i := kk) (j := bs.length) t1
    rw [List.take_length] at hlk
    refine read5_spec (i := 0) (j := 1) h41 rfl rfl ok (by decide) fun l9 H43 s43 h43 => ⟨l9, rfl, ?_⟩
    rw [read_all ok (by omega)] at h43
    have hB9 : Bts H43 l9 (bs.take kk) := btl_bts (h43.read 0 rfl btl_mono) ok.few (by rw [List.length_take]; omega)
    have hBa : Bts H43 all bs := btl_bts (h43.read 3 rfl btl_mono) hs.few (by omega)
    have hn9 := hB9.len
    have hna := hBa.len
    rw [List.length_take] at hn9
    have hcap : all.n ≤ all.c := by
      obtain ⟨ps, -, hR, -⟩ := hBa
      exact hR.cap
    refine br_f (decide_eq_false (by omega)) ⟨by omega, by omega, ?_⟩
    have hup := hBa.upto (j := (l9.n : Int)) (by omega) (by omega)
    have e9 : ((l9.n : Nat) : Int).toNat = kk := by omega
    rw [e9] at hup
    exact same_true (s := l9) (t := all.upto (l9.n : Int) 6) hB9 hup (by rw [List.length_take]; omega) ⟨_, rfl, k H43 (h43.sub 5 rfl)⟩
end
end Go.Proofs.YtokceblmbmajgaaDoor
