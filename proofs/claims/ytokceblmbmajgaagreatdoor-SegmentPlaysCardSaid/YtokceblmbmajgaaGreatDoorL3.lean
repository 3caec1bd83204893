/- Chapter 5: SegmentPlays: the walk of the law. -/
import Derived.Test.YtokceblmbmajgaaGreatDoorL2
import Derived.Test.YtokceblmbmajgaaGreatDoorVA
namespace Go.Proofs.YtokceblmbmajgaaGreatDoor
open Go Go.HL
set_option maxHeartbeats 3200000
set_option maxRecDepth 100000

abbrev eOp : Op5 → List Value := fun o => [.int .i64 o.kind, .int .i64 o.n, .int .i64 o.m, .int .i64 o.b.base, .int .i64 o.b.epoch, .int .i64 o.b.pid, .int .i64 o.b.pe, .int .i64 o.b.seq, .slice o.sl.p o.sl.n o.sl.c, .bool o.fits, .slice o.keep.p o.keep.n o.keep.c]
theorem eOplen : ∀ a, (eOp a).length = 11 := fun _ => rfl
theorem plays5 {H0 : Heap} {size base : Int} {s : Sl} {l : List Op5} {K : Value → Heap → Prop} (hl : Recs eOp H0 s l) (ho : ∀ o ∈ l, OpOk H0 o) (hsz : -9223372036854775808 ≤ size ∧ size ≤ 9223372036854775807) (k : ∀ H', HL.Sub H0 H' → K (.bool true) H') :
    FnH Tryz.prog 3 #[.int .i64 size, .int .i64 base, .slice s.p s.n s.c] H0 K := by
  apply logboomlaw5_SegmentPlays_fn
  unfold logboomlaw5_SegmentPlays_vc
  have hln := hl.len
  have hbg := hl.big
  refine shown5_spec (Holds.whole H0) fun H1 h1 => ⟨_, rfl, pick5_spec (by decide) ⟨_, rfl, ?_⟩⟩
  obtain ⟨p0, p1⟩ := pickI_in (c := size) (n := 20000) (by decide) hsz.1 hsz.2
  rw [wrap64_id (n := 1 + pickI size 20000) (by omega) (by omega)]
  generalize pickI size 20000 = sz at *
  refine dnew_spec h1 (fun e => absurd e (by omega)) fun _ _ d H3 h3 => ⟨_, _, rfl, br_f rfl (br_f rfl (br_f (by simp) ?_))⟩
  refine rnew_spec h3 (fun e => absurd e (by omega)) fun _ _ r H4 h4 => ⟨_, rfl, fun q1 hq1 => ?_⟩
  have h4 : HL.Holds (dsk d (1 + sz) [] :: rdsk r (1 + sz) [] :: [ro H0]) H4 := h4.swap
  by_cases hb : base < 0 ∨ base > 1000000000
  · refine opens_bad (h4.add hq1 _) hb ⟨_, rfl, _, _, _, _, (held_undo (h4.add hq1 _)).1, letH_intro fun H6 g => br_f rfl (br_t rfl ?_)⟩
    have h6 := (held_undo (h4.add hq1 (.cells #[.pointer (some ⟨d, 0, none⟩), .pointer (some ⟨r, 0, none⟩), .pointer none, .pointer none] 35 (0, 0)))).2
    rw [← g] at h6
    exact k H6 (h6.sub 2 rfl)
  have hs : SegOk base [] := SegOk.nil (by omega) (by omega)
  refine opens_good (z := 0) (bs := []) (tail := []) (h4.add hq1 _) (.inl ⟨rfl, rfl, rfl⟩) hs (.inl rfl) fun q t H5 h5 => ⟨_, rfl, _, _, _, _, (held_undo h5).1, letH_intro fun H6 g => br_f rfl (br_f rfl ?_)⟩
  have h6 := (held_undo h5).2
  rw [← g] at h6
  clear h5 h4 h3 h1 g hq1
  refine ⟨fun i p7 p8 p9 p10 H' => 0 ≤ i ∧ i ≤ s.n ∧ ∃ (q t : Nat) (base z : Int) (bs : List Ba), p7 = some ⟨d, 0, none⟩ ∧ p8 = some ⟨r, 0, none⟩ ∧ p9 = some ⟨q, 0, none⟩ ∧ p10 = some ⟨t, 0, none⟩ ∧ SegOk base bs ∧ HL.Holds (sgc q d base bs :: dsk d (1 + sz) (F1 (fB bs) z) :: rsg t r base :: rdsk r (1 + sz) (F1 (fB bs) z) :: [ro H0]) H', fun i _ _ _ _ _ => (s.n - i).toNat, ⟨Int.le_refl _, by omega, q, t, base, _, [], rfl, rfl, rfl, rfl, hs, h6⟩, ?_⟩
  clear h6 hs
  rintro i p7 p8 p9 p10 H7 ⟨i0, i1, q, t, base, z, bs, rfl, rfl, rfl, rfl, hs, h7⟩
  have s7 := h7.sub 4 rfl
  refine br_intro (fun w => br_intro (fun w2 => ?_) (fun _ => k H7 s7)) (fun _ => k H7 s7)
  have w := of_decide_eq_true w
  obtain ⟨c, o, x, e1, e2, e3⟩ := (Recs.mono _ _ s7 hl).at_ eOplen (by decide) i0 w
  have hx := ho x (List.mem_of_getElem? e2)
  rw [wrap64_id (n := i + 1) (by omega) (by omega)]
  refine ⟨c, o, e1, i0, w, _, e3 0 _ rfl, _, e3 1 _ rfl, _, e3 2 _ rfl, _, e3 3 _ rfl, _, e3 4 _ rfl, _, e3 5 _ rfl, _, e3 6 _ rfl, _, e3 7 _ rfl, x.sl, e3 8 _ rfl, x.fits, e3 9 _ rfl, x.keep, e3 10 _ rfl, fun q3 hq3 => ?_⟩
  refine does_spec (o := x) (d := d) (r := r) (size := 1 + sz) ⟨q, t, base, z, bs, hs, h7.add hq3 _⟩ hx fun H8 h8 => ?_
  obtain ⟨q', t', base', z', bs', hs', h8⟩ := h8
  refine ⟨_, rfl, _, _, _, _, (held_undo h8).1, letH_intro fun H9 g9 q4 hq4 => ?_⟩
  have h9 := (held_undo h8).2
  rw [← g9] at h9
  refine alike_spec (d := d) (r := r) (size := 1 + sz) (cs := [ro H0]) ⟨q', t', base', z', bs', hs', h9.add hq4 _⟩ fun H10 h10 => ?_
  obtain ⟨q2, t2, base2, z2, bs2, hs2, h10⟩ := h10
  refine ⟨_, rfl, _, _, _, _, (held_undo h10).1, letH_intro fun H11 g11 => br_f rfl (br_f rfl ⟨rfl, ⟨by omega, by omega, q2, t2, base2, z2, bs2, rfl, rfl, rfl, rfl, hs2, ?_⟩, by dsimp only; omega⟩)⟩
  have h11 := (held_undo h10).2
  rw [← g11] at h11
  exact h11
end Go.Proofs.YtokceblmbmajgaaGreatDoor
