/- The law MoveRules: whatever comes in, the call gives true and turns nothing that was there. -/
import Derived.Test.YtahempkggcbegaaSa
namespace Go.Proofs.Ytahempkggcbegaa
open Go.HL
set_option maxHeartbeats 400000

/-- A script of calls. -/
structure Ops (H : Heap) (s : Sl) : Prop where
  big : s.n ≤ 9223372036854775807
  at_ : ∀ j : Int, 0 ≤ j → j < s.n → ∃ b o, s.p = some ⟨b, o, none⟩ ∧ ∃ (k x y z : Int) (l u : Sl) (ll ul : List Int),
    cellH H ⟨b, o + j.toNat * 6, none⟩ = some (.int .i64 k) ∧ cellH H ⟨b, o + j.toNat * 6 + 1, none⟩ = some (.int .i64 x) ∧ cellH H ⟨b, o + j.toNat * 6 + 2, none⟩ = some (.int .i64 y) ∧ cellH H ⟨b, o + j.toNat * 6 + 3, none⟩ = some (.int .i64 z) ∧
    cellH H ⟨b, o + j.toNat * 6 + 4, none⟩ = some (.slice l.p l.n l.c) ∧ cellH H ⟨b, o + j.toNat * 6 + 5, none⟩ = some (.slice u.p u.n u.c) ∧ Ints H l ll ∧ Ints H u ul ∧ (-9223372036854775808 ≤ k ∧ k ≤ 9223372036854775807)
theorem Ops.sub {H H' : Heap} {s : Sl} (hs : HL.Sub H H') (h : Ops H s) : Ops H' s :=
  ⟨h.big, fun j h0 h1 => by
    obtain ⟨b, o, e, k, x, y, z, l, u, ll, ul, c0, c1, c2, c3, c4, c5, i1, i2, r⟩ := h.at_ j h0 h1
    exact ⟨b, o, e, k, x, y, z, l, u, ll, ul, hs.cell c0, hs.cell c1, hs.cell c2, hs.cell c3, hs.cell c4, hs.cell c5, i1.sub hs, i2.sub hs, r⟩⟩

theorem did_spec2 {H : Heap} {v : PV} {p : Part} {kind a b c : Int} {s u : Sl} {l up : List Int} {K : Value → Heap → Prop} (h : PIn H v p) (hr : RightOf p) (hk : 0 ≤ pickI kind 7 ∧ pickI kind 7 ≤ 6) (hl : Ints H s l) (hup : Ints H u up)
    (k : ∀ A, Step p (pickI kind 7) A → Ans K H A) : FnH Try.prog 19 #[v.val, .agg #[.int .i64 kind, .int .i64 a, .int .i64 b, .int .i64 c, .slice s.p s.n s.c, .slice u.p u.n u.c]] H K :=
  did_spec h hr.small hl hup (k _ (did_step hr hk))
theorem moveRules_walk {H : Heap} {v : PV} {p : Part} {s : Sl} (h : PIn H v p) (hs : Ops H s) :
    FnH Try.prog 6 #[v.val, .slice s.p s.n s.c] H fun r H' => r = .bool true ∧ HL.Sub H H' := by
  apply logboomlaw11_MoveRules_fn
  unfold logboomlaw11_MoveRules_vc
  refine shown_spec fun H1 s1 => ⟨true, rfl, ?_⟩
  have h := h.sub s1
  refine right_spec h fun H2 s2 => ⟨_, rfl, br_f rfl (br_intro (fun h1 => ⟨rfl, s1.trans s2⟩) (fun h1 => ?_))⟩
  have hr := right_iff.1 (show rightB p = true by simpa using h1)
  have h := h.sub s2
  have S := s1.trans s2
  have hs := hs.sub S
  have hbig := hs.big
  refine ⟨fun i n1 n2 n3 n4 l1 l2 l3 l4 n5 H3 => HL.Sub H2 H3 ∧ 0 ≤ i ∧ i ≤ s.n ∧ ∃ q, PIn H3 ⟨n1, n2, n3, n4, l1, l2, l3, l4, n5⟩ q ∧ RightOf q, fun i _ _ _ _ _ _ _ _ _ _ => (s.n - i).toNat, ⟨Sub.refl _, by omega, by omega, p, h, hr⟩, ?_⟩
  rintro i n1 n2 n3 n4 l1 l2 l3 l4 n5 H3 ⟨s3, i0, i1, q, hq, hqr⟩
  refine br_intro (fun hlt => ?_) (fun _ => ⟨rfl, S.trans s3⟩)
  have hlt := of_decide_eq_true hlt
  refine br_intro (fun _ => ?_) (fun _ => ⟨rfl, S.trans s3⟩)
  obtain ⟨b, o, e, k, x, y, z, l, u, ll, ul, c0, c1, c2, c3, c4, c5, j1, j2, r⟩ := (hs.sub s3).at_ i i0 hlt
  refine ⟨b, o, e, i0, hlt, k, c0, x, c1, y, c2, z, c3, l, c4, u, c5, fun _ H' => H' = H3, pick_spec (by decide) ⟨_, rfl, br_intro (fun _ => ⟨by decide, rfl, rfl⟩) (fun _ => ⟨rfl, rfl⟩)⟩, ?_⟩
  rintro b1 H5 rfl
  have hk := pick_range (n := 7) r (by decide)
  refine br_intro (fun _ => ?_) (fun _ => ?_)
  all_goals
    refine did_spec2 (v := ⟨n1, n2, n3, n4, l1, l2, l3, l4, n5⟩) hq hqr ⟨hk.1, by omega⟩ j1 j2 fun A st w H6 s6 hw => ⟨w.id, w.leader, w.epoch, w.version, w.isr, w.replicas, w.adding, w.removing, w.min, _, rfl, ?_⟩
    rcases st with ⟨e1, e2⟩ | ⟨e1, e2⟩
    · refine br_t (by simpa using e1) ?_
      rw [e2] at hw
      refine same_spec (u := zeroV) hw (zero_in H6) ⟨_, rfl, br_f (by rw [same_refl]; rfl) ⟨rfl, ?_, ?_⟩⟩
      · rw [wrap64_id (by omega) (by omega)]
        exact ⟨s3.trans s6, by omega, by omega, q, hq.sub s6, hqr⟩
      · rw [wrap64_id (by omega) (by omega)]; dsimp only; omega
    · refine br_f (by rw [e1]; rfl) (pick_spec (by decide) ⟨_, rfl, Sub.refl _, ?_⟩)
      have R := fun K => rules_spec (K := K) (v := ⟨n1, n2, n3, n4, l1, l2, l3, l4, n5⟩) (hq.sub s6) hw hqr e2 (kind := pickI k 7)
      refine R _ fun H9 s9 => ⟨_, rfl, s9, br_f rfl ⟨rfl, ?_, ?_⟩⟩
      · rw [wrap64_id (by omega) (by omega)]
        refine ⟨s3.trans (s6.trans s9), by omega, by omega, A.1, hw.sub s9, ?_⟩
        rcases e2 with e2 | e2
        · rw [e2]; exact hqr
        · exact e2.right
      · rw [wrap64_id (by omega) (by omega)]; dsimp only; omega
end Go.Proofs.Ytahempkggcbegaa
