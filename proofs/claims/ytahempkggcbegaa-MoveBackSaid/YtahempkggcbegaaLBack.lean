/- The law MoveBack: whatever comes in, the call gives true and turns nothing that was there. -/
import Derived.Test.YtahempkggcbegaaS9
import Derived.Test.YtahempkggcbegaaP1
namespace Go.Proofs.Ytahempkggcbegaa
open Go.HL
set_option maxHeartbeats 400000

theorem moveBack_walk {H : Heap} {v : PV} {p : Part} {s u : Sl} {targets up : List Int} (h : PIn H v p) (hi : Ints H s targets) (hup : Ints H u up) :
    FnH Try.prog 5 #[v.val, .slice s.p s.n s.c, .slice u.p u.n u.c] H fun r H' => r = .bool true ∧ HL.Sub H H' := by
  apply logboomlaw11_MoveBack_fn
  unfold logboomlaw11_MoveBack_vc
  refine shown_spec fun H1 s1 => ⟨true, rfl, ?_⟩
  have h := h.sub s1
  refine right_spec h fun H2 s2 => ⟨_, rfl, br_f rfl (br_intro (fun h1 => ⟨rfl, s1.trans s2⟩) (fun h1 => ?_))⟩
  have h1 : rightB p = true := by simpa using h1
  have hr := right_iff.1 h1
  have h := h.sub s2
  have S := s1.trans s2
  clear s1 s2
  have la := ids_len hr.adding
  have lr := ids_len hr.removing
  have na := h.adding.len
  have nr := h.removing.len
  rw [wrap64_id (by omega) (by omega)]
  have eo : decide (((v.adding.n : Int) + v.removing.n) > 0) = openB p := decide_eq_decide.2 (by omega)
  refine br_intro (fun h2 => ⟨rfl, S⟩) (fun h2 => ?_)
  rw [eo] at h2
  refine begin_spec h hr.small (hi.sub S) (hup.sub S) ?_
  rcases begin_cases (p := p) (targets := targets) (up := up) with ⟨c, hc, e⟩ | ⟨-, ht, hp, -, ⟨-, e⟩ | ⟨hne, hv, e⟩⟩
  · refine Ans.of e fun q H3 s3 hq => ⟨q.id, q.leader, q.epoch, q.version, q.isr, q.replicas, q.adding, q.removing, q.min, c, rfl, ?_⟩
    exact same_spec (h.sub s3) hq ⟨_, rfl, br_t (by simpa using hc) ⟨rfl, S.trans s3⟩⟩
  · refine Ans.of e fun q H3 s3 hq => ⟨q.id, q.leader, q.epoch, q.version, q.isr, q.replicas, q.adding, q.removing, q.min, 0, rfl, ?_⟩
    refine same_spec (h.sub s3) hq ⟨_, rfl, br_f rfl (br_t ?_ ⟨rfl, S.trans s3⟩)⟩
    simp [sameB]
  · refine Ans.of e fun q H3 s3 hq => ⟨q.id, q.leader, q.epoch, q.version, q.isr, q.replicas, q.adding, q.removing, q.min, 0, rfl, ?_⟩
    refine same_spec (h.sub s3) hq ⟨_, rfl, br_f rfl (br_intro (fun _ => ⟨rfl, S.trans s3⟩) (fun _ => ?_))⟩
    have hqr := begun_right hr ht hp hv
    have n1 := hq.adding.len
    have n2 := hq.removing.len
    have m1 := ids_len hqr.adding
    have m2 := ids_len hqr.removing
    have hq : PIn H3 q (bump (beginB p targets)) := hq
    have n1 : q.adding.n = (bump (beginB p targets)).adding.length := n1
    have n2 : q.removing.n = (bump (beginB p targets)).removing.length := n2
    rw [wrap64_id (by omega) (by omega)]
    refine br_intro (fun _ => ⟨rfl, S.trans s3⟩) (fun h3 => ?_)
    have h3 : ¬ ((q.adding.n : Int) + q.removing.n = 0) := by simpa using h3
    have ho : openB (bump (beginB p targets)) = true := decide_eq_true (by omega)
    have h2 : openB p = false := h2
    refine cancel_spec hq hqr.small ((hup.sub S).sub s3) ?_
    rcases back_law (up := up) hr h2 ht hp hv ho with ⟨hbig, e⟩ | ⟨r, e, g1, g2, g3, g4, g5, g6, g7, g8⟩
    · refine Ans.of e fun w H5 s5 hw => ⟨w.id, w.leader, w.epoch, w.version, w.isr, w.replicas, w.adding, w.removing, w.min, 20, rfl, br_t rfl ⟨?_, S.trans (s3.trans s5)⟩⟩
      rw [h.version, decide_eq_true hbig]
    · refine Ans.of e fun w H5 s5 hw => ⟨w.id, w.leader, w.epoch, w.version, w.isr, w.replicas, w.adding, w.removing, w.min, 0, rfl, br_f rfl ?_⟩
      have hw : PIn H5 w r := hw
      have h := h.sub (s3.trans s5)
      have S5 := S.trans (s3.trans s5)
      have k1 := hw.replicas.len
      have k2 := h.replicas.len
      have k3 := hw.adding.len
      have k4 := hw.removing.len
      have k5 := h.replicas.big
      rw [g2] at k3
      rw [g3] at k4
      refine br_f (by rw [k1, k2, g1]; simp) (br_f (by rw [k3, k4]; rfl) ?_)
      refine ⟨fun n H6 => H6 = H5 ∧ 0 ≤ n ∧ n ≤ v.replicas.n, fun n _ => (v.replicas.n - n).toNat, ⟨rfl, by omega, by omega⟩, ?_⟩
      rintro n H6 ⟨rfl, i0, i1⟩
      refine br_intro (fun hlt => ?_) (fun hge => ?_)
      · have hlt := of_decide_eq_true hlt
        obtain ⟨b, o, f1, f2, f3, f4⟩ := h.replicas.at_ i0 hlt
        refine ⟨b, o, f1, f2, f3, _, f4, in_spec hw.replicas ⟨_, rfl, Sub.refl _, br_f ?_ ?_⟩⟩
        · have hm : p.replicas.getD n.toNat 0 ∈ r.replicas := g4 _ (getD_mem i0 (by omega))
          rw [decide_eq_true hm]; rfl
        · rw [wrap64_id (by omega) (by omega)]
          exact ⟨rfl, ⟨rfl, by omega, by omega⟩, by dsimp only; omega⟩
      · refine sameList_spec hw.isr h.isr ⟨_, rfl, br_t (by rw [g5]; simp) (br_t ?_ (br_t ?_ ⟨?_, S5⟩))⟩
        · rw [hw.leader, h.leader, g6]; simp
        · rw [hw.epoch, h.epoch, g7]; simp
        · have hver := hr.version
          rw [hw.version, h.version, g8, wrap64_id (by omega) (by omega)]; simp
end Go.Proofs.Ytahempkggcbegaa
