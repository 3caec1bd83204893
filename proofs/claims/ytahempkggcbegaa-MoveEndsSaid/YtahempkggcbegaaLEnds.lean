/- The law MoveEnds: whatever comes in, the call gives true and turns nothing that was there. -/
import Derived.Test.YtahempkggcbegaaS9
import Derived.Test.YtahempkggcbegaaP2
namespace Go.Proofs.Ytahempkggcbegaa
open Go.HL
set_option maxHeartbeats 400000

theorem moveEnds_walk {H : Heap} {v : PV} {p : Part} {s : Sl} {targets : List Int} (h : PIn H v p) (hi : Ints H s targets) :
    FnH Try.prog 3 #[v.val, .slice s.p s.n s.c] H fun r H' => r = .bool true ∧ HL.Sub H H' := by
  apply logboomlaw11_MoveEnds_fn
  unfold logboomlaw11_MoveEnds_vc
  refine shown_spec fun H1 s1 => ⟨true, rfl, ?_⟩
  intro q1 hq1
  refine letH_intro fun H2 g2 => ?_
  have s2 : HL.Sub H1 H2 := by rw [g2]; exact Sub.new hq1 _
  have hup : Ints H2 ⟨some ⟨q1, 0, none⟩, 7, 7⟩ up7 := by rw [g2]; exact lit_in rfl rfl (by decide)
  clear g2
  have S := s1.trans s2
  have h := h.sub S
  have hi := hi.sub S
  refine right_spec h fun H3 s3 => ⟨_, rfl, br_f rfl (br_intro (fun h1 => ⟨rfl, S.trans s3⟩) (fun h1 => ?_))⟩
  have h1 : rightB p = true := by simpa using h1
  have hr := right_iff.1 h1
  have h := h.sub s3
  have hi := hi.sub s3
  have hup := hup.sub s3
  have S := S.trans s3
  clear s1 s2 s3
  have la := ids_len hr.adding
  have lr := ids_len hr.removing
  have na := h.adding.len
  have nr := h.removing.len
  rw [wrap64_id (by omega) (by omega)]
  refine br_intro (fun _ => ⟨rfl, S⟩) (fun h2 => ?_)
  have h2 : ¬ ((v.adding.n : Int) + v.removing.n > 0) := of_decide_eq_false h2
  have pa : p.adding = [] := List.length_eq_zero_iff.1 (by omega)
  have pr : p.removing = [] := List.length_eq_zero_iff.1 (by omega)
  refine br_intro (fun _ => ⟨rfl, S⟩) (fun h3 => br_intro (fun _ => ⟨rfl, S⟩) (fun h4 => br_intro (fun _ => ⟨rfl, S⟩) (fun h5 => ?_)))
  have h3 : ¬ p.leader = 0 := by rw [h.leader] at h3; simpa using h3
  have h4 : p.version ≤ 999999990 := by have := of_decide_eq_false h4; rw [h.version] at this; omega
  have h5 : p.epoch ≤ 999999990 := by have := of_decide_eq_false h5; rw [h.epoch] at this; omega
  refine begin_spec (u := ⟨some ⟨q1, 0, none⟩, 7, 7⟩) h hr.small hi hup ?_
  rcases begin_cases (p := p) (targets := targets) (up := up7) with ⟨c, hc, e⟩ | ⟨-, ht, hp, -, ⟨et, e⟩ | ⟨hne, hv, e⟩⟩
  · exact Ans.of e fun q H4 s4 hq => ⟨q.id, q.leader, q.epoch, q.version, q.isr, q.replicas, q.adding, q.removing, q.min, c, rfl, br_t (by simpa using hc) ⟨rfl, S.trans s4⟩⟩
  · refine Ans.of e fun q H4 s4 hq => ⟨q.id, q.leader, q.epoch, q.version, q.isr, q.replicas, q.adding, q.removing, q.min, 0, rfl, br_f rfl ?_⟩
    have hq : PIn H4 q p := hq
    have n1 := hq.adding.len
    have n2 := hq.removing.len
    rw [pa] at n1
    rw [pr] at n2
    refine br_t (by rw [n1, n2]; rfl) (sameList_spec hq.replicas (hi.sub s4) ⟨_, rfl, ?_, S.trans s4⟩)
    rw [decide_eq_true et.symm]
  · refine Ans.of e fun q H4 s4 hq => ⟨q.id, q.leader, q.epoch, q.version, q.isr, q.replicas, q.adding, q.removing, q.min, 0, rfl, br_f rfl ?_⟩
    have hq : PIn H4 q (bump (beginB p targets)) := hq
    have hqr := begun_right hr ht hp hv
    have n1 := hq.adding.len
    have n2 := hq.removing.len
    have m1 := ids_len hqr.adding
    have m2 := ids_len hqr.removing
    have m3 := ids_len hqr.replicas
    have n3 := hq.replicas.len
    have S := S.trans s4
    have hi := hi.sub s4
    have hup := hup.sub s4
    rw [wrap64_id (by omega) (by omega)]
    refine br_intro (fun h6 => ?_) (fun h6 => ?_)
    · have h6 : (q.adding.n : Int) + q.removing.n = 0 := by simpa using h6
      have er : withoutL p.replicas targets = [] := List.length_eq_zero_iff.1 (by show (bump (beginB p targets)).removing.length = 0; omega)
      have et : (bump (beginB p targets)).replicas = targets := by show targets ++ withoutL p.replicas targets = targets; rw [er, List.append_nil]
      refine sameList_spec hq.replicas hi ⟨_, rfl, ?_, S⟩
      rw [decide_eq_true et]
    · have h6 : ¬ ((q.adding.n : Int) + q.removing.n = 0) := by simpa using h6
      have ho : openB (bump (beginB p targets)) = true := decide_eq_true (by omega)
      intro q2 hq2
      refine letH_intro fun H6 g6 => ?_
      have s6 : HL.Sub H4 H6 := by rw [g6]; exact Sub.new hq2 _
      have ho6 : Own H6 3 1 ⟨some ⟨q2, 0, none⟩, 0, 0⟩ [] := ⟨rfl, Nat.le_refl _, .inr ⟨q2, #[], rfl, by rw [g6]; exact Heap.upd_same _ _ _, rfl, fun i h => by simp at h⟩⟩
      refine append_own (s := ⟨some ⟨q2, 0, none⟩, 0, 0⟩) ok22 ok22.under ho6 (H0 := H4) (fun b o sp h => by simp at h; rw [← h.1]; exact hq2) s6 (hq.replicas.cells.sub s6) (by simp [hq.replicas.len]) (noTups_ints _ _) (by show 0 + q.replicas.n ≤ _; omega) ?_
      intro r7 H7 o7 f7 s7 e7
      refine ⟨r7, rfl, ?_⟩
      have hall : Ints H7 r7 (bump (beginB p targets)).replicas := Own.ints (by simpa using o7) (by omega)
      have hq7 := hq.sub s7
      have e8 := full_alter (q := bump (beginB p targets)) hqr h3 (by show p.version + 1 + 1 ≤ _; omega)
      have hl : q.leader = (bump (beginB p targets)).leader := hq.leader
      have he : q.epoch = (bump (beginB p targets)).epoch := hq.epoch
      have hve : q.version = (bump (beginB p targets)).version := hq.version
      have e8' : alterP (bump (beginB p targets)) q.leader q.epoch q.version (bump (beginB p targets)).replicas up7 = (bump (fullP (bump (beginB p targets))), 0) := by rw [hl, he, hve]; exact e8
      refine alter_spec (u := ⟨some ⟨q1, 0, none⟩, 7, 7⟩) hq7 hqr.small hall (hup.sub s7) (Ans.of e8' fun x H8 s8 hx => ⟨x.id, x.leader, x.epoch, x.version, x.isr, x.replicas, x.adding, x.removing, x.min, 0, rfl, ?_⟩)
      have hx : PIn H8 x (bump (fullP (bump (beginB p targets)))) := hx
      have hxr := full_right hqr (by show 0 < (targets ++ _).length; simp; omega) (by show p.version + 1 + 1 ≤ _; omega)
      obtain ⟨r, e9, g1, g2, g3, g4, g5⟩ := ends_law hr h3 h4 h5 ht hp ho
      refine finish_spec (u := ⟨some ⟨q1, 0, none⟩, 7, 7⟩) hx hxr.small (hup.sub (s7.trans s8)) (Ans.of e9 fun y H9 s9 hy => ⟨y.id, y.leader, y.epoch, y.version, y.isr, y.replicas, y.adding, y.removing, y.min, 0, rfl, br_f rfl (br_f rfl ?_)⟩)
      have hy : PIn H9 y r := hy
      have s79 := s7.trans (s8.trans s9)
      have hi := hi.sub s79
      have n4 := hy.adding.len
      have n5 := hy.removing.len
      have n6 := hy.isr.len
      have n7 := hi.len
      rw [g4] at n4
      rw [g5] at n5
      rw [g3] at n6
      refine sameList_spec hy.replicas hi ⟨_, rfl, in_spec hi ⟨_, rfl, br_t (by rw [g1]; simp) (br_t ?_ (br_t ?_ ⟨?_, S.trans s79⟩))⟩⟩
      · rw [hy.leader]; exact decide_eq_true g2
      · rw [n6, n7]; simp
      · rw [n4, n5]; rfl
end Go.Proofs.Ytahempkggcbegaa
