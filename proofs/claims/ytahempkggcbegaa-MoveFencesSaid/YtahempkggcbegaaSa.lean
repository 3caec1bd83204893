/- What the law's own functions do: any decision; the rules from one state to the next. -/
import Derived.Test.YtahempkggcbegaaS9
import Derived.Test.YtahempkggcbegaaP4
import Derived.Test.YtahempkggcbegaaV4
namespace Go.Proofs.Ytahempkggcbegaa
open Go.HL
set_option maxHeartbeats 400000
def rules_loop_vc (p_0 : Int) (p_1 : Int) (p_2 : Int) (p_3 : Int) (p_4 : Sl) (p_5 : Sl) (p_6 : Sl) (p_7 : Sl) (p_8 : Int) (q_0 : Int) (q_1 : Int) (q_2 : Int) (q_3 : Int) (q_4 : Sl) (q_5 : Sl) (q_6 : Sl) (q_7 : Sl) (q_8 : Int) (kind : Int) (H3 : Heap) (K : Value → Heap → Prop) : Prop :=
  ∃ I3 : Int → Heap → Prop,
                        ∃ M3 : Int → Heap → Nat,
                        I3 0 H3 ∧
                        ∀ i_2 : Int,
                        ∀ H11 : Heap,
                        I3 i_2 H11 →
                        br (decide ((i_2 : Int) < (p_5.n : Nat))) (
                          ∃ q3 : Nat,
                          ∃ o3 : Nat,
                          (p_5.p : Option Addr) = some ⟨q3, o3, none⟩ ∧
                          0 ≤ (i_2 : Int) ∧
                          (i_2 : Int) < (p_5.n : Nat) ∧
                          ∃ n3 : Int,
                          cellH H11 ⟨q3, o3 + Int.toNat i_2, none⟩ = some (.int .i64 n3) ∧
                          FnH Try.prog 13 #[.slice q_5.p q_5.n q_5.c, .int .i64 n3] H11 fun r8 H12 =>
                            ∃ b8 : Bool,
                            r8 = .bool b8 ∧
                            FnH Try.prog 13 #[.slice p_6.p p_6.n p_6.c, .int .i64 n3] H12 fun r9 H13 =>
                              ∃ b9 : Bool,
                              r9 = .bool b9 ∧
                              br (b8) (
                                SelfEq ([.v (.int .i64 kind), .loc 0 0, .loc 1 0], [some (24, [.int .i64 p_0, .int .i64 p_1, .int .i64 p_2, .int .i64 p_3, .slice p_4.p p_4.n p_4.c, .slice p_5.p p_5.n p_5.c, .slice p_6.p p_6.n p_6.c, .slice p_7.p p_7.n p_7.c, .int .i64 p_8]), some (24, [.int .i64 q_0, .int .i64 q_1, .int .i64 q_2, .int .i64 q_3, .slice q_4.p q_4.n q_4.c, .slice q_5.p q_5.n q_5.c, .slice q_6.p q_6.n q_6.c, .slice q_7.p q_7.n q_7.c, .int .i64 q_8])], []) ∧
                                I3 (IntKind.wrap .i64 (i_2 + 1)) H13 ∧
                                M3 (IntKind.wrap .i64 (i_2 + 1)) H13 < M3 i_2 H11)
                               (
                                br ((kind : Int) == 5) (
                                  br (!b9) (
                                    K (.bool false) H13)
                                   (
                                    SelfEq ([.v (.int .i64 kind), .loc 0 0, .loc 1 0], [some (24, [.int .i64 p_0, .int .i64 p_1, .int .i64 p_2, .int .i64 p_3, .slice p_4.p p_4.n p_4.c, .slice p_5.p p_5.n p_5.c, .slice p_6.p p_6.n p_6.c, .slice p_7.p p_7.n p_7.c, .int .i64 p_8]), some (24, [.int .i64 q_0, .int .i64 q_1, .int .i64 q_2, .int .i64 q_3, .slice q_4.p q_4.n q_4.c, .slice q_5.p q_5.n q_5.c, .slice q_6.p q_6.n q_6.c, .slice q_7.p q_7.n q_7.c, .int .i64 q_8])], []) ∧
                                    I3 (IntKind.wrap .i64 (i_2 + 1)) H13 ∧
                                    M3 (IntKind.wrap .i64 (i_2 + 1)) H13 < M3 i_2 H11))
                                 (
                                  br ((kind : Int) != 6) (
                                    K (.bool false) H13)
                                   (
                                    ∃ I4 : Int → Heap → Prop,
                                    ∃ M4 : Int → Heap → Nat,
                                    I4 0 H13 ∧
                                    ∀ k_2 : Int,
                                    ∀ H14 : Heap,
                                    I4 k_2 H14 →
                                    br (decide ((k_2 : Int) < (q_5.n : Nat))) (
                                      ∃ q4 : Nat,
                                      ∃ o4 : Nat,
                                      (q_5.p : Option Addr) = some ⟨q4, o4, none⟩ ∧
                                      0 ≤ (k_2 : Int) ∧
                                      (k_2 : Int) < (q_5.n : Nat) ∧
                                      ∃ n4 : Int,
                                      cellH H14 ⟨q4, o4 + Int.toNat k_2, none⟩ = some (.int .i64 n4) ∧
                                      FnH Try.prog 13 #[.slice q_4.p q_4.n q_4.c, .int .i64 n4] H14 fun r10 H15 =>
                                        ∃ b10 : Bool,
                                        r10 = .bool b10 ∧
                                        Sub H14 H15 ∧
                                        br (!b10) (
                                          K (.bool false) H15)
                                         (
                                          SelfEq ([.v (.int .i64 kind), .loc 0 0, .loc 1 0, .v (.int .i64 i_2)], [some (24, [.int .i64 p_0, .int .i64 p_1, .int .i64 p_2, .int .i64 p_3, .slice p_4.p p_4.n p_4.c, .slice p_5.p p_5.n p_5.c, .slice p_6.p p_6.n p_6.c, .slice p_7.p p_7.n p_7.c, .int .i64 p_8]), some (24, [.int .i64 q_0, .int .i64 q_1, .int .i64 q_2, .int .i64 q_3, .slice q_4.p q_4.n q_4.c, .slice q_5.p q_5.n q_5.c, .slice q_6.p q_6.n q_6.c, .slice q_7.p q_7.n q_7.c, .int .i64 q_8])], []) ∧
                                          I4 (IntKind.wrap .i64 (k_2 + 1)) H15 ∧
                                          M4 (IntKind.wrap .i64 (k_2 + 1)) H15 < M4 k_2 H14))
                                     (
                                      SelfEq ([.v (.int .i64 kind), .loc 0 0, .loc 1 0], [some (24, [.int .i64 p_0, .int .i64 p_1, .int .i64 p_2, .int .i64 p_3, .slice p_4.p p_4.n p_4.c, .slice p_5.p p_5.n p_5.c, .slice p_6.p p_6.n p_6.c, .slice p_7.p p_7.n p_7.c, .int .i64 p_8]), some (24, [.int .i64 q_0, .int .i64 q_1, .int .i64 q_2, .int .i64 q_3, .slice q_4.p q_4.n q_4.c, .slice q_5.p q_5.n q_5.c, .slice q_6.p q_6.n q_6.c, .slice q_7.p q_7.n q_7.c, .int .i64 q_8])], []) ∧
                                      I3 (IntKind.wrap .i64 (i_2 + 1)) H14 ∧
                                      M3 (IntKind.wrap .i64 (i_2 + 1)) H14 < M3 i_2 H11)))))
                         (
                          K (.bool true) H11)

theorem rules_loop {H : Heap} {v u : PV} {p q : Part} {kind : Int} {K : Value → Heap → Prop} (h : PIn H v p) (g : PIn H u q)
    (keep : ∀ x ∈ p.replicas, x ∈ q.replicas ∨ (kind = 5 ∧ x ∈ p.adding) ∨ (kind = 6 ∧ ∀ y ∈ q.replicas, y ∈ q.isr)) (k : K (.bool true) H) :
    rules_loop_vc v.id v.leader v.epoch v.version v.isr v.replicas v.adding v.removing v.min u.id u.leader u.epoch u.version u.isr u.replicas u.adding u.removing u.min kind H K := by
  unfold rules_loop_vc
  have n1 := h.replicas.len
  have b1 := h.replicas.big
  have n2 := g.replicas.len
  have b2 := g.replicas.big
  refine ⟨fun n H6 => H6 = H ∧ 0 ≤ n ∧ n ≤ v.replicas.n, fun n _ => (v.replicas.n - n).toNat, ⟨rfl, by omega, by omega⟩, ?_⟩
  rintro n H6 ⟨rfl, i0, i1⟩
  refine br_intro (fun hlt => ?_) (fun _ => k)
  have hlt := of_decide_eq_true hlt
  obtain ⟨b, o, f1, f2, f3, f4⟩ := h.replicas.at_ i0 hlt
  have hm : p.replicas.getD n.toNat 0 ∈ p.replicas := getD_mem i0 (by omega)
  refine ⟨b, o, f1, f2, f3, _, f4, in_spec g.replicas ⟨_, rfl, in_spec h.adding ⟨_, rfl, br_intro (fun h1 => ?_) (fun h1 => ?_)⟩⟩⟩
  · rw [wrap64_id (by omega) (by omega)]
    exact ⟨rfl, ⟨rfl, by omega, by omega⟩, by dsimp only; omega⟩
  · rcases keep _ hm with q1 | ⟨rfl, q1⟩ | ⟨rfl, q1⟩
    · exact absurd q1 (of_decide_eq_false h1)
    · refine br_t rfl (br_f (by rw [decide_eq_true q1]; rfl) ?_)
      rw [wrap64_id (by omega) (by omega)]
      exact ⟨rfl, ⟨rfl, by omega, by omega⟩, by dsimp only; omega⟩
    · refine br_f rfl (br_f rfl ?_)
      refine ⟨fun m H7 => H7 = H6 ∧ 0 ≤ m ∧ m ≤ u.replicas.n, fun m _ => (u.replicas.n - m).toNat, ⟨rfl, by omega, by omega⟩, ?_⟩
      rintro m H7 ⟨rfl, j0, j1⟩
      refine br_intro (fun hlt2 => ?_) (fun _ => ?_)
      · have hlt2 := of_decide_eq_true hlt2
        obtain ⟨b', o', f1, f2, f3, f4⟩ := g.replicas.at_ j0 hlt2
        refine ⟨b', o', f1, f2, f3, _, f4, in_spec g.isr ⟨_, rfl, Sub.refl _, br_f ?_ ?_⟩⟩
        · rw [decide_eq_true (q1 _ (getD_mem j0 (by omega)))]; rfl
        · rw [wrap64_id (by omega) (by omega)]
          exact ⟨rfl, ⟨rfl, by omega, by omega⟩, by dsimp only; omega⟩
      · rw [wrap64_id (by omega) (by omega)]
        exact ⟨rfl, ⟨rfl, by omega, by omega⟩, by dsimp only; omega⟩

theorem same_refl (p : Part) : sameB p p = true := by simp [sameB]
theorem rules_spec {H : Heap} {v u : PV} {p q : Part} {kind : Int} {K : Value → Heap → Prop} (h : PIn H v p) (g : PIn H u q) (hr : RightOf p) (hs : q = p ∨ Good p q kind) (k : ∀ H', HL.Sub H H' → K (.bool true) H') :
    FnH Try.prog 20 #[v.val, u.val, .int .i64 kind] H K := by
  apply logboomlaw11_rules_fn
  unfold logboomlaw11_rules_vc
  have hq : RightOf q := by
    rcases hs with e | e
    · rw [e]; exact hr
    · exact e.right
  have hqb := right_iff.2 hq
  refine right_spec g fun H1 s1 => ⟨_, rfl, ?_⟩
  have h := h.sub s1
  have g := g.sub s1
  have k1 := k H1 s1
  refine same_spec h g ⟨_, rfl, br_intro (fun _ => by rw [hqb]; exact k1) (fun h1 => br_f (by rw [hqb]; rfl) ?_)⟩
  have G : Good p q kind := by
    rcases hs with e | e
    · rw [e, same_refl] at h1; cases h1
    · exact e
  have hep := hr.epoch
  have hve := hr.version
  have v3 := h.version
  have v2 := h.epoch
  have v1 := h.leader
  have u3 := g.version
  have u2 := g.epoch
  have u1 := g.leader
  have gv := G.version
  rw [wrap64_id (n := v.version + 1) (by omega) (by omega), wrap64_id (n := v.epoch + 1) (by omega) (by omega)]
  have ge : q.epoch = p.epoch ∨ q.epoch = p.epoch + 1 := by
    rcases G.ep with e | e
    · exact .inl e.2
    · exact .inr e.2
  refine br_f (by rw [g.id, h.id, G.id]; simp) (br_f (by rw [g.min, h.min, G.min]; simp) (br_f (by rw [u3, v3, gv]; simp) (br_f (decide_eq_false (by omega)) (br_f (decide_eq_false (by omega)) (br_f ?_ ?_)))))
  · rw [u1, v1, u2, v2]
    rcases G.ep with ⟨e1, e2⟩ | ⟨e1, e2⟩
    · have a1 : (q.leader != p.leader) = false := by simp [e1]
      have a2 : (q.epoch == p.epoch + 1) = false := by rw [e2, eqb]; exact decide_eq_false (by omega)
      rw [a1, a2]; rfl
    · have a1 : (q.leader != p.leader) = true := by simp [e1]
      have a2 : (q.epoch == p.epoch + 1) = true := by rw [e2]; simp
      rw [a1, a2]; rfl
  · refine ⟨fun b H' => H' = H1 ∧ b = (u.leader != v.leader && u.leader != 0), br_intro (fun h2 => ⟨rfl, rfl, by rw [h2, Bool.true_and]⟩) (fun h2 => ⟨rfl, rfl, by rw [h2, Bool.false_and]⟩), ?_⟩
    rintro b H3 ⟨rfl, eb⟩
    have L := rules_loop (K := K) h g G.keep k1
    refine br_intro (fun h2 => ?_) (fun h2 => L)
    rw [eb, Bool.and_eq_true] at h2
    have c1 : q.leader ≠ p.leader := by have := h2.1; rw [u1, v1] at this; simpa using this
    have c2 : q.leader ≠ 0 := by have := h2.2; rw [u1] at this; simpa using this
    obtain ⟨d1, d2⟩ := G.lead c1 c2
    refine in_spec h.isr ⟨_, rfl, in_spec g.isr ⟨_, rfl, br_f ?_ (br_f ?_ L)⟩⟩
    · rw [u1, decide_eq_true d2]; rfl
    · rw [u1, decide_eq_true d1]; rfl

theorem did_spec {H : Heap} {v : PV} {p : Part} {kind a b c : Int} {s u : Sl} {l up : List Int} {K : Value → Heap → Prop} (h : PIn H v p) (hb : Small p) (hl : Ints H s l) (hup : Ints H u up)
    (k : Ans K H (didP p (pickI kind 7) a b c l up)) : FnH Try.prog 19 #[v.val, .agg #[.int .i64 kind, .int .i64 a, .int .i64 b, .int .i64 c, .slice s.p s.n s.c, .slice u.p u.n u.c]] H K := by
  apply logboomlaw11_did_fn
  unfold logboomlaw11_did_vc
  refine pick_spec (by decide) ⟨_, rfl, ?_⟩
  unfold didP at k
  refine br_intro (fun h0 => ?_) (fun h0 => ?_)
  · rw [if_pos h0] at k
    exact elect_spec h hb fun w H' s' hw => ⟨w.id, w.leader, w.epoch, w.version, w.isr, w.replicas, w.adding, w.removing, w.min, _, rfl, k w H' s' hw⟩
  rw [if_neg (ne_of_false h0)] at k
  refine br_intro (fun h0 => ?_) (fun h0 => ?_)
  · rw [if_pos h0] at k
    exact fence_spec h hb hup fun w H' s' hw => ⟨w.id, w.leader, w.epoch, w.version, w.isr, w.replicas, w.adding, w.removing, w.min, _, rfl, k w H' s' hw⟩
  rw [if_neg (ne_of_false h0)] at k
  refine br_intro (fun h0 => ?_) (fun h0 => ?_)
  · rw [if_pos h0] at k
    exact back_spec h hb fun w H' s' hw => ⟨w.id, w.leader, w.epoch, w.version, w.isr, w.replicas, w.adding, w.removing, w.min, _, rfl, k w H' s' hw⟩
  rw [if_neg (ne_of_false h0)] at k
  refine br_intro (fun h0 => ?_) (fun h0 => ?_)
  · rw [if_pos h0] at k
    exact alter_spec h hb hl hup fun w H' s' hw => ⟨w.id, w.leader, w.epoch, w.version, w.isr, w.replicas, w.adding, w.removing, w.min, _, rfl, k w H' s' hw⟩
  rw [if_neg (ne_of_false h0)] at k
  refine br_intro (fun h0 => ?_) (fun h0 => ?_)
  · rw [if_pos h0] at k
    exact begin_spec h hb hl hup fun w H' s' hw => ⟨w.id, w.leader, w.epoch, w.version, w.isr, w.replicas, w.adding, w.removing, w.min, _, rfl, k w H' s' hw⟩
  rw [if_neg (ne_of_false h0)] at k
  refine pick_spec (by decide) ⟨_, rfl, ?_⟩
  refine br_intro (fun h0 => ?_) (fun h0 => ?_)
  · rw [if_pos h0] at k
    exact finish_spec h hb hup fun w H' s' hw => ⟨w.id, w.leader, w.epoch, w.version, w.isr, w.replicas, w.adding, w.removing, w.min, _, rfl, k w H' s' hw⟩
  rw [if_neg (ne_of_false h0)] at k
  exact cancel_spec h hb hup fun w H' s' hw => ⟨w.id, w.leader, w.epoch, w.version, w.isr, w.replicas, w.adding, w.removing, w.min, _, rfl, k w H' s' hw⟩
end Go.Proofs.Ytahempkggcbegaa
