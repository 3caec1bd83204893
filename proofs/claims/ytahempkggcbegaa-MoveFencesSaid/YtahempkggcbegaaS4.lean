/- What a copy of a partition's state is. -/
import Derived.Test.YtahempkggcbegaaS3
namespace Go.Proofs.Ytahempkggcbegaa
open Go.HL

theorem join2 {H : Heap} {q1 q2 : Nat} {a b : Obj} (h1 : H q1 = none) (h2 : H q2 = none) : (H.upd q1 a).upd q2 b = H.join ((Heap.emp.upd q1 a).upd q2 b) := by
  funext x
  unfold Heap.upd Heap.join Heap.emp
  by_cases e2 : x = q2
  · subst e2; simp [h2]
  · by_cases e1 : x = q1
    · subst e1; simp [h1, e2]
    · simp [e1, e2]
theorem disj2 {H : Heap} {q1 q2 : Nat} {a b : Obj} (h1 : H q1 = none) (h2 : H q2 = none) : H.disj ((Heap.emp.upd q1 a).upd q2 b) := by
  intro x o h
  unfold Heap.upd Heap.emp at h
  by_cases e2 : x = q2
  · subst e2; exact h2
  · by_cases e1 : x = q1
    · subst e1; exact h1
    · simp [e1, e2] at h
theorem swap2 {H : Heap} {q1 q2 : Nat} {a a' b : Obj} (hne : q1 ≠ q2) : ((H.upd q1 a).upd q2 b).upd q1 a' = (H.upd q1 a').upd q2 b := by
  funext x
  unfold Heap.upd
  by_cases e2 : x = q2
  · subst e2; simp [Ne.symm hne]
  · by_cases e1 : x = q1
    · subst e1; simp [hne]
    · simp [e1, e2]

structure Small (p : Part) : Prop where
  isr : p.isr.length ≤ 1000000
  replicas : p.replicas.length ≤ 1000000
  adding : p.adding.length ≤ 1000000
  removing : p.removing.length ≤ 1000000

theorem clone_part_spec {H : Heap} {v : PV} {p : Part} {K : Value → Heap → Prop} (h : PIn H v p) (hb : Small p) (k : ∀ u H', HL.Sub H H' → PIn H' u p → K u.val H') : FnH Try.prog 30 #[v.val] H K := by
  apply reassign_Clone_fn
  unfold reassign_Clone_vc
  intro q1 hq1
  refine letH_intro fun H1 e1 => ?_
  intro q2 hq2
  refine letH_intro fun H2 e2 => ?_
  have hne : q1 ≠ q2 := by rintro rfl; rw [e1, Heap.upd_same] at hq2; cases hq2
  have hq2' : H q2 = none := by rw [e1, Heap.upd_ne _ _ (Ne.symm hne)] at hq2; exact hq2
  refine ⟨fun n H3 => 0 ≤ n ∧ n ≤ 4 ∧ ∃ u Hx, PIn Hx u p ∧ HL.Sub H Hx ∧ Hx q1 = none ∧ Hx q2 = none ∧ H3 = (Hx.upd q1 (.cells u.cells 24 (0, 0))).upd q2 (.cells #[.pointer (some ⟨q1, 4, none⟩), .pointer (some ⟨q1, 5, none⟩), .pointer (some ⟨q1, 6, none⟩), .pointer (some ⟨q1, 7, none⟩)] 61 (0, 0)),
    fun n _ => (4 - n).toNat, ⟨by omega, by omega, v, H, h, Sub.refl _, hq1, hq2', by rw [e2, e1]⟩, ?_⟩
  rintro n H3 ⟨h0, h4, u, Hx, hu, hs, x1, x2, rfl⟩
  have c1 : ∀ (A : Array Value) (Hx : Heap) o, cellH ((Hx.upd q1 (.cells A 24 (0, 0))).upd q2 (.cells #[.pointer (some ⟨q1, 4, none⟩), .pointer (some ⟨q1, 5, none⟩), .pointer (some ⟨q1, 6, none⟩), .pointer (some ⟨q1, 7, none⟩)] 61 (0, 0))) ⟨q1, o, none⟩ = A[o]? :=
    fun A Hx o => cellH_eq (by rw [Heap.upd_ne _ _ hne, Heap.upd_same])
  have c1' : ∀ (A : Array Value) (Hx : Heap), ((Hx.upd q1 (.cells A 24 (0, 0))).upd q2 (.cells #[.pointer (some ⟨q1, 4, none⟩), .pointer (some ⟨q1, 5, none⟩), .pointer (some ⟨q1, 6, none⟩), .pointer (some ⟨q1, 7, none⟩)] 61 (0, 0))) q1 = some (.cells A 24 (0, 0)) :=
    fun A Hx => by rw [Heap.upd_ne _ _ hne, Heap.upd_same]
  refine br_intro (fun hlt => ?_) (fun hge => ?_)
  · have hlt := of_decide_eq_true hlt
    refine ⟨q2, 0, rfl, h0, hlt, ?_⟩
    obtain ⟨m, s, l, hm, hn, hl, hlen, hcell, hput⟩ : ∃ (m : Nat) (s : Sl) (l : List Int), m < 4 ∧ n = m ∧ Ints Hx s l ∧ l.length ≤ 1000000 ∧ u.cells[4 + m]? = some (.slice s.p s.n s.c) ∧
        ∀ r Hx', HL.Sub Hx Hx' → Ints Hx' r l → ∃ u', PIn Hx' u' p ∧ u'.cells = u.cells.setIfInBounds (4 + m) (.slice r.p r.n r.c) := by
      have hd : n = 0 ∨ n = 1 ∨ n = 2 ∨ n = 3 := by omega
      rcases hd with e | e | e | e
      · exact ⟨0, u.isr, p.isr, by omega, by simpa using e, hu.isr, hb.isr, rfl, fun r Hx' hs hr => ⟨{ u with isr := r }, ⟨hu.id, hu.leader, hu.epoch, hu.version, hu.min, hr, hu.replicas.sub hs, hu.adding.sub hs, hu.removing.sub hs⟩, rfl⟩⟩
      · exact ⟨1, u.replicas, p.replicas, by omega, by simpa using e, hu.replicas, hb.replicas, rfl, fun r Hx' hs hr => ⟨{ u with replicas := r }, ⟨hu.id, hu.leader, hu.epoch, hu.version, hu.min, hu.isr.sub hs, hr, hu.adding.sub hs, hu.removing.sub hs⟩, rfl⟩⟩
      · exact ⟨2, u.adding, p.adding, by omega, by simpa using e, hu.adding, hb.adding, rfl, fun r Hx' hs hr => ⟨{ u with adding := r }, ⟨hu.id, hu.leader, hu.epoch, hu.version, hu.min, hu.isr.sub hs, hu.replicas.sub hs, hr, hu.removing.sub hs⟩, rfl⟩⟩
      · exact ⟨3, u.removing, p.removing, by omega, by simpa using e, hu.removing, hb.removing, rfl, fun r Hx' hs hr => ⟨{ u with removing := r }, ⟨hu.id, hu.leader, hu.epoch, hu.version, hu.min, hu.isr.sub hs, hu.replicas.sub hs, hu.adding.sub hs, hr⟩, rfl⟩⟩
    subst hn
    refine ⟨some ⟨q1, 4 + m, none⟩, ?_, ?_⟩
    · rw [cellH_eq (Heap.upd_same _ _ _)]
      match m, hm with
      | 0, _ => rfl
      | 1, _ => rfl
      | 2, _ => rfl
      | 3, _ => rfl
    · refine ptrm_intro rfl ⟨s, by rw [c1]; exact hcell, ?_⟩
      have sl := hl.len
      refine FnH.beside (join2 x1 x2) (disj2 x1 x2) (clone_spec hl (by omega) fun r Hx' hs' hr hd => ⟨r, rfl, ?_⟩)
      have y1 : Hx' q1 = none := hd q1 (.cells u.cells 24 (0, 0)) (by rw [Heap.upd_ne _ _ hne, Heap.upd_same])
      have y2 : Hx' q2 = none := hd q2 _ (Heap.upd_same _ _ _)
      rw [← join2 y1 y2]
      refine ptrm_intro rfl ⟨⟨_, by rw [c1]; exact hcell⟩, frozenH_eq (c1' _ _), letH_intro fun H5 e5 => ⟨rfl, ?_, ?_⟩⟩
      · rw [Heap.set_block (c1' _ _), swap2 hne] at e5
        obtain ⟨u', g1, g2⟩ := hput r Hx' hs' hr
        rw [wrap64_id (by omega) (by omega)]
        exact ⟨by omega, by omega, u', Hx', g1, hs.trans hs', y1, y2, by rw [e5, g2]⟩
      · rw [wrap64_id (by omega) (by omega)]; dsimp only; omega
  · have hge : ¬ n < 4 := of_decide_eq_false hge
    refine ⟨u.id, by rw [c1]; rfl, u.leader, by rw [c1]; rfl, u.epoch, by rw [c1]; rfl, u.version, by rw [c1]; rfl, u.isr, by rw [c1]; rfl, u.replicas, by rw [c1]; rfl, u.adding, by rw [c1]; rfl, u.removing, by rw [c1]; rfl, u.min, by rw [c1]; rfl, ?_⟩
    have hs2 : HL.Sub Hx ((Hx.upd q1 (.cells u.cells 24 (0, 0))).upd q2 (.cells #[.pointer (some ⟨q1, 4, none⟩), .pointer (some ⟨q1, 5, none⟩), .pointer (some ⟨q1, 6, none⟩), .pointer (some ⟨q1, 7, none⟩)] 61 (0, 0))) := (Sub.new x1 _).upd x2 _
    exact k u _ (hs.trans hs2) (hu.sub hs2)
end Go.Proofs.Ytahempkggcbegaa
