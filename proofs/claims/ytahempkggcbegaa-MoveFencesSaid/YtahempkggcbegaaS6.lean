/- What the longer decisions do with a partition's state. -/
import Derived.Test.YtahempkggcbegaaS5
namespace Go.Proofs.Ytahempkggcbegaa
open Go.HL

abbrev ChangedTail (K : Value → Heap → Prop) : Value → Heap → Prop := fun r7 H10 =>
        ∃ (n16 n17 n18 n19 : Int) (l13 l14 l15 l16 : Sl) (n20 n21 : Int),
        r7 = .tuple #[.agg #[.int .i64 n16, .int .i64 n17, .int .i64 n18, .int .i64 n19, .slice l13.p l13.n l13.c, .slice l14.p l14.n l14.c, .slice l15.p l15.n l15.c, .slice l16.p l16.n l16.c, .int .i64 n20], .int .i64 n21] ∧
        K (.tuple #[.agg #[.int .i64 n16, .int .i64 n17, .int .i64 n18, .int .i64 n19, .slice l13.p l13.n l13.c, .slice l14.p l14.n l14.c, .slice l15.p l15.n l15.c, .slice l16.p l16.n l16.c, .int .i64 n20], .int .i64 n21]) H10
abbrev LedTail (v : PV) (n : Int) (K : Value → Heap → Prop) (H : Heap) : Prop := ∀ q1 : Nat, H q1 = none →
    FnH Try.prog 34 #[.pointer (some ⟨q1, 0, none⟩), .int .i64 n] (Heap.upd H q1 (.cells v.cells 24 (0, 0))) fun r6 H8 =>
      r6 = .tuple #[] ∧ ∃ (n11 n12 n13 n14 : Int) (l9 l10 l11 l12 : Sl) (n15 : Int),
      H8 q1 = some (.cells #[.int .i64 n11, .int .i64 n12, .int .i64 n13, .int .i64 n14, .slice l9.p l9.n l9.c, .slice l10.p l10.n l10.c, .slice l11.p l11.n l11.c, .slice l12.p l12.n l12.c, .int .i64 n15] 24 (0, 0)) ∧
      letH (Heap.del H8 q1) fun H9 =>
      FnH Try.prog 33 #[.agg #[.int .i64 n11, .int .i64 n12, .int .i64 n13, .int .i64 n14, .slice l9.p l9.n l9.c, .slice l10.p l10.n l10.c, .slice l11.p l11.n l11.c, .slice l12.p l12.n l12.c, .int .i64 n15]] H9 (ChangedTail K)
theorem way_led {H : Heap} {v : PV} {p : Part} {s t u : Sl} {l i up : List Int} {but : Int} {K : Value → Heap → Prop} (hl : Ints H s l) (hi : Ints H t i) (hu : Ints H u up) (hb : s.n ≤ 1000000) (h : PIn H v p)
    (he : 0 ≤ p.epoch ∧ p.epoch ≤ 1000000000) (hv : 0 ≤ p.version ∧ p.version ≤ 1000000000) (k : Ans K H (changedP (ledP p (wayL l i up but)))) :
    FnH Try.prog 35 #[.slice s.p s.n s.c, .slice t.p t.n t.c, .slice u.p u.n u.c, .int .i64 but] H fun r6 H8 => ∃ n6 : Int, r6 = .int .i64 n6 ∧ LedTail v n6 K H8 :=
  way_spec hl hi hu hb fun H' hs => ⟨_, rfl, led_changed (h.sub hs) he hv fun w hw => k w H' hs hw⟩

def fenceP (p : Part) (id : Int) (up : List Int) : Part × Int :=
  if (!rightB p) = true then (zeroPart, 1) else if (!decide (1 ≤ id ∧ id ≤ 7)) = true then (zeroPart, 1) else
  if (!(decide (id ∈ p.isr) && decide (1 < p.isr.length)) && p.leader != id) = true then (p, 0) else
  changedP (if (p.leader == id) = true then ledP (if (decide (id ∈ p.isr) && decide (1 < p.isr.length)) = true then { p with isr := withoutL p.isr [id] } else p) (wayL p.replicas (if (decide (id ∈ p.isr) && decide (1 < p.isr.length)) = true then withoutL p.isr [id] else p.isr) up id)
    else if (decide (id ∈ p.isr) && decide (1 < p.isr.length)) = true then { p with isr := withoutL p.isr [id] } else p)
theorem fence_tail {H : Heap} {v : PV} {p : Part} {u : Sl} {up : List Int} {id : Int} {K : Value → Heap → Prop} (h : PIn H v p) (hb : Small p) (hu : Ints H u up) (he : 0 ≤ p.epoch ∧ p.epoch ≤ 1000000000) (hv : 0 ≤ p.version ∧ p.version ≤ 1000000000)
    (k : Ans K H (changedP (if (p.leader == id) = true then ledP p (wayL p.replicas p.isr up id) else p))) :
    br (v.leader == id) (FnH Try.prog 35 #[.slice v.replicas.p v.replicas.n v.replicas.c, .slice v.isr.p v.isr.n v.isr.c, .slice u.p u.n u.c, .int .i64 id] H fun r6 H8 => ∃ n6 : Int, r6 = .int .i64 n6 ∧ LedTail v n6 K H8)
      (FnH Try.prog 33 #[v.val] H (ChangedTail K)) := by
  refine br_intro (fun h6 => ?_) (fun h6 => ?_) <;> rw [h.leader] at h6
  · rw [if_pos h6] at k
    exact way_led h.replicas h.isr hu (by rw [h.replicas.len]; exact hb.replicas) h he hv k
  · rw [if_neg (by rw [h6]; simp)] at k
    exact changed_only h hv fun w hw => k w H (Sub.refl _) hw
theorem one_in {H : Heap} {q : Nat} {id : Int} : Ints (H.upd q (.cells #[.int .i64 id] 3 (0, 0))) ⟨some ⟨q, 0, none⟩, 1, 1⟩ [id] :=
  ⟨rfl, by show (1 : Nat) ≤ _; omega, Nat.le_refl _, CellsAt.block (Heap.upd_same _ _ _) (fun i hi => by simp at hi; subst hi; rfl)⟩
theorem Ans.sub {K : Value → Heap → Prop} {H H' : Heap} {a : Part × Int} (k : Ans K H a) (hs : HL.Sub H H') : Ans K H' a := fun u H2 h2 hu => k u H2 (hs.trans h2) hu
theorem fence_spec {H : Heap} {v : PV} {p : Part} {u : Sl} {up : List Int} {id : Int} {K : Value → Heap → Prop} (h : PIn H v p) (hb : Small p) (hup : Ints H u up) (k : Ans K H (fenceP p id up)) : FnH Try.prog 15 #[v.val, .int .i64 id, .slice u.p u.n u.c] H K := by
  apply reassign_Fence_fn
  unfold reassign_Fence_vc
  refine right_spec h fun H1 s1 => ⟨_, rfl, br_intro (fun h1 => k.err (by rw [fenceP, if_pos h1]) s1) (fun h1 => ?_)⟩
  have h1' : ¬ (!rightB p) = true := by rw [h1]; simp
  have hr : RightOf p := right_iff.1 (by simpa using h1)
  refine broker_spec ⟨_, rfl, br_intro (fun h2 => k.err (by rw [fenceP, if_neg h1', if_pos h2]) s1) (fun h2 => ?_)⟩
  have h2' : ¬ (!decide (1 ≤ id ∧ id ≤ 7)) = true := by rw [h2]; simp
  rw [fenceP, if_neg h1', if_neg h2'] at k
  refine clone_part_spec (h.sub s1) hb fun w H' hs hw => ⟨w.id, w.leader, w.epoch, w.version, w.isr, w.replicas, w.adding, w.removing, w.min, rfl, ?_⟩
  have s2 := s1.trans hs
  have he : 0 ≤ p.epoch ∧ p.epoch ≤ 1000000000 := by have := hr.epoch; omega
  have hv : 0 ≤ p.version ∧ p.version ≤ 1000000000 := by have := hr.version; omega
  have hlen : decide (((w.isr.n : Nat) : Int) > 1) = decide (1 < p.isr.length) := decide_eq_decide.2 (by have := hw.isr.len; omega)
  refine ⟨fun b H5 => H5 = H' ∧ b = (decide (id ∈ p.isr) && decide (1 < p.isr.length)), contains_spec hw.isr ⟨_, rfl, br_intro (fun h3 => ⟨rfl, rfl, by rw [hlen, h3, Bool.true_and]⟩) (fun h3 => ⟨rfl, rfl, by rw [h3, Bool.false_and]⟩)⟩, ?_⟩
  rintro b H5 ⟨rfl, eb⟩
  rw [← eb] at k
  have k := k.sub s2
  have A : b = true → (!b && p.leader != id) = false → ∀ q1, H5 q1 = none → letH (Heap.upd H5 q1 (.cells #[.int .i64 id] 3 (0, 0))) fun H6 => FnH Try.prog 29 #[.slice w.isr.p w.isr.n w.isr.c, .slice (some ⟨q1, 0, none⟩) 1 1] H6 fun r5 H7 =>
      ∃ l5 : Sl, r5 = .slice l5.p l5.n l5.c ∧ br (w.leader == id) (FnH Try.prog 35 #[.slice w.replicas.p w.replicas.n w.replicas.c, .slice l5.p l5.n l5.c, .slice u.p u.n u.c, .int .i64 id] H7 fun r6 H8 => ∃ n6 : Int, r6 = .int .i64 n6 ∧ LedTail { w with isr := l5 } n6 K H8)
      (FnH Try.prog 33 #[({ w with isr := l5 } : PV).val] H7 (ChangedTail K)) := by
    intro h4 h5 q1 hq1
    rw [if_neg (by rw [h5]; simp)] at k
    refine letH_intro fun H6 e6 => ?_
    have s6 : HL.Sub H5 H6 := by rw [e6]; exact Sub.new hq1 _
    refine without_spec (t := ⟨some ⟨q1, 0, none⟩, 1, 1⟩) (m := [id]) (hw.isr.sub s6) (by rw [e6]; exact one_in) (by rw [hw.isr.len]; exact hb.isr) fun r H7 s7 hr7 => ⟨r, rfl, ?_⟩
    have s57 := s6.trans s7
    have hw7 : PIn H7 { w with isr := r } { p with isr := withoutL p.isr [id] } := ⟨hw.id, hw.leader, hw.epoch, hw.version, hw.min, hr7, hw.replicas.sub s57, hw.adding.sub s57, hw.removing.sub s57⟩
    refine fence_tail hw7 ⟨Nat.le_trans (List.length_filter_le _ _) hb.isr, hb.replicas, hb.adding, hb.removing⟩ (hup.sub (s2.trans s57)) he hv ?_
    simp only [h4, if_true] at k
    exact k.sub s57
  have B : b = false → (!b && p.leader != id) = false → br (w.leader == id) (FnH Try.prog 35 #[.slice w.replicas.p w.replicas.n w.replicas.c, .slice w.isr.p w.isr.n w.isr.c, .slice u.p u.n u.c, .int .i64 id] H5 fun r6 H8 => ∃ n6 : Int, r6 = .int .i64 n6 ∧ LedTail w n6 K H8)
      (FnH Try.prog 33 #[w.val] H5 (ChangedTail K)) := by
    intro h4 h5
    rw [if_neg (by rw [h5]; simp)] at k
    refine fence_tail hw hb (hup.sub s2) he hv ?_
    simp only [h4, if_neg Bool.false_ne_true] at k
    exact k
  refine br_intro (fun h4 => br_intro (fun h5 => ?_) (fun h5 => ?_)) (fun h4 => ?_)
  · rw [hw.leader] at h5
    rw [if_pos (by rw [h4, h5]; rfl)] at k
    exact k w H5 (Sub.refl _) hw
  · rw [hw.leader] at h5
    have h5 : (!b && p.leader != id) = false := by rw [h4, h5]; rfl
    exact br_intro (fun h6 => A h6 h5) (fun h6 => B h6 h5)
  · have h5 : (!b && p.leader != id) = false := by rw [h4]; rfl
    exact br_intro (fun h6 => A h6 h5) (fun h6 => B h6 h5)
end Go.Proofs.Ytahempkggcbegaa
