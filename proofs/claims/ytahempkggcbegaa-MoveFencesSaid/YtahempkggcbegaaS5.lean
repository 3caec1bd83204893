/- What the decisions do with a partition's state: each does what a small plain function says. -/
import Derived.Test.YtahempkggcbegaaS4
import Derived.Test.YtahempkggcbegaaV3
namespace Go.Proofs.Ytahempkggcbegaa
open Go.HL

structure RightOf (p : Part) : Prop where
  id : 1 ≤ p.id ∧ p.id ≤ 16
  min : 1 ≤ p.min ∧ p.min ≤ 5
  epoch : 1 ≤ p.epoch ∧ p.epoch ≤ 1000000000
  version : 1 ≤ p.version ∧ p.version ≤ 1000000000
  replicas : idsL p.replicas = true
  isr : idsL p.isr = true
  adding : idsL p.adding = true
  removing : idsL p.removing = true
  pos : 0 < p.isr.length
  isrIn : withinL p.isr p.replicas = true
  addIn : withinL p.adding p.replicas = true
  remIn : withinL p.removing p.replicas = true
  apart : (withL p.adding p.removing).length = 0
  fewer : p.removing.length < p.replicas.length
  leader : p.leader = 0 ∨ p.leader ∈ p.isr
theorem right_iff {p : Part} : rightB p = true ↔ RightOf p := by
  unfold rightB
  simp only [Bool.and_eq_true, Bool.or_eq_true, decide_eq_true_eq]
  constructor
  · rintro ⟨⟨⟨⟨⟨⟨⟨⟨⟨⟨⟨⟨⟨⟨h1, h2⟩, h3⟩, h4⟩, h5⟩, h6⟩, h7⟩, h8⟩, h9⟩, h10⟩, h11⟩, h12⟩, h13⟩, h14⟩, h15⟩
    exact ⟨h1, h2, h3, h4, h5, h6, h7, h8, h9, h10, h11, h12, h13, h14, h15⟩
  · rintro ⟨h1, h2, h3, h4, h5, h6, h7, h8, h9, h10, h11, h12, h13, h14, h15⟩
    exact ⟨⟨⟨⟨⟨⟨⟨⟨⟨⟨⟨⟨⟨⟨h1, h2⟩, h3⟩, h4⟩, h5⟩, h6⟩, h7⟩, h8⟩, h9⟩, h10⟩, h11⟩, h12⟩, h13⟩, h14⟩, h15⟩
theorem RightOf.small {p : Part} (h : RightOf p) : Small p :=
  ⟨by have := ids_len h.isr; omega, by have := ids_len h.replicas; omega, by have := ids_len h.adding; omega, by have := ids_len h.removing; omega⟩

/-- A new leader, then a new version. -/
theorem led_changed {H : Heap} {v : PV} {p : Part} {n : Int} {K : Value → Heap → Prop} (h : PIn H v p) (he : 0 ≤ p.epoch ∧ p.epoch ≤ 1000000000) (hv : 0 ≤ p.version ∧ p.version ≤ 1000000000)
    (k : ∀ u, PIn H u (changedP (ledP p n)).1 → K (.tuple #[u.val, .int .i64 (changedP (ledP p n)).2]) H) : ∀ q1 : Nat, H q1 = none →
    FnH Try.prog 34 #[.pointer (some ⟨q1, 0, none⟩), .int .i64 n] (Heap.upd H q1 (.cells v.cells 24 (0, 0))) fun r6 H8 =>
      r6 = .tuple #[] ∧ ∃ (n11 n12 n13 n14 : Int) (l9 l10 l11 l12 : Sl) (n15 : Int),
      H8 q1 = some (.cells #[.int .i64 n11, .int .i64 n12, .int .i64 n13, .int .i64 n14, .slice l9.p l9.n l9.c, .slice l10.p l10.n l10.c, .slice l11.p l11.n l11.c, .slice l12.p l12.n l12.c, .int .i64 n15] 24 (0, 0)) ∧
      letH (Heap.del H8 q1) fun H9 =>
      FnH Try.prog 33 #[.agg #[.int .i64 n11, .int .i64 n12, .int .i64 n13, .int .i64 n14, .slice l9.p l9.n l9.c, .slice l10.p l10.n l10.c, .slice l11.p l11.n l11.c, .slice l12.p l12.n l12.c, .int .i64 n15]] H9 fun r7 H10 =>
        ∃ (n16 n17 n18 n19 : Int) (l13 l14 l15 l16 : Sl) (n20 n21 : Int),
        r7 = .tuple #[.agg #[.int .i64 n16, .int .i64 n17, .int .i64 n18, .int .i64 n19, .slice l13.p l13.n l13.c, .slice l14.p l14.n l14.c, .slice l15.p l15.n l15.c, .slice l16.p l16.n l16.c, .int .i64 n20], .int .i64 n21] ∧
        K (.tuple #[.agg #[.int .i64 n16, .int .i64 n17, .int .i64 n18, .int .i64 n19, .slice l13.p l13.n l13.c, .slice l14.p l14.n l14.c, .slice l15.p l15.n l15.c, .slice l16.p l16.n l16.c, .int .i64 n20], .int .i64 n21]) H10 := by
  intro q hq
  refine led_spec (by rw [h.epoch]; exact he) ⟨rfl, (ledV v n).id, (ledV v n).leader, (ledV v n).epoch, (ledV v n).version, (ledV v n).isr, (ledV v n).replicas, (ledV v n).adding, (ledV v n).removing, (ledV v n).min, Heap.upd_same _ _ _, ?_⟩
  refine letH_intro fun H9 e9 => ?_
  rw [Heap.del_upd hq] at e9
  subst e9
  have hver : (ledP p n).version = p.version := by unfold ledP; split <;> rfl
  refine changed_spec (led_in h n) (by rw [hver]; exact hv) fun u hu => ⟨u.id, u.leader, u.epoch, u.version, u.isr, u.replicas, u.adding, u.removing, u.min, _, rfl, k u hu⟩
theorem changed_only {H : Heap} {v : PV} {p : Part} {K : Value → Heap → Prop} (h : PIn H v p) (hv : 0 ≤ p.version ∧ p.version ≤ 1000000000)
    (k : ∀ u, PIn H u (changedP p).1 → K (.tuple #[u.val, .int .i64 (changedP p).2]) H) :
      FnH Try.prog 33 #[v.val] H fun r7 H10 =>
        ∃ (n16 n17 n18 n19 : Int) (l13 l14 l15 l16 : Sl) (n20 n21 : Int),
        r7 = .tuple #[.agg #[.int .i64 n16, .int .i64 n17, .int .i64 n18, .int .i64 n19, .slice l13.p l13.n l13.c, .slice l14.p l14.n l14.c, .slice l15.p l15.n l15.c, .slice l16.p l16.n l16.c, .int .i64 n20], .int .i64 n21] ∧
        K (.tuple #[.agg #[.int .i64 n16, .int .i64 n17, .int .i64 n18, .int .i64 n19, .slice l13.p l13.n l13.c, .slice l14.p l14.n l14.c, .slice l15.p l15.n l15.c, .slice l16.p l16.n l16.c, .int .i64 n20], .int .i64 n21]) H10 :=
  changed_spec h hv fun u hu => ⟨u.id, u.leader, u.epoch, u.version, u.isr, u.replicas, u.adding, u.removing, u.min, _, rfl, k u hu⟩
theorem clone_only {H : Heap} {v : PV} {p : Part} {K : Value → Heap → Prop} (h : PIn H v p) (hb : Small p) (k : ∀ (u : PV) (H' : Heap), HL.Sub H H' → PIn H' u p → K u.val H') :
    FnH Try.prog 30 #[v.val] H fun r4 H6 => ∃ (n1 n2 n3 n4 : Int) (l1 l2 l3 l4 : Sl) (n5 : Int),
      r4 = .agg #[.int .i64 n1, .int .i64 n2, .int .i64 n3, .int .i64 n4, .slice l1.p l1.n l1.c, .slice l2.p l2.n l2.c, .slice l3.p l3.n l3.c, .slice l4.p l4.n l4.c, .int .i64 n5] ∧
      K (.agg #[.int .i64 n1, .int .i64 n2, .int .i64 n3, .int .i64 n4, .slice l1.p l1.n l1.c, .slice l2.p l2.n l2.c, .slice l3.p l3.n l3.c, .slice l4.p l4.n l4.c, .int .i64 n5]) H6 :=
  clone_part_spec h hb fun u H' hs hu => ⟨u.id, u.leader, u.epoch, u.version, u.isr, u.replicas, u.adding, u.removing, u.min, rfl, k u H' hs hu⟩

def zeroV : PV := ⟨0, 0, 0, 0, ⟨none, 0, 0⟩, ⟨none, 0, 0⟩, ⟨none, 0, 0⟩, ⟨none, 0, 0⟩, 0⟩
/-- What is said of a decision: its state and its error are as a plain function says. -/
def Ans (K : Value → Heap → Prop) (H : Heap) (a : Part × Int) : Prop := ∀ (u : PV) H', HL.Sub H H' → PIn H' u a.1 → K (.tuple #[u.val, .int .i64 a.2]) H'
theorem Ans.err {K : Value → Heap → Prop} {H : Heap} {a : Part × Int} (k : Ans K H a) {c : Int} (e : a = (zeroPart, c)) {H' : Heap} (hs : HL.Sub H H') :
    K (.tuple #[.agg #[.int .i64 0, .int .i64 0, .int .i64 0, .int .i64 0, .slice none 0 0, .slice none 0 0, .slice none 0 0, .slice none 0 0, .int .i64 0], .int .i64 c]) H' := by
  subst e
  exact k zeroV H' hs (zero_in H')

def electP (p : Part) (leader : Int) : Part × Int :=
  if (!rightB p || (leader != 0 && !decide (1 ≤ leader ∧ leader ≤ 7))) = true then (zeroPart, 1)
  else if (leader != 0 && !decide (leader ∈ p.isr)) = true then (zeroPart, 19)
  else if (leader == p.leader) = true then (p, 0)
  else changedP (ledP p leader)
theorem elect_spec {H : Heap} {v : PV} {p : Part} {leader : Int} {K : Value → Heap → Prop} (h : PIn H v p) (hb : Small p) (k : Ans K H (electP p leader)) : FnH Try.prog 22 #[v.val, .int .i64 leader] H K := by
  apply reassign_Elect_fn
  unfold reassign_Elect_vc
  refine ⟨fun b H' => HL.Sub H H' ∧ b = (!rightB p || (leader != 0 && !decide (1 ≤ leader ∧ leader ≤ 7))), right_spec h fun H1 s1 => ⟨_, rfl, br_intro (fun h1 => ?_) (fun h1 => br_intro (fun h2 => ?_) (fun h2 => ?_))⟩, ?_⟩
  · exact ⟨rfl, s1, by rw [h1, Bool.true_or]⟩
  · exact broker_spec ⟨_, rfl, rfl, s1, by rw [h1, h2, Bool.false_or, Bool.true_and]⟩
  · exact ⟨rfl, s1, by rw [h1, h2, Bool.false_or, Bool.false_and]⟩
  · rintro b H3 ⟨s3, e⟩
    refine br_intro (fun h3 => ?_) (fun h3 => ?_)
    · exact k.err (by rw [electP, if_pos (by rw [← e]; exact h3)]) s3
    · have h3' : ¬ (!rightB p || (leader != 0 && !decide (1 ≤ leader ∧ leader ≤ 7))) = true := by rw [← e, h3]; simp
      have hr : RightOf p := by
        refine right_iff.1 ?_
        cases hh : rightB p with
        | true => rfl
        | false => rw [hh] at h3'; simp at h3'
      refine ⟨fun b H' => HL.Sub H H' ∧ b = (leader != 0 && !decide (leader ∈ p.isr)), br_intro (fun h2 => ?_) (fun h2 => ?_), ?_⟩
      · exact contains_spec (h.isr.sub s3) ⟨_, rfl, rfl, s3, by rw [h2, Bool.true_and]⟩
      · exact ⟨rfl, s3, by rw [h2, Bool.false_and]⟩
      · rintro b H5 ⟨s5, e5⟩
        refine br_intro (fun h4 => ?_) (fun h4 => ?_)
        · exact k.err (by rw [electP, if_neg h3', if_pos (by rw [← e5]; exact h4)]) s5
        · have h4' : ¬ (leader != 0 && !decide (leader ∈ p.isr)) = true := by rw [← e5, h4]; simp
          refine br_intro (fun h6 => ?_) (fun h6 => ?_) <;> rw [h.leader] at h6
          · rw [electP, if_neg h3', if_neg h4', if_pos h6] at k
            exact clone_part_spec (h.sub s5) hb fun u H' hs hu => ⟨u.id, u.leader, u.epoch, u.version, u.isr, u.replicas, u.adding, u.removing, u.min, rfl, k u H' (s5.trans hs) hu⟩
          · rw [electP, if_neg h3', if_neg h4', if_neg (by rw [h6]; simp)] at k
            exact clone_part_spec (h.sub s5) hb fun u H' hs hu => ⟨u.id, u.leader, u.epoch, u.version, u.isr, u.replicas, u.adding, u.removing, u.min, rfl,
              led_changed hu (by have := hr.epoch; omega) (by have := hr.version; omega) fun u2 hu2 => k u2 H' (s5.trans hs) hu2⟩

def backP (p : Part) (id : Int) : Part × Int :=
  if (!rightB p) = true then (zeroPart, 1) else if (!decide (1 ≤ id ∧ id ≤ 7)) = true then (zeroPart, 1)
  else if (p.leader != 0) = true then (p, 0) else if (!decide (id ∈ p.isr)) = true then (p, 0) else changedP (ledP p id)
theorem back_spec {H : Heap} {v : PV} {p : Part} {id : Int} {K : Value → Heap → Prop} (h : PIn H v p) (hb : Small p) (k : Ans K H (backP p id)) : FnH Try.prog 16 #[v.val, .int .i64 id] H K := by
  apply reassign_Back_fn
  unfold reassign_Back_vc
  refine right_spec h fun H1 s1 => ⟨_, rfl, br_intro (fun h1 => k.err (by rw [backP, if_pos h1]) s1) (fun h1 => ?_)⟩
  have h1' : ¬ (!rightB p) = true := by rw [h1]; simp
  have hr : RightOf p := right_iff.1 (by simpa using h1)
  refine broker_spec ⟨_, rfl, br_intro (fun h2 => k.err (by rw [backP, if_neg h1', if_pos h2]) s1) (fun h2 => ?_)⟩
  have h2' : ¬ (!decide (1 ≤ id ∧ id ≤ 7)) = true := by rw [h2]; simp
  rw [backP, if_neg h1', if_neg h2'] at k
  refine clone_part_spec (h.sub s1) hb fun u H' hs hu => ⟨u.id, u.leader, u.epoch, u.version, u.isr, u.replicas, u.adding, u.removing, u.min, rfl, ?_⟩
  refine br_intro (fun h3 => ?_) (fun h3 => ?_) <;> rw [hu.leader] at h3
  · rw [if_pos h3] at k
    exact k u H' (s1.trans hs) hu
  · rw [if_neg (by rw [h3]; simp)] at k
    refine contains_spec hu.isr ⟨_, rfl, br_intro (fun h4 => ?_) (fun h4 => ?_)⟩
    · rw [if_pos h4] at k
      exact k u H' (s1.trans hs) hu
    · rw [if_neg (by rw [h4]; simp)] at k
      exact led_changed hu (by have := hr.epoch; omega) (by have := hr.version; omega) fun u2 hu2 => k u2 H' (s1.trans hs) hu2
end Go.Proofs.Ytahempkggcbegaa
