/- The plain law of MoveFences: brokers are fenced one by one. -/
import Derived.Test.YtahempkggcbegaaP4
namespace Go.Proofs.Ytahempkggcbegaa
open Go.HL

/-- While brokers are fenced: who is up, and what is known of the state. -/
structure Fenced (p : Part) (up : List Int) : Prop where
  right : RightOf p
  nodup : up.Nodup
  range : ∀ x ∈ up, 1 ≤ x ∧ x ≤ 7
  leader : p.leader = 0 ∨ p.leader ∈ up
  isr : p.isr.length = 1 ∨ ∀ x ∈ p.isr, x ∈ up
  few : up.length ≤ 7
  version : p.version + up.length ≤ 999999907
  epoch : p.epoch + up.length ≤ 999999907

theorem fenceB_facts (p : Part) (id : Int) (up : List Int) : (fenceB p id up).isr = (fenceOut p id).isr ∧ (fenceB p id up).version = p.version ∧ (fenceB p id up).epoch ≤ p.epoch + 1 ∧
    (fenceB p id up).leader = if p.leader = id then wayL p.replicas (fenceOut p id).isr up id else p.leader := by
  obtain ⟨e1, e2, e3, e4, e5, e6, e7, e8⟩ := out_same p id
  unfold fenceB
  by_cases h : p.leader = id
  · rw [if_pos (by simpa using h), if_pos h]
    obtain ⟨f1, f2, f3, f4, f5, f6, f7⟩ := led_same (fenceOut p id) (wayL p.replicas (fenceOut p id).isr up id)
    have fe := led_ep (fenceOut p id) (wayL p.replicas (fenceOut p id).isr up id)
    exact ⟨f4, by rw [f3, e3], by rw [e4] at fe; omega, led_leader _ _⟩
  · rw [if_neg (by simpa using h), if_neg h]
    exact ⟨rfl, e3, by rw [e4]; omega, e5⟩

theorem fence_law {p : Part} {up up' : List Int} {id : Int} (F : Fenced p up) (hid : id ∈ up) (hn : up'.Nodup) (hm : ∀ x, x ∈ up' ↔ x ∈ up ∧ x ≠ id) (hl : up.length = up'.length + 1) :
    ∃ q, fenceP p id up' = (q, 0) ∧ Fenced q up' ∧ q.leader ≠ id ∧ (id ∈ q.isr → q.isr.length ≤ 1) := by
  have hr := F.right
  have hi := F.range id hid
  have hrange : ∀ x ∈ up', 1 ≤ x ∧ x ≤ 7 := fun x hx => F.range x ((hm x).1 hx).1
  have few := F.few
  have ve := F.version
  have ep := F.epoch
  have hpos := hr.pos
  rw [fence_eq, if_neg (by rw [right_iff.2 hr]; simp), if_neg (by rw [decide_eq_true hi]; simp)]
  have hstay : ¬ (decide (id ∈ p.isr) && decide (1 < p.isr.length)) = true → (p.isr.length = 1 ∨ ∀ x ∈ p.isr, x ∈ up') ∧ (id ∈ p.isr → p.isr.length ≤ 1) := fun h => by
    have h : ¬ (id ∈ p.isr ∧ 1 < p.isr.length) := by simpa using h
    refine ⟨?_, fun q => Nat.le_of_not_lt fun w => h ⟨q, w⟩⟩
    rcases F.isr with q | q
    · exact .inl q
    · by_cases w : 1 < p.isr.length
      · exact .inr fun x hx => (hm x).2 ⟨q x hx, fun e => h ⟨e ▸ hx, w⟩⟩
      · exact .inl (by omega)
  have hlead : p.leader ≠ id → p.leader = 0 ∨ p.leader ∈ up' := fun h => by
    rcases F.leader with q | q
    · exact .inl q
    · exact .inr ((hm _).2 ⟨q, h⟩)
  by_cases hc : (!(decide (id ∈ p.isr) && decide (1 < p.isr.length)) && p.leader != id) = true
  · rw [if_pos hc]
    simp only [Bool.and_eq_true, Bool.not_eq_true'] at hc
    have h1 : ¬ (decide (id ∈ p.isr) && decide (1 < p.isr.length)) = true := by rw [hc.1]; simp
    have h2 : p.leader ≠ id := by simpa using hc.2
    obtain ⟨s1, s2⟩ := hstay h1
    exact ⟨p, rfl, ⟨hr, hn, hrange, hlead h2, s1, by omega, by omega, by omega⟩, h2, s2⟩
  · rw [if_neg hc]
    obtain ⟨f1, f2, f3, f4⟩ := fenceB_facts p id up'
    have he : (fenceB p id up').epoch ≤ 1000000000 := by omega
    have hw := way_cases p.replicas (fenceOut p id).isr up' id
    have hl2 : (fenceB p id up').leader ≠ id ∧ ((fenceB p id up').leader = 0 ∨ (fenceB p id up').leader ∈ up') := by
      rw [f4]
      split
      · rcases hw with q | q
        · exact ⟨by rw [q]; omega, .inl q⟩
        · exact ⟨q.2.2, .inr q.2.1⟩
      · rename_i h
        exact ⟨h, hlead h⟩
    have hi2 : ((fenceOut p id).isr.length = 1 ∨ ∀ x ∈ (fenceOut p id).isr, x ∈ up') ∧ (id ∈ (fenceOut p id).isr → (fenceOut p id).isr.length ≤ 1) := by
      rw [fence_isr]
      split
      · rename_i h
        have h : id ∈ p.isr ∧ 1 < p.isr.length := by simpa using h
        refine ⟨.inr fun x hx => ?_, fun q => absurd (List.mem_singleton.2 rfl) (mem_without.1 q).2⟩
        have hx := mem_without.1 hx
        rcases F.isr with q | q
        · omega
        · exact (hm x).2 ⟨q x hx.1, fun e => hx.2 (by rw [e]; exact List.mem_singleton.2 rfl)⟩
      · rename_i h
        exact hstay h
    rw [changed_ok ⟨by rw [f2]; omega, he⟩]
    refine ⟨_, rfl, ⟨bump_right (fenceB_right hr he) (by rw [f2]; omega), hn, hrange, hl2.2, ?_, by omega, ?_, ?_⟩, hl2.1, ?_⟩
    · show (fenceB p id up').isr.length = 1 ∨ ∀ x ∈ (fenceB p id up').isr, x ∈ up'
      rw [f1]; exact hi2.1
    · show (fenceB p id up').version + 1 + _ ≤ _
      rw [f2]; omega
    · show (fenceB p id up').epoch + _ ≤ _
      omega
    · show id ∈ (fenceB p id up').isr → (fenceB p id up').isr.length ≤ 1
      rw [f1]; exact hi2.2

theorem fenced_end {p : Part} (F : Fenced p []) : p.isr.length = 1 ∧ p.leader = 0 := by
  refine ⟨?_, F.leader.resolve_right (by simp)⟩
  rcases F.isr with q | q
  · exact q
  · have := F.right.pos
    obtain ⟨a, ha⟩ := List.exists_mem_of_length_pos this
    exact absurd (q a ha) (by simp)
theorem back_end {p : Part} (F : Fenced p []) {id : Int} (hid : id ∈ p.isr) : ∃ q, backP p id = (q, 0) ∧ q.leader = id ∧ q.epoch = p.epoch + 1 := by
  have hl := (fenced_end F).2
  have hi := (ids_iff.1 F.right.isr).2 id hid
  have ve := F.version
  have ep := F.epoch
  have hne : ¬ p.leader = id := by rw [hl]; omega
  unfold backP
  rw [if_neg (by rw [right_iff.2 F.right]; simp), if_neg (by rw [decide_eq_true hi]; simp), if_neg (by rw [hl]; simp), if_neg (by rw [decide_eq_true hid]; simp)]
  unfold ledP
  simp only [List.length_nil] at ve ep
  rw [if_neg hne, changed_ok ⟨by show p.version + 1 ≤ _; omega, by show p.epoch + 1 ≤ _; omega⟩]
  exact ⟨_, rfl, rfl, rfl⟩
end Go.Proofs.Ytahempkggcbegaa
