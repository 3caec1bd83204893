/- The plain law of MoveRules, the rest: the end of a move; any decision. -/
import Derived.Test.YtahempkggcbegaaP3
namespace Go.Proofs.Ytahempkggcbegaa
open Go.HL

theorem finish_step {p : Part} {up : List Int} (hr : RightOf p) : Step p 6 (finishP p up) := by
  unfold finishP
  split
  · exact Step.err (by decide)
  split
  · exact Step.err (by decide)
  split
  · exact Step.err (by decide)
  rename_i h3
  have h3 := within_iff.1 (show withinL (withoutL p.replicas p.removing) p.isr = true by simpa using h3)
  -- somebody stays
  have hpos : 0 < (withoutL p.replicas p.removing).length := by
    rcases Nat.eq_zero_or_pos (withoutL p.replicas p.removing).length with h0 | h0
    · have h1 := List.length_eq_zero_iff.1 h0
      have h2 : p.replicas.length ≤ p.removing.length := length_le_of_nodup _ (ids_iff.1 hr.replicas).1 fun x hx => by
        by_cases e : x ∈ p.removing
        · exact e
        · have := mem_without.2 ⟨hx, e⟩
          rw [h1] at this; simp at this
      have := hr.fewer; omega
    · exact h0
  obtain ⟨a, ha⟩ := List.exists_mem_of_length_pos hpos
  have hai : a ∈ withL p.isr (withoutL p.replicas p.removing) := mem_with.2 ⟨h3 a ha, ha⟩
  have base : ∀ (n e : Int), 1 ≤ e ∧ e ≤ 1000000000 → (n = 0 ∨ n ∈ withL p.isr (withoutL p.replicas p.removing)) →
      RightOf ⟨p.id, n, e, p.version, withL p.isr (withoutL p.replicas p.removing), withoutL p.replicas p.removing, [], [], p.min⟩ := fun n e he hn =>
    ⟨hr.id, hr.min, he, hr.version, ids_without hr.replicas, ids_with hr.isr, by rfl, by rfl, List.length_pos_of_mem hai, within_iff.2 fun x hx => (mem_with.1 hx).2, within_iff.2 fun x hx => absurd hx (by simp), within_iff.2 fun x hx => absurd hx (by simp), rfl, hpos, hn⟩
  have keep : ∀ (q : Part), q.replicas = withoutL p.replicas p.removing → q.isr = withL p.isr (withoutL p.replicas p.removing) → ∀ x ∈ p.replicas, x ∈ q.replicas ∨ ((6 : Int) = 5 ∧ x ∈ p.adding) ∨ ((6 : Int) = 6 ∧ ∀ y ∈ q.replicas, y ∈ q.isr) := fun q e1 e2 x hx =>
    .inr (.inr ⟨rfl, fun y hy => by rw [e1] at hy; rw [e2]; exact mem_with.2 ⟨h3 y hy, hy⟩⟩)
  unfold finishB
  split
  · rename_i h4
    have h4 : ¬ p.leader = 0 ∧ ¬ p.leader ∈ withoutL p.replicas p.removing := by simpa using h4
    have hw := way_cases (withoutL p.replicas p.removing) (withL p.isr (withoutL p.replicas p.removing)) up 0
    have hne : ¬ p.leader = wayL (withoutL p.replicas p.removing) (withL p.isr (withoutL p.replicas p.removing)) up 0 := fun e => by
      rcases hw with q | q
      · exact h4.1 (e.trans q)
      · rw [← e] at q; exact h4.2 (mem_with.1 q.1).2
    have hw : _ = (0 : Int) ∨ _ ∈ withL p.isr (withoutL p.replicas p.removing) := hw.imp_right And.left
    unfold ledP
    rw [if_neg hne]
    refine Step.changed (fun he => ?_) rfl rfl rfl (.inr ⟨fun e => hne e.symm, rfl⟩) (fun _ h0 => ?_) (keep _ rfl rfl)
    · have he : p.epoch + 1 ≤ 1000000000 := he
      exact base _ _ (by have := hr.epoch; show 1 ≤ p.epoch + 1 ∧ p.epoch + 1 ≤ 1000000000; omega) hw
    · have := hw.resolve_left h0
      exact ⟨(mem_with.1 this).1, this⟩
  · rename_i h4
    have h4 : p.leader = 0 ∨ p.leader ∈ withL p.isr (withoutL p.replicas p.removing) := by
      rcases hr.leader with e | e
      · exact .inl e
      · by_cases e0 : p.leader = 0
        · exact .inl e0
        · refine .inr (mem_with.2 ⟨e, ?_⟩)
          simp at h4
          exact h4 e0
    exact Step.changed (fun _ => base _ _ hr.epoch h4) rfl rfl rfl (.inl ⟨rfl, rfl⟩) (fun h => absurd rfl h) (keep _ rfl rfl)

theorem cancel_step {p : Part} {up : List Int} (hr : RightOf p) : Step p 5 (cancelP p up) := by
  unfold cancelP
  split
  · exact Step.err (by decide)
  split
  · exact Step.err (by decide)
  split
  · exact Step.err (by decide)
  rename_i h3
  obtain ⟨a, ha⟩ : ∃ a, a ∈ withoutL p.isr p.adding := by
    rcases Nat.eq_zero_or_pos (withoutL p.isr p.adding).length with h0 | h0
    · have h1 := List.length_eq_zero_iff.1 h0
      refine absurd (within_iff.2 fun x hx => ?_) h3
      by_cases e : x ∈ p.adding
      · exact e
      · have := mem_without.2 ⟨hx, e⟩
        rw [h1] at this; simp at this
    · exact List.exists_mem_of_length_pos h0
  have sub : ∀ x ∈ withoutL p.isr p.adding, x ∈ withoutL p.replicas p.adding := fun x hx => mem_without.2 ⟨within_iff.1 hr.isrIn x (mem_without.1 hx).1, (mem_without.1 hx).2⟩
  have base : ∀ (n e : Int), 1 ≤ e ∧ e ≤ 1000000000 → (n = 0 ∨ n ∈ withoutL p.isr p.adding) →
      RightOf ⟨p.id, n, e, p.version, withoutL p.isr p.adding, withoutL p.replicas p.adding, [], [], p.min⟩ := fun n e he hn =>
    ⟨hr.id, hr.min, he, hr.version, ids_without hr.replicas, ids_without hr.isr, by rfl, by rfl, List.length_pos_of_mem ha, within_iff.2 sub, within_iff.2 fun x hx => absurd hx (by simp), within_iff.2 fun x hx => absurd hx (by simp), rfl, List.length_pos_of_mem (sub a ha), hn⟩
  have keep : ∀ (q : Part), q.replicas = withoutL p.replicas p.adding → ∀ x ∈ p.replicas, x ∈ q.replicas ∨ ((5 : Int) = 5 ∧ x ∈ p.adding) ∨ ((5 : Int) = 6 ∧ ∀ y ∈ q.replicas, y ∈ q.isr) := fun q e1 x hx => by
    by_cases e : x ∈ p.adding
    · exact .inr (.inl ⟨rfl, e⟩)
    · exact .inl (by rw [e1]; exact mem_without.2 ⟨hx, e⟩)
  unfold cancelB
  split
  · rename_i h4
    have hw := way_cases (withoutL p.replicas p.adding) (withoutL p.isr p.adding) up 0
    have ad := (ids_iff.1 hr.adding).2 _ h4
    have hne : ¬ p.leader = wayL (withoutL p.replicas p.adding) (withoutL p.isr p.adding) up 0 := fun e => by
      rcases hw with q | q
      · rw [← e] at q; omega
      · rw [← e] at q; exact (mem_without.1 q.1).2 h4
    have hw : _ = (0 : Int) ∨ _ ∈ withoutL p.isr p.adding := hw.imp_right And.left
    unfold ledP
    rw [if_neg hne]
    refine Step.changed (fun he => ?_) rfl rfl rfl (.inr ⟨fun e => hne e.symm, rfl⟩) (fun _ h0 => ?_) (keep _ rfl)
    · have he : p.epoch + 1 ≤ 1000000000 := he
      exact base _ _ (by have := hr.epoch; show 1 ≤ p.epoch + 1 ∧ p.epoch + 1 ≤ 1000000000; omega) hw
    · have := hw.resolve_left h0
      exact ⟨(mem_without.1 this).1, this⟩
  · rename_i h4
    have h4 : p.leader = 0 ∨ p.leader ∈ withoutL p.isr p.adding := hr.leader.imp_right fun e => mem_without.2 ⟨e, h4⟩
    exact Step.changed (fun _ => base _ _ hr.epoch h4) rfl rfl rfl (.inl ⟨rfl, rfl⟩) (fun h => absurd rfl h) (keep _ rfl)

/-- Any decision. -/
def didP (p : Part) (k a b c : Int) (l up : List Int) : Part × Int :=
  if (k == 0) = true then electP p a else if (k == 1) = true then fenceP p a up else if (k == 2) = true then backP p a else if (k == 3) = true then alterP p a b c l up else if (k == 4) = true then beginP p l up
  else if (k == 6) = true then finishP p up else cancelP p up
theorem did_step {p : Part} {k a b c : Int} {l up : List Int} (hr : RightOf p) (hk : 0 ≤ k ∧ k ≤ 6) : Step p k (didP p k a b c l up) := by
  unfold didP
  split
  · exact elect_step hr
  split
  · exact fence_step hr
  split
  · exact back_step hr
  split
  · exact alter_step hr
  split
  · exact begin_step
  split
  · rename_i h; have h : k = 6 := by simpa using h
    rw [h]; exact finish_step hr
  · rename_i h0 h1 h2 h3 h4 h6
    simp at h0 h1 h2 h3 h4 h6
    have : k = 5 := by omega
    rw [this]; exact cancel_step hr
theorem pick_range {c n : Int} (hc : -9223372036854775808 ≤ c ∧ c ≤ 9223372036854775807) (hn : 0 < n) : 0 ≤ pickI c n ∧ pickI c n < n := by
  have key : ∀ x : Int, 0 ≤ x → 0 ≤ Int.tmod x n ∧ Int.tmod x n < n := fun x hx => ⟨Int.tmod_nonneg n hx, Int.tmod_lt_of_pos x hn⟩
  unfold pickI
  split
  · rw [wrap64_id (n := c + 1) (by omega) (by omega), wrap64_id (by omega) (by omega)]
    exact key _ (by omega)
  · exact key _ (by omega)
end Go.Proofs.Ytahempkggcbegaa
