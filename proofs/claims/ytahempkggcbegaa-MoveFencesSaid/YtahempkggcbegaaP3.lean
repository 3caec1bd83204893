/- The plain law of MoveRules: what each decision makes of a right state keeps the rules. -/
import Derived.Test.YtahempkggcbegaaP1
namespace Go.Proofs.Ytahempkggcbegaa
open Go.HL

/-- From one state to the next. -/
structure Good (p q : Part) (kind : Int) : Prop where
  right : RightOf q
  id : q.id = p.id
  min : q.min = p.min
  version : q.version = p.version + 1
  ep : (q.leader = p.leader ∧ q.epoch = p.epoch) ∨ (q.leader ≠ p.leader ∧ q.epoch = p.epoch + 1)
  lead : q.leader ≠ p.leader → q.leader ≠ 0 → q.leader ∈ p.isr ∧ q.leader ∈ q.isr
  keep : ∀ x ∈ p.replicas, x ∈ q.replicas ∨ (kind = 5 ∧ x ∈ p.adding) ∨ (kind = 6 ∧ ∀ y ∈ q.replicas, y ∈ q.isr)

theorem bump_right {p : Part} (h : RightOf p) (hv : p.version + 1 ≤ 1000000000) : RightOf (bump p) :=
  ⟨h.id, h.min, h.epoch, by have := h.version; show 1 ≤ p.version + 1 ∧ p.version + 1 ≤ 1000000000; omega, h.replicas, h.isr, h.adding, h.removing, h.pos, h.isrIn, h.addIn, h.remIn, h.apart, h.fewer, h.leader⟩
theorem led_right {p : Part} {n : Int} (h : RightOf p) (hn : n = 0 ∨ n ∈ p.isr) (he : (ledP p n).epoch ≤ 1000000000) : RightOf (ledP p n) := by
  unfold ledP at he ⊢
  split
  · exact h
  · rename_i e
    rw [if_neg e] at he
    have he : p.epoch + 1 ≤ 1000000000 := he
    exact ⟨h.id, h.min, by have := h.epoch; show 1 ≤ p.epoch + 1 ∧ p.epoch + 1 ≤ 1000000000; omega, h.version, h.replicas, h.isr, h.adding, h.removing, h.pos, h.isrIn, h.addIn, h.remIn, h.apart, h.fewer, hn⟩
theorem led_leader (p : Part) (n : Int) : (ledP p n).leader = n := by
  unfold ledP
  split
  · assumption
  · rfl
theorem led_ep (p : Part) (n : Int) : (n = p.leader ∧ (ledP p n).epoch = p.epoch) ∨ (n ≠ p.leader ∧ (ledP p n).epoch = p.epoch + 1) := by
  unfold ledP
  split
  · rename_i e; exact .inl ⟨e.symm, rfl⟩
  · rename_i e; exact .inr ⟨fun q => e q.symm, rfl⟩
theorem led_same (p : Part) (n : Int) : (ledP p n).id = p.id ∧ (ledP p n).min = p.min ∧ (ledP p n).version = p.version ∧ (ledP p n).isr = p.isr ∧ (ledP p n).replicas = p.replicas ∧ (ledP p n).adding = p.adding ∧ (ledP p n).removing = p.removing := by
  unfold ledP
  split <;> exact ⟨rfl, rfl, rfl, rfl, rfl, rfl, rfl⟩
theorem way_cases (l isr up : List Int) (but : Int) : wayL l isr up but = 0 ∨ (wayL l isr up but ∈ isr ∧ wayL l isr up but ∈ up ∧ wayL l isr up but ≠ but) := by
  unfold wayL
  cases h : (withL (withL l isr) up).find? fun x => decide (x ≠ but) with
  | none => exact .inl rfl
  | some a =>
    have h1 := List.mem_of_find?_eq_some h
    have h2 := List.find?_some h
    exact .inr ⟨(mem_with.1 (mem_with.1 h1).1).2, (mem_with.1 h1).2, of_decide_eq_true h2⟩

/-- A step: to the same state, or by the rules; an error gives the empty state. -/
def Step (p : Part) (kind : Int) (a : Part × Int) : Prop := (a.2 ≠ 0 ∧ a.1 = zeroPart) ∨ (a.2 = 0 ∧ (a.1 = p ∨ Good p a.1 kind))
theorem Step.err {p : Part} {kind c : Int} (h : c ≠ 0) : Step p kind (zeroPart, c) := .inl ⟨h, rfl⟩
/-- A body that keeps the rules, then its new version. -/
theorem Step.changed {p b : Part} {kind : Int} (hr : b.epoch ≤ 1000000000 → RightOf b) (h1 : b.id = p.id) (h2 : b.min = p.min) (h3 : b.version = p.version)
    (h4 : (b.leader = p.leader ∧ b.epoch = p.epoch) ∨ (b.leader ≠ p.leader ∧ b.epoch = p.epoch + 1)) (h5 : b.leader ≠ p.leader → b.leader ≠ 0 → b.leader ∈ p.isr ∧ b.leader ∈ b.isr)
    (h6 : ∀ x ∈ p.replicas, x ∈ b.replicas ∨ (kind = 5 ∧ x ∈ p.adding) ∨ (kind = 6 ∧ ∀ y ∈ b.replicas, y ∈ b.isr)) : Step p kind (changedP b) := by
  rcases changed_cases b with ⟨e, -⟩ | ⟨e, hv, he⟩
  · rw [e]; exact Step.err (by decide)
  · rw [e]; exact .inr ⟨rfl, .inr ⟨bump_right (hr he) hv, h1, h2, by show b.version + 1 = _; rw [h3], h4, h5, h6⟩⟩

theorem elect_step {p : Part} {leader kind : Int} (hr : RightOf p) : Step p kind (electP p leader) := by
  unfold electP
  split
  · exact Step.err (by decide)
  · split
    · exact Step.err (by decide)
    · rename_i h2
      have h2 : leader = 0 ∨ leader ∈ p.isr := by
        simp at h2
        by_cases h : leader = 0
        · exact .inl h
        · exact .inr (h2 h)
      split
      · exact .inr ⟨rfl, .inl rfl⟩
      · obtain ⟨e1, e2, e3, e4, e5, e6, e7⟩ := led_same p leader
        have el := led_leader p leader
        refine Step.changed (fun he => led_right hr h2 he) e1 e2 e3 (by rw [el]; exact led_ep p leader) (fun _ h0 => ?_) (fun x hx => .inl (by rw [e5]; exact hx))
        rw [el] at h0 ⊢
        have := h2.resolve_left h0
        exact ⟨this, by rw [e4]; exact this⟩
theorem back_step {p : Part} {id kind : Int} (hr : RightOf p) : Step p kind (backP p id) := by
  unfold backP
  split
  · exact Step.err (by decide)
  · split
    · exact Step.err (by decide)
    · split
      · exact .inr ⟨rfl, .inl rfl⟩
      · split
        · exact .inr ⟨rfl, .inl rfl⟩
        · rename_i h4
          have h4 : id ∈ p.isr := by simpa using h4
          obtain ⟨e1, e2, e3, e4, e5, e6, e7⟩ := led_same p id
          have el := led_leader p id
          refine Step.changed (fun he => led_right hr (.inr h4) he) e1 e2 e3 (by rw [el]; exact led_ep p id) (fun _ h0 => ?_) (fun x hx => .inl (by rw [e5]; exact hx))
          rw [el]
          exact ⟨h4, by rw [e4]; exact h4⟩

/-- The body of Fence: out of the in-sync set, then a new leader. -/
def fenceOut (p : Part) (id : Int) : Part := if (decide (id ∈ p.isr) && decide (1 < p.isr.length)) = true then { p with isr := withoutL p.isr [id] } else p
def fenceB (p : Part) (id : Int) (up : List Int) : Part := if (p.leader == id) = true then ledP (fenceOut p id) (wayL p.replicas (fenceOut p id).isr up id) else fenceOut p id
theorem fence_isr (p : Part) (id : Int) : (fenceOut p id).isr = if (decide (id ∈ p.isr) && decide (1 < p.isr.length)) = true then withoutL p.isr [id] else p.isr := by
  unfold fenceOut; split <;> rfl
theorem fence_eq (p : Part) (id : Int) (up : List Int) : fenceP p id up = if (!rightB p) = true then (zeroPart, 1) else if (!decide (1 ≤ id ∧ id ≤ 7)) = true then (zeroPart, 1) else
    if (!(decide (id ∈ p.isr) && decide (1 < p.isr.length)) && p.leader != id) = true then (p, 0) else changedP (fenceB p id up) := by
  unfold fenceP fenceB
  rw [fence_isr]
  rfl
theorem out_same (p : Part) (id : Int) : (fenceOut p id).id = p.id ∧ (fenceOut p id).min = p.min ∧ (fenceOut p id).version = p.version ∧ (fenceOut p id).epoch = p.epoch ∧ (fenceOut p id).leader = p.leader ∧ (fenceOut p id).replicas = p.replicas ∧ (fenceOut p id).adding = p.adding ∧ (fenceOut p id).removing = p.removing := by
  unfold fenceOut
  split <;> exact ⟨rfl, rfl, rfl, rfl, rfl, rfl, rfl, rfl⟩
theorem out_sub {p : Part} {id x : Int} (h : x ∈ (fenceOut p id).isr) : x ∈ p.isr := by
  rw [fence_isr] at h
  split at h
  · exact (mem_without.1 h).1
  · exact h
theorem out_keep {p : Part} {id x : Int} (h : x ∈ p.isr) (hx : x ≠ id) : x ∈ (fenceOut p id).isr := by
  rw [fence_isr]
  split
  · exact mem_without.2 ⟨h, by simpa using hx⟩
  · exact h
theorem out_ids {p : Part} (hr : RightOf p) (id : Int) : idsL (fenceOut p id).isr = true := by
  rw [fence_isr]
  split
  · exact ids_without hr.isr
  · exact hr.isr
theorem out_pos {p : Part} (hr : RightOf p) (id : Int) : 0 < (fenceOut p id).isr.length := by
  rw [fence_isr]
  split
  · rename_i h
    simp only [Bool.and_eq_true, decide_eq_true_eq] at h
    rcases Nat.eq_zero_or_pos (withoutL p.isr [id]).length with h0 | h0
    · have h1 := List.length_eq_zero_iff.1 h0
      have h2 : p.isr.length ≤ [id].length := length_le_of_nodup [id] (ids_iff.1 hr.isr).1 fun x hx => by
        by_cases e : x ∈ [id]
        · exact e
        · have := mem_without.2 ⟨hx, e⟩
          rw [h1] at this; simp at this
      simp at h2; omega
    · exact h0
  · exact hr.pos
/-- Fence's body is right, whatever leads of what is left in sync. -/
theorem out_right {p : Part} (hr : RightOf p) {id n : Int} (e : Int) (he : 1 ≤ e ∧ e ≤ 1000000000) (hn : n = 0 ∨ n ∈ (fenceOut p id).isr) : RightOf { fenceOut p id with leader := n, epoch := e } := by
  obtain ⟨e1, e2, e3, e4, e5, e6, e7, e8⟩ := out_same p id
  refine ⟨by show 1 ≤ (fenceOut p id).id ∧ _; rw [e1]; exact hr.id, by show 1 ≤ (fenceOut p id).min ∧ _; rw [e2]; exact hr.min, he, by show 1 ≤ (fenceOut p id).version ∧ _; rw [e3]; exact hr.version, by show idsL (fenceOut p id).replicas = true; rw [e6]; exact hr.replicas, out_ids hr id,
    by show idsL (fenceOut p id).adding = true; rw [e7]; exact hr.adding, by show idsL (fenceOut p id).removing = true; rw [e8]; exact hr.removing, out_pos hr id, within_iff.2 fun x hx => ?_, ?_, ?_, ?_, ?_, hn⟩
  · show x ∈ (fenceOut p id).replicas
    rw [e6]; exact within_iff.1 hr.isrIn x (out_sub hx)
  · show withinL (fenceOut p id).adding (fenceOut p id).replicas = true; rw [e6, e7]; exact hr.addIn
  · show withinL (fenceOut p id).removing (fenceOut p id).replicas = true; rw [e6, e8]; exact hr.remIn
  · show (withL (fenceOut p id).adding (fenceOut p id).removing).length = 0; rw [e7, e8]; exact hr.apart
  · show (fenceOut p id).removing.length < (fenceOut p id).replicas.length; rw [e6, e8]; exact hr.fewer
theorem fenceB_right {p : Part} (hr : RightOf p) {id : Int} {up : List Int} (he : (fenceB p id up).epoch ≤ 1000000000) : RightOf (fenceB p id up) := by
  obtain ⟨e1, e2, e3, e4, e5, e6, e7, e8⟩ := out_same p id
  unfold fenceB at he ⊢
  have hbase : p.leader ≠ id → RightOf (fenceOut p id) := fun hne => by
    have := out_right hr (id := id) (n := p.leader) p.epoch hr.epoch (by
      rcases hr.leader with h | h
      · exact .inl h
      · exact .inr (out_keep h hne))
    rw [← e5, ← e4] at this
    exact this
  split
  · rename_i h
    have h : p.leader = id := by simpa using h
    rw [if_pos (by simpa using h)] at he
    unfold ledP at he ⊢
    have hw := way_cases p.replicas (fenceOut p id).isr up id
    split
    · rename_i hl
      rw [if_pos hl] at he
      have := out_right hr (id := id) (n := (fenceOut p id).leader) (fenceOut p id).epoch (by rw [e4]; exact hr.epoch) (by
        rw [hl]
        rcases hw with q | q
        · exact .inl q
        · exact .inr q.1)
      exact this
    · rename_i hl
      rw [if_neg hl] at he
      have he : (fenceOut p id).epoch + 1 ≤ 1000000000 := he
      exact out_right hr (id := id) ((fenceOut p id).epoch + 1) (by rw [e4] at he ⊢; have := hr.epoch; omega) (by
        rcases hw with q | q
        · exact .inl q
        · exact .inr q.1)
  · rename_i h
    exact hbase (by simpa using h)
theorem fence_step {p : Part} {id kind : Int} {up : List Int} (hr : RightOf p) : Step p kind (fenceP p id up) := by
  rw [fence_eq]
  split
  · exact Step.err (by decide)
  · split
    · exact Step.err (by decide)
    · split
      · exact .inr ⟨rfl, .inl rfl⟩
      · obtain ⟨e1, e2, e3, e4, e5, e6, e7, e8⟩ := out_same p id
        by_cases h : p.leader = id
        · have hb : fenceB p id up = ledP (fenceOut p id) (wayL p.replicas (fenceOut p id).isr up id) := by unfold fenceB; rw [if_pos (by simpa using h)]
          obtain ⟨f1, f2, f3, f4, f5, f6, f7⟩ := led_same (fenceOut p id) (wayL p.replicas (fenceOut p id).isr up id)
          have fl := led_leader (fenceOut p id) (wayL p.replicas (fenceOut p id).isr up id)
          have fe := led_ep (fenceOut p id) (wayL p.replicas (fenceOut p id).isr up id)
          refine Step.changed (fun he => fenceB_right hr he) (by rw [hb, f1, e1]) (by rw [hb, f2, e2]) (by rw [hb, f3, e3]) ?_ (fun _ h0 => ?_) (fun x hx => .inl (by rw [hb, f5, e6]; exact hx))
          · rw [hb, fl]
            rw [e5, e4] at fe
            exact fe
          · rw [hb, fl] at h0 ⊢
            have hw := (way_cases p.replicas (fenceOut p id).isr up id).resolve_left h0
            exact ⟨out_sub hw.1, by rw [f4]; exact hw.1⟩
        · have hb : fenceB p id up = fenceOut p id := by unfold fenceB; rw [if_neg (by simpa using h)]
          exact Step.changed (fun he => fenceB_right hr he) (by rw [hb, e1]) (by rw [hb, e2]) (by rw [hb, e3]) (.inl ⟨by rw [hb, e5], by rw [hb, e4]⟩) (fun h0 => absurd (by rw [hb, e5]) h0) (fun x hx => .inl (by rw [hb, e6]; exact hx))

theorem alter_step {p : Part} {leader epoch version kind : Int} {isr up : List Int} (hr : RightOf p) : Step p kind (alterP p leader epoch version isr up) := by
  unfold alterP
  split
  · exact Step.err (by decide)
  split
  · exact Step.err (by decide)
  split
  · exact Step.err (by decide)
  split
  · exact Step.err (by decide)
  rename_i h4
  split
  · exact Step.err (by decide)
  split
  · exact Step.err (by decide)
  rename_i h6
  split
  · exact Step.err (by decide)
  rename_i h7
  split
  · exact Step.err (by decide)
  have h4 : leader ≠ 0 ∧ leader = p.leader := by simpa using h4
  have h6 : leader ∈ isr := by simpa using h6
  have h7 := within_iff.1 (show withinL isr p.replicas = true by simpa using h7)
  have hm : p.leader ∈ withL p.replicas isr := mem_with.2 ⟨h4.2 ▸ h7 _ h6, h4.2 ▸ h6⟩
  refine Step.changed (fun _ => ⟨hr.id, hr.min, hr.epoch, hr.version, hr.replicas, ids_with hr.replicas, hr.adding, hr.removing, ?_, within_iff.2 fun x hx => (mem_with.1 hx).1, hr.addIn, hr.remIn, hr.apart, hr.fewer, .inr hm⟩) rfl rfl rfl (.inl ⟨rfl, rfl⟩) (fun h => absurd rfl h) (fun x hx => .inl hx)
  exact List.length_pos_of_mem hm

theorem begin_step {p : Part} {targets up : List Int} {kind : Int} : Step p kind (beginP p targets up) := by
  rcases begin_cases (p := p) (targets := targets) (up := up) with ⟨c, hc, e⟩ | ⟨hr, ht, hp, -, ⟨-, e⟩ | ⟨-, hv, e⟩⟩
  · rw [e]; exact Step.err hc
  · rw [e]; exact .inr ⟨rfl, .inl rfl⟩
  · rw [e]
    refine .inr ⟨rfl, .inr ⟨begun_right hr ht hp hv, rfl, rfl, rfl, .inl ⟨rfl, rfl⟩, fun h => absurd rfl h, fun x hx => .inl ?_⟩⟩
    show x ∈ targets ++ withoutL p.replicas targets
    rw [List.mem_append, mem_without]
    by_cases q : x ∈ targets
    · exact .inl q
    · exact .inr ⟨hx, q⟩
end Go.Proofs.Ytahempkggcbegaa
