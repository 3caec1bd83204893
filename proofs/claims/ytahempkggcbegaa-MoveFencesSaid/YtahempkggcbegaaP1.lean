/- Plain laws of the decisions, with no program in sight. -/
import Derived.Test.YtahempkggcbegaaS7
import Derived.Test.YtahempkggcbegaaS8
namespace Go.Proofs.Ytahempkggcbegaa
open Go.HL

theorem mem_with {x : Int} {l m : List Int} : x ∈ withL l m ↔ x ∈ l ∧ x ∈ m := by simp [withL]
theorem mem_without {x : Int} {l m : List Int} : x ∈ withoutL l m ↔ x ∈ l ∧ ¬ x ∈ m := by simp [withoutL]
theorem within_iff {l m : List Int} : withinL l m = true ↔ ∀ x ∈ l, x ∈ m := by
  unfold withinL
  rw [List.isEmpty_iff, List.eq_nil_iff_forall_not_mem]
  constructor
  · intro h x hx
    have := h x
    rw [mem_without] at this
    by_cases hm : x ∈ m
    · exact hm
    · exact absurd ⟨hx, hm⟩ this
  · intro h x hx
    rw [mem_without] at hx
    exact hx.2 (h x hx.1)
theorem ids_iff {l : List Int} : idsL l = true ↔ l.Nodup ∧ ∀ x ∈ l, 1 ≤ x ∧ x ≤ 7 := by simp [idsL]
theorem ids_with {l m : List Int} (h : idsL l = true) : idsL (withL l m) = true := ids_iff.2 ⟨(ids_iff.1 h).1.filter _, fun x hx => (ids_iff.1 h).2 x (mem_with.1 hx).1⟩
theorem ids_without {l m : List Int} (h : idsL l = true) : idsL (withoutL l m) = true := ids_iff.2 ⟨(ids_iff.1 h).1.filter _, fun x hx => (ids_iff.1 h).2 x (mem_without.1 hx).1⟩
theorem open_iff {p : Part} : openB p = false ↔ p.adding = [] ∧ p.removing = [] := by
  simp [openB]
theorem nil_of_forall {l : List Int} (h : ∀ x, ¬ x ∈ l) : l = [] := List.eq_nil_iff_forall_not_mem.2 h
theorem without_self {l m : List Int} (h : ∀ x ∈ l, ¬ x ∈ m) : withoutL l m = l := List.filter_eq_self.2 fun x hx => by simp [h x hx]
theorem with_self {l m : List Int} (h : ∀ x ∈ l, x ∈ m) : withL l m = l := List.filter_eq_self.2 fun x hx => by simp [h x hx]
theorem without_nil {l m : List Int} (h : ∀ x ∈ l, x ∈ m) : withoutL l m = [] := nil_of_forall fun x hx => (mem_without.1 hx).2 (h x (mem_without.1 hx).1)
theorem with_nil {l m : List Int} (h : ∀ x ∈ l, ¬ x ∈ m) : withL l m = [] := nil_of_forall fun x hx => h x (mem_with.1 hx).1 (mem_with.1 hx).2
theorem len_of_same {l m : List Int} (h1 : l.Nodup) (h2 : m.Nodup) (h : ∀ x, x ∈ l ↔ x ∈ m) : l.length = m.length :=
  Nat.le_antisymm (length_le_of_nodup m h1 fun x hx => (h x).1 hx) (length_le_of_nodup l h2 fun x hx => (h x).2 hx)

def bump (p : Part) : Part := ⟨p.id, p.leader, p.epoch, p.version + 1, p.isr, p.replicas, p.adding, p.removing, p.min⟩
theorem changed_ok {p : Part} (h : p.version + 1 ≤ 1000000000 ∧ p.epoch ≤ 1000000000) : changedP p = (bump p, 0) := if_neg (by omega)
theorem changed_err {p : Part} (h : ¬ (changedP p).2 = 0) : changedP p = (zeroPart, 20) ∧ (p.version + 1 > 1000000000 ∨ p.epoch > 1000000000) := by
  unfold changedP at h ⊢
  split
  · rename_i q; exact ⟨rfl, q⟩
  · rename_i q; rw [if_neg q] at h; exact absurd rfl h
theorem changed_cases (p : Part) : (changedP p = (zeroPart, 20) ∧ (p.version + 1 > 1000000000 ∨ p.epoch > 1000000000)) ∨ (changedP p = (bump p, 0) ∧ p.version + 1 ≤ 1000000000 ∧ p.epoch ≤ 1000000000) := by
  unfold changedP
  split
  · rename_i q; exact .inl ⟨rfl, q⟩
  · rename_i q; exact .inr ⟨rfl, by omega, by omega⟩

/-- What Begin may answer. -/
theorem begin_cases {p : Part} {targets up : List Int} : (∃ c, c ≠ 0 ∧ beginP p targets up = (zeroPart, c)) ∨
    (RightOf p ∧ idsL targets = true ∧ 0 < targets.length ∧ openB p = false ∧ ((targets = p.replicas ∧ beginP p targets up = (p, 0)) ∨
      (targets ≠ p.replicas ∧ p.version + 1 ≤ 1000000000 ∧ beginP p targets up = ((bump (beginB p targets)), 0)))) := by
  unfold beginP
  split
  · exact .inl ⟨1, by decide, rfl⟩
  · rename_i h1
    split
    · exact .inl ⟨19, by decide, rfl⟩
    · rename_i h2
      split
      · exact .inl ⟨8, by decide, rfl⟩
      · rename_i h3
        have h1 : (!rightB p || (!idsL targets || (decide (targets.length = 0) || decide (5 < targets.length)))) = false := by simpa using h1
        simp only [Bool.or_eq_false_iff] at h1
        obtain ⟨h1, h4, h5, h6⟩ := h1
        have hr : RightOf p := right_iff.1 (by simpa using h1)
        have h4 : idsL targets = true := by simpa using h4
        have h5 : 0 < targets.length := by have := of_decide_eq_false h5; omega
        have h2 : openB p = false := by simpa using h2
        split
        · rename_i h7
          exact .inr ⟨hr, h4, h5, h2, .inl ⟨h7, rfl⟩⟩
        · rename_i h7
          rcases changed_cases (beginB p targets) with ⟨e, -⟩ | ⟨e, hv, -⟩
          · exact .inl ⟨20, by decide, e⟩
          · exact .inr ⟨hr, h4, h5, h2, .inr ⟨h7, hv, e⟩⟩

theorem begun_right {p : Part} {targets : List Int} (hr : RightOf p) (ht : idsL targets = true) (hp : 0 < targets.length) (hv : p.version + 1 ≤ 1000000000) : RightOf (bump (beginB p targets)) := by
  have t := ids_iff.1 ht
  have r := ids_iff.1 hr.replicas
  have hin : ∀ x ∈ p.replicas, x ∈ targets ++ withoutL p.replicas targets := fun x hx => by
    rw [List.mem_append, mem_without]
    by_cases q : x ∈ targets
    · exact .inl q
    · exact .inr ⟨hx, q⟩
  refine ⟨hr.id, hr.min, hr.epoch, ?_, ?_, hr.isr, ids_without ht, ids_without hr.replicas, hr.pos, ?_, ?_, ?_, ?_, ?_, hr.leader⟩
  · have := hr.version; show 1 ≤ p.version + 1 ∧ p.version + 1 ≤ 1000000000; omega
  · refine ids_iff.2 ⟨List.nodup_append.2 ⟨t.1, r.1.filter _, fun a ha b hb e => ?_⟩, fun x hx => ?_⟩
    · subst e; exact (mem_without.1 hb).2 ha
    · rcases List.mem_append.1 hx with q | q
      · exact t.2 x q
      · exact r.2 x (mem_without.1 q).1
  · exact within_iff.2 fun x hx => hin x (within_iff.1 hr.isrIn x hx)
  · exact within_iff.2 fun x hx => List.mem_append.2 (.inl (mem_without.1 hx).1)
  · exact within_iff.2 fun x hx => List.mem_append.2 (.inr hx)
  · show (withL (withoutL targets p.replicas) (withoutL p.replicas targets)).length = 0
    rw [with_nil]; rfl
    intro x hx hy
    exact (mem_without.1 hx).2 (mem_without.1 hy).1
  · show (withoutL p.replicas targets).length < (targets ++ withoutL p.replicas targets).length
    simp; omega

/-- Cancel behind Begin. -/
theorem back_law {p : Part} {targets up : List Int} (hr : RightOf p) (ho : openB p = false) (ht : idsL targets = true) (hp : 0 < targets.length) (hv : p.version + 1 ≤ 1000000000)
    (hq : openB (bump (beginB p targets)) = true) :
    (p.version > 999999990 ∧ cancelP (bump (beginB p targets)) up = (zeroPart, 20)) ∨
    ∃ r, cancelP (bump (beginB p targets)) up = (r, 0) ∧ r.replicas.length = p.replicas.length ∧ r.adding = [] ∧ r.removing = [] ∧ (∀ x ∈ p.replicas, x ∈ r.replicas) ∧ r.isr = p.isr ∧ r.leader = p.leader ∧ r.epoch = p.epoch ∧ r.version = p.version + 2 := by
  have hqr := begun_right hr ht hp hv
  have t := ids_iff.1 ht
  have rr := ids_iff.1 hr.replicas
  have isr := within_iff.1 hr.isrIn
  have na : ∀ x ∈ p.isr, ¬ x ∈ withoutL targets p.replicas := fun x hx hy => (mem_without.1 hy).2 (isr x hx)
  have hw : ¬ withinL p.isr (withoutL targets p.replicas) = true := by
    intro h
    have hpos := hr.pos
    cases hl : p.isr with
    | nil => rw [hl] at hpos; exact absurd hpos (by simp)
    | cons a l =>
      have ha : a ∈ p.isr := by rw [hl]; simp
      exact na a ha (within_iff.1 h a ha)
  have hlead : ¬ p.leader ∈ withoutL targets p.replicas := by
    rcases hr.leader with e | e
    · intro h; have := t.2 _ (mem_without.1 h).1; omega
    · exact na _ e
  unfold cancelP
  rw [if_neg (by rw [right_iff.2 hqr]; simp), if_neg (by rw [hq]; simp), if_neg (show ¬ withinL (bump (beginB p targets)).isr (bump (beginB p targets)).adding = true from hw)]
  have hb : cancelB (bump (beginB p targets)) up = (⟨p.id, p.leader, p.epoch, p.version + 1, withoutL p.isr (withoutL targets p.replicas), withoutL (targets ++ withoutL p.replicas targets) (withoutL targets p.replicas), [], [], p.min⟩ : Part) := by
    unfold cancelB
    rw [if_neg (show ¬ (bump (beginB p targets)).leader ∈ (bump (beginB p targets)).adding from hlead)]; rfl
  rw [hb]
  have hep := hr.epoch
  rcases changed_cases (⟨p.id, p.leader, p.epoch, p.version + 1, withoutL p.isr (withoutL targets p.replicas), withoutL (targets ++ withoutL p.replicas targets) (withoutL targets p.replicas), [], [], p.min⟩ : Part) with ⟨e, h⟩ | ⟨e, h⟩
  · refine .inl ⟨?_, e⟩
    have h : p.version + 1 + 1 > 1000000000 ∨ p.epoch > 1000000000 := h
    omega
  · refine .inr ⟨_, e, ?_, rfl, rfl, ?_, without_self na, rfl, rfl, by show p.version + 1 + 1 = _; omega⟩
    · have hs : ∀ x, x ∈ withoutL (targets ++ withoutL p.replicas targets) (withoutL targets p.replicas) ↔ x ∈ p.replicas := by
        intro x
        simp only [mem_without, List.mem_append]
        by_cases h1 : x ∈ targets <;> by_cases h2 : x ∈ p.replicas <;> simp [h1, h2]
      exact len_of_same ((ids_iff.1 hqr.replicas).1.filter _) rr.1 hs
    · intro x hx
      show x ∈ withoutL (targets ++ withoutL p.replicas targets) (withoutL targets p.replicas)
      simp only [mem_without, List.mem_append]
      by_cases h1 : x ∈ targets <;> simp [h1, hx]
end Go.Proofs.Ytahempkggcbegaa
