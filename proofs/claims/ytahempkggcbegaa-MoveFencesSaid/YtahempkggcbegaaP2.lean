/- The plain law of MoveEnds: a move that is begun, and whose replicas all come in sync, ends with just the targets. -/
import Derived.Test.YtahempkggcbegaaP1
namespace Go.Proofs.Ytahempkggcbegaa
open Go.HL

def up7 : List Int := [1, 2, 3, 4, 5, 6, 7]
theorem mem_up7 {x : Int} (h : 1 ≤ x ∧ x ≤ 7) : x ∈ up7 := by simp [up7]; omega
theorem without_append {l m r : List Int} : withoutL (l ++ m) r = withoutL l r ++ withoutL m r := List.filter_append ..
theorem with_append {l m r : List Int} : withL (l ++ m) r = withL l r ++ withL m r := List.filter_append ..
def fullP (q : Part) : Part := ⟨q.id, q.leader, q.epoch, q.version, q.replicas, q.replicas, q.adding, q.removing, q.min⟩

theorem way_first {l : List Int} (h : idsL l = true) (hp : 0 < l.length) : wayL l l up7 0 ∈ l ∧ wayL l l up7 0 ≠ 0 := by
  have hi := (ids_iff.1 h).2
  unfold wayL
  rw [with_self (l := l) (m := l) (fun x hx => hx), with_self fun x hx => mem_up7 (hi x hx)]
  cases l with
  | nil => simp at hp
  | cons a l =>
    have := hi a (by simp)
    have e : decide (a ≠ 0) = true := decide_eq_true (by omega)
    simp only [List.find?_cons, e, Option.getD_some]
    exact ⟨by simp, by omega⟩

theorem full_alter {q : Part} (hq : RightOf q) (hl : q.leader ≠ 0) (hv : q.version + 1 ≤ 1000000000) : alterP q q.leader q.epoch q.version q.replicas up7 = (bump (fullP q), 0) := by
  have hlead : q.leader ∈ q.replicas := by
    rcases hq.leader with e | e
    · exact absurd e hl
    · exact within_iff.1 hq.isrIn _ e
  have hi := ids_iff.1 hq.replicas
  have e1 : ¬ (decide (q.epoch < q.epoch) || (q.epoch == q.epoch && decide (q.version < q.version))) = true := by simp
  have e2 : ¬ (decide (q.epoch > q.epoch) || decide (q.version > q.version)) = true := by simp
  have e3 : ¬ (q.leader == 0 || q.leader != q.leader) = true := by simp [hl]
  have e5 : withinL (withoutL q.replicas q.isr) up7 = true := within_iff.2 fun x hx => mem_up7 (hi.2 x (mem_without.1 hx).1)
  unfold alterP
  rw [if_neg (by rw [right_iff.2 hq]; simp), if_neg e1, if_neg e2, if_neg e3, if_neg (by rw [hq.replicas]; simp), if_neg (by rw [decide_eq_true hlead]; simp), if_neg (by rw [within_iff.2 fun x hx => hx]; simp), if_neg (by rw [e5]; simp),
    with_self fun x hx => hx]
  exact changed_ok (p := fullP q) ⟨hv, hq.epoch.2⟩
theorem full_right {q : Part} (hq : RightOf q) (hp : 0 < q.replicas.length) (hv : q.version + 1 ≤ 1000000000) : RightOf (bump (fullP q)) := by
  refine ⟨hq.id, hq.min, hq.epoch, ?_, hq.replicas, hq.replicas, hq.adding, hq.removing, hp, within_iff.2 fun x hx => hx, hq.addIn, hq.remIn, hq.apart, hq.fewer, ?_⟩
  · have := hq.version; show 1 ≤ q.version + 1 ∧ q.version + 1 ≤ 1000000000; omega
  · rcases hq.leader with e | e
    · exact .inl e
    · exact .inr (within_iff.1 hq.isrIn _ e)

theorem ends_law {p : Part} {targets : List Int} (hr : RightOf p) (hl : p.leader ≠ 0) (hv : p.version ≤ 999999990) (he : p.epoch ≤ 999999990) (ht : idsL targets = true) (hp : 0 < targets.length)
    (ho : openB (bump (beginB p targets)) = true) :
    ∃ r, finishP (bump (fullP (bump (beginB p targets)))) up7 = (r, 0) ∧ r.replicas = targets ∧ r.leader ∈ targets ∧ r.isr = targets ∧ r.adding = [] ∧ r.removing = [] := by
  have hq := begun_right hr ht hp (by omega)
  have hx := full_right hq (by show 0 < (targets ++ _).length; simp; omega) (by show p.version + 1 + 1 ≤ _; omega)
  have hg : ∀ x ∈ targets, ¬ x ∈ withoutL p.replicas targets := fun x hx hy => (mem_without.1 hy).2 hx
  have t1 : withoutL (targets ++ withoutL p.replicas targets) (withoutL p.replicas targets) = targets := by
    rw [without_append, without_self hg, without_nil fun x hx => hx, List.append_nil]
  have t2 : withL (targets ++ withoutL p.replicas targets) targets = targets := by
    rw [with_append, with_self fun x hx => hx, with_nil fun x hx => (mem_without.1 hx).2, List.append_nil]
  have hw : withinL (withoutL (bump (fullP (bump (beginB p targets)))).replicas (bump (fullP (bump (beginB p targets)))).removing) (bump (fullP (bump (beginB p targets)))).isr = true := within_iff.2 fun x hx => (mem_without.1 hx).1
  unfold finishP
  rw [if_neg (by rw [right_iff.2 hx]; simp), if_neg (by rw [show openB (bump (fullP (bump (beginB p targets)))) = true from ho]; simp), if_neg (by rw [hw]; simp)]
  unfold finishB
  have e1 : withoutL (bump (fullP (bump (beginB p targets)))).replicas (bump (fullP (bump (beginB p targets)))).removing = targets := t1
  have e2 : withL (bump (fullP (bump (beginB p targets)))).isr targets = targets := t2
  rw [e1, e2]
  have e3 : (bump (fullP (bump (beginB p targets)))).leader = p.leader := rfl
  have ep := hr.epoch
  by_cases hm : p.leader ∈ targets
  · have e4 : ¬ ((bump (fullP (bump (beginB p targets)))).leader != 0 && !decide ((bump (fullP (bump (beginB p targets)))).leader ∈ targets)) = true := by rw [e3, decide_eq_true hm]; simp
    rw [if_neg e4, changed_ok ⟨by show p.version + 1 + 1 + 1 ≤ _; omega, by show p.epoch ≤ _; omega⟩]
    exact ⟨_, rfl, rfl, hm, rfl, rfl, rfl⟩
  · have e4 : ((bump (fullP (bump (beginB p targets)))).leader != 0 && !decide ((bump (fullP (bump (beginB p targets)))).leader ∈ targets)) = true := by rw [e3, decide_eq_false hm]; simp [hl]
    rw [if_pos e4]
    obtain ⟨w1, w2⟩ := way_first ht hp
    have e5 : ¬ (bump (fullP (bump (beginB p targets)))).leader = wayL targets targets up7 0 := by rw [e3]; intro e; rw [e] at hm; exact hm w1
    unfold ledP
    rw [if_neg e5, changed_ok ⟨by show p.version + 1 + 1 + 1 ≤ _; omega, by show p.epoch + 1 ≤ _; omega⟩]
    exact ⟨_, rfl, rfl, w1, rfl, rfl, rfl⟩
end Go.Proofs.Ytahempkggcbegaa
