/- Plain laws of heaps: a list of timers, each not due after its children. -/
import Derived.Test.YtcipmipadjenaaaS1
namespace Go.Proofs.Ytcipmipadjenaaa
open Go.HL

def le (e f : E) : Prop := e.due < f.due ∨ (e.due = f.due ∧ e.key ≤ f.key)
theorem less_false {e f : E} (h : lessE f e = false) : le e f := by
  unfold lessE at h
  unfold le
  split at h
  · rename_i q; have := of_decide_eq_false h; omega
  · rename_i q; have := of_decide_eq_false h; omega
theorem less_true {e f : E} (h : lessE e f = true) : le e f := by
  unfold lessE at h
  unfold le
  split at h
  · rename_i q; have := of_decide_eq_true h; omega
  · rename_i q; have := of_decide_eq_true h; omega
theorem le_refl (e : E) : le e e := .inr ⟨rfl, Int.le_refl _⟩
theorem le_trans {a b c : E} (h : le a b) (k : le b c) : le a c := by unfold le at *; omega

abbrev par (k : Nat) : Nat := (k - 1) / 2
def HeapN (es : List E) (n : Nat) : Prop := ∀ k, 0 < k → k < n → le es[par k]! es[k]!
structure UpInv (es : List E) (n j : Nat) : Prop where
  all : ∀ k, 0 < k → k < n → k ≠ j → le es[par k]! es[k]!
  grand : ∀ k, 0 < k → k < n → par k = j → 0 < j → le es[par j]! es[k]!
structure DownInv (es : List E) (n i0 i : Nat) : Prop where
  all : ∀ k, 0 < k → k < n → par k ≠ i → (k ≠ i0 ∨ i0 < i) → le es[par k]! es[k]!
  grand : ∀ k, 0 < k → k < n → par k = i → 0 < i → le es[par i]! es[k]!

theorem swap_get! {es : List E} {i j : Nat} (hi : i < es.length) (hj : j < es.length) (k : Nat) : (swapL es i j)[k]! = if k = j then es[i]! else if k = i then es[j]! else es[k]! := by
  rw [List.getElem!_eq_getElem?_getD, swapL_get hi hj k]
  split
  · rfl
  · split
    · rfl
    · rw [← List.getElem!_eq_getElem?_getD]
theorem up_done {es : List E} {n j : Nat} (h : UpInv es n j) (hj : j = 0 ∨ le es[par j]! es[j]!) : HeapN es n := by
  intro k h0 h1
  by_cases e : k = j
  · subst e
    rcases hj with q | q
    · omega
    · exact q
  · exact h.all k h0 h1 e
theorem up_step {es : List E} {n j : Nat} (hn : n ≤ es.length) (h : UpInv es n j) (h0 : 0 < j) (hj : j < n) (hl : le es[j]! es[par j]!) : UpInv (swapL es (par j) j) n (par j) := by
  have hp : par j < j := by unfold par; omega
  refine ⟨fun k k0 k1 kne => ?_, fun k k0 k1 kp p0 => ?_⟩
  · rw [swap_get! (by omega) (by omega), swap_get! (by omega) (by omega)]
    have hpk : par k < k := by unfold par; omega
    by_cases e1 : k = j
    · subst e1
      rw [if_neg (by omega), if_pos rfl, if_pos rfl]
      exact hl
    · rw [if_neg e1, if_neg kne]
      by_cases e2 : par k = j
      · rw [if_pos e2]
        exact h.grand k k0 k1 e2 h0
      · rw [if_neg e2]
        by_cases e3 : par k = par j
        · rw [if_pos e3]
          have := h.all k k0 k1 e1
          rw [e3] at this
          exact le_trans hl this
        · rw [if_neg e3]
          exact h.all k k0 k1 e1
  · have hpp : par (par j) < par j := by unfold par at *; omega
    rw [swap_get! (by omega) (by omega), swap_get! (by omega) (by omega), if_neg (by omega), if_neg (by omega)]
    have hb := h.all (par j) p0 (by omega) (by omega)
    by_cases e1 : k = j
    · rw [if_pos e1]; exact hb
    · rw [if_neg e1]
      have hpk : par k < k := by unfold par; omega
      rw [if_neg (by omega)]
      have := h.all k k0 k1 e1
      rw [kp] at this
      exact le_trans hb this
/-- The way down ends: no child comes before its parent. -/
theorem down_done {es : List E} {n i0 i : Nat} (h : DownInv es n i0 i) (hc : ∀ k, 0 < k → k < n → par k = i → le es[i]! es[k]!) : (i0 < i → HeapN es n) ∧ (i = i0 → UpInv es n i0) := by
  refine ⟨fun hlt k k0 k1 => ?_, fun e => ⟨fun k k0 k1 kne => ?_, fun k k0 k1 kp p0 => ?_⟩⟩
  · by_cases e : par k = i
    · rw [e]; exact hc k k0 k1 e
    · exact h.all k k0 k1 e (.inr hlt)
  · by_cases e : par k = i
    · rw [e]; exact hc k k0 k1 e
    · exact h.all k k0 k1 e (.inl kne)
  · subst e; exact h.grand k k0 k1 kp p0
/-- One step down: to the child that comes first. -/
theorem down_step {es : List E} {n i0 i c : Nat} (hn : n ≤ es.length) (h : DownInv es n i0 i) (hi0 : i0 ≤ i) (c0 : 0 < c) (c1 : c < n) (cp : par c = i) (hcl : le es[c]! es[i]!) (hc : ∀ k, 0 < k → k < n → par k = i → le es[c]! es[k]!) :
    DownInv (swapL es i c) n i0 c := by
  have hpc : i < c := by rw [← cp]; unfold par; omega
  refine ⟨fun k k0 k1 kp kne => ?_, fun k k0 k1 kp p0 => ?_⟩
  · rw [swap_get! (by omega) (by omega), swap_get! (by omega) (by omega), if_neg kp]
    have hpk : par k < k := by unfold par; omega
    by_cases e1 : k = c
    · subst e1
      rw [if_pos cp, if_pos rfl]
      exact hcl
    · rw [if_neg e1]
      by_cases e2 : par k = i
      · rw [if_pos e2, if_neg (by omega)]
        exact hc k k0 k1 e2
      · rw [if_neg e2]
        by_cases e3 : k = i
        · subst e3
          rw [if_pos rfl]
          exact h.grand c c0 c1 cp k0
        · rw [if_neg e3]
          refine h.all k k0 k1 e2 ?_
          by_cases q : k = i0
          · right; omega
          · exact .inl q
  · rw [cp, swap_get! (by omega) (by omega), swap_get! (by omega) (by omega), if_neg (by omega), if_pos rfl]
    have hpk : par k < k := by unfold par; omega
    rw [if_neg (by omega), if_neg (by omega)]
    have := h.all k k0 k1 (by omega) (.inl (by omega))
    rw [kp] at this
    exact this
end Go.Proofs.Ytcipmipadjenaaa
