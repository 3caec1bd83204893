/- Chapter 5, in plain Lean: what is read, cut, safe; the search through the index. -/
import Derived.Test.YtokceblmbmajgaaGreatDoorG2
namespace Go.Proofs.YtokceblmbmajgaaGreatDoor
open Go Go.HL
set_option maxRecDepth 10000

theorem dropWhile_skip {α : Type} {p : α → Bool} : ∀ {l : List α} {n : Nat}, (∀ j x, j < n → l[j]? = some x → p x = true) → l.dropWhile p = (l.drop n).dropWhile p
  | [], n, _ => by simp
  | a :: l, 0, _ => rfl
  | a :: l, n + 1, h => by
    have ha : p a = true := h 0 a (by omega) rfl
    rw [List.dropWhile_cons, if_pos ha, List.drop_succ_cons]
    exact dropWhile_skip fun j x hj hx => h (j + 1) x (by omega) (by rw [List.getElem?_cons_succ]; exact hx)
theorem dropWhile_none {α : Type} {p : α → Bool} : ∀ {l : List α}, (∀ x ∈ l, p x = true) → l.dropWhile p = []
  | [], _ => rfl
  | a :: l, h => by rw [List.dropWhile_cons, if_pos (h a (by simp))]; exact dropWhile_none fun x hx => h x (List.mem_cons_of_mem _ hx)
theorem takeWhile_len {α : Type} (p : α → Bool) : ∀ (l : List α), l.takeWhile p = l.take (l.takeWhile p).length
  | [] => rfl
  | a :: l => by
    rw [List.takeWhile_cons]
    split
    · rw [List.length_cons, List.take_succ_cons, ← takeWhile_len p l]
    · rfl
theorem dropWhile_len {α : Type} (p : α → Bool) : ∀ (l : List α), l.dropWhile p = l.drop (l.takeWhile p).length
  | [] => rfl
  | a :: l => by
    rw [List.takeWhile_cons, List.dropWhile_cons]
    split
    · rw [List.length_cons, List.drop_succ_cons, ← dropWhile_len p l]
    · rfl
/-- The first that a rising test takes, by its place. -/
theorem takeWhile_at {α : Type} (p : α → Bool) : ∀ (l : List α) (r : Nat), r ≤ l.length → (∀ j x, j < r → l[j]? = some x → p x = true) → (∀ x, l[r]? = some x → p x = false) → (l.takeWhile p).length = r
  | [], r, h, _, _ => by simp at h; simp [h]
  | a :: l, 0, _, _, h2 => by rw [List.takeWhile_cons, if_neg (by rw [h2 a rfl]; decide)]; rfl
  | a :: l, r + 1, h, h1, h2 => by
    rw [List.takeWhile_cons, if_pos (h1 0 a (by omega) rfl), List.length_cons]
    congr 1
    exact takeWhile_at p l r (by simpa using h) (fun j x hj hx => h1 (j + 1) x (by omega) (by rw [List.getElem?_cons_succ]; exact hx)) fun x hx => h2 x (by rw [List.getElem?_cons_succ]; exact hx)
section
variable {ok : Ba → Prop} {base off : Int} {l : List Ba}
def cutB (off : Int) (l : List Ba) : List Ba := l.takeWhile fun b => decide (endB b ≤ off)
theorem Chain.end_le (h : Chain ok base l) {b : Ba} (hb : b ∈ l) : endB b ≤ nextB base l := by
  obtain ⟨j, hj⟩ := List.getElem?_of_mem hb
  have hlt := (List.getElem?_eq_some_iff.1 hj).1
  unfold nextB
  rw [List.getLast?_eq_getElem?]
  obtain ⟨c, hc⟩ : ∃ c, l[l.length - 1]? = some c := ⟨l[l.length - 1], List.getElem?_eq_getElem (by omega)⟩
  rw [hc]
  dsimp only
  by_cases e : j = l.length - 1
  · rw [e, hc] at hj; cases hj; exact Int.le_refl _
  · have h1 := h.lt hj hc (by omega)
    have h2 := (h.at_ hc).2.2.1
    unfold endB at h1 ⊢
    omega
theorem read_nil (h : Chain ok base l) (h1 : nextB base l ≤ off) : (l.dropWhile fun b => decide (endB b ≤ off)) = [] := dropWhile_none fun x hx => decide_eq_true (Int.le_trans (h.end_le hx) h1)
theorem read_head (h : Chain ok base l) (h0 : base ≤ off) (h1 : off < nextB base l) : ∃ b r, (l.dropWhile fun b => decide (endB b ≤ off)) = b :: r ∧ b.base ≤ off ∧ off < endB b ∧ Chain ok b.base (b :: r) ∧ nextB base l = nextB b.base (b :: r) := by
  obtain ⟨k, hk⟩ : ∃ k, (cutB off l).length = k := ⟨_, rfl⟩
  have hd := dropWhile_len (fun b => decide (endB b ≤ off)) l
  have ht := takeWhile_len (fun b => decide (endB b ≤ off)) l
  unfold cutB at hk
  rw [hk] at hd ht
  have hch := h.drop k
  have hn : nextB base l = nextB (nextB base (l.take k)) (l.drop k) := by
    have : ∀ (l m : List Ba) (b : Int), nextB b (l ++ m) = nextB (nextB b l) m := by
      intro l
      induction l with
      | nil => intro m b; rfl
      | cons a l ih => intro m b; rw [List.cons_append, nextB_cons, ih, nextB_cons]
    rw [← this, List.take_append_drop]
  have hle : nextB base (l.take k) ≤ off := by
    unfold nextB
    cases e : (l.take k).getLast? with
    | none => exact h0
    | some c =>
      have hm := List.mem_of_getLast? e
      rw [← ht] at hm
      have := List.all_takeWhile (p := fun b => decide (endB b ≤ off)) (l := l)
      rw [List.all_eq_true] at this
      exact of_decide_eq_true (this c hm)
  cases e : l.drop k with
  | nil =>
    rw [e] at hn
    rw [nextB_nil] at hn
    omega
  | cons b r =>
    rw [e] at hd hn hch
    obtain ⟨c1, c2, c3, c4, c5⟩ := hch
    refine ⟨b, r, hd, by omega, ?_, ⟨rfl, c2, c3, c4, c5⟩, by rw [hn, c1]⟩
    have hp : (fun b : Ba => decide (endB b ≤ off)) b = false := by
      have := List.head?_dropWhile_not (fun b : Ba => decide (endB b ≤ off)) l
      rw [hd] at this
      simpa using this
    have := of_decide_eq_false hp
    omega
/-- Ends rise: those that end ahead of an offset are a beginning. -/
theorem cut_rise (h : Chain ok base l) {j m : Nat} {b c : Ba} (hb : l[j]? = some b) (hc : l[m]? = some c) (hlt : j ≤ m) (he : endB b > off) : endB c > off := by
  by_cases e : j = m
  · subst e; rw [hb] at hc; cases hc; exact he
  · have h1 := h.lt hb hc (by omega)
    have h2 := (h.at_ hc).2.2.1
    have : endB c = c.base + (c.recs.length : Nat) := rfl
    omega
end
end Go.Proofs.YtokceblmbmajgaaGreatDoor
