/- Chapter 5, in plain Lean: batches that follow one another; what a crash leaves; what is read. -/
import Derived.Test.YtokceblmbmajgaaGreatDoorG1
namespace Go.Proofs.YtokceblmbmajgaaGreatDoor
open Go Go.HL
set_option maxRecDepth 10000

def endB (b : Ba) : Int := b.base + (b.recs.length : Nat)
def nextB (base : Int) (l : List Ba) : Int := match l.getLast? with | none => base | some b => endB b
theorem nextB_nil (base : Int) : nextB base [] = base := rfl
theorem nextB_snoc (base : Int) (l : List Ba) (b : Ba) : nextB base (l ++ [b]) = endB b := by unfold nextB; rw [List.getLast?_concat]
theorem nextB_cons (base : Int) (b : Ba) (l : List Ba) : nextB base (b :: l) = nextB (endB b) l := by
  unfold nextB
  cases l with
  | nil => rfl
  | cons c l => rw [List.getLast?_cons_cons, List.getLast?_eq_some_getLast (List.cons_ne_nil c l)]
def Chain (ok : Ba → Prop) : Int → List Ba → Prop
  | _, [] => True
  | base, b :: l => b.base = base ∧ endB b ≤ 1000000000 ∧ 0 < b.recs.length ∧ ok b ∧ Chain ok (endB b) l
section
variable {ok : Ba → Prop}
theorem Chain.snoc : ∀ {l : List Ba} {base : Int} {b : Ba}, Chain ok base l → b.base = nextB base l → endB b ≤ 1000000000 → 0 < b.recs.length → ok b → Chain ok base (l ++ [b])
  | [], base, b, _, h1, h2, h3, h4 => ⟨h1, h2, h3, h4, trivial⟩
  | c :: l, base, b, ⟨a1, a2, a3, a4, a5⟩, h1, h2, h3, h4 => ⟨a1, a2, a3, a4, Chain.snoc a5 (by rw [← nextB_cons base]; exact h1) h2 h3 h4⟩
theorem Chain.take : ∀ {l : List Ba} {base : Int} (n : Nat), Chain ok base l → Chain ok base (l.take n)
  | [], _, n, _ => by simp [Chain]
  | b :: l, _, 0, _ => trivial
  | b :: l, _, n + 1, ⟨a1, a2, a3, a4, a5⟩ => ⟨a1, a2, a3, a4, a5.take n⟩
theorem Chain.at_ : ∀ {l : List Ba} {base : Int} {j : Nat} {b : Ba}, Chain ok base l → l[j]? = some b → b.base = nextB base (l.take j) ∧ endB b ≤ 1000000000 ∧ 0 < b.recs.length ∧ ok b ∧ base ≤ b.base
  | [], _, j, b, _, h => by simp at h
  | c :: l, base, 0, b, ⟨a1, a2, a3, a4, a5⟩, h => by
    simp only [List.getElem?_cons_zero, Option.some.injEq] at h
    subst h
    exact ⟨a1, a2, a3, a4, by omega⟩
  | c :: l, base, j + 1, b, ⟨a1, a2, a3, a4, a5⟩, h => by
    rw [List.getElem?_cons_succ] at h
    obtain ⟨h1, h2, h3, h4, h5⟩ := Chain.at_ a5 h
    refine ⟨by rw [List.take_succ_cons, nextB_cons]; exact h1, h2, h3, h4, ?_⟩
    unfold endB at h5
    omega
theorem Chain.all : ∀ {l : List Ba} {base : Int}, Chain ok base l → ∀ b ∈ l, ok b := fun {l base} h b hb => by
  obtain ⟨j, hj⟩ := List.getElem?_of_mem hb
  exact (h.at_ hj).2.2.2.1
theorem Chain.next_ge {l : List Ba} {base : Int} (h : Chain ok base l) : base ≤ nextB base l := by
  unfold nextB
  cases e : l.getLast? with
  | none => exact Int.le_refl _
  | some b =>
    have hb : l[l.length - 1]? = some b := by rw [← List.getLast?_eq_getElem?]; exact e
    have := (h.at_ hb).2.2.2.2
    unfold endB
    dsimp only
    omega
theorem Chain.next_le {l : List Ba} {base : Int} (h : Chain ok base l) (hb : base ≤ 1000000000) : nextB base l ≤ 1000000000 := by
  unfold nextB
  cases e : l.getLast? with
  | none => exact hb
  | some b =>
    have hb : l[l.length - 1]? = some b := by rw [← List.getLast?_eq_getElem?]; exact e
    exact (h.at_ hb).2.1
theorem Chain.drop : ∀ {l : List Ba} {base : Int} (n : Nat), Chain ok base l → Chain ok (nextB base (l.take n)) (l.drop n)
  | [], _, n, _ => by simp [Chain]
  | b :: l, _, 0, h => h
  | b :: l, _, n + 1, ⟨a1, a2, a3, a4, a5⟩ => by
    rw [List.take_succ_cons, nextB_cons, List.drop_succ_cons]
    exact a5.drop n
theorem Chain.step {l : List Ba} {base : Int} {j : Nat} {b c : Ba} (h : Chain ok base l) (hb : l[j]? = some b) (hc : l[j + 1]? = some c) : c.base = endB b := by
  have h1 := (h.at_ hc).1
  have hlt := (List.getElem?_eq_some_iff.1 hc).1
  obtain ⟨h2, h3⟩ := List.getElem?_eq_some_iff.1 hb
  rw [h1, List.take_succ_eq_append_getElem (by omega), h3, nextB_snoc]
/-- Bases and ends rise. -/
theorem Chain.mono {l : List Ba} {base : Int} (h : Chain ok base l) : ∀ {d j : Nat} {b c : Ba}, l[j]? = some b → l[j + d + 1]? = some c → endB b ≤ c.base
  | 0, j, b, c, hb, hc => by rw [h.step hb hc]; exact Int.le_refl _
  | d + 1, j, b, c, hb, hc => by
    have hlt := (List.getElem?_eq_some_iff.1 hc).1
    obtain ⟨x, hx⟩ : ∃ x, l[j + d + 1]? = some x := ⟨l[j + d + 1], List.getElem?_eq_getElem (by omega)⟩
    have h1 := h.mono hb hx
    have h2 := h.step hx hc
    have h3 := (h.at_ hx).2.2.1
    unfold endB at h2 ⊢
    unfold endB at h1
    omega
theorem Chain.lt {l : List Ba} {base : Int} (h : Chain ok base l) {j m : Nat} {b c : Ba} (hb : l[j]? = some b) (hc : l[m]? = some c) (hlt : j < m) : endB b ≤ c.base := by
  obtain ⟨d, rfl⟩ : ∃ d, m = j + d + 1 := ⟨m - j - 1, by omega⟩
  exact h.mono hb hc
end
/-- What the beginning of a file holds. -/
theorem torn : ∀ (l : List Ba) (n : Nat), n ≤ lenB l → ∃ k tail, k ≤ l.length ∧ (l.flatMap frameB).take n = (l.take k).flatMap frameB ++ tail ∧ (tail = [] ∨ ∃ b m, l[k]? = some b ∧ 0 < m ∧ m < flen b ∧ tail = (frameB b).take m) ∧ lenB (l.take k) ≤ n ∧ (k < l.length → n < lenB (l.take (k + 1)))
  | [], n, h => ⟨0, [], Nat.le_refl _, by simp, .inl rfl, by simp [lenB], fun h => absurd h (by simp)⟩
  | b :: l, n, h => by
    by_cases hn : n < flen b
    · refine ⟨0, (frameB b).take n, Nat.zero_le _, ?_, ?_, by simp [lenB], fun _ => ?_⟩
      · rw [List.flatMap_cons, List.take_append_of_le_length (by unfold flen at hn; omega)]; simp
      · by_cases h0 : n = 0
        · exact .inl (by rw [h0, List.take_zero])
        · exact .inr ⟨b, n, rfl, by omega, hn, rfl⟩
      · rw [List.take_succ_cons, List.take_zero, lenB_cons]; omega
    · rw [lenB_cons] at h
      obtain ⟨k, tail, h1, h2, h3, h4, h5⟩ := torn l (n - flen b) (by omega)
      refine ⟨k + 1, tail, by simp; omega, ?_, ?_, ?_, fun hk => ?_⟩
      · rw [List.flatMap_cons, List.take_append, List.take_of_length_le (by unfold flen at hn; omega)]
        show frameB b ++ (l.flatMap frameB).take (n - flen b) = _
        rw [h2, List.take_succ_cons, List.flatMap_cons, List.append_assoc]
      · rcases h3 with h3 | ⟨c, m, c1, c2⟩
        · exact .inl h3
        · exact .inr ⟨c, m, by rw [List.getElem?_cons_succ]; exact c1, c2⟩
      · rw [List.take_succ_cons, lenB_cons]; omega
      · have := h5 (by simpa using hk)
        rw [List.take_succ_cons, lenB_cons]; omega
theorem lenB_take_mono (l : List Ba) {i j : Nat} (h : i ≤ j) : lenB (l.take i) ≤ lenB (l.take j) := by
  have e : l.take j = l.take i ++ (l.take j).drop i := by
    have := List.take_append_drop i (l.take j)
    rw [List.take_take, Nat.min_eq_left h] at this
    exact this.symm
  rw [e, lenB_app]; omega
/-- What is read: as many as are in the bound, one at least. -/
def takeB (most : Int) : Int → Bool → List Ba → List Ba
  | _, _, [] => []
  | sum, has, b :: l => if has = true ∧ sum + (flen b : Nat) > most then [] else b :: takeB most (sum + (flen b : Nat)) true l
def readB (base off most : Int) (l : List Ba) : List Ba := if off < base then [] else takeB most 0 false (l.dropWhile fun b => decide (endB b ≤ off))
theorem takeB_prefix (most : Int) : ∀ (l : List Ba) (s : Int) (h : Bool), takeB most s h l <+: l
  | [], _, _ => List.prefix_refl _
  | b :: l, s, h => by
    unfold takeB
    split
    · exact List.nil_prefix
    · exact (List.prefix_cons_inj b).2 (takeB_prefix most l _ _)
theorem takeB_all (most : Int) : ∀ (l : List Ba) (s : Int) (h : Bool), s + (lenB l : Nat) ≤ most → takeB most s h l = l
  | [], _, _, _ => rfl
  | b :: l, s, h, hs => by
    rw [lenB_cons] at hs
    unfold takeB
    rw [if_neg (by rintro ⟨-, z⟩; omega), takeB_all most l _ _ (by omega)]
theorem takeB_one {most : Int} {s : Int} {b : Ba} {l : List Ba} : ∃ r, takeB most s false (b :: l) = b :: r := by
  unfold takeB
  rw [if_neg (by rintro ⟨z, -⟩; cases z)]
  exact ⟨_, rfl⟩
end Go.Proofs.YtokceblmbmajgaaGreatDoor
