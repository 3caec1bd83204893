import Derived.Test.YthldclmeojkboaaGreatDoorHlRange
namespace Go.HL
set_option linter.unusedVariables false
section
variable {κ α : Type}
structure LtOK (lt : κ → κ → Bool) : Prop where
  irr : ∀ a, lt a a = false
  trans : ∀ a b c, lt a b = true → lt b c = true → lt a c = true
  tri : ∀ a b, a ≠ b → lt a b = true ∨ lt b a = true
def SortedL (lt : κ → κ → Bool) (l : List (κ × α)) : Prop := l.Pairwise fun p q => lt p.1 q.1 = true
theorem LtOK.asymm {lt : κ → κ → Bool} (h : LtOK lt) {a b : κ} (hab : lt a b = true) : lt b a = false := by
  cases e : lt b a with
  | false => rfl
  | true =>
    have := h.trans a b a hab e
    rw [h.irr] at this; cases this
theorem LtOK.ne {lt : κ → κ → Bool} (h : LtOK lt) {a b : κ} (hab : lt a b = true) : a ≠ b := fun e => by
  subst e; rw [h.irr] at hab; cases hab
theorem SortedL.nodup {lt : κ → κ → Bool} (ho : LtOK lt) {l : List (κ × α)} (h : SortedL lt l) : (l.map Prod.fst).Nodup :=
  List.pairwise_map.2 (h.imp fun {a b} hab => ho.ne hab)
theorem sorted_fresh {lt : κ → κ → Bool} (ho : LtOK lt) {p : κ × α} {l : List (κ × α)} (h : SortedL lt (p :: l)) {k : κ} (hk : lt k p.1 = true) : k ∉ (p :: l).map Prod.fst := by
  intro hm
  obtain ⟨x, hx, e⟩ := List.mem_map.1 hm
  obtain ⟨h1, h2⟩ := List.pairwise_cons.1 h
  rcases List.mem_cons.1 hx with y | y
  · subst y; exact ho.ne hk e.symm
  · exact ho.ne (ho.trans _ _ _ hk (h1 x y)) e.symm
def sumL (f : α → Int) (l : List (κ × α)) : Int := (l.map fun p => f p.2).sum
theorem sumL_perm {f : α → Int} {l m : List (κ × α)} (h : l.Perm m) : sumL f l = sumL f m := by
  unfold sumL
  induction h with
  | nil => rfl
  | cons x _ ih => simp only [List.map_cons, List.sum_cons, ih]
  | swap x y l => simp only [List.map_cons, List.sum_cons]; omega
  | trans _ _ h1 h2 => exact h1.trans h2
end
section
variable {κ α : Type} [DecidableEq κ]
def insL (lt : κ → κ → Bool) : List (κ × α) → κ → α → List (κ × α)
  | [], k, v => [(k, v)]
  | p :: l, k, v => if k = p.1 then (k, v) :: l else if lt k p.1 = true then (k, v) :: p :: l else p :: insL lt l k v
theorem delL_filter : ∀ {l : List (κ × α)} {k : κ}, (l.map Prod.fst).Nodup → delL l k = l.filter fun p => decide (p.1 ≠ k) := by
  intro l
  induction l with
  | nil => intro k _; rfl
  | cons p l ih =>
    intro k hn
    obtain ⟨h1, h2⟩ := List.nodup_cons.1 (show (p.1 :: l.map Prod.fst).Nodup from hn)
    unfold delL
    by_cases q : k = p.1
    · rw [if_pos q, List.filter_cons_of_neg (by simp [q])]
      symm
      refine List.filter_eq_self.2 fun x hx => ?_
      have : x.1 ≠ k := fun e => h1 (by rw [← q, ← e]; exact List.mem_map.2 ⟨x, hx, rfl⟩)
      simpa using this
    · rw [if_neg q, ih h2, List.filter_cons_of_pos (by simpa using fun e : p.1 = k => q e.symm)]
theorem lookL_iff : ∀ {l : List (κ × α)} {k : κ} {v : α}, (l.map Prod.fst).Nodup → (lookL l k = some v ↔ (k, v) ∈ l) := by
  intro l
  induction l with
  | nil => intro k v _; simp [lookL, idxL]
  | cons p l ih =>
    intro k v hn
    obtain ⟨h1, h2⟩ := List.nodup_cons.1 (show (p.1 :: l.map Prod.fst).Nodup from hn)
    by_cases q : k = p.1
    · subst q
      rw [lookL_cons_eq, List.mem_cons]
      constructor
      · intro e; exact .inl (by rw [← Option.some.inj e])
      · rintro (e | e)
        · rw [← e]
        · exact absurd (List.mem_map.2 ⟨_, e, rfl⟩) h1
    · rw [lookL_cons_ne q, ih h2, List.mem_cons]
      constructor
      · exact .inr
      · rintro (e | e)
        · exact absurd (by rw [← e]) q
        · exact e
theorem look_perm {l m : List (κ × α)} (hp : l.Perm m) (hn : (l.map Prod.fst).Nodup) (k : κ) : lookL l k = lookL m k := by
  have hm : (m.map Prod.fst).Nodup := (hp.map Prod.fst).nodup_iff.1 hn
  cases e : lookL l k with
  | some v => exact ((lookL_iff hm).2 (hp.mem_iff.1 ((lookL_iff hn).1 e))).symm
  | none =>
    cases e2 : lookL m k with
    | none => rfl
    | some v =>
      have := (lookL_iff hn).2 (hp.mem_iff.2 ((lookL_iff hm).1 e2))
      rw [e] at this; cases this
theorem putL_perm {l : List (κ × α)} {k : κ} {v : α} (hn : (l.map Prod.fst).Nodup) : (putL l k v).Perm ((k, v) :: delL l k) := by
  induction l with
  | nil => exact List.Perm.refl _
  | cons p l ih =>
    obtain ⟨h1, h2⟩ := List.nodup_cons.1 (show (p.1 :: l.map Prod.fst).Nodup from hn)
    unfold putL delL
    by_cases q : k = p.1
    · rw [if_pos q, if_pos q]
    · rw [if_neg q, if_neg q]
      exact ((ih h2).cons p).trans (List.Perm.swap _ _ _)
variable {lt : κ → κ → Bool}
theorem delL_fresh : ∀ {l : List (κ × α)} {k : κ}, k ∉ l.map Prod.fst → delL l k = l := by
  intro l
  induction l with
  | nil => intro k _; rfl
  | cons p l ih =>
    intro k h
    simp only [List.map_cons, List.mem_cons, not_or] at h
    unfold delL
    rw [if_neg h.1, ih h.2]
theorem insL_perm (ho : LtOK lt) {l : List (κ × α)} (h : SortedL lt l) {k : κ} {v : α} : (insL lt l k v).Perm ((k, v) :: delL l k) := by
  induction l with
  | nil => exact List.Perm.refl _
  | cons p l ih =>
    obtain ⟨h1, h2⟩ := List.pairwise_cons.1 h
    unfold insL
    by_cases q : k = p.1
    · rw [if_pos q]
      unfold delL
      rw [if_pos q]
    · rw [if_neg q]
      by_cases q2 : lt k p.1 = true
      · rw [if_pos q2, delL_fresh (sorted_fresh ho h q2)]
      · rw [if_neg q2]
        unfold delL
        rw [if_neg q]
        exact ((ih h2).cons p).trans (List.Perm.swap _ _ _)
theorem insL_keys {k : κ} {v : α} {l : List (κ × α)} {x : κ × α} (hx : x ∈ insL lt l k v) : x = (k, v) ∨ x ∈ l := by
  induction l with
  | nil => simp [insL] at hx; exact .inl hx
  | cons p l ih =>
    unfold insL at hx
    split at hx
    · rcases List.mem_cons.1 hx with e | e
      · exact .inl e
      · exact .inr (List.mem_cons_of_mem _ e)
    · split at hx
      · rcases List.mem_cons.1 hx with e | e
        · exact .inl e
        · exact .inr e
      · rcases List.mem_cons.1 hx with e | e
        · exact .inr (e ▸ List.mem_cons_self)
        · rcases ih e with y | y
          · exact .inl y
          · exact .inr (List.mem_cons_of_mem _ y)
theorem insL_sorted (ho : LtOK lt) {l : List (κ × α)} (h : SortedL lt l) {k : κ} {v : α} : SortedL lt (insL lt l k v) := by
  induction l with
  | nil => exact List.pairwise_cons.2 ⟨fun x hx => by simp at hx, List.Pairwise.nil⟩
  | cons p l ih =>
    obtain ⟨h1, h2⟩ := List.pairwise_cons.1 h
    unfold insL
    split
    · rename_i q
      exact List.pairwise_cons.2 ⟨fun x hx => by rw [q]; exact h1 x hx, h2⟩
    · rename_i q
      split
      · rename_i q2
        refine List.pairwise_cons.2 ⟨fun x hx => ?_, h⟩
        rcases List.mem_cons.1 hx with e | e
        · rw [e]; exact q2
        · exact ho.trans _ _ _ q2 (h1 x e)
      · rename_i q2
        refine List.pairwise_cons.2 ⟨fun x hx => ?_, ih h2⟩
        rcases insL_keys hx with e | e
        · rw [e]
          rcases ho.tri k p.1 q with z | z
          · exact absurd z q2
          · exact z
        · exact h1 x e
theorem delL_sub : ∀ {l : List (κ × α)} {k : κ}, (delL l k).Sublist l := by
  intro l
  induction l with
  | nil => intro k; exact List.Sublist.refl _
  | cons p l ih =>
    intro k
    unfold delL
    split
    · exact List.sublist_cons_self _ _
    · exact (ih).cons_cons _
theorem delL_sorted {l : List (κ × α)} (h : SortedL lt l) {k : κ} : SortedL lt (delL l k) := h.sublist delL_sub
theorem put_ins (ho : LtOK lt) {l m : List (κ × α)} (hp : l.Perm m) (hs : SortedL lt m) (k : κ) (v : α) : (putL l k v).Perm (insL lt m k v) := by
  have hm := hs.nodup ho
  have hl : (l.map Prod.fst).Nodup := (hp.map Prod.fst).nodup_iff.2 hm
  refine (putL_perm hl).trans (List.Perm.trans ?_ (insL_perm ho hs).symm)
  refine List.Perm.cons _ ?_
  rw [delL_filter hl, delL_filter hm]
  exact hp.filter _
theorem sumL_del {f : α → Int} {m : List (κ × α)} (hn : (m.map Prod.fst).Nodup) {k : κ} {d : α} (hd : f d = 0) : sumL f (delL m k) = sumL f m - f ((lookL m k).getD d) := by
  induction m with
  | nil => simp [delL, sumL, lookL, idxL, hd]
  | cons p l ih =>
    obtain ⟨h1, h2⟩ := List.nodup_cons.1 (show (p.1 :: l.map Prod.fst).Nodup from hn)
    unfold delL
    by_cases q : k = p.1
    · subst q
      rw [if_pos rfl, lookL_cons_eq]
      simp [sumL]; omega
    · rw [if_neg q, lookL_cons_ne q]
      have := ih h2
      simp only [sumL, List.map_cons, List.sum_cons] at this ⊢
      omega
theorem sumL_ins (ho : LtOK lt) {f : α → Int} {m : List (κ × α)} (hs : SortedL lt m) {k : κ} {v d : α} (hd : f d = 0) : sumL f (insL lt m k v) = sumL f m - f ((lookL m k).getD d) + f v := by
  rw [sumL_perm (insL_perm ho hs)]
  have := sumL_del (f := f) (hs.nodup ho) (k := k) hd
  simp only [sumL, List.map_cons, List.sum_cons] at this ⊢
  omega
end
end Go.HL
