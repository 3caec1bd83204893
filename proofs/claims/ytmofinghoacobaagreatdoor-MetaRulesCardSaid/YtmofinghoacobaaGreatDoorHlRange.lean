/- A loop over a map that a call has to itself, in whatever order: steps, and what may be done to the map between. -/
import Derived.Maps.RangeRun
import Derived.Test.YtmofinghoacobaaGreatDoorHlSep
namespace Go.HL
open Go Go.Instr

section
variable {κ α : Type} [DecidableEq κ]
theorem fm_congr {β γ : Type} {f g : β → Option γ} : ∀ {l : List β}, (∀ p ∈ l, f p = g p) → l.filterMap f = l.filterMap g := by
  intro l
  induction l with
  | nil => intro _; rfl
  | cons p l ih =>
    intro h
    rw [List.filterMap_cons, List.filterMap_cons, h p (List.mem_cons_self ..), ih fun q hq => h q (List.mem_cons_of_mem _ hq)]
theorem idxL_mem : ∀ {l : List (κ × α)} {k : κ}, k ∈ l.map Prod.fst → ∃ q, idxL l k = some q := by
  intro l
  induction l with
  | nil => intro k h; cases h
  | cons p l ih =>
    intro k h
    unfold idxL
    split
    · exact ⟨_, rfl⟩
    · rename_i e
      rw [List.map_cons, List.mem_cons] at h
      obtain ⟨q, hq⟩ := ih (h.resolve_left e)
      exact ⟨_, by rw [hq]; rfl⟩
theorem idxL_nodup : ∀ {l : List (κ × α)} {i : Nat} {k : κ} {v : α}, (l.map Prod.fst).Nodup → l[i]? = some (k, v) → idxL l k = some (i, v) := by
  intro l
  induction l with
  | nil => intro i k v _ h; simp at h
  | cons p l ih =>
    intro i k v hn h
    rw [List.map_cons, List.nodup_cons] at hn
    unfold idxL
    cases i with
    | zero => simp at h; subst h; rw [if_pos rfl]
    | succ i =>
      have h : l[i]? = some (k, v) := by simpa using h
      have : k ≠ p.1 := fun e => hn.1 (by rw [← e]; exact List.mem_map.2 ⟨(k, v), List.mem_of_getElem? h, rfl⟩)
      rw [if_neg this, ih hn.2 h]; rfl
theorem putL_keys : ∀ {l : List (κ × α)} {k : κ} {v w : α}, lookL l k = some v → (putL l k w).map Prod.fst = l.map Prod.fst := by
  intro l k v w h
  obtain ⟨i, hi⟩ := lookL_idx h
  rw [putL_set hi, List.map_set]
  have := idxL_get hi
  refine List.ext_getElem? fun j => ?_
  rw [List.getElem?_set]
  split
  · rename_i e; subst e
    rw [List.getElem?_map, this]
    simp [(List.getElem?_eq_some_iff.1 this).1]
  · rfl
theorem delL_erase : ∀ {l : List (κ × α)} {k : κ} {i : Nat} {v : α}, idxL l k = some (i, v) → delL l k = l.eraseIdx i := by
  intro l
  induction l with
  | nil => intro k i v h; cases h
  | cons p l ih =>
    intro k i v h
    unfold idxL at h
    unfold delL
    split at h
    · rename_i q
      simp only [Option.some.injEq, Prod.mk.injEq] at h
      obtain ⟨rfl, rfl⟩ := h
      rw [if_pos q]; rfl
    · rename_i q
      rw [if_neg q]
      simp only [Option.map_eq_some_iff, Prod.mk.injEq] at h
      obtain ⟨⟨j, y⟩, hj, rfl, rfl⟩ := h
      rw [ih hj]; rfl
/-- A list of pairs in the midst of a loop that turns each pair, or drops it. -/
def stepL (f : κ → α → Option α) (done : List κ) (l : List (κ × α)) : List (κ × α) := l.filterMap fun p => if p.1 ∈ done then (f p.1 p.2).map fun v => (p.1, v) else some p
theorem stepL_nil (f : κ → α → Option α) (l : List (κ × α)) : stepL f [] l = l := by simp [stepL]
theorem stepL_all {f : κ → α → Option α} {done : List κ} {l : List (κ × α)} (h : ∀ p ∈ stepL f done l, p.1 ∈ done) : stepL f done l = l.filterMap fun p => (f p.1 p.2).map fun v => (p.1, v) := by
  have key : ∀ p ∈ l, p.1 ∈ done := fun p hp => by
    refine Classical.byContradiction fun hn => hn (h p ?_)
    exact List.mem_filterMap.2 ⟨p, hp, by rw [if_neg hn]⟩
  unfold stepL
  refine fm_congr fun p hp => ?_
  rw [if_pos (key p hp)]
theorem stepL_sub {f : κ → α → Option α} {done : List κ} : ∀ {l : List (κ × α)}, ((stepL f done l).map Prod.fst).Sublist (l.map Prod.fst) := by
  intro l
  induction l with
  | nil => exact List.Sublist.refl _
  | cons p l ih =>
    unfold stepL at ih ⊢
    rw [List.filterMap_cons]
    split
    · exact ih.cons _
    · rename_i y e
      rw [List.map_cons, List.map_cons]
      have : y.1 = p.1 := by
        split at e
        · cases e2 : f p.1 p.2 with
          | none => rw [e2] at e; cases e
          | some v => rw [e2] at e; simp at e; rw [← e]
        · simp at e; rw [← e]
      rw [this]; exact ih.cons_cons _
theorem lookL_cons_ne {p : κ × α} {l : List (κ × α)} {k : κ} (h : k ≠ p.1) : lookL (p :: l) k = lookL l k := by
  have e : idxL (p :: l) k = (idxL l k).map fun q => (q.1 + 1, q.2) := by
    show (if k = p.1 then some (0, p.2) else (idxL l k).map fun q => (q.1 + 1, q.2)) = _
    rw [if_neg h]
  unfold lookL
  rw [e]
  cases idxL l k <;> rfl
theorem lookL_cons_eq {p : κ × α} {l : List (κ × α)} : lookL (p :: l) p.1 = some p.2 := by unfold lookL idxL; rw [if_pos rfl]; rfl
theorem lookL_none {l : List (κ × α)} {k : κ} (h : k ∉ l.map Prod.fst) : lookL l k = none := by
  induction l with
  | nil => rfl
  | cons p l ih =>
    rw [List.map_cons, List.mem_cons, not_or] at h
    rw [lookL_cons_ne h.1]; exact ih h.2
theorem stepL_look {f : κ → α → Option α} {done : List κ} {k : κ} (hk : k ∉ done) : ∀ {l : List (κ × α)}, (l.map Prod.fst).Nodup → lookL (stepL f done l) k = lookL l k := by
  intro l
  induction l with
  | nil => intro _; rfl
  | cons p l ih =>
    intro hn
    rw [List.map_cons, List.nodup_cons] at hn
    by_cases e : k = p.1
    · subst e
      have : stepL f done (p :: l) = p :: stepL f done l := by
        unfold stepL; rw [List.filterMap_cons, if_neg hk]
      rw [this, lookL_cons_eq, lookL_cons_eq]
    · rw [lookL_cons_ne e, ← ih hn.2]
      unfold stepL
      rw [List.filterMap_cons]
      split
      · rfl
      · rename_i y e2
        have : y.1 = p.1 := by
          split at e2
          · cases e3 : f p.1 p.2 with
            | none => rw [e3] at e2; cases e2
            | some v => rw [e3] at e2; simp at e2; rw [← e2]
          · simp at e2; rw [← e2]
        rw [lookL_cons_ne (by rw [this]; exact e)]
theorem stepL_skip {f : κ → α → Option α} {done : List κ} {k : κ} {l : List (κ × α)} (h : k ∉ l.map Prod.fst) : stepL f (k :: done) l = stepL f done l := by
  unfold stepL
  refine fm_congr fun p hp => ?_
  have : p.1 ≠ k := fun e => h (by rw [← e]; exact List.mem_map.2 ⟨p, hp, rfl⟩)
  simp [this]
theorem stepL_put {f : κ → α → Option α} {done : List κ} {k : κ} (hk : k ∉ done) : ∀ {l : List (κ × α)} {v w : α}, (l.map Prod.fst).Nodup → lookL l k = some v → f k v = some w → putL (stepL f done l) k w = stepL f (k :: done) l := by
  intro l
  induction l with
  | nil => intro v w _ h; cases h
  | cons p l ih =>
    intro v w hn h hf
    rw [List.map_cons, List.nodup_cons] at hn
    by_cases e : k = p.1
    · subst e
      rw [lookL_cons_eq] at h
      simp only [Option.some.injEq] at h
      subst h
      have e1 : stepL f done (p :: l) = p :: stepL f done l := by unfold stepL; rw [List.filterMap_cons, if_neg hk]
      have e2 : stepL f (p.1 :: done) (p :: l) = (p.1, w) :: stepL f (p.1 :: done) l := by unfold stepL; rw [List.filterMap_cons, if_pos (by simp), hf]; rfl
      rw [e1, e2, stepL_skip hn.1]
      unfold putL
      rw [if_pos rfl]
    · rw [lookL_cons_ne e] at h
      have ih := ih hn.2 h hf
      unfold stepL at ih ⊢
      rw [List.filterMap_cons, List.filterMap_cons]
      have e3 : (p.1 ∈ k :: done) = (p.1 ∈ done) := by simp [Ne.symm e]
      simp only [e3]
      split
      · exact ih
      · rename_i y e2
        have : y.1 = p.1 := by
          split at e2
          · cases e3 : f p.1 p.2 with
            | none => rw [e3] at e2; cases e2
            | some v => rw [e3] at e2; simp at e2; rw [← e2]
          · simp at e2; rw [← e2]
        unfold putL
        rw [if_neg (by rw [this]; exact e), ih]
theorem stepL_del {f : κ → α → Option α} {done : List κ} {k : κ} (hk : k ∉ done) : ∀ {l : List (κ × α)} {v : α}, (l.map Prod.fst).Nodup → lookL l k = some v → f k v = none → delL (stepL f done l) k = stepL f (k :: done) l := by
  intro l
  induction l with
  | nil => intro v _ h; cases h
  | cons p l ih =>
    intro v hn h hf
    rw [List.map_cons, List.nodup_cons] at hn
    by_cases e : k = p.1
    · subst e
      rw [lookL_cons_eq] at h
      simp only [Option.some.injEq] at h
      subst h
      have e1 : stepL f done (p :: l) = p :: stepL f done l := by unfold stepL; rw [List.filterMap_cons, if_neg hk]
      have e2 : stepL f (p.1 :: done) (p :: l) = stepL f (p.1 :: done) l := by unfold stepL; rw [List.filterMap_cons, if_pos (by simp), hf]; rfl
      rw [e1, e2, stepL_skip hn.1]
      unfold delL
      rw [if_pos rfl]
    · rw [lookL_cons_ne e] at h
      have ih := ih hn.2 h hf
      unfold stepL at ih ⊢
      rw [List.filterMap_cons, List.filterMap_cons]
      have e3 : (p.1 ∈ k :: done) = (p.1 ∈ done) := by simp [Ne.symm e]
      simp only [e3]
      split
      · exact ih
      · rename_i y e2
        have : y.1 = p.1 := by
          split at e2
          · cases e3 : f p.1 p.2 with
            | none => rw [e3] at e2; cases e2
            | some v => rw [e3] at e2; simp at e2; rw [← e2]
          · simp at e2; rw [← e2]
        unfold delL
        rw [if_neg (by rw [this]; exact e), ih]
end
/-- The entries of a map and what an iterator has seen of them. -/
structure RngIn {κ : Type} [DecidableEq κ] (es : Array MapEntry) (clock since : Nat) (seen : Array Nat) (enc : κ → Value) (l : List (κ × Value)) (done : List κ) : Prop where
  kv : kvs es.toList = encs enc l
  born : Born es.toList clock
  old : ∀ e ∈ es.toList, e.born < since
  since : since ≤ clock
  keys : (l.map Prod.fst).Nodup
  see : ∀ (i : Nat) (k : κ) (v : Value) (e : MapEntry), l[i]? = some (k, v) → es.toList[i]? = some e → (e.born ∈ seen.toList ↔ k ∈ done)
  cur : ∀ (i : Nat) (k : κ) (v : Value) (e : MapEntry), l[i]? = some (k, v) → es.toList[i]? = some e → done.head? = some k → seen.back? = some e.born
/-- A map and an iterator over it. -/
def rng {κ : Type} [DecidableEq κ] (b r : Nat) (enc : κ → Value) (l : List (κ × Value)) (done : List κ) : Chunk := fun H => ∃ q : Array MapEntry × Nat × Nat × Array Nat,
  RngIn q.1 q.2.1 q.2.2.1 q.2.2.2 enc l done ∧ Holds [blk b (.map q.1 q.2.1), blk r (.mapIter (some b) q.2.2.1 q.2.2.2 q.2.1)] H
section
variable {κ : Type} [DecidableEq κ] {P : Program} {t kt et : TypeId} {enc : κ → Value} {cs : List Chunk} {H : Heap} {b r : Nat} {l : List (κ × Value)} {done : List κ} {k : κ}
theorem rng_open : Holds (rng b r enc l done :: cs) H ↔ ∃ es clock since seen, RngIn es clock since seen enc l done ∧ Holds (blk b (.map es clock) :: blk r (.mapIter (some b) since seen clock) :: cs) H := by
  constructor
  · intro h
    obtain ⟨q, h⟩ := Holds.ex.1 h
    obtain ⟨hp, h⟩ := Holds.pure.1 h
    exact ⟨_, _, _, _, hp, Holds.flat.1 h⟩
  · rintro ⟨es, clock, since, seen, hp, h⟩
    exact Holds.ex.2 ⟨(es, clock, since, seen), Holds.pure.2 ⟨hp, Holds.flat.2 h⟩⟩
theorem rng_map (h : Holds (rng b r enc l done :: cs) H) : MapR H b enc l := by
  obtain ⟨es, clock, since, seen, hp, h⟩ := rng_open.1 h
  exact ⟨_, h.get 0 rfl, _, _, rfl, hp.kv, hp.born⟩
theorem rng_stop (h : Holds (rng b r enc l done :: cs) H) : Holds (mp b enc l :: cs) H := by
  obtain ⟨es, clock, since, seen, hp, h⟩ := rng_open.1 h
  exact (h.swap.tail).head fun A hA => ⟨_, hA, _, _, rfl, hp.kv, hp.born⟩
theorem kvs_at {κ : Type} {enc : κ → Value} {l : List (κ × Value)} {k : κ} {es : List MapEntry} (h : kvs es = encs enc l) {i : Nat} {v : Value} (e : l[i]? = some (k, v)) : ∃ x, es[i]? = some x ∧ x.key = enc k ∧ x.val = v := by
  have h2 : (kvs es)[i]? = some (enc k, v) := by rw [h]; simp [encs, e]
  simp only [kvs, List.getElem?_map, Option.map_eq_some_iff, Prod.mk.injEq] at h2
  obtain ⟨x, h3, h4, h5⟩ := h2
  exact ⟨x, h3, h4, h5⟩
theorem kvs_at' {κ : Type} {enc : κ → Value} {l : List (κ × Value)} {es : List MapEntry} (h : kvs es = encs enc l) {i : Nat} {x : MapEntry} (e : es[i]? = some x) : ∃ k v, l[i]? = some (k, v) ∧ x.key = enc k ∧ x.val = v := by
  have h2 : (encs enc l)[i]? = some (x.key, x.val) := by rw [← h]; simp [kvs, e]
  simp only [encs, List.getElem?_map, Option.map_eq_some_iff, Prod.mk.injEq] at h2
  obtain ⟨⟨k, v⟩, h3, h4, h5⟩ := h2
  exact ⟨k, v, h3, h4.symm, h5.symm⟩
theorem runH_getObj {α : Type} {o : Obj} {f : Obj → Sem α} {K : α → Heap → Prop} (h : H b = some o) (hc : isCells o = false) (k : runH P (f o) H K) : runH P (getObj b >>= f) H K := runH_bind ⟨o, h, hc, k⟩
theorem runH_setObj {α : Type} {o o' : Obj} {f : Unit → Sem α} {K : α → Heap → Prop} (h : H b = some o) (hc : isCells o = false) (k : runH P (f ()) (H.upd b o') K) : runH P (setObj b o' >>= f) H K := runH_bind ⟨⟨o, h, hc⟩, k⟩
theorem runH_choose {α : Type} {q : Question} {f : Nat → Sem α} {K : α → Heap → Prop} (k : ∀ n, Question.may q n → runH P (f n) H K) : runH P (choose q >>= f) H K := runH_bind fun n hn => k n hn
/-- A loop begins. -/
theorem Holds.range (h : Holds (mp b enc l :: cs) H) (ht : P.underlying t = some (.map kt et)) (hn : (l.map Prod.fst).Nodup) {K : Value → Heap → Prop} (c : ∀ r H', Holds (rng b r enc l [] :: cs) H' → K (.pointer (some ⟨r, 0, none⟩)) H') :
    runH P (Instr.range t (.map (some b))) H K := by
  obtain ⟨A, B, e1, d, ⟨o0, p, es, clock, rfl, h1, h2⟩, q⟩ := h
  have h3 : Holds (blk b (.map es clock) :: cs) H := ⟨A, B, e1, d, p, q⟩
  unfold Instr.range
  refine runH_bind ?_
  refine runH_bind (runH_underlying ht ?_)
  refine runH_bind ⟨_, h3.get 0 rfl, rfl, ?_⟩
  show runH P (do Pure.pure (.pointer (some ⟨← newObj (.mapIter (some b) clock #[] clock), 0, none⟩)) : Sem Value) H K
  intro r hr
  refine c r _ (rng_open.2 ⟨es, clock, clock, #[], ⟨h1, h2, h2.2, Nat.le_refl _, hn, fun i k v e _ _ => by simp, fun i k v e _ _ hh => by cases hh⟩, ?_⟩)
  exact (h3.add hr _).swap
theorem nodup_at {α : Type} {l : List α} (h : l.Nodup) {i j : Nat} {a : α} (hi : l[i]? = some a) (hj : l[j]? = some a) : i = j := by
  obtain ⟨hi1, hi2⟩ := List.getElem?_eq_some_iff.1 hi
  obtain ⟨hj1, hj2⟩ := List.getElem?_eq_some_iff.1 hj
  have := List.pairwise_iff_getElem.1 h
  rcases Nat.lt_trichotomy i j with e | e | e
  · exact absurd (hi2.trans hj2.symm) (this i j hi1 hj1 e)
  · exact e
  · exact absurd (hj2.trans hi2.symm) (this j i hj1 hi1 e)
/-- A step. -/
theorem Holds.next {ty : TypeId} (h : Holds (rng b r enc l done :: cs) H) {K : Value → Heap → Prop} (over : (∀ p ∈ l, p.1 ∈ done) → K (.tuple #[.bool false]) H)
    (step : ∀ k v H', lookL l k = some v → k ∉ done → Holds (rng b r enc l (k :: done) :: cs) H' → K (.tuple #[.bool true, enc k, v]) H') : runH P (Instr.next (.pointer (some ⟨r, 0, none⟩)) false ty) H K := by
  obtain ⟨es, clock, since, seen, hp, h⟩ := rng_open.1 h
  have hr := h.get 1 rfl
  have hb := h.get 0 rfl
  unfold Instr.next
  refine runH_getObj hr rfl ?_
  dsimp only
  refine runH_getObj hb rfl ?_
  dsimp only
  simp only [next_test_false seen es since clock hp.old hp.since, Bool.false_eq_true, if_false]
  have hmem : ∀ x ∈ (Array.filter (fun e => !seen.contains e.born) es).toList, x ∈ es.toList ∧ x.born ∉ seen.toList := fun x hx => by
    simp at hx ⊢; exact hx
  have hall : ∀ x ∈ es.toList, x.born ∉ seen.toList → x ∈ (Array.filter (fun e => !seen.contains e.born) es).toList := fun x hx hs => by
    simp at hx hs ⊢; exact ⟨hx, hs⟩
  generalize Array.filter (fun e => !seen.contains e.born) es = L at hmem hall ⊢
  have e1 : L.filter (fun x => decide (x.born < since)) = L := Array.filter_eq_self.2 (fun x hx => by simpa using hp.old x (hmem x (by simpa using hx)).1)
  have e2 : L.filter (fun x => decide (x.born ≥ since)) = #[] := by
    rw [Array.filter_eq_empty_iff]
    intro x hx
    have := hp.old x (hmem x (by simpa using hx)).1
    simp
    omega
  simp only [e1, e2, Array.append_empty]
  refine runH_choose fun n hn => ?_
  by_cases h0 : L.size = 0
  · have : L = #[] := Array.eq_empty_of_size_eq_zero h0
    subst this
    have hn0 : n = 0 := by obtain ⟨tp, rfl⟩ := hn; simp [Question.forced]
    subst hn0
    have e3 : (((if (#[] : Array MapEntry).isEmpty = true then #[none] else #[]) ++ Array.map some (#[] : Array MapEntry))[0]?) = some none := by simp
    rw [e3]
    show K (.tuple #[.bool false]) H
    refine over fun p hpl => ?_
    obtain ⟨i, hi⟩ := List.getElem?_of_mem hpl
    obtain ⟨x, hx, hk, hv⟩ := kvs_at (enc := enc) hp.kv (k := p.1) (v := p.2) hi
    refine (hp.see i p.1 p.2 x hi hx).1 (Classical.byContradiction fun hns => ?_)
    have := hall x (List.mem_of_getElem? hx) hns
    simp at this
  · have hne : L.isEmpty = false := by simp [Array.isEmpty, h0]
    simp only [hne, Bool.false_eq_true, if_false, Array.empty_append, Array.size_map] at hn ⊢
    have hj : n < L.size := by
      obtain ⟨tp, rfl⟩ := hn
      by_cases hf : L.size ≤ 1
      · simp [Question.forced, hf]; omega
      · simp only [Question.forced, decide_eq_true_eq, hf, if_false, Question.cut]
        exact Nat.mod_lt _ (by omega)
    simp only [Array.getElem?_map, Array.getElem?_eq_getElem hj, Option.map_some]
    obtain ⟨hx1, hx2⟩ := hmem L[n] (by simp)
    generalize L[n] = x at *
    obtain ⟨i, hi⟩ := List.getElem?_of_mem hx1
    obtain ⟨k, v, hl, hk, hv⟩ := kvs_at' (enc := enc) hp.kv hi
    have hid := idxL_nodup hp.keys hl
    refine runH_setObj hr rfl ?_
    show K (.tuple #[.bool true, x.key, x.val]) _
    rw [hk, hv]
    refine step k v _ (by unfold lookL; rw [hid]; rfl) (fun hd => hx2 ((hp.see i k v x hl hi).2 hd)) (rng_open.2 ⟨es, clock, since, seen.push x.born, ⟨hp.kv, hp.born, hp.old, hp.since, hp.keys, ?_, ?_⟩, ((h.swap.upd _).swap)⟩)
    · intro j k' v' e he1 he2
      have hs := hp.see j k' v' e he1 he2
      have hbn : e.born = x.born ↔ k' = k := by
        constructor
        · intro hbb
          have a1 : (es.toList.map (·.born))[j]? = some e.born := by rw [List.getElem?_map, he2]; rfl
          have a2 : (es.toList.map (·.born))[i]? = some e.born := by rw [List.getElem?_map, hi, hbb]; rfl
          have := nodup_at hp.born.1 a1 a2
          subst this
          rw [hl] at he1
          simp only [Option.some.injEq, Prod.mk.injEq] at he1
          exact he1.1.symm
        · rintro rfl
          have a1 : (l.map Prod.fst)[j]? = some k' := by rw [List.getElem?_map, he1]; rfl
          have a2 : (l.map Prod.fst)[i]? = some k' := by rw [List.getElem?_map, hl]; rfl
          have := nodup_at hp.keys a1 a2
          subst this
          rw [hi] at he2
          simp only [Option.some.injEq] at he2
          rw [he2]
      rw [Array.toList_push, List.mem_append, List.mem_singleton, List.mem_cons, hs, hbn]
      exact Or.comm
    · intro j k' v' e he1 he2 hh
      simp only [List.head?_cons, Option.some.injEq] at hh
      subst hh
      have a1 : (l.map Prod.fst)[j]? = some k := by rw [List.getElem?_map, he1]; rfl
      have a2 : (l.map Prod.fst)[i]? = some k := by rw [List.getElem?_map, hl]; rfl
      have := nodup_at hp.keys a1 a2
      subst this
      rw [hi] at he2
      simp only [Option.some.injEq] at he2
      rw [he2]; simp
/-- The round's key and value. -/
theorem Holds.entry {v : Value} (h : Holds (rng b r enc l (k :: done) :: cs) H) (hl : lookL l k = some v) {K : Value → Heap → Prop} (c : K (.tuple #[enc k, v]) H) : runH P (Instr.entry (.pointer (some ⟨r, 0, none⟩))) H K := by
  obtain ⟨es, clock, since, seen, hp, h⟩ := rng_open.1 h
  have hr := h.get 1 rfl
  have hb := h.get 0 rfl
  obtain ⟨i, hi⟩ := lookL_idx hl
  have hi := idxL_get hi
  obtain ⟨x, hx, hk, hv⟩ := kvs_at (enc := enc) hp.kv hi
  have hcur := hp.cur i k v x hi hx rfl
  unfold Instr.entry
  refine runH_getObj hr rfl ?_
  dsimp only
  rw [hcur]
  dsimp only
  refine runH_getObj hb rfl ?_
  have hf : es.find? (·.born == x.born) = some x := by rw [← Array.find?_toList]; exact find_born x es.toList hp.born.1 (List.mem_of_getElem? hx)
  simp only [bne_self_eq_false, Bool.false_eq_true, if_false, hf]
  show K (.tuple #[x.key, x.val]) H
  rw [hk, hv]; exact c
theorem modify_at {es : List MapEntry} {g : MapEntry → MapEntry} (hg : ∀ e, (g e).born = e.born) {i j : Nat} {e : MapEntry} (h : (es.modify i g)[j]? = some e) : ∃ e0, es[j]? = some e0 ∧ e.born = e0.born := by
  rw [List.getElem?_modify] at h
  obtain ⟨e0, h1, h2⟩ := Option.map_eq_some_iff.1 h
  refine ⟨e0, h1, ?_⟩
  rw [← h2]
  split
  · exact hg _
  · rfl
theorem keys_at {κ : Type} {l l' : List (κ × Value)} (h : l'.map Prod.fst = l.map Prod.fst) {j : Nat} {k : κ} {v : Value} (e : l'[j]? = some (k, v)) : ∃ v0, l[j]? = some (k, v0) := by
  have : (l.map Prod.fst)[j]? = some k := by rw [← h, List.getElem?_map, e]; rfl
  simp only [List.getElem?_map, Option.map_eq_some_iff] at this
  obtain ⟨⟨k', v0⟩, h1, h2⟩ := this
  have h2 : k' = k := h2
  subst h2
  exact ⟨v0, h1⟩
/-- A store at a key that is there. -/
theorem Holds.rngPut {v w : Value} (h : Holds (rng b r enc l done :: cs) H) (ht : P.underlying t = some (.map kt et)) (hk : KeyOK P kt enc) (hl : lookL l k = some v) {K : Unit → Heap → Prop} (c : ∀ H', Holds (rng b r enc (putL l k w) done :: cs) H' → K () H') :
    runH P (Instr.mapUpdate t (.map (some b)) (enc k) w) H K := by
  obtain ⟨es, clock, since, seen, hp, h⟩ := rng_open.1 h
  obtain ⟨i, hi⟩ := lookL_idx hl
  have hb := h.get 0 rfl
  unfold Instr.mapUpdate
  refine runH_bind (runH_underlying ht ?_)
  refine runH_bind ⟨_, hb, rfl, ?_⟩
  refine runH_bind (hk.check _ _ _ ?_)
  refine runH_bind (runH_findKey hk hp.kv ?_)
  rw [hi]
  have hkey : ((es[i]?).map (·.key)).getD (enc k) = enc k := by
    rw [← Array.getElem?_toList, key_at hp.kv hi]; rfl
  dsimp only
  rw [hkey]
  unfold keyThatStays
  rw [if_pos (hk.bits k)]
  refine ⟨⟨_, hb, rfl⟩, c _ (rng_open.2 ⟨_, clock, since, seen, ⟨?_, ?_, ?_, hp.since, ?_, ?_, ?_⟩, h.upd _⟩)⟩
  · rw [Array.toList_modify]; exact put_eq hp.kv hi
  · rw [Array.toList_modify]
    apply Born.modify hp.born
    intro _; rfl
  · intro e he
    rw [Array.toList_modify] at he
    obtain ⟨j, hj⟩ := List.getElem?_of_mem he
    obtain ⟨e0, h1, h2⟩ := modify_at (g := fun e => { e with key := enc k, val := w }) (fun _ => rfl) hj
    rw [h2]; exact hp.old e0 (List.mem_of_getElem? h1)
  · rw [putL_keys hl]; exact hp.keys
  · intro j k' v' e h1 h2
    rw [Array.toList_modify] at h2
    obtain ⟨e0, h3, h4⟩ := modify_at (g := fun e => { e with key := enc k, val := w }) (fun _ => rfl) h2
    obtain ⟨v0, h5⟩ := keys_at (putL_keys hl) h1
    rw [h4]; exact hp.see j k' v0 e0 h5 h3
  · intro j k' v' e h1 h2 h6
    rw [Array.toList_modify] at h2
    obtain ⟨e0, h3, h4⟩ := modify_at (g := fun e => { e with key := enc k, val := w }) (fun _ => rfl) h2
    obtain ⟨v0, h5⟩ := keys_at (putL_keys hl) h1
    rw [h4]; exact hp.cur j k' v0 e0 h5 h3 h6
theorem erase_at {α : Type} {l : List α} {i j : Nat} {a : α} (h : (l.eraseIdx i)[j]? = some a) : l[if j < i then j else j + 1]? = some a := by
  rw [List.getElem?_eraseIdx] at h
  split at h
  · rename_i q; rw [if_pos q]; exact h
  · rename_i q; rw [if_neg q]; exact h
/-- A deletion. -/
theorem Holds.rngDel {kt' ty : TypeId} {v : Value} (h : Holds (rng b r enc l done :: cs) H) (ht : P.underlying t = some (.map kt et)) (hk : KeyOK P kt enc) (hl : lookL l k = some v) {K : Value → Heap → Prop} (c : ∀ H', Holds (rng b r enc (delL l k) done :: cs) H' → K (.tuple #[]) H') :
    runH P (Builtin.delete_ #[t, kt'] ty #[.map (some b), enc k]) H K := by
  obtain ⟨es, clock, since, seen, hp, h⟩ := rng_open.1 h
  obtain ⟨i, hi⟩ := lookL_idx hl
  have hb := h.get 0 rfl
  unfold Builtin.delete_
  refine runH_bind (runH_underlying ht ?_)
  show runH P (getObj b >>= _) H K
  refine runH_bind ?_
  refine ⟨_, hb, rfl, ?_⟩
  show runH P (checkKey es.isEmpty 10000 kt (enc k) >>= _) H K
  refine runH_bind (hk.check _ _ _ ?_)
  show runH P (findKey kt (enc k) es.toList >>= _) H K
  refine runH_bind (runH_findKey hk hp.kv ?_)
  rw [hi]
  have hsub : (es.eraseIdxIfInBounds i).toList = es.toList.eraseIdx i := Array.toList_eraseIdxIfInBounds
  have hdl := delL_erase hi
  refine ⟨⟨_, hb, rfl⟩, c _ (rng_open.2 ⟨_, clock, since, seen, ⟨?_, ?_, ?_, hp.since, ?_, ?_, ?_⟩, h.upd _⟩)⟩
  · rw [hsub]; exact del_eq hp.kv hi
  · rw [hsub]; exact hp.born.erase _
  · intro e he
    rw [hsub] at he
    exact hp.old e ((List.eraseIdx_sublist _ _).subset he)
  · rw [hdl]; exact hp.keys.sublist ((List.eraseIdx_sublist _ _).map _)
  · intro j k' v' e h1 h2
    rw [hdl] at h1
    rw [hsub] at h2
    exact hp.see _ k' v' e (erase_at h1) (erase_at h2)
  · intro j k' v' e h1 h2 h6
    rw [hdl] at h1
    rw [hsub] at h2
    exact hp.cur _ k' v' e (erase_at h1) (erase_at h2) h6
/-- How many are still to come, read off memory: for a loop's measure. -/
def rngLeft (b r : Nat) (H : Heap) : Nat :=
  match H b, H r with
  | some (.map es _), some (.mapIter _ _ seen _) => (es.toList.filter fun e => !seen.toList.contains e.born).length
  | _, _ => 0
theorem filter_two {α β : Type} {f : α → Bool} {g : β → Bool} : ∀ {as : List α} {bs : List β}, as.length = bs.length → (∀ (i : Nat) (a : α) (b : β), as[i]? = some a → bs[i]? = some b → f a = g b) → (as.filter f).length = (bs.filter g).length := by
  intro as
  induction as with
  | nil => intro bs h _; cases bs with
    | nil => rfl
    | cons b bs => simp at h
  | cons a as ih =>
    intro bs h hfg
    cases bs with
    | nil => simp at h
    | cons b bs =>
      have h0 := hfg 0 a b rfl rfl
      have ih := ih (bs := bs) (by simpa using h) fun i x y hx hy => hfg (i + 1) x y (by simpa using hx) (by simpa using hy)
      rw [List.filter_cons, List.filter_cons, h0]
      split
      · simp [ih]
      · exact ih
theorem rng_left (h : Holds (rng b r enc l done :: cs) H) : rngLeft b r H = (l.filter fun p => decide (p.1 ∉ done)).length := by
  obtain ⟨es, clock, since, seen, hp, h⟩ := rng_open.1 h
  unfold rngLeft
  rw [h.get 0 rfl, h.get 1 rfl]
  dsimp only
  have hlen : es.toList.length = l.length := by
    have := congrArg List.length hp.kv
    simpa [kvs, encs] using this
  refine filter_two hlen fun i e p h1 h2 => ?_
  have := hp.see i p.1 p.2 e h2 h1
  by_cases q : p.1 ∈ done
  · have q2 := this.2 q
    rw [decide_eq_false (by simpa using q), List.contains_iff_mem.2 q2]; rfl
  · have q2 : e.born ∉ seen.toList := fun z => q (this.1 z)
    have q3 : seen.toList.contains e.born = false := by
      cases z : seen.toList.contains e.born with
      | false => rfl
      | true => exact absurd (List.contains_iff_mem.1 z) q2
    rw [decide_eq_true q, q3]; rfl
end
section
variable {κ α : Type} [DecidableEq κ]
theorem stepL_left {f : κ → α → Option α} {done : List κ} : ∀ {l : List (κ × α)}, (stepL f done l).filter (fun p => decide (p.1 ∉ done)) = l.filter fun p => decide (p.1 ∉ done) := by
  intro l
  induction l with
  | nil => rfl
  | cons p l ih =>
    unfold stepL at ih ⊢
    by_cases q : p.1 ∈ done
    · have e2 : (p :: l).filter (fun p => decide (p.1 ∉ done)) = l.filter fun p => decide (p.1 ∉ done) := by
        rw [List.filter_cons, if_neg (by simpa using q)]
      rw [e2, ← ih, List.filterMap_cons, if_pos q]
      cases f p.1 p.2 with
      | none => rfl
      | some v => rw [Option.map_some]; dsimp only; rw [List.filter_cons, if_neg (by simpa using q)]
    · rw [List.filterMap_cons, if_neg q, List.filter_cons, List.filter_cons, if_pos (by simpa using q), if_pos (by simpa using q), ih]
theorem left_lt {done : List κ} {k : κ} {v : α} {l : List (κ × α)} (h : lookL l k = some v) (hk : k ∉ done) : (l.filter fun p => decide (p.1 ∉ k :: done)).length < (l.filter fun p => decide (p.1 ∉ done)).length := by
  obtain ⟨i, hi⟩ := lookL_idx h
  have hm := List.mem_of_getElem? (idxL_get hi)
  clear hi h
  have le : ∀ l : List (κ × α), (l.filter fun p => decide (p.1 ∉ k :: done)).length ≤ (l.filter fun p => decide (p.1 ∉ done)).length := by
    intro l
    induction l with
    | nil => exact Nat.le_refl _
    | cons p l ih =>
      rw [List.filter_cons, List.filter_cons]
      by_cases q : p.1 ∈ done
      · rw [if_neg (by simp [q]), if_neg (by simp [q])]; exact ih
      · by_cases q2 : p.1 ∈ k :: done
        · rw [if_neg (fun z => (of_decide_eq_true z) q2), if_pos (decide_eq_true q)]
          simp only [List.length_cons]; omega
        · rw [if_pos (decide_eq_true q2), if_pos (decide_eq_true q)]
          simp only [List.length_cons]; omega
  induction l with
  | nil => cases hm
  | cons p l ih =>
    rw [List.filter_cons, List.filter_cons]
    rcases List.mem_cons.1 hm with e | e
    · subst e
      rw [if_neg (by simp), if_pos (by simp [hk])]
      have := le l
      simp only [List.length_cons]; omega
    · have := ih e
      by_cases q : p.1 ∈ done
      · rw [if_neg (by simp [q]), if_neg (by simp [q])]; exact this
      · by_cases q2 : p.1 ∈ k :: done
        · rw [if_neg (fun z => (of_decide_eq_true z) q2), if_pos (decide_eq_true q)]
          simp only [List.length_cons]; omega
        · rw [if_pos (decide_eq_true q2), if_pos (decide_eq_true q)]
          simp only [List.length_cons]; omega
end
end Go.HL
