import Derived.Maps.RangeRun
import Derived.Test.YthldclmeojkboaaGreatDoorHlSep
namespace Go.HL
open Go Go.Instr
section
variable {κ α : Type} [DecidableEq κ]
theorem idxL_nodup : ∀ {l : List (κ × α)} {i : Nat} {k : κ} {v : α}, (l.map Prod.fst).Nodup → l[i]? = some (k, v) → idxL l k = some (i, v) := by
  intro l
  induction l with
  | nil => intro i k v _ h; simp at h
  | cons p l ih =>
    intro i k v hn h
    rw [List.map_cons, List.nodup_cons] at hn
    unfold idxL
    cases i with
    | zero => simp at h; subst h; rw [if_pos rfl]
    | succ i =>
      have h : l[i]? = some (k, v) := by simpa using h
      have : k ≠ p.1 := fun e => hn.1 (by rw [← e]; exact List.mem_map.2 ⟨(k, v), List.mem_of_getElem? h, rfl⟩)
      rw [if_neg this, ih hn.2 h]; rfl
theorem delL_erase : ∀ {l : List (κ × α)} {k : κ} {i : Nat} {v : α}, idxL l k = some (i, v) → delL l k = l.eraseIdx i := by
  intro l
  induction l with
  | nil => intro k i v h; cases h
  | cons p l ih =>
    intro k i v h
    unfold idxL at h
    unfold delL
    split at h
    · rename_i q
      simp only [Option.some.injEq, Prod.mk.injEq] at h
      obtain ⟨rfl, rfl⟩ := h
      rw [if_pos q]; rfl
    · rename_i q
      rw [if_neg q]
      simp only [Option.map_eq_some_iff, Prod.mk.injEq] at h
      obtain ⟨⟨j, y⟩, hj, rfl, rfl⟩ := h
      rw [ih hj]; rfl
theorem lookL_cons_ne {p : κ × α} {l : List (κ × α)} {k : κ} (h : k ≠ p.1) : lookL (p :: l) k = lookL l k := by
  have e : idxL (p :: l) k = (idxL l k).map fun q => (q.1 + 1, q.2) := by
    show (if k = p.1 then some (0, p.2) else (idxL l k).map fun q => (q.1 + 1, q.2)) = _
    rw [if_neg h]
  unfold lookL
  rw [e]
  cases idxL l k <;> rfl
theorem lookL_cons_eq {p : κ × α} {l : List (κ × α)} : lookL (p :: l) p.1 = some p.2 := by unfold lookL idxL; rw [if_pos rfl]; rfl
end
structure RngIn {κ : Type} [DecidableEq κ] (es : Array MapEntry) (clock since : Nat) (seen : Array Nat) (enc : κ → Value) (l : List (κ × Value)) (done : List κ) : Prop where
  kv : kvs es.toList = encs enc l
  born : Born es.toList clock
  old : ∀ e ∈ es.toList, e.born < since
  since : since ≤ clock
  keys : (l.map Prod.fst).Nodup
  see : ∀ (i : Nat) (k : κ) (v : Value) (e : MapEntry), l[i]? = some (k, v) → es.toList[i]? = some e → (e.born ∈ seen.toList ↔ k ∈ done)
  cur : ∀ (i : Nat) (k : κ) (v : Value) (e : MapEntry), l[i]? = some (k, v) → es.toList[i]? = some e → done.head? = some k → seen.back? = some e.born
def rng {κ : Type} [DecidableEq κ] (b r : Nat) (enc : κ → Value) (l : List (κ × Value)) (done : List κ) : Chunk := fun H => ∃ q : Array MapEntry × Nat × Nat × Array Nat,
  RngIn q.1 q.2.1 q.2.2.1 q.2.2.2 enc l done ∧ Holds [blk b (.map q.1 q.2.1), blk r (.mapIter (some b) q.2.2.1 q.2.2.2 q.2.1)] H
section
variable {κ : Type} [DecidableEq κ] {P : Program} {t kt et : TypeId} {enc : κ → Value} {cs : List Chunk} {H : Heap} {b r : Nat} {l : List (κ × Value)} {done : List κ} {k : κ}
theorem rng_open : Holds (rng b r enc l done :: cs) H ↔ ∃ es clock since seen, RngIn es clock since seen enc l done ∧ Holds (blk b (.map es clock) :: blk r (.mapIter (some b) since seen clock) :: cs) H := by
  constructor
  · intro h
    obtain ⟨q, h⟩ := Holds.ex.1 h
    obtain ⟨hp, h⟩ := Holds.pure.1 h
    exact ⟨_, _, _, _, hp, Holds.flat.1 h⟩
  · rintro ⟨es, clock, since, seen, hp, h⟩
    exact Holds.ex.2 ⟨(es, clock, since, seen), Holds.pure.2 ⟨hp, Holds.flat.2 h⟩⟩
theorem kvs_at {κ : Type} {enc : κ → Value} {l : List (κ × Value)} {k : κ} {es : List MapEntry} (h : kvs es = encs enc l) {i : Nat} {v : Value} (e : l[i]? = some (k, v)) : ∃ x, es[i]? = some x ∧ x.key = enc k ∧ x.val = v := by
  have h2 : (kvs es)[i]? = some (enc k, v) := by rw [h]; simp [encs, e]
  simp only [kvs, List.getElem?_map, Option.map_eq_some_iff, Prod.mk.injEq] at h2
  obtain ⟨x, h3, h4, h5⟩ := h2
  exact ⟨x, h3, h4, h5⟩
theorem kvs_at' {κ : Type} {enc : κ → Value} {l : List (κ × Value)} {es : List MapEntry} (h : kvs es = encs enc l) {i : Nat} {x : MapEntry} (e : es[i]? = some x) : ∃ k v, l[i]? = some (k, v) ∧ x.key = enc k ∧ x.val = v := by
  have h2 : (encs enc l)[i]? = some (x.key, x.val) := by rw [← h]; simp [kvs, e]
  simp only [encs, List.getElem?_map, Option.map_eq_some_iff, Prod.mk.injEq] at h2
  obtain ⟨⟨k, v⟩, h3, h4, h5⟩ := h2
  exact ⟨k, v, h3, h4.symm, h5.symm⟩
theorem runH_getObj {α : Type} {o : Obj} {f : Obj → Sem α} {K : α → Heap → Prop} (h : H b = some o) (hc : isCells o = false) (k : runH P (f o) H K) : runH P (getObj b >>= f) H K := runH_bind ⟨o, h, hc, k⟩
theorem runH_setObj {α : Type} {o o' : Obj} {f : Unit → Sem α} {K : α → Heap → Prop} (h : H b = some o) (hc : isCells o = false) (k : runH P (f ()) (H.upd b o') K) : runH P (setObj b o' >>= f) H K := runH_bind ⟨⟨o, h, hc⟩, k⟩
theorem runH_choose {α : Type} {q : Question} {f : Nat → Sem α} {K : α → Heap → Prop} (k : ∀ n, Question.may q n → runH P (f n) H K) : runH P (choose q >>= f) H K := runH_bind fun n hn => k n hn
theorem Holds.range (h : Holds (mp b enc l :: cs) H) (ht : P.underlying t = some (.map kt et)) (hn : (l.map Prod.fst).Nodup) {K : Value → Heap → Prop} (c : ∀ r H', Holds (rng b r enc l [] :: cs) H' → K (.pointer (some ⟨r, 0, none⟩)) H') :
    runH P (Instr.range t (.map (some b))) H K := by
  obtain ⟨A, B, e1, d, ⟨o0, p, es, clock, rfl, h1, h2⟩, q⟩ := h
  have h3 : Holds (blk b (.map es clock) :: cs) H := ⟨A, B, e1, d, p, q⟩
  unfold Instr.range
  refine runH_bind ?_
  refine runH_bind (runH_underlying ht ?_)
  refine runH_bind ⟨_, h3.get 0 rfl, rfl, ?_⟩
  show runH P (do Pure.pure (.pointer (some ⟨← newObj (.mapIter (some b) clock #[] clock), 0, none⟩)) : Sem Value) H K
  intro r hr
  refine c r _ (rng_open.2 ⟨es, clock, clock, #[], ⟨h1, h2, h2.2, Nat.le_refl _, hn, fun i k v e _ _ => by simp, fun i k v e _ _ hh => by cases hh⟩, ?_⟩)
  exact (h3.add hr _).swap
theorem nodup_at {α : Type} {l : List α} (h : l.Nodup) {i j : Nat} {a : α} (hi : l[i]? = some a) (hj : l[j]? = some a) : i = j := by
  obtain ⟨hi1, hi2⟩ := List.getElem?_eq_some_iff.1 hi
  obtain ⟨hj1, hj2⟩ := List.getElem?_eq_some_iff.1 hj
  have := List.pairwise_iff_getElem.1 h
  rcases Nat.lt_trichotomy i j with e | e | e
  · exact absurd (hi2.trans hj2.symm) (this i j hi1 hj1 e)
  · exact e
  · exact absurd (hj2.trans hi2.symm) (this j i hj1 hi1 e)
theorem Holds.next {ty : TypeId} (h : Holds (rng b r enc l done :: cs) H) {K : Value → Heap → Prop} (over : (∀ p ∈ l, p.1 ∈ done) → K (.tuple #[.bool false]) H)
    (step : ∀ k v H', lookL l k = some v → k ∉ done → Holds (rng b r enc l (k :: done) :: cs) H' → K (.tuple #[.bool true, enc k, v]) H') : runH P (Instr.next (.pointer (some ⟨r, 0, none⟩)) false ty) H K := by
  obtain ⟨es, clock, since, seen, hp, h⟩ := rng_open.1 h
  have hr := h.get 1 rfl
  have hb := h.get 0 rfl
  unfold Instr.next
  refine runH_getObj hr rfl ?_
  dsimp only
  refine runH_getObj hb rfl ?_
  dsimp only
  simp only [next_test_false seen es since clock hp.old hp.since, Bool.false_eq_true, if_false]
  have hmem : ∀ x ∈ (Array.filter (fun e => !seen.contains e.born) es).toList, x ∈ es.toList ∧ x.born ∉ seen.toList := fun x hx => by
    simp at hx ⊢; exact hx
  have hall : ∀ x ∈ es.toList, x.born ∉ seen.toList → x ∈ (Array.filter (fun e => !seen.contains e.born) es).toList := fun x hx hs => by
    simp at hx hs ⊢; exact ⟨hx, hs⟩
  generalize Array.filter (fun e => !seen.contains e.born) es = L at hmem hall ⊢
  have e1 : L.filter (fun x => decide (x.born < since)) = L := Array.filter_eq_self.2 (fun x hx => by simpa using hp.old x (hmem x (by simpa using hx)).1)
  have e2 : L.filter (fun x => decide (x.born ≥ since)) = #[] := by
    rw [Array.filter_eq_empty_iff]
    intro x hx
    have := hp.old x (hmem x (by simpa using hx)).1
    simp
    omega
  simp only [e1, e2, Array.append_empty]
  refine runH_choose fun n hn => ?_
  by_cases h0 : L.size = 0
  · have : L = #[] := Array.eq_empty_of_size_eq_zero h0
    subst this
    have hn0 : n = 0 := by obtain ⟨tp, rfl⟩ := hn; simp [Question.forced]
    subst hn0
    have e3 : (((if (#[] : Array MapEntry).isEmpty = true then #[none] else #[]) ++ Array.map some (#[] : Array MapEntry))[0]?) = some none := by simp
    rw [e3]
    show K (.tuple #[.bool false]) H
    refine over fun p hpl => ?_
    obtain ⟨i, hi⟩ := List.getElem?_of_mem hpl
    obtain ⟨x, hx, hk, hv⟩ := kvs_at (enc := enc) hp.kv (k := p.1) (v := p.2) hi
    refine (hp.see i p.1 p.2 x hi hx).1 (Classical.byContradiction fun hns => ?_)
    have := hall x (List.mem_of_getElem? hx) hns
    simp at this
  · have hne : L.isEmpty = false := by simp [Array.isEmpty, h0]
    simp only [hne, Bool.false_eq_true, if_false, Array.empty_append, Array.size_map] at hn ⊢
    have hj : n < L.size := by
      obtain ⟨tp, rfl⟩ := hn
      by_cases hf : L.size ≤ 1
      · simp [Question.forced, hf]; omega
      · simp only [Question.forced, decide_eq_true_eq, hf, if_false, Question.cut]
        exact Nat.mod_lt _ (by omega)
    simp only [Array.getElem?_map, Array.getElem?_eq_getElem hj, Option.map_some]
    obtain ⟨hx1, hx2⟩ := hmem L[n] (by simp)
    generalize L[n] = x at *
    obtain ⟨i, hi⟩ := List.getElem?_of_mem hx1
    obtain ⟨k, v, hl, hk, hv⟩ := kvs_at' (enc := enc) hp.kv hi
    have hid := idxL_nodup hp.keys hl
    refine runH_setObj hr rfl ?_
    show K (.tuple #[.bool true, x.key, x.val]) _
    rw [hk, hv]
    refine step k v _ (by unfold lookL; rw [hid]; rfl) (fun hd => hx2 ((hp.see i k v x hl hi).2 hd)) (rng_open.2 ⟨es, clock, since, seen.push x.born, ⟨hp.kv, hp.born, hp.old, hp.since, hp.keys, ?_, ?_⟩, ((h.swap.upd _).swap)⟩)
    · intro j k' v' e he1 he2
      have hs := hp.see j k' v' e he1 he2
      have hbn : e.born = x.born ↔ k' = k := by
        constructor
        · intro hbb
          have a1 : (es.toList.map (·.born))[j]? = some e.born := by rw [List.getElem?_map, he2]; rfl
          have a2 : (es.toList.map (·.born))[i]? = some e.born := by rw [List.getElem?_map, hi, hbb]; rfl
          have := nodup_at hp.born.1 a1 a2
          subst this
          rw [hl] at he1
          simp only [Option.some.injEq, Prod.mk.injEq] at he1
          exact he1.1.symm
        · rintro rfl
          have a1 : (l.map Prod.fst)[j]? = some k' := by rw [List.getElem?_map, he1]; rfl
          have a2 : (l.map Prod.fst)[i]? = some k' := by rw [List.getElem?_map, hl]; rfl
          have := nodup_at hp.keys a1 a2
          subst this
          rw [hi] at he2
          simp only [Option.some.injEq] at he2
          rw [he2]
      rw [Array.toList_push, List.mem_append, List.mem_singleton, List.mem_cons, hs, hbn]
      exact Or.comm
    · intro j k' v' e he1 he2 hh
      simp only [List.head?_cons, Option.some.injEq] at hh
      subst hh
      have a1 : (l.map Prod.fst)[j]? = some k := by rw [List.getElem?_map, he1]; rfl
      have a2 : (l.map Prod.fst)[i]? = some k := by rw [List.getElem?_map, hl]; rfl
      have := nodup_at hp.keys a1 a2
      subst this
      rw [hi] at he2
      simp only [Option.some.injEq] at he2
      rw [he2]; simp
theorem Holds.entry {v : Value} (h : Holds (rng b r enc l (k :: done) :: cs) H) (hl : lookL l k = some v) {K : Value → Heap → Prop} (c : K (.tuple #[enc k, v]) H) : runH P (Instr.entry (.pointer (some ⟨r, 0, none⟩))) H K := by
  obtain ⟨es, clock, since, seen, hp, h⟩ := rng_open.1 h
  have hr := h.get 1 rfl
  have hb := h.get 0 rfl
  obtain ⟨i, hi⟩ := lookL_idx hl
  have hi := idxL_get hi
  obtain ⟨x, hx, hk, hv⟩ := kvs_at (enc := enc) hp.kv hi
  have hcur := hp.cur i k v x hi hx rfl
  unfold Instr.entry
  refine runH_getObj hr rfl ?_
  dsimp only
  rw [hcur]
  dsimp only
  refine runH_getObj hb rfl ?_
  have hf : es.find? (·.born == x.born) = some x := by rw [← Array.find?_toList]; exact find_born x es.toList hp.born.1 (List.mem_of_getElem? hx)
  simp only [bne_self_eq_false, Bool.false_eq_true, if_false, hf]
  show K (.tuple #[x.key, x.val]) H
  rw [hk, hv]; exact c
theorem modify_at {es : List MapEntry} {g : MapEntry → MapEntry} (hg : ∀ e, (g e).born = e.born) {i j : Nat} {e : MapEntry} (h : (es.modify i g)[j]? = some e) : ∃ e0, es[j]? = some e0 ∧ e.born = e0.born := by
  rw [List.getElem?_modify] at h
  obtain ⟨e0, h1, h2⟩ := Option.map_eq_some_iff.1 h
  refine ⟨e0, h1, ?_⟩
  rw [← h2]
  split
  · exact hg _
  · rfl
end
section
variable {κ α : Type} [DecidableEq κ]
end
end Go.HL
