/- Maps: what lookups, updates and deletions do to a map that reads as a list of pairs. -/
import Derived.Test.YtcipmipadjenaaaHlUse
namespace Go.HL
open Go Go.Instr

/-- Keys of a kind. -/
structure KeyOK (P : Program) (kt : TypeId) {κ : Type} [DecidableEq κ] (enc : κ → Value) : Prop where
  now : ∃ d, P.underlying kt = some d ∧ ∀ a b, sameNow d (enc a) (enc b) = some (decide (a = b))
  check : ∀ (e : Bool) (n : Nat) (a : κ) {H : Heap} {K : Unit → Heap → Prop}, K () H → runH P (checkKey e (n + 1) kt (enc a)) H K
  bits : ∀ a, sameBits 10000 (enc a) (enc a) = true
theorem KeyOK.int {P : Program} {kt : TypeId} {kd : IntKind} (h : P.underlying kt = some (.int kd)) : KeyOK P kt (fun n : Int => Value.int kd n) := by
  refine ⟨⟨_, h, fun a b => ?_⟩, fun e n a H K k => ?_, fun a => ?_⟩
  · simp only [sameNow, if_true]
    congr 1
  · unfold checkKey
    exact runH_bind (runH_underlying h k)
  · simp [sameBits]
theorem KeyOK.str {P : Program} {kt : TypeId} (h : P.underlying kt = some .string) : KeyOK P kt (fun s : ByteArray => Value.string s) := by
  refine ⟨⟨_, h, fun a b => ?_⟩, fun e n a H K k => ?_, fun a => ?_⟩
  · simp only [sameNow]
    congr 1
    by_cases e : a = b
    · rw [decide_eq_true e]; exact (MapKept.bytes_beq a b).2 e
    · rw [decide_eq_false e]
      cases q : a == b with
      | false => rfl
      | true => exact absurd ((MapKept.bytes_beq a b).1 q) e
  · unfold checkKey
    exact runH_bind (runH_underlying h k)
  · simp only [sameBits]; exact (MapKept.bytes_beq a a).2 rfl

section
variable {κ α : Type} [DecidableEq κ]
def idxL : List (κ × α) → κ → Option (Nat × α)
  | [], _ => none
  | p :: l, k => if k = p.1 then some (0, p.2) else (idxL l k).map fun q => (q.1 + 1, q.2)
def lookL (l : List (κ × α)) (k : κ) : Option α := (idxL l k).map (·.2)
def putL : List (κ × α) → κ → α → List (κ × α)
  | [], k, v => [(k, v)]
  | p :: l, k, v => if k = p.1 then (k, v) :: l else p :: putL l k v
def delL : List (κ × α) → κ → List (κ × α)
  | [], _ => []
  | p :: l, k => if k = p.1 then l else p :: delL l k
theorem putL_none : ∀ {l : List (κ × α)} {k : κ} {v : α}, idxL l k = none → putL l k v = l ++ [(k, v)] := by
  intro l
  induction l with
  | nil => intro k v _; rfl
  | cons p l ih =>
    intro k v h
    unfold idxL at h
    unfold putL
    split at h
    · cases h
    · rename_i e
      rw [if_neg e, ih (by simpa using h)]; rfl
theorem delL_none : ∀ {l : List (κ × α)} {k : κ}, idxL l k = none → delL l k = l := by
  intro l
  induction l with
  | nil => intro k _; rfl
  | cons p l ih =>
    intro k h
    unfold idxL at h
    unfold delL
    split at h
    · cases h
    · rename_i e
      rw [if_neg e, ih (by simpa using h)]
end

section
variable {κ : Type} [DecidableEq κ]
/-- A map that reads as pairs. -/
def kvs (es : List MapEntry) : List (Value × Value) := es.map fun m => (m.key, m.val)
def encs (enc : κ → Value) (l : List (κ × Value)) : List (Value × Value) := l.map fun p => (enc p.1, p.2)
def MapR (H : Heap) (b : Nat) (enc : κ → Value) (l : List (κ × Value)) : Prop := ∃ es clock, H b = some (.map es clock) ∧ kvs es.toList = encs enc l

theorem findNow_eq {d : TypeDesc} {enc : κ → Value} (hd : ∀ a b, sameNow d (enc a) (enc b) = some (decide (a = b))) {k : κ} : ∀ {es : List MapEntry} {l : List (κ × Value)} {i : Nat}, kvs es = encs enc l →
    findNow d (enc k) es i = some ((idxL l k).map fun q => (q.1 + i, q.2)) := by
  intro es
  induction es with
  | nil =>
    intro l i h
    cases l with
    | nil => rfl
    | cons p l => simp [kvs, encs] at h
  | cons e es ih =>
    intro l i h
    cases l with
    | nil => simp [kvs, encs] at h
    | cons p l =>
      simp only [kvs, encs, List.map_cons, List.cons.injEq, Prod.mk.injEq] at h
      obtain ⟨⟨h1, h2⟩, h3⟩ := h
      unfold findNow idxL
      rw [h1, hd]
      by_cases q : k = p.1
      · rw [decide_eq_true q, if_pos q]
        simp [h2]
      · rw [decide_eq_false q, if_neg q]
        simp only []
        rw [ih (l := l) h3]
        cases idxL l k with
        | none => rfl
        | some x => simp; omega
theorem put_eq {enc : κ → Value} {k : κ} {v : Value} : ∀ {es : List MapEntry} {l : List (κ × Value)} {i : Nat} {x : Value}, kvs es = encs enc l → idxL l k = some (i, x) →
    kvs (es.modify i fun e => { e with key := enc k, val := v }) = encs enc (putL l k v) := by
  intro es
  induction es with
  | nil =>
    intro l i x h hi
    cases l with
    | nil => cases hi
    | cons p l => simp [kvs, encs] at h
  | cons e es ih =>
    intro l i x h hi
    cases l with
    | nil => simp [kvs, encs] at h
    | cons p l =>
      simp only [kvs, encs, List.map_cons, List.cons.injEq, Prod.mk.injEq] at h
      obtain ⟨⟨h1, h2⟩, h3⟩ := h
      unfold idxL at hi
      unfold putL
      split at hi
      · rename_i q
        simp only [Option.some.injEq, Prod.mk.injEq] at hi
        obtain ⟨rfl, rfl⟩ := hi
        rw [if_pos q]
        simp only [kvs, encs, List.modify_cons, if_true, List.map_cons, h3]
      · rename_i q
        rw [if_neg q]
        simp only [Option.map_eq_some_iff, Prod.mk.injEq] at hi
        obtain ⟨⟨j, y⟩, hj, rfl, rfl⟩ := hi
        have := ih (l := l) h3 hj
        simp only [kvs, encs] at this
        simp [kvs, encs, List.modify_cons, this, h1, h2]
theorem key_at {enc : κ → Value} {k : κ} : ∀ {es : List MapEntry} {l : List (κ × Value)} {i : Nat} {x : Value}, kvs es = encs enc l → idxL l k = some (i, x) → (es[i]?).map (·.key) = some (enc k) := by
  intro es
  induction es with
  | nil =>
    intro l i x h hi
    cases l with
    | nil => cases hi
    | cons p l => simp [kvs, encs] at h
  | cons e es ih =>
    intro l i x h hi
    cases l with
    | nil => simp [kvs, encs] at h
    | cons p l =>
      simp only [kvs, encs, List.map_cons, List.cons.injEq, Prod.mk.injEq] at h
      obtain ⟨⟨h1, h2⟩, h3⟩ := h
      unfold idxL at hi
      split at hi
      · rename_i q
        simp only [Option.some.injEq, Prod.mk.injEq] at hi
        obtain ⟨rfl, rfl⟩ := hi
        simp [h1, q]
      · simp only [Option.map_eq_some_iff, Prod.mk.injEq] at hi
        obtain ⟨⟨j, y⟩, hj, rfl, rfl⟩ := hi
        simpa using ih (l := l) h3 hj
theorem del_eq {enc : κ → Value} {k : κ} : ∀ {es : List MapEntry} {l : List (κ × Value)} {i : Nat} {x : Value}, kvs es = encs enc l → idxL l k = some (i, x) → kvs (es.eraseIdx i) = encs enc (delL l k) := by
  intro es
  induction es with
  | nil =>
    intro l i x h hi
    cases l with
    | nil => cases hi
    | cons p l => simp [kvs, encs] at h
  | cons e es ih =>
    intro l i x h hi
    cases l with
    | nil => simp [kvs, encs] at h
    | cons p l =>
      simp only [kvs, encs, List.map_cons, List.cons.injEq, Prod.mk.injEq] at h
      obtain ⟨⟨h1, h2⟩, h3⟩ := h
      unfold idxL at hi
      unfold delL
      split at hi
      · rename_i q
        simp only [Option.some.injEq, Prod.mk.injEq] at hi
        obtain ⟨rfl, rfl⟩ := hi
        rw [if_pos q]
        simpa [kvs, encs] using h3
      · rename_i q
        rw [if_neg q]
        simp only [Option.map_eq_some_iff, Prod.mk.injEq] at hi
        obtain ⟨⟨j, y⟩, hj, rfl, rfl⟩ := hi
        have := ih (l := l) h3 hj
        simp only [kvs, encs] at this
        simp [kvs, encs, List.eraseIdx_cons_succ, this, h1, h2]

theorem runH_findKey {P : Program} {kt : TypeId} {enc : κ → Value} (hk : KeyOK P kt enc) {k : κ} {es : List MapEntry} {l : List (κ × Value)} (h : kvs es = encs enc l) {H : Heap} {K : Option (Nat × Value) → Heap → Prop}
    (c : K (idxL l k) H) : runH P (findKey kt (enc k) es) H K := by
  obtain ⟨d, hd, hs⟩ := hk.now
  unfold findKey
  refine runH_bind (runH_underlying hd ?_)
  rw [findNow_eq hs h]
  have e : ((idxL l k).map fun q => (q.1 + 0, q.2)) = idxL l k := by cases idxL l k <;> rfl
  rw [e]
  exact c
theorem runH_lookup {P : Program} {t kt et : TypeId} {enc : κ → Value} (ht : P.underlying t = some (.map kt et)) (hk : KeyOK P kt enc) {z : Value} (hz : zeroT P et = some z) {H : Heap} {b : Nat} {l : List (κ × Value)} (hm : MapR H b enc l) {k : κ}
    {K : Value → Heap → Prop} (c : K (.tuple #[(lookL l k).getD z, .bool (lookL l k).isSome]) H) : runH P (Instr.lookup t (.map (some b)) (enc k) true) H K := by
  obtain ⟨es, clock, h1, h2⟩ := hm
  unfold Instr.lookup
  refine runH_bind (runH_underlying ht ?_)
  refine runH_bind ?_
  refine ⟨_, h1, rfl, ?_⟩
  show runH P (checkKey es.isEmpty 10000 kt (enc k) >>= _) H K
  refine runH_bind (hk.check _ _ _ ?_)
  refine runH_bind (runH_findKey hk h2 ?_)
  unfold lookL at c
  cases e : idxL l k with
  | none =>
    rw [e] at c
    exact runH_bind (runH_zeroValue hz c)
  | some x =>
    rw [e] at c
    exact c
theorem runH_lookup1 {P : Program} {t kt et : TypeId} {enc : κ → Value} (ht : P.underlying t = some (.map kt et)) (hk : KeyOK P kt enc) {z : Value} (hz : zeroT P et = some z) {H : Heap} {b : Nat} {l : List (κ × Value)} (hm : MapR H b enc l) {k : κ}
    {K : Value → Heap → Prop} (c : K ((lookL l k).getD z) H) : runH P (Instr.lookup t (.map (some b)) (enc k) false) H K := by
  obtain ⟨es, clock, h1, h2⟩ := hm
  unfold Instr.lookup
  refine runH_bind (runH_underlying ht ?_)
  refine runH_bind ?_
  refine ⟨_, h1, rfl, ?_⟩
  show runH P (checkKey es.isEmpty 10000 kt (enc k) >>= _) H K
  refine runH_bind (hk.check _ _ _ ?_)
  refine runH_bind (runH_findKey hk h2 ?_)
  unfold lookL at c
  cases e : idxL l k with
  | none =>
    rw [e] at c
    exact runH_bind (runH_zeroValue hz c)
  | some x =>
    rw [e] at c
    exact c
theorem runH_update {P : Program} {t kt et : TypeId} {enc : κ → Value} (ht : P.underlying t = some (.map kt et)) (hk : KeyOK P kt enc) {H : Heap} {b : Nat} {l : List (κ × Value)} (hm : MapR H b enc l) {k : κ} {v : Value}
    {K : Unit → Heap → Prop} (c : ∀ es clock, kvs es.toList = encs enc (putL l k v) → K () (H.upd b (.map es clock))) : runH P (Instr.mapUpdate t (.map (some b)) (enc k) v) H K := by
  obtain ⟨es, clock, h1, h2⟩ := hm
  unfold Instr.mapUpdate
  refine runH_bind (runH_underlying ht ?_)
  refine runH_bind ⟨_, h1, rfl, ?_⟩
  refine runH_bind (hk.check _ _ _ ?_)
  refine runH_bind (runH_findKey hk h2 ?_)
  cases e : idxL l k with
  | none =>
    refine ⟨⟨_, h1, rfl⟩, c _ _ ?_⟩
    rw [putL_none e]
    simp only [kvs, encs] at h2
    simp [kvs, encs, h2]
  | some x =>
    obtain ⟨i, y⟩ := x
    have hkey : ((es[i]?).map (·.key)).getD (enc k) = enc k := by
      rw [← Array.getElem?_toList, key_at h2 e]; rfl
    simp only []
    rw [hkey]
    unfold keyThatStays
    rw [if_pos (hk.bits k)]
    refine ⟨⟨_, h1, rfl⟩, c _ _ ?_⟩
    rw [Array.toList_modify]
    exact put_eq h2 e
theorem runH_delete {P : Program} {t kt et kt' ty : TypeId} {enc : κ → Value} (ht : P.underlying t = some (.map kt et)) (hk : KeyOK P kt enc) {H : Heap} {b : Nat} {l : List (κ × Value)} (hm : MapR H b enc l) {k : κ}
    {K : Value → Heap → Prop} (c : ∀ es clock, kvs es.toList = encs enc (delL l k) → K (.tuple #[]) (H.upd b (.map es clock))) : runH P (Builtin.delete_ #[t, kt'] ty #[.map (some b), enc k]) H K := by
  obtain ⟨es, clock, h1, h2⟩ := hm
  unfold Builtin.delete_
  refine runH_bind (runH_underlying ht ?_)
  show runH P (getObj b >>= _) H K
  refine runH_bind ?_
  refine ⟨_, h1, rfl, ?_⟩
  show runH P (checkKey es.isEmpty 10000 kt (enc k) >>= _) H K
  refine runH_bind (hk.check _ _ _ ?_)
  show runH P (findKey kt (enc k) es.toList >>= _) H K
  refine runH_bind (runH_findKey hk h2 ?_)
  cases e : idxL l k with
  | none =>
    refine ⟨⟨_, h1, rfl⟩, c _ _ ?_⟩
    rw [delL_none e]; exact h2
  | some x =>
    obtain ⟨i, y⟩ := x
    refine ⟨⟨_, h1, rfl⟩, c _ _ ?_⟩
    rw [Array.toList_eraseIdxIfInBounds]
    exact del_eq h2 e
end
end Go.HL
