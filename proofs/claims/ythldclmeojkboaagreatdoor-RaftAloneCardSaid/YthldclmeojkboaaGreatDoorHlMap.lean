import Derived.Test.YthldclmeojkboaaGreatDoorHlUse
namespace Go.HL
open Go Go.Instr
structure KeyOK (P : Program) (kt : TypeId) {κ : Type} [DecidableEq κ] (enc : κ → Value) : Prop where
  now : ∃ d, P.underlying kt = some d ∧ ∀ a b, sameNow d (enc a) (enc b) = some (decide (a = b))
  check : ∀ (e : Bool) (n : Nat) (a : κ) {H : Heap} {K : Unit → Heap → Prop}, K () H → runH P (checkKey e (n + 1) kt (enc a)) H K
  bits : ∀ a, sameBits 10000 (enc a) (enc a) = true
  checkR : ∀ (e : Bool) (n : Nat) (a : κ) {H : Heap} {K : Unit → Prop}, K () → runR P (checkKey e (n + 1) kt (enc a)) H K
theorem KeyOK.int {P : Program} {kt : TypeId} {kd : IntKind} (h : P.underlying kt = some (.int kd)) : KeyOK P kt (fun n : Int => Value.int kd n) := by
  refine ⟨⟨_, h, fun a b => ?_⟩, fun e n a H K k => ?_, fun a => ?_, fun e n a H K k => ?_⟩
  · simp only [sameNow, if_true]
    congr 1
  · unfold checkKey
    exact runH_bind (runH_underlying h k)
  · simp [sameBits]
  · unfold checkKey
    exact runR_bind (runR_underlying h k)
theorem KeyOK.str {P : Program} {kt : TypeId} (h : P.underlying kt = some .string) : KeyOK P kt (fun s : ByteArray => Value.string s) := by
  refine ⟨⟨_, h, fun a b => ?_⟩, fun e n a H K k => ?_, fun a => ?_, fun e n a H K k => by unfold checkKey; exact runR_bind (runR_underlying h k)⟩
  · simp only [sameNow]
    congr 1
    by_cases e : a = b
    · rw [decide_eq_true e]; exact (MapKept.bytes_beq a b).2 e
    · rw [decide_eq_false e]
      cases q : a == b with
      | false => rfl
      | true => exact absurd ((MapKept.bytes_beq a b).1 q) e
  · unfold checkKey
    exact runH_bind (runH_underlying h k)
  · simp only [sameBits]; exact (MapKept.bytes_beq a a).2 rfl
section
variable {κ α : Type} [DecidableEq κ]
def idxL : List (κ × α) → κ → Option (Nat × α)
  | [], _ => none
  | p :: l, k => if k = p.1 then some (0, p.2) else (idxL l k).map fun q => (q.1 + 1, q.2)
def lookL (l : List (κ × α)) (k : κ) : Option α := (idxL l k).map (·.2)
def putL : List (κ × α) → κ → α → List (κ × α)
  | [], k, v => [(k, v)]
  | p :: l, k, v => if k = p.1 then (k, v) :: l else p :: putL l k v
def delL : List (κ × α) → κ → List (κ × α)
  | [], _ => []
  | p :: l, k => if k = p.1 then l else p :: delL l k
theorem putL_none : ∀ {l : List (κ × α)} {k : κ} {v : α}, idxL l k = none → putL l k v = l ++ [(k, v)] := by
  intro l
  induction l with
  | nil => intro k v _; rfl
  | cons p l ih =>
    intro k v h
    unfold idxL at h
    unfold putL
    split at h
    · cases h
    · rename_i e
      rw [if_neg e, ih (by simpa using h)]; rfl
theorem delL_none : ∀ {l : List (κ × α)} {k : κ}, idxL l k = none → delL l k = l := by
  intro l
  induction l with
  | nil => intro k _; rfl
  | cons p l ih =>
    intro k h
    unfold idxL at h
    unfold delL
    split at h
    · cases h
    · rename_i e
      rw [if_neg e, ih (by simpa using h)]
theorem idxL_map {β : Type} {f : α → β} : ∀ {l : List (κ × α)} {k : κ}, idxL (l.map fun p => (p.1, f p.2)) k = (idxL l k).map fun q => (q.1, f q.2) := by
  intro l
  induction l with
  | nil => intro k; rfl
  | cons p l ih =>
    intro k
    simp only [List.map_cons, idxL]
    split
    · rfl
    · rw [ih]; cases idxL l k <;> rfl
theorem lookL_map {β : Type} {f : α → β} {l : List (κ × α)} {k : κ} : lookL (l.map fun p => (p.1, f p.2)) k = (lookL l k).map f := by
  unfold lookL
  rw [idxL_map]
  cases idxL l k <;> rfl
theorem putL_map {β : Type} {f : α → β} : ∀ {l : List (κ × α)} {k : κ} {v : α}, putL (l.map fun p => (p.1, f p.2)) k (f v) = (putL l k v).map fun p => (p.1, f p.2) := by
  intro l
  induction l with
  | nil => intro k v; rfl
  | cons p l ih =>
    intro k v
    simp only [List.map_cons, putL]
    split
    · rfl
    · rw [ih]; rfl
theorem idxL_get : ∀ {l : List (κ × α)} {k : κ} {i : Nat} {v : α}, idxL l k = some (i, v) → l[i]? = some (k, v) := by
  intro l
  induction l with
  | nil => intro k i v h; cases h
  | cons p l ih =>
    intro k i v h
    unfold idxL at h
    split at h
    · rename_i q
      simp only [Option.some.injEq, Prod.mk.injEq] at h
      obtain ⟨rfl, rfl⟩ := h
      simp [q]
    · simp only [Option.map_eq_some_iff, Prod.mk.injEq] at h
      obtain ⟨⟨j, y⟩, hj, rfl, rfl⟩ := h
      simpa using ih hj
theorem lookL_idx {l : List (κ × α)} {k : κ} {v : α} (h : lookL l k = some v) : ∃ i, idxL l k = some (i, v) := by
  unfold lookL at h
  cases e : idxL l k with
  | none => rw [e] at h; cases h
  | some q => rw [e] at h; simp only [Option.map_some, Option.some.injEq] at h; exact ⟨q.1, by rw [← h]⟩
end
section
variable {κ : Type} [DecidableEq κ]
def kvs (es : List MapEntry) : List (Value × Value) := es.map fun m => (m.key, m.val)
def encs (enc : κ → Value) (l : List (κ × Value)) : List (Value × Value) := l.map fun p => (enc p.1, p.2)
def Born (es : List MapEntry) (clock : Nat) : Prop := (es.map (·.born)).Nodup ∧ ∀ e ∈ es, e.born < clock
theorem Born.nil (c : Nat) : Born [] c := ⟨List.nodup_nil, fun e h => by cases h⟩
theorem Born.push {es : List MapEntry} {c : Nat} (h : Born es c) {e : MapEntry} (he : e.born = c) : Born (es ++ [e]) (c + 1) := by
  refine ⟨?_, fun x hx => ?_⟩
  · rw [List.map_append, List.nodup_append]
    refine ⟨h.1, by simp, fun a ha b hb => ?_⟩
    obtain ⟨x, hx, rfl⟩ := List.mem_map.1 ha
    simp only [List.map_cons, List.map_nil, List.mem_singleton] at hb
    have := h.2 x hx
    omega
  · rcases List.mem_append.1 hx with q | q
    · have := h.2 x q; omega
    · simp only [List.mem_singleton] at q; subst q; omega
theorem map_modify_same {α β : Type} {f : α → β} {g : α → α} (hg : ∀ a, f (g a) = f a) : ∀ (l : List α) (i : Nat), (l.modify i g).map f = l.map f := by
  intro l
  induction l with
  | nil => intro i; cases i <;> rfl
  | cons a l ih =>
    intro i
    cases i with
    | zero => simp [List.modify_cons, hg]
    | succ i => simp [List.modify_cons, ih]
theorem Born.modify {es : List MapEntry} {c : Nat} (h : Born es c) {g : MapEntry → MapEntry} (hg : ∀ e, (g e).born = e.born) (i : Nat) : Born (es.modify i g) c := by
  have e := map_modify_same (f := MapEntry.born) hg es i
  refine ⟨by rw [e]; exact h.1, fun x hx => ?_⟩
  have : x.born ∈ (es.modify i g).map MapEntry.born := List.mem_map.2 ⟨x, hx, rfl⟩
  rw [e] at this
  obtain ⟨y, hy, hyx⟩ := List.mem_map.1 this
  have := h.2 y hy; omega
theorem Born.erase {es : List MapEntry} {c : Nat} (h : Born es c) (i : Nat) : Born (es.eraseIdx i) c :=
  ⟨h.1.sublist ((List.eraseIdx_sublist _ _).map _), fun x hx => h.2 x ((List.eraseIdx_sublist _ _).mem hx)⟩
def MapO (o : Obj) (enc : κ → Value) (l : List (κ × Value)) : Prop := ∃ es clock, o = .map es clock ∧ kvs es.toList = encs enc l ∧ Born es.toList clock
def MapR (H : Heap) (b : Nat) (enc : κ → Value) (l : List (κ × Value)) : Prop := ∃ o, H b = some o ∧ MapO o enc l
omit [DecidableEq κ] in
theorem MapO.nil (enc : κ → Value) : MapO (.map #[] 0) enc [] := ⟨#[], 0, rfl, rfl, Born.nil 0⟩
theorem findNow_eq {d : TypeDesc} {enc : κ → Value} (hd : ∀ a b, sameNow d (enc a) (enc b) = some (decide (a = b))) {k : κ} : ∀ {es : List MapEntry} {l : List (κ × Value)} {i : Nat}, kvs es = encs enc l →
    findNow d (enc k) es i = some ((idxL l k).map fun q => (q.1 + i, q.2)) := by
  intro es
  induction es with
  | nil =>
    intro l i h
    cases l with
    | nil => rfl
    | cons p l => simp [kvs, encs] at h
  | cons e es ih =>
    intro l i h
    cases l with
    | nil => simp [kvs, encs] at h
    | cons p l =>
      simp only [kvs, encs, List.map_cons, List.cons.injEq, Prod.mk.injEq] at h
      obtain ⟨⟨h1, h2⟩, h3⟩ := h
      unfold findNow idxL
      rw [h1, hd]
      by_cases q : k = p.1
      · rw [decide_eq_true q, if_pos q]
        simp [h2]
      · rw [decide_eq_false q, if_neg q]
        simp only []
        rw [ih (l := l) h3]
        cases idxL l k with
        | none => rfl
        | some x => simp; omega
theorem put_eq {enc : κ → Value} {k : κ} {v : Value} : ∀ {es : List MapEntry} {l : List (κ × Value)} {i : Nat} {x : Value}, kvs es = encs enc l → idxL l k = some (i, x) →
    kvs (es.modify i fun e => { e with key := enc k, val := v }) = encs enc (putL l k v) := by
  intro es
  induction es with
  | nil =>
    intro l i x h hi
    cases l with
    | nil => cases hi
    | cons p l => simp [kvs, encs] at h
  | cons e es ih =>
    intro l i x h hi
    cases l with
    | nil => simp [kvs, encs] at h
    | cons p l =>
      simp only [kvs, encs, List.map_cons, List.cons.injEq, Prod.mk.injEq] at h
      obtain ⟨⟨h1, h2⟩, h3⟩ := h
      unfold idxL at hi
      unfold putL
      split at hi
      · rename_i q
        simp only [Option.some.injEq, Prod.mk.injEq] at hi
        obtain ⟨rfl, rfl⟩ := hi
        rw [if_pos q]
        simp only [kvs, encs, List.modify_cons, if_true, List.map_cons, h3]
      · rename_i q
        rw [if_neg q]
        simp only [Option.map_eq_some_iff, Prod.mk.injEq] at hi
        obtain ⟨⟨j, y⟩, hj, rfl, rfl⟩ := hi
        have := ih (l := l) h3 hj
        simp only [kvs, encs] at this
        simp [kvs, encs, List.modify_cons, this, h1, h2]
theorem key_at {enc : κ → Value} {k : κ} : ∀ {es : List MapEntry} {l : List (κ × Value)} {i : Nat} {x : Value}, kvs es = encs enc l → idxL l k = some (i, x) → (es[i]?).map (·.key) = some (enc k) := by
  intro es
  induction es with
  | nil =>
    intro l i x h hi
    cases l with
    | nil => cases hi
    | cons p l => simp [kvs, encs] at h
  | cons e es ih =>
    intro l i x h hi
    cases l with
    | nil => simp [kvs, encs] at h
    | cons p l =>
      simp only [kvs, encs, List.map_cons, List.cons.injEq, Prod.mk.injEq] at h
      obtain ⟨⟨h1, h2⟩, h3⟩ := h
      unfold idxL at hi
      split at hi
      · rename_i q
        simp only [Option.some.injEq, Prod.mk.injEq] at hi
        obtain ⟨rfl, rfl⟩ := hi
        simp [h1, q]
      · simp only [Option.map_eq_some_iff, Prod.mk.injEq] at hi
        obtain ⟨⟨j, y⟩, hj, rfl, rfl⟩ := hi
        simpa using ih (l := l) h3 hj
theorem del_eq {enc : κ → Value} {k : κ} : ∀ {es : List MapEntry} {l : List (κ × Value)} {i : Nat} {x : Value}, kvs es = encs enc l → idxL l k = some (i, x) → kvs (es.eraseIdx i) = encs enc (delL l k) := by
  intro es
  induction es with
  | nil =>
    intro l i x h hi
    cases l with
    | nil => cases hi
    | cons p l => simp [kvs, encs] at h
  | cons e es ih =>
    intro l i x h hi
    cases l with
    | nil => simp [kvs, encs] at h
    | cons p l =>
      simp only [kvs, encs, List.map_cons, List.cons.injEq, Prod.mk.injEq] at h
      obtain ⟨⟨h1, h2⟩, h3⟩ := h
      unfold idxL at hi
      unfold delL
      split at hi
      · rename_i q
        simp only [Option.some.injEq, Prod.mk.injEq] at hi
        obtain ⟨rfl, rfl⟩ := hi
        rw [if_pos q]
        simpa [kvs, encs] using h3
      · rename_i q
        rw [if_neg q]
        simp only [Option.map_eq_some_iff, Prod.mk.injEq] at hi
        obtain ⟨⟨j, y⟩, hj, rfl, rfl⟩ := hi
        have := ih (l := l) h3 hj
        simp only [kvs, encs] at this
        simp [kvs, encs, List.eraseIdx_cons_succ, this, h1, h2]
theorem runH_findKey {P : Program} {kt : TypeId} {enc : κ → Value} (hk : KeyOK P kt enc) {k : κ} {es : List MapEntry} {l : List (κ × Value)} (h : kvs es = encs enc l) {H : Heap} {K : Option (Nat × Value) → Heap → Prop}
    (c : K (idxL l k) H) : runH P (findKey kt (enc k) es) H K := by
  obtain ⟨d, hd, hs⟩ := hk.now
  unfold findKey
  refine runH_bind (runH_underlying hd ?_)
  rw [findNow_eq hs h]
  have e : ((idxL l k).map fun q => (q.1 + 0, q.2)) = idxL l k := by cases idxL l k <;> rfl
  rw [e]
  exact c
theorem runH_lookup {P : Program} {t kt et : TypeId} {enc : κ → Value} (ht : P.underlying t = some (.map kt et)) (hk : KeyOK P kt enc) {z : Value} (hz : zeroT P et = some z) {H : Heap} {b : Nat} {l : List (κ × Value)} (hm : MapR H b enc l) {k : κ}
    {K : Value → Heap → Prop} (c : K (.tuple #[(lookL l k).getD z, .bool (lookL l k).isSome]) H) : runH P (Instr.lookup t (.map (some b)) (enc k) true) H K := by
  obtain ⟨_, h1, es, clock, rfl, h2, hb⟩ := hm
  unfold Instr.lookup
  refine runH_bind (runH_underlying ht ?_)
  refine runH_bind ?_
  refine ⟨_, h1, rfl, ?_⟩
  show runH P (checkKey es.isEmpty 10000 kt (enc k) >>= _) H K
  refine runH_bind (hk.check _ _ _ ?_)
  refine runH_bind (runH_findKey hk h2 ?_)
  unfold lookL at c
  cases e : idxL l k with
  | none =>
    rw [e] at c
    exact runH_bind (runH_zeroValue hz c)
  | some x =>
    rw [e] at c
    exact c
theorem runH_lookup1 {P : Program} {t kt et : TypeId} {enc : κ → Value} (ht : P.underlying t = some (.map kt et)) (hk : KeyOK P kt enc) {z : Value} (hz : zeroT P et = some z) {H : Heap} {b : Nat} {l : List (κ × Value)} (hm : MapR H b enc l) {k : κ}
    {K : Value → Heap → Prop} (c : K ((lookL l k).getD z) H) : runH P (Instr.lookup t (.map (some b)) (enc k) false) H K := by
  obtain ⟨_, h1, es, clock, rfl, h2, hb⟩ := hm
  unfold Instr.lookup
  refine runH_bind (runH_underlying ht ?_)
  refine runH_bind ?_
  refine ⟨_, h1, rfl, ?_⟩
  show runH P (checkKey es.isEmpty 10000 kt (enc k) >>= _) H K
  refine runH_bind (hk.check _ _ _ ?_)
  refine runH_bind (runH_findKey hk h2 ?_)
  unfold lookL at c
  cases e : idxL l k with
  | none =>
    rw [e] at c
    exact runH_bind (runH_zeroValue hz c)
  | some x =>
    rw [e] at c
    exact c
theorem runH_update {P : Program} {t kt et : TypeId} {enc : κ → Value} (ht : P.underlying t = some (.map kt et)) (hk : KeyOK P kt enc) {H : Heap} {b : Nat} {l : List (κ × Value)} (hm : MapR H b enc l) {k : κ} {v : Value}
    {K : Unit → Heap → Prop} (c : ∀ o, MapO o enc (putL l k v) → K () (H.upd b o)) : runH P (Instr.mapUpdate t (.map (some b)) (enc k) v) H K := by
  obtain ⟨_, h1, es, clock, rfl, h2, hb⟩ := hm
  unfold Instr.mapUpdate
  refine runH_bind (runH_underlying ht ?_)
  refine runH_bind ⟨_, h1, rfl, ?_⟩
  refine runH_bind (hk.check _ _ _ ?_)
  refine runH_bind (runH_findKey hk h2 ?_)
  cases e : idxL l k with
  | none =>
    refine ⟨⟨_, h1, rfl⟩, c _ ⟨_, _, rfl, ?_, ?_⟩⟩
    · rw [putL_none e]
      simp only [kvs, encs] at h2
      simp [kvs, encs, h2]
    · rw [Array.toList_push]; exact hb.push rfl
  | some x =>
    obtain ⟨i, y⟩ := x
    have hkey : ((es[i]?).map (·.key)).getD (enc k) = enc k := by
      rw [← Array.getElem?_toList, key_at h2 e]; rfl
    simp only []
    rw [hkey]
    unfold keyThatStays
    rw [if_pos (hk.bits k)]
    refine ⟨⟨_, h1, rfl⟩, c _ ⟨_, _, rfl, ?_, ?_⟩⟩
    · rw [Array.toList_modify]
      exact put_eq h2 e
    · rw [Array.toList_modify]
      apply Born.modify hb
      intro _; rfl
theorem runH_delete {P : Program} {t kt et kt' ty : TypeId} {enc : κ → Value} (ht : P.underlying t = some (.map kt et)) (hk : KeyOK P kt enc) {H : Heap} {b : Nat} {l : List (κ × Value)} (hm : MapR H b enc l) {k : κ}
    {K : Value → Heap → Prop} (c : ∀ o, MapO o enc (delL l k) → K (.tuple #[]) (H.upd b o)) : runH P (Builtin.delete_ #[t, kt'] ty #[.map (some b), enc k]) H K := by
  obtain ⟨_, h1, es, clock, rfl, h2, hb⟩ := hm
  unfold Builtin.delete_
  refine runH_bind (runH_underlying ht ?_)
  show runH P (getObj b >>= _) H K
  refine runH_bind ?_
  refine ⟨_, h1, rfl, ?_⟩
  show runH P (checkKey es.isEmpty 10000 kt (enc k) >>= _) H K
  refine runH_bind (hk.check _ _ _ ?_)
  show runH P (findKey kt (enc k) es.toList >>= _) H K
  refine runH_bind (runH_findKey hk h2 ?_)
  cases e : idxL l k with
  | none =>
    refine ⟨⟨_, h1, rfl⟩, c _ ⟨_, _, rfl, ?_, hb⟩⟩
    rw [delL_none e]; exact h2
  | some x =>
    obtain ⟨i, y⟩ := x
    refine ⟨⟨_, h1, rfl⟩, c _ ⟨_, _, rfl, ?_, ?_⟩⟩
    · rw [Array.toList_eraseIdxIfInBounds]
      exact del_eq h2 e
    · rw [Array.toList_eraseIdxIfInBounds]
      exact hb.erase _
def StampO (o : Obj) (enc : κ → Value) (l : List (κ × Value)) (k : κ) (n : Int) : Prop := ∃ es clock i v, o = .map es clock ∧ kvs es.toList = encs enc l ∧ Born es.toList clock ∧ idxL l k = some (i, v) ∧ (es[i]?).map (fun e => (e.born : Int)) = some n
theorem idxL_append_self {l : List (κ × Value)} {k : κ} {v : Value} (h : idxL l k = none) : idxL (l ++ [(k, v)]) k = some (l.length, v) := by
  induction l with
  | nil => simp [idxL]
  | cons p l ih =>
    unfold idxL at h
    split at h
    · cases h
    · rename_i q
      simp only [List.cons_append, idxL]
      rw [if_neg q, ih (by simpa using h)]
      simp
theorem runH_mapEntry {P : Program} {t kt et : TypeId} {enc : κ → Value} (ht : P.underlying t = some (.map kt et)) (hk : KeyOK P kt enc) {z : Value} (hz : zeroT P et = some z) {H : Heap} {b : Nat} {l : List (κ × Value)} (hm : MapR H b enc l) {k : κ}
    {K : Value → Heap → Prop} (c : ∀ o n, StampO o enc (if idxL l k = none then l ++ [(k, z)] else l) k n → K (.tuple #[(lookL l k).getD z, .int .i64 n]) (H.upd b o)) : runH P (Instr.mapEntry t (.map (some b)) (enc k)) H K := by
  obtain ⟨_, h1, es, clock, rfl, h2, hb⟩ := hm
  have hlen : es.size = l.length := by
    have := congrArg List.length h2
    simpa [kvs, encs] using this
  unfold Instr.mapEntry
  refine runH_bind (runH_underlying ht ?_)
  refine runH_bind ⟨_, h1, rfl, ?_⟩
  refine runH_bind (hk.check _ _ _ ?_)
  refine runH_bind (runH_findKey hk h2 ?_)
  unfold lookL at c
  cases e : idxL l k with
  | none =>
    rw [e] at c
    refine runH_bind (runH_zeroValue hz ?_)
    refine runH_bind ⟨⟨_, h1, rfl⟩, ?_⟩
    refine c _ _ ⟨_, _, l.length, z, rfl, ?_, ?_, ?_, ?_⟩
    · rw [if_pos rfl]
      simp only [kvs, encs] at h2
      simp [kvs, encs, h2]
    · rw [Array.toList_push]; exact hb.push rfl
    · rw [if_pos rfl]; exact idxL_append_self e
    · simp [← hlen]
  | some x =>
    obtain ⟨i, y⟩ := x
    rw [e] at c
    have hkey : ((es[i]?).map (·.key)).getD (enc k) = enc k := by
      rw [← Array.getElem?_toList, key_at h2 e]; rfl
    have hi : ∃ en, es[i]? = some en := by
      have := key_at h2 e
      rw [Array.getElem?_toList] at this
      cases q : es[i]? with
      | none => rw [q] at this; cases this
      | some en => exact ⟨en, rfl⟩
    obtain ⟨en, hen⟩ := hi
    simp only []
    rw [hkey]
    unfold keyThatStays
    rw [if_pos (hk.bits k)]
    refine runH_bind ⟨⟨_, h1, rfl⟩, ?_⟩
    have hput : kvs (es.toList.modify i fun e => { e with key := enc k }) = encs enc l := by
      have hkk := key_at h2 e
      rw [Array.getElem?_toList, hen] at hkk
      simp only [Option.map_some, Option.some.injEq] at hkk
      have : es.toList.modify i (fun e => { e with key := enc k }) = es.toList := by
        refine List.ext_getElem? fun j => ?_
        rw [List.getElem?_modify]
        by_cases q : i = j
        · subst q
          rw [Array.getElem?_toList, hen]
          simp [← hkk]
        · simp [q]
      rw [this]; exact h2
    refine c _ _ ⟨_, _, i, y, rfl, ?_, ?_, ?_, ?_⟩
    · rw [if_neg (by simp), Array.toList_modify]; exact hput
    · rw [Array.toList_modify]
      apply Born.modify hb
      intro _; rfl
    · rw [if_neg (by simp)]; exact e
    · simp [Array.getElem?_modify, hen]
theorem findIdx_born {es : List MapEntry} {n : Nat} (hb : (es.map (·.born)).Nodup) : ∀ {i : Nat} {en : MapEntry}, es[i]? = some en → en.born = n → es.findIdx? (fun e => (e.born : Int) == (n : Int)) = some i := by
  induction es with
  | nil => intro i en h; simp at h
  | cons a es ih =>
    intro i en h hn
    simp only [List.map_cons, List.nodup_cons] at hb
    cases i with
    | zero =>
      simp at h; subst h
      rw [List.findIdx?_cons]; simp [hn]
    | succ i =>
      have h' : es[i]? = some en := by simpa using h
      have hne : ¬ a.born = n := fun q => hb.1 (List.mem_map.2 ⟨en, List.mem_of_getElem? h', by rw [hn, q]⟩)
      rw [List.findIdx?_cons, ih hb.2 h' hn]
      have : ¬ ((a.born : Int) = (n : Int)) := by omega
      simp [this]
theorem val_eq {enc : κ → Value} {k : κ} {v : Value} : ∀ {es : List MapEntry} {l : List (κ × Value)} {i : Nat} {x : Value}, kvs es = encs enc l → idxL l k = some (i, x) →
    kvs (es.modify i fun e => { e with val := v }) = encs enc (putL l k v) := by
  intro es l i x h hi
  have h1 := put_eq (v := v) h hi
  have hk := key_at h hi
  have : es.modify i (fun e => { e with val := v }) = es.modify i fun e => { e with key := enc k, val := v } := by
    refine List.ext_getElem? fun j => ?_
    rw [List.getElem?_modify, List.getElem?_modify]
    by_cases q : i = j
    · subst q
      cases e : es[i]? with
      | none => simp
      | some en =>
        rw [e] at hk
        simp only [Option.map_some, Option.some.injEq] at hk
        simp [hk]
    · simp [q]
  rw [this]; exact h1
theorem runH_entryStore {P : Program} {t : TypeId} {enc : κ → Value} {H : Heap} {b : Nat} {o : Obj} {l : List (κ × Value)} {k : κ} {n : Int} {v : Value} (hm : H b = some o) (ho : StampO o enc l k n)
    {K : Unit → Heap → Prop} (c : ∀ o, MapO o enc (putL l k v) → K () (H.upd b o)) : runH P (Instr.entryStore t (.map (some b)) (.int .i64 n) v) H K := by
  obtain ⟨es, clock, i, x, rfl, h2, hb, hi, hs⟩ := ho
  obtain ⟨en, hen⟩ : ∃ en, es[i]? = some en := by
    cases q : es[i]? with
    | none => rw [q] at hs; cases hs
    | some en => exact ⟨en, rfl⟩
  rw [hen] at hs
  simp only [Option.map_some, Option.some.injEq] at hs
  subst hs
  unfold Instr.entryStore
  refine runH_bind ⟨_, hm, rfl, ?_⟩
  show runH P (match es.findIdx? (fun e => (e.born : Int) == (en.born : Int)) with | some i => setObj b (.map (es.modify i fun e => { e with val := v }) clock) | none => unsupported (.noEntry "instr/MapEntry.the entry is gone")) H K
  have hf : es.findIdx? (fun e => (e.born : Int) == (en.born : Int)) = some i := by
    have := findIdx_born hb.1 (i := i) (en := en) (by rw [Array.getElem?_toList]; exact hen) rfl
    rw [← this, ← List.findIdx?_toArray]
  rw [hf]
  refine ⟨⟨_, hm, rfl⟩, c _ ⟨_, _, rfl, ?_, ?_⟩⟩
  · rw [Array.toList_modify]; exact val_eq h2 hi
  · rw [Array.toList_modify]
    apply Born.modify hb
    intro _; rfl
end
end Go.HL
