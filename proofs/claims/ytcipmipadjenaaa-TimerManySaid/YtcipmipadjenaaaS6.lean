/- The timers: a queue, and a map from their keys to them. -/
import Derived.Test.YtcipmipadjenaaaS5
namespace Go.Proofs.Ytcipmipadjenaaa
open Go.HL
set_option maxHeartbeats 400000

theorem hpush_spec {H : Heap} {t : Nat} {m : Value} {s : Sl} {es : List E} {e : E} {x : Int} {K : Value → Heap → Prop} (h : QT H t m s es) (hh : HeapN es es.length) (hb : H e.b = some (oneO e x)) (hn : ∀ d ∈ es, d.b ≠ e.b) (sm : es.length < 1000000)
    (k : ∀ H' s' es', QT H' t m s' es' → es'.Perm (es ++ [e]) → HeapN es' es'.length → KeepT t H H' → K (.tuple #[]) H') : FnH Try.prog 22 #[.iface 56 (.pointer (some ⟨t, 0, none⟩)), .iface 51 (ptrV e.b)] H K := by
  apply heap_Push_fn
  unfold heap_Push_vc
  refine qpush_spec h hb hn sm fun H1 s1 h1 k1 => ⟨rfl, s1, h1.slice, len_spec ⟨_, rfl, ?_⟩⟩
  have sl := h1.q.len
  simp only [List.length_append, List.length_cons, List.length_nil] at sl
  rw [wrap64_id (n := (s1.n : Int) - 1) (by omega) (by omega)]
  refine up_spec (n := es.length + 1) h1 (by simp) ⟨by omega, by omega⟩ ⟨fun j j0 j1 jn => ?_, fun j j0 j1 jp _ => ?_⟩ fun H2 es2 h2 p2 t2 a2 k2 => ⟨rfl, k H2 s1 es2 h2 p2 ?_ (k1.trans k2.toT)⟩
  · have hp : par j < j := by unfold par; omega
    have hj : j < es.length := by omega
    have g : ∀ i, i < es.length → (es ++ [e])[i]! = es[i]! := fun i hi => by
      rw [List.getElem!_eq_getElem?_getD, List.getElem!_eq_getElem?_getD, List.getElem?_append_left hi]
    rw [g _ (by omega), g _ hj]
    exact hh j j0 hj
  · exfalso
    have hp : par j < j := by unfold par; omega
    omega
  · have l2 := p2.length_eq
    simp only [List.length_append, List.length_cons, List.length_nil] at l2
    rw [l2]; exact t2

/-- Keys and the timers that have them. -/
abbrev pairs (es : List E) : List (Int × Value) := es.map fun e => (e.key, ptrV e.b)
theorem lookL_mem {κ α : Type} [DecidableEq κ] : ∀ {l : List (κ × α)} {k : κ} {v : α}, lookL l k = some v → (k, v) ∈ l := by
  intro l
  induction l with
  | nil => intro k v h; cases h
  | cons p l ih =>
    intro k v h
    unfold lookL idxL at h
    split at h
    · rename_i e
      simp at h
      subst e; subst h; simp
    · simp only [Option.map_map] at h
      have : lookL l k = some v := by unfold lookL; rw [← h]; congr 1
      exact List.mem_cons_of_mem _ (ih this)
theorem lookL_none {κ α : Type} [DecidableEq κ] : ∀ {l : List (κ × α)} {k : κ}, lookL l k = none → ∀ v, (k, v) ∉ l := by
  intro l
  induction l with
  | nil => intro k h v; simp
  | cons p l ih =>
    intro k h v hm
    unfold lookL idxL at h
    split at h
    · simp at h
    · rename_i e
      have : lookL l k = none := by unfold lookL; simpa using h
      rcases List.mem_cons.1 hm with q | q
      · subst q; exact e rfl
      · exact ih this v q
structure TIn (H : Heap) (t : Nat) (es : List E) : Prop where
  ex : ∃ s mb ml, QT H t (.map (some mb)) s es ∧ MapR H mb (fun n : Int => Value.int .i64 n) ml ∧ ml.Perm (pairs es)
  heap : HeapN es es.length
  keys : (es.map E.key).Nodup
  few : es.length ≤ 1000
theorem kint : KeyOK Try.prog 3 (fun n : Int => Value.int .i64 n) := KeyOK.int (by kernel_rfl)
theorem u46 : Try.prog.underlying 46 = some (.map 3 51) := by kernel_rfl
theorem z51 : zeroT Try.prog 51 = some (.pointer none) := by kernel_rfl
end Go.Proofs.Ytcipmipadjenaaa
