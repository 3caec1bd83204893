/- What Pop, Push and Remove of container/heap do to the queue. -/
import Derived.Test.YtcipmipadjenaaaS3
namespace Go.Proofs.Ytcipmipadjenaaa
open Go.HL
set_option maxHeartbeats 400000

theorem heap_root {es : List E} {n : Nat} (h : HeapN es n) : ∀ k, k < n → le es[0]! es[k]! := by
  intro k
  induction k using Nat.strongRecOn with
  | _ k ih =>
    intro hk
    rcases Nat.eq_zero_or_pos k with e | e
    · subst e; exact le_refl _
    · have hp : par k < k := by unfold par; omega
      exact le_trans (ih (par k) hp (by omega)) (h k e hk)
theorem heap_down0 {es : List E} {n n' : Nat} (h : HeapN es n) (hl : n ≤ es.length) (hn : n = n' + 1) : DownInv (swapL es 0 n') n' 0 0 := by
  refine ⟨fun k k0 k1 kp _ => ?_, fun k k0 k1 kp p0 => by omega⟩
  have hpk : par k < k := by unfold par; omega
  rw [swap_get! (by omega) (by omega), swap_get! (by omega) (by omega), if_neg (by omega), if_neg kp, if_neg (by omega), if_neg (by omega)]
  exact h k k0 (by omega)
/-- A place anew filled: the heap is right but for it. -/
theorem heap_hole {es : List E} {n n' i : Nat} (h : HeapN es n) (hl : n ≤ es.length) (hn : n = n' + 1) (hi : i < n') : DownInv (swapL es i n') n' i i := by
  refine ⟨fun k k0 k1 kp kne => ?_, fun k k0 k1 kp p0 => ?_⟩
  · have hpk : par k < k := by unfold par; omega
    have : k ≠ i := by rcases kne with q | q <;> omega
    rw [swap_get! (by omega) (by omega), swap_get! (by omega) (by omega), if_neg (by omega), if_neg kp, if_neg (by omega), if_neg this]
    exact h k k0 (by omega)
  · have hpk : par k < k := by unfold par; omega
    have hpi : par i < i := by unfold par; omega
    rw [swap_get! (by omega) (by omega), swap_get! (by omega) (by omega), if_neg (by omega), if_neg (by omega), if_neg (by omega), if_neg (by omega)]
    have h1 := h k k0 (by omega)
    rw [kp] at h1
    exact le_trans (h i p0 (by omega)) h1
theorem take_heap {es : List E} {n : Nat} (h : HeapN es n) (hl : n ≤ es.length) : HeapN (es.take n) (es.take n).length := by
  intro k k0 k1
  simp only [List.length_take] at k1
  have hp : par k < k := by unfold par; omega
  have e1 : (es.take n)[par k]! = es[par k]! := by
    rw [List.getElem!_eq_getElem?_getD, List.getElem!_eq_getElem?_getD, List.getElem?_take_of_lt (by omega)]
  have e2 : (es.take n)[k]! = es[k]! := by
    rw [List.getElem!_eq_getElem?_getD, List.getElem!_eq_getElem?_getD, List.getElem?_take_of_lt (by omega)]
  rw [e1, e2]; exact h k k0 (by omega)
theorem split_last {es : List E} {n : Nat} (h : es.length = n + 1) : es = es.take n ++ [es[n]!] := by
  have hl : n < es.length := by omega
  have e := List.take_append_drop n es
  rw [List.drop_eq_getElem_cons hl, List.drop_eq_nil_of_le (by omega)] at e
  simp only [hl, getElem!_pos]
  exact e.symm

theorem hpop_spec {H : Heap} {t : Nat} {m : Value} {s : Sl} {es : List E} {K : Value → Heap → Prop} (h : QT H t m s es) (hp : 0 < es.length) (hh : HeapN es es.length)
    (k : ∀ H' s' es', QT H' t m s' es' → (es' ++ [es[0]!]).Perm es → HeapN es' es'.length → H' es[0]!.b = some (oneO es[0]! es'.length) → KeepT t H H' → K (.iface 51 (ptrV es[0]!.b)) H') :
    FnH Try.prog 26 #[.iface 56 (.pointer (some ⟨t, 0, none⟩))] H K := by
  apply heap_Pop_fn
  unfold heap_Pop_vc
  have sl := h.q.len
  have sm := h.small
  refine ⟨s, h.slice, len_spec ⟨_, rfl, s, h.slice, ?_⟩⟩
  rw [wrap64_id (n := (s.n : Int) - 1) (by omega) (by omega)]
  have en : (s.n : Int) - 1 = ((es.length - 1 : Nat) : Int) := by omega
  rw [en]
  refine swap_spec h.q ⟨by omega, by omega⟩ ⟨by omega, by omega⟩ fun H2 q2 k2 => ⟨rfl, ?_⟩
  have et : ((es.length - 1 : Nat) : Int).toNat = es.length - 1 := by omega
  have et0 : (0 : Int).toNat = 0 := rfl
  rw [et, et0] at q2
  have h2 := h.swapped q2 k2
  have l2 : (swapL es 0 (es.length - 1)).length = es.length := swapL_length _ _ _
  refine down_spec (n := es.length - 1) (i0 := 0) h2 (by omega) ⟨by omega, by omega⟩ (heap_down0 hh (Nat.le_refl _) (by omega)) fun H3 es3 b h3 p3 t3 f3 a3 k3 => ⟨b, rfl, ?_⟩
  have l3 := p3.length_eq
  have hheap : HeapN es3 (es.length - 1) := by
    cases b with
    | true => exact t3 rfl
    | false => exact up_done (f3 rfl) (.inl rfl)
  have hlast : es3[es.length - 1]! = es[0]! := by
    rw [List.getElem!_eq_getElem?_getD, a3 _ (Nat.le_refl _), ← List.getElem!_eq_getElem?_getD, swap_get! (by omega) (by omega), if_pos rfl]
  have hsp := split_last (es := es3) (n := es.length - 1) (by omega)
  rw [hlast] at hsp
  have lt : (es3.take (es.length - 1)).length = es.length - 1 := by simp; omega
  rw [hsp] at h3
  refine qpop_spec h3 fun H4 s4 h4 hb k4 => ⟨_, rfl, k H4 s4 _ h4 ?_ (take_heap hheap (by omega)) hb ((k2.trans k3).toT.trans k4)⟩
  rw [← hsp]
  exact p3.trans (swapL_perm (by omega) (by omega))
theorem remove_spec {H : Heap} {t : Nat} {m : Value} {s : Sl} {es : List E} {i : Int} {K : Value → Heap → Prop} (h : QT H t m s es) (hi : 0 ≤ i ∧ i < es.length) (hh : HeapN es es.length)
    (k : ∀ H' s' es', QT H' t m s' es' → (es' ++ [es[i.toNat]!]).Perm es → HeapN es' es'.length → KeepT t H H' → K (.iface 51 (ptrV es[i.toNat]!.b)) H') :
    FnH Try.prog 25 #[.iface 56 (.pointer (some ⟨t, 0, none⟩)), .int .i64 i] H K := by
  apply heap_Remove_fn
  unfold heap_Remove_vc
  have sl := h.q.len
  have sm := h.small
  refine ⟨s, h.slice, len_spec ⟨_, rfl, ?_⟩⟩
  rw [wrap64_id (n := (s.n : Int) - 1) (by omega) (by omega)]
  have en : (s.n : Int) - 1 = ((es.length - 1 : Nat) : Int) := by omega
  rw [en]
  have et : ((es.length - 1 : Nat) : Int).toNat = es.length - 1 := by omega
  refine br_intro (fun hne => ?_) (fun heq => ?_)
  · have hne : ¬ ((es.length - 1 : Nat) : Int) = i := by simpa using hne
    refine ⟨s, h.slice, swap_spec h.q ⟨by omega, by omega⟩ ⟨by omega, by omega⟩ fun H2 q2 k2 => ⟨rfl, ?_⟩⟩
    rw [et] at q2
    have h2 := h.swapped q2 k2
    have l2 : (swapL es i.toNat (es.length - 1)).length = es.length := swapL_length _ _ _
    have fin : ∀ H3 es3, QT H3 t m s es3 → es3.Perm (swapL es i.toNat (es.length - 1)) → HeapN es3 (es.length - 1) → (∀ j, es.length - 1 ≤ j → es3[j]? = (swapL es i.toNat (es.length - 1))[j]?) → Keep H H3 →
        FnH Try.prog 49 #[.pointer (some ⟨t, 0, none⟩)] H3 fun r H' => ∃ v : Value, r = v ∧ K v H' := fun H3 es3 h3 p3 hheap a3 k3 => by
      have l3 := p3.length_eq
      have hlast : es3[es.length - 1]! = es[i.toNat]! := by
        rw [List.getElem!_eq_getElem?_getD, a3 _ (Nat.le_refl _), ← List.getElem!_eq_getElem?_getD, swap_get! (by omega) (by omega), if_pos rfl]
      have hsp := split_last (es := es3) (n := es.length - 1) (by omega)
      rw [hlast] at hsp
      rw [hsp] at h3
      refine qpop_spec h3 fun H4 s4 h4 hb k4 => ⟨_, rfl, k H4 s4 _ h4 ?_ (take_heap hheap (by omega)) (k3.toT.trans k4)⟩
      rw [← hsp]
      exact p3.trans (swapL_perm (by omega) (by omega))
    refine down_spec (n := es.length - 1) (i0 := i) h2 (by omega) ⟨by omega, by omega⟩ (heap_hole hh (Nat.le_refl _) (by omega) (by omega)) fun H3 es3 b h3 p3 t3 f3 a3 k3 => ⟨b, rfl, ?_⟩
    cases b with
    | true => exact fin H3 es3 h3 p3 (t3 rfl) a3 (k2.trans k3)
    | false =>
      have l3 := p3.length_eq
      refine up_spec (n := es.length - 1) h3 (by omega) ⟨by omega, by omega⟩ (f3 rfl) fun H4 es4 h4 p4 t4 a4 k4 => ⟨rfl, ?_⟩
      exact fin H4 es4 h4 (p4.trans p3) t4 (fun j hj => (a4 j hj).trans (a3 j hj)) ((k2.trans k3).trans k4)
  · have heq : ((es.length - 1 : Nat) : Int) = i := by simpa using heq
    have hsp := split_last (es := es) (n := es.length - 1) (by omega)
    have ei : es.length - 1 = i.toNat := by omega
    have h' := h
    rw [hsp, ei] at h'
    refine qpop_spec h' fun H4 s4 h4 hb k4 => ⟨_, rfl, k H4 s4 _ h4 ?_ (take_heap (fun j j0 j1 => hh j j0 (by omega)) (by omega)) k4⟩
    rw [← ei, ← hsp]
end Go.Proofs.Ytcipmipadjenaaa
