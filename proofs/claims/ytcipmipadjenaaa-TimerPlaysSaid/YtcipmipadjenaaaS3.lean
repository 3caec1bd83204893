/- What Fix, Pop, Push and Remove do to the queue. -/
import Derived.Test.YtcipmipadjenaaaS2
namespace Go.Proofs.Ytcipmipadjenaaa
open Go.HL
set_option maxHeartbeats 400000

theorem len_spec {H : Heap} {s : Sl} {K : Value → Heap → Prop} (k : K (.int .i64 s.n) H) : FnH Try.prog 46 #[.slice s.p s.n s.c] H K := by
  apply timer_queue_Len_fn
  exact k
theorem fix_spec {H : Heap} {t : Nat} {m : Value} {s : Sl} {es : List E} {i : Int} {K : Value → Heap → Prop} (h : QT H t m s es) (hi : 0 ≤ i ∧ i < es.length) (hu : DownInv es es.length i.toNat i.toNat)
    (k : ∀ H' es', QT H' t m s es' → es'.Perm es → HeapN es' es'.length → Keep H H' → K (.tuple #[]) H') : FnH Try.prog 21 #[.iface 56 (.pointer (some ⟨t, 0, none⟩)), .int .i64 i] H K := by
  apply heap_Fix_fn
  unfold heap_Fix_vc
  have sl := h.q.len
  refine ⟨s, h.slice, len_spec ⟨_, rfl, ?_⟩⟩
  have D := fun K => down_spec (K := K) (i0 := i) h (Nat.le_refl _) ⟨hi.1, by omega⟩ hu
  rw [← sl] at D
  refine D _ fun H2 es2 b h2 p2 t2 f2 a2 k2 => ⟨b, rfl, ?_⟩
  have l2 := p2.length_eq
  cases b with
  | true => exact k H2 es2 h2 p2 (by rw [l2, ← sl]; exact t2 rfl) k2
  | false =>
    refine up_spec (n := s.n) h2 (by omega) ⟨hi.1, by omega⟩ (f2 rfl) fun H3 es3 h3 p3 t3 a3 k3 => ⟨rfl, k H3 es3 h3 (p3.trans p2) ?_ (k2.trans k3)⟩
    have l3 := p3.length_eq
    have e : es3.length = s.n := by omega
    rw [e]; exact t3

/-- All but the queue's cells, timers and the timers' own block stays. -/
def KeepT (t : Nat) (H H' : Heap) : Prop := ∀ x o, H x = some o → tagO o ≠ 51 → tagO o ≠ 54 → x ≠ t → H' x = some o
theorem Keep.toT {t : Nat} {H H' : Heap} (h : Keep H H') : KeepT t H H' := fun x o a b c _ => h x o a b c
theorem KeepT.trans {t : Nat} {A B C : Heap} (h : KeepT t A B) (k : KeepT t B C) : KeepT t A C := fun x o hx h1 h2 h3 => k x o (h x o hx h1 h2 h3) h1 h2 h3

theorem qpop_spec {H : Heap} {t : Nat} {m : Value} {s : Sl} {es : List E} {e : E} {K : Value → Heap → Prop} (h : QT H t m s (es ++ [e]))
    (k : ∀ H' s', QT H' t m s' es → H' e.b = some (oneO e es.length) → KeepT t H H' → K (.iface 51 (ptrV e.b)) H') : FnH Try.prog 49 #[.pointer (some ⟨t, 0, none⟩)] H K := by
  apply timer_queue_Pop_fn
  unfold timer_queue_Pop_vc
  have sl := h.q.len
  have sm := h.small
  simp only [List.length_append, List.length_cons, List.length_nil] at sl sm
  refine ⟨s, h.slice, ?_⟩
  rw [wrap64_id (n := (s.n : Int) - 1) (by omega) (by omega)]
  obtain ⟨b, e', a1, a2, a3, a4, a5⟩ := h.q.at_ (j := (s.n : Int) - 1) (by omega) (by omega)
  have en : ((s.n : Int) - 1).toNat = es.length := by omega
  have ee : e' = e := by
    rw [en] at a2
    simpa using a2.symm
  subst ee
  obtain ⟨o1, o2, o3⟩ := h.q.own
  rcases o3 with ⟨q, -⟩ | ⟨b2, arr, q, hq, hsz, harr⟩
  · rw [q] at a1; cases a1
  have eb : b2 = b := by rw [q] at a1; simpa using a1
  subst eb
  have hnc : s.n ≤ s.c := o2
  have htb : t ≠ b2 := fun x => by have := h.top; rw [x, hq] at this; simp at this
  have hte : t ≠ e'.b := fun x => by have := h.top; rw [x, a5] at this; simp at this
  have hbe : e'.b ≠ b2 := fun x => by rw [x, hq] at a5; simp at a5
  refine ⟨b2, 0, a1, by omega, by omega, _, a4, b2, 0, a1, by omega, by omega, ⟨_, a4⟩, frozenH_eq hq, letH_intro fun H1 g1 => ?_⟩
  rw [Heap.set_block hq] at g1
  have ht1 : H1 t = some (.cells #[.slice s.p s.n s.c, m] 50 (0, 0)) := by rw [g1, Heap.upd_ne _ _ htb]; exact h.top
  refine ⟨by omega, by omega, ⟨_, by rw [cellH_eq ht1]; rfl⟩, frozenH_eq ht1, letH_intro fun H2 g2 => ?_⟩
  rw [Heap.set_block ht1] at g2
  have e1 : slP s.p s.c (0 : Int) 1 = s.p := by
    unfold slP
    split
    · rfl
    · rw [q]; rfl
  have e2 : Int.toNat ((s.n : Int) - 1 - 0) = es.length := by omega
  have e3 : Int.toNat ((s.c : Int) - 0) = s.c := by omega
  rw [e1, e2, e3] at g2
  have g2 : H2 = H1.upd t (.cells #[.slice s.p es.length s.c, m] 50 (0, 0)) := g2
  refine k H2 ⟨s.p, es.length, s.c⟩ ⟨by rw [g2]; exact Heap.upd_same _ _ _, ⟨⟨by simp, by show es.length ≤ s.c; omega, .inr ⟨b2, arr.setIfInBounds (0 + ((s.n : Int) - 1).toNat) (.pointer none), q, ?_, by simpa using hsz, fun i hi => ?_⟩⟩, fun i d hd => ?_⟩, by omega⟩ ?_ ?_
  · rw [g2, Heap.upd_ne _ _ (Ne.symm htb), g1, Heap.upd_same]
  · simp only [List.length_map] at hi
    rw [set_ne (by omega), harr i (by simp; omega)]
    simp [List.getElem_append, hi]
  · have hi : i < es.length := (List.getElem?_eq_some_iff.1 hd).1
    have hd' := h.q.ones i d (by rw [List.getElem?_append_left hi]; exact hd)
    have n1 : d.b ≠ t := fun x => by have := h.top; rw [← x, hd'] at this; simp at this
    have n2 : d.b ≠ b2 := fun x => by rw [x, hq] at hd'; simp at hd'
    rw [g2, Heap.upd_ne _ _ n1, g1, Heap.upd_ne _ _ n2]; exact hd'
  · rw [g2, Heap.upd_ne _ _ (Ne.symm hte), g1, Heap.upd_ne _ _ hbe]
    have : (s.n : Int) - 1 = (es.length : Int) := by omega
    rw [this] at a5; exact a5
  · intro x o hx h1 h2 h3
    have n2 : x ≠ b2 := fun y => by rw [y, hq] at hx; simp only [Option.some.injEq] at hx; subst hx; exact h1 rfl
    rw [g2, Heap.upd_ne _ _ h3, g1, Heap.upd_ne _ _ n2]; exact hx
end Go.Proofs.Ytcipmipadjenaaa
