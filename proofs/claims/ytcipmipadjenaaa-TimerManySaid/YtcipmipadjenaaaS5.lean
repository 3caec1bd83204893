/- What Push does to the queue. -/
import Derived.Test.YtcipmipadjenaaaS4
namespace Go.Proofs.Ytcipmipadjenaaa
open Go.HL
set_option maxHeartbeats 400000

theorem ok48 : ElemOK Try.prog 48 51 1 := ElemOK.of (by kernel_rfl)
theorem qpush_spec {H : Heap} {t : Nat} {m : Value} {s : Sl} {es : List E} {e : E} {x : Int} {K : Value → Heap → Prop} (h : QT H t m s es) (hb : H e.b = some (oneO e x)) (hn : ∀ d ∈ es, d.b ≠ e.b) (sm : es.length < 1000000)
    (k : ∀ H' s', QT H' t m s' (es ++ [e]) → KeepT t H H' → K (.tuple #[]) H') : FnH Try.prog 50 #[.pointer (some ⟨t, 0, none⟩), .iface 51 (ptrV e.b)] H K := by
  apply timer_queue_Push_fn
  unfold timer_queue_Push_vc
  have sl := h.q.len
  have hte : t ≠ e.b := fun y => by have := h.top; rw [y, hb] at this; simp at this
  refine ⟨some ⟨e.b, 0, none⟩, rfl, s, h.slice, ptrm_intro rfl ⟨⟨_, by rw [cellH_eq hb]; rfl⟩, frozenH_eq hb, letH_intro fun H1 g1 => ?_⟩⟩
  rw [Heap.set_block hb] at g1
  have g1 : H1 = H.upd e.b (oneO e s.n) := g1
  have ht1 : H1 t = some (.cells #[.slice s.p s.n s.c, m] 50 (0, 0)) := by rw [g1, Heap.upd_ne _ _ hte]; exact h.top
  refine ⟨s, by rw [cellH_eq ht1]; rfl, ?_⟩
  intro q2 hq2
  refine letH_intro fun H2 g2 => ?_
  have s2 : HL.Sub H1 H2 := by rw [g2]; exact Sub.new hq2 _
  -- the queue's block, and all the rest
  have noq : ∀ y o, H y = some o → tagO o ≠ 51 → ∀ b o' sp, s.p = some ⟨b, o', sp⟩ → y ≠ b := fun y o hy ho b o' sp hp e1 => by
    obtain ⟨-, -, o3⟩ := h.q.own
    rcases o3 with ⟨q, -⟩ | ⟨b2, arr, q, hq, -⟩
    · rw [q] at hp; cases hp
    · rw [q] at hp
      simp only [Option.some.injEq, Addr.mk.injEq] at hp
      rw [e1, ← hp.1, hq] at hy
      simp only [Option.some.injEq] at hy
      subst hy; exact ho rfl
  have hown1 : Own H2 51 1 s (es.map fun e => ptrV e.b) := by
    obtain ⟨o1, o2, o3⟩ := h.q.own
    refine ⟨o1, o2, ?_⟩
    rcases o3 with o3 | ⟨b2, arr, q, hq, o4⟩
    · exact .inl o3
    · have : b2 ≠ e.b := fun y => by rw [y, hb] at hq; simp at hq
      exact .inr ⟨b2, arr, q, s2 _ _ (by rw [g1, Heap.upd_ne _ _ this]; exact hq), o4⟩
  let H0 : Heap := fun y => match s.p with | some a => if y = a.block then none else H2 y | none => H2 y
  have hf0 : Fresh H0 s := fun b o sp hp => by show (match s.p with | some a => if b = a.block then none else H2 b | none => H2 b) = none; rw [hp]; simp
  have hs0 : HL.Sub H0 H2 := fun y o hy => by
    have hy : (match s.p with | some a => if y = a.block then none else H2 y | none => H2 y) = some o := hy
    split at hy
    · split at hy
      · cases hy
      · exact hy
    · exact hy
  have in0 : ∀ y o, H2 y = some o → (∀ b o' sp, s.p = some ⟨b, o', sp⟩ → y ≠ b) → H0 y = some o := fun y o hy hne => by
    show (match s.p with | some a => if y = a.block then none else H2 y | none => H2 y) = some o
    cases hsp : s.p with
    | none => exact hy
    | some a =>
      rcases a with ⟨b, o', sp⟩
      have := hne b o' sp hsp
      simp only []
      rw [if_neg this]; exact hy
  refine append_own ok48 ok48.under hown1 hf0 hs0 (xs := [ptrV e.b]) ?_ rfl rfl (by omega) ?_
  · rw [g2]; exact CellsAt.block (Heap.upd_same _ _ _) (fun i hi => by simp at hi; subst hi; rfl)
  · intro r H3 o3 f3 s3 n3
    refine ⟨r, rfl, ?_⟩
    have old : ∀ y o, H y = some o → tagO o ≠ 51 → y ≠ e.b → H3 y = some o := fun y o hy ho hne => by
      refine s3 _ _ (in0 _ _ (s2 _ _ ?_) (noq y o hy ho))
      rw [g1, Heap.upd_ne _ _ hne]; exact hy
    have ht3 : H3 t = some (.cells #[.slice s.p s.n s.c, m] 50 (0, 0)) := old _ _ h.top (by show (50 : Nat) ≠ 51; decide) hte
    have hb3 : H3 e.b = some (oneO e s.n) := by
      refine s3 _ _ (in0 _ _ (s2 _ _ ?_) (noq e.b _ hb (by show (54 : Nat) ≠ 51; decide)))
      rw [g1, Heap.upd_same]
    refine ⟨⟨_, by rw [cellH_eq ht3]; rfl⟩, frozenH_eq ht3, letH_intro fun H4 g4 => ?_⟩
    rw [Heap.set_block ht3] at g4
    have g4 : H4 = H3.upd t (.cells #[.slice r.p r.n r.c, m] 50 (0, 0)) := g4
    refine k H4 r ⟨by rw [g4]; exact Heap.upd_same _ _ _, ⟨?_, fun i d hd => ?_⟩, by simp; omega⟩ ?_
    · obtain ⟨p1, p2, p3⟩ := o3
      refine ⟨by simpa using p1, p2, ?_⟩
      rcases p3 with p3 | ⟨b2, arr, q, hq, p4, p5⟩
      · exact .inl p3
      · refine .inr ⟨b2, arr, q, ?_, p4, by simpa using p5⟩
        have : b2 ≠ t := fun y => by rw [y, ht3] at hq; simp at hq
        rw [g4, Heap.upd_ne _ _ this]; exact hq
    · have hlt := (List.getElem?_eq_some_iff.1 hd).1
      simp only [List.length_append, List.length_cons, List.length_nil] at hlt
      by_cases hi : i < es.length
      · rw [List.getElem?_append_left hi] at hd
        have hd' := h.q.ones i d hd
        have hde : d.b ≠ e.b := hn d (List.mem_of_getElem? hd)
        have hdt : d.b ≠ t := fun y => by have := h.top; rw [← y, hd'] at this; simp at this
        rw [g4, Heap.upd_ne _ _ hdt]
        exact old _ _ hd' (by show (54 : Nat) ≠ 51; decide) hde
      · rw [List.getElem?_append_right (by omega)] at hd
        have h0 : i - es.length = 0 := by
          have := (List.getElem?_eq_some_iff.1 hd).1
          simp at this; omega
        rw [h0] at hd
        simp only [List.getElem?_cons_zero, Option.some.injEq] at hd
        subst hd
        have hi2 : (i : Int) = s.n := by omega
        rw [g4, Heap.upd_ne _ _ (Ne.symm hte), hi2]; exact hb3
    · intro y o hy h1 h2 h3
      have hye : y ≠ e.b := fun q => by rw [q, hb] at hy; simp only [Option.some.injEq] at hy; subst hy; exact h2 rfl
      rw [g4, Heap.upd_ne _ _ h3]
      exact old _ _ hy h1 hye
end Go.Proofs.Ytcipmipadjenaaa
