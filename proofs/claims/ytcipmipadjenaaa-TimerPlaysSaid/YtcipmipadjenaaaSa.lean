/- What Due of the timers does: it takes those that are due, in order. -/
import Derived.Test.YtcipmipadjenaaaS9
namespace Go.Proofs.Ytcipmipadjenaaa
open Go.HL
set_option maxHeartbeats 400000

/-- A key and its tick come ahead of another one. -/
def ahead (a b : Int × Int) : Prop := a.2 < b.2 ∨ (a.2 = b.2 ∧ a.1 < b.1)
abbrev Inorder (A : List (Int × Int)) : Prop := A.Pairwise ahead
theorem key_eq {es : List E} {a b : E} (hk : (es.map E.key).Nodup) (ha : a ∈ es) (hb : b ∈ es) (h : a.key = b.key) : a = b := by
  induction es with
  | nil => simp at ha
  | cons c es ih =>
    simp only [List.map_cons, List.nodup_cons] at hk
    rcases List.mem_cons.1 ha with q | q <;> rcases List.mem_cons.1 hb with q' | q'
    · rw [q, q']
    · exact absurd (List.mem_map.2 ⟨b, q', by rw [← h, q]⟩) hk.1
    · exact absurd (List.mem_map.2 ⟨a, q, by rw [h, q']⟩) hk.1
    · exact ih hk.2 q q'
/-- The root of the heap is the first of all. -/
theorem root_first {es : List E} {a : Int × Int} {l : List (Int × Int)} (hh : HeapN es es.length) (hp : (a :: l).Perm (kd es)) (hs : Inorder (a :: l)) : 0 < es.length ∧ a = (es[0]!.key, es[0]!.due) := by
  have hl := hp.length_eq
  simp only [List.length_cons, List.length_map] at hl
  refine ⟨by omega, ?_⟩
  obtain ⟨d, hd, he⟩ := List.mem_map.1 (hp.mem_iff.1 (List.mem_cons_self))
  obtain ⟨j, hj⟩ := List.getElem?_of_mem hd
  have hjl := (List.getElem?_eq_some_iff.1 hj).1
  have h1 := heap_root hh j hjl
  have hd2 : es[j]! = d := by rw [List.getElem!_eq_getElem?_getD, hj]; rfl
  rw [hd2] at h1
  have h0 : es[0]! ∈ es := by
    have h00 : 0 < es.length := by omega
    simp [h00]
  have hm : (es[0]!.key, es[0]!.due) ∈ a :: l := hp.mem_iff.2 (List.mem_map.2 ⟨_, h0, rfl⟩)
  rcases List.mem_cons.1 hm with q | q
  · exact q.symm
  · have h2 := (List.pairwise_cons.1 hs).1 _ q
    rw [← he] at h2 ⊢
    unfold ahead at h2
    unfold le at h1
    simp only [] at h2
    exfalso
    omega
theorem while_split {α : Type} {p : α → Bool} : ∀ {a b : List α}, (∀ x ∈ a, p x = true) → (∀ x, b.head? = some x → p x = false) → (a ++ b).takeWhile p = a ∧ (a ++ b).dropWhile p = b := by
  intro a
  induction a with
  | nil =>
    intro b _ hb
    cases b with
    | nil => exact ⟨rfl, rfl⟩
    | cons x b => have := hb x rfl; simp [this]
  | cons x a ih =>
    intro b ha hb
    have h1 := ha x (by simp)
    obtain ⟨h2, h3⟩ := ih (b := b) (fun y hy => ha y (by simp [hy])) hb
    simp [h1, h2, h3]
theorem ok37 : ElemOK Try.prog 37 3 1 := ElemOK.of (by kernel_rfl)

theorem due_spec {H : Heap} {t : Nat} {es : List E} {now : Int} {A : List (Int × Int)} {K : Value → Heap → Prop} (h : TIn H t es) (hA : A.Perm (kd es)) (hs : Inorder A)
    (k : ∀ H' r es', TIn H' t es' → Ints H' r ((A.takeWhile fun a => decide (a.2 ≤ now)).map Prod.fst) → (A.dropWhile fun a => decide (a.2 ≤ now)).Perm (kd es') → K (.slice r.p r.n r.c) H') :
    FnH Try.prog 14 #[.pointer (some ⟨t, 0, none⟩), .int .i64 now] H K := by
  apply timer_Timers_Due_fn
  have la := hA.length_eq
  simp only [List.length_map] at la
  have hfew := h.few
  refine ⟨fun l H1 => ∃ es1 taken rest, TIn H1 t es1 ∧ A = taken ++ rest ∧ rest.Perm (kd es1) ∧ (∀ a ∈ taken, a.2 ≤ now) ∧ Own H1 3 1 l ((taken.map Prod.fst).map (Value.int .i64)), fun l _ => A.length - l.n, ⟨es, [], A, h, rfl, hA, by simp, Own.nil _ _ _⟩, ?_⟩
  rintro l H1 ⟨es1, taken, rest, h1, rfl, hp, ht, ho⟩
  have ll := ho.1
  simp only [List.length_map, Nat.mul_one] at ll
  have lr := hp.length_eq
  simp only [List.length_map] at lr
  have fin : (∀ x, rest.head? = some x → decide (x.2 ≤ now) = false) → K (.slice l.p l.n l.c) H1 := fun hn => by
    obtain ⟨w1, w2⟩ := while_split (p := fun a : Int × Int => decide (a.2 ≤ now)) (a := taken) (b := rest) (fun x hx => decide_eq_true (ht x hx)) hn
    refine k H1 l es1 h1 ?_ ?_
    · rw [w1]; exact ho.ints (by simp only [List.length_map]; simp only [List.length_append] at la; omega)
    · rw [w2]; exact hp
  obtain ⟨⟨s, mb, ml, hq, hm, hpm⟩, hh, hk, hf⟩ := h1
  have sl := hq.q.len
  refine ⟨s, hq.slice, br_intro (fun q => ?_) (fun q => fin fun x hx => ?_)⟩
  case refine_2 =>
    have q := of_decide_eq_false q
    have : rest = [] := List.length_eq_zero_iff.1 (by omega)
    rw [this] at hx; cases hx
  have q := of_decide_eq_true q
  obtain ⟨b, e, a1, a2, a3, a4, a5⟩ := hq.q.at_ (j := 0) (Int.le_refl _) (by omega)
  have a2 : es1[0]? = some e := a2
  have a3 : es1[0]! = e := a3
  obtain ⟨a, rest, rfl⟩ : ∃ a l, rest = a :: l := by
    cases rest with
    | nil => simp at lr; omega
    | cons a l => exact ⟨a, l, rfl⟩
  have hsr : Inorder (a :: rest) := (List.pairwise_append.1 hs).2.1
  obtain ⟨r0, ra⟩ := root_first hh hp hsr
  rw [a3] at ra
  subst ra
  refine ⟨s, hq.slice, b, 0, a1, Int.le_refl _, by omega, _, a4, ptrm_intro rfl ⟨e.due, one_due a5, br_intro (fun q2 => ?_) (fun q2 => fin fun x hx => ?_)⟩⟩
  case refine_2 =>
    simp only [List.head?_cons, Option.some.injEq] at hx
    subst hx; exact q2
  have q2 := of_decide_eq_true q2
  refine hpop_spec hq r0 hh fun H2 s2 es2 h2 p2 hh2 ho2 kt => ?_
  rw [a3] at p2 ho2 ⊢
  refine ⟨_, rfl, some ⟨e.b, 0, none⟩, rfl, some mb, h2.mapc, ptrm_intro rfl ⟨e.key, one_key ho2, ?_⟩⟩
  obtain ⟨me, mc, m1, m2⟩ := hm
  have hm2 := kt.map m1 ⟨_, _, _, hq.top⟩
  refine runH_delete u46 kint ⟨me, mc, hm2, m2⟩ (k := e.key) fun me' mc' hm' => ⟨rfl, ?_⟩
  have hbm : e.b ≠ mb := fun x => by rw [x, hm2] at ho2; cases ho2
  have ho3 : (H2.upd mb (.map me' mc')) e.b = some (oneO e es2.length) := by rw [Heap.upd_ne _ _ hbm]; exact ho2
  refine ptrm_intro rfl ⟨e.key, one_key ho3, ?_⟩
  intro q5 hq5
  refine letH_intro fun H4 g4 => ?_
  have s4 : HL.Sub (H2.upd mb (.map me' mc')) H4 := by rw [g4]; exact Sub.new hq5 _
  -- the list so far lies as it lay
  have hol : Own H4 3 1 l ((taken.map Prod.fst).map (Value.int .i64)) := by
    obtain ⟨o1, o2, o3⟩ := ho
    refine ⟨o1, o2, o3.imp_right fun ⟨b, arr, q, hb, r⟩ => ⟨b, arr, q, s4 _ _ ?_, r⟩⟩
    have n1 : b ≠ t := fun x => by have := hq.top; rw [← x, hb] at this; simp at this
    have hb2 := kt b _ hb (by show (3 : Nat) ≠ 51; decide) (by show (3 : Nat) ≠ 54; decide) n1
    have n2 : b ≠ mb := fun x => by rw [x, hm2] at hb2; cases hb2
    rw [Heap.upd_ne _ _ n2]; exact hb2
  have h5 := h2.updMap (a' := me') (c' := mc') hm2
  let H0 : Heap := fun y => match l.p with | some a => if y = a.block then none else H4 y | none => H4 y
  have hf0 : Fresh H0 l := fun b o sp hp => by show (match l.p with | some a => if b = a.block then none else H4 b | none => H4 b) = none; rw [hp]; simp
  have hs0 : HL.Sub H0 H4 := fun y o hy => by
    have hy : (match l.p with | some a => if y = a.block then none else H4 y | none => H4 y) = some o := hy
    split at hy
    · split at hy
      · cases hy
      · exact hy
    · exact hy
  have in0 : ∀ y o, H4 y = some o → (∀ cs z, o ≠ .cells cs 3 z) → H0 y = some o := fun y o hy hne => by
    show (match l.p with | some a => if y = a.block then none else H4 y | none => H4 y) = some o
    obtain ⟨-, -, o3⟩ := hol
    rcases o3 with ⟨q, -⟩ | ⟨b, arr, q, hb, -⟩
    · rw [q]; exact hy
    · rw [q]
      simp only []
      rw [if_neg (fun x => by subst x; rw [hb] at hy; simp only [Option.some.injEq] at hy; exact hne _ _ hy.symm)]
      exact hy
  refine append_own ok37 ok37.under hol hf0 hs0 (xs := [.int .i64 e.key]) ?_ rfl rfl (by simp only [List.length_append] at la; omega) ?_
  · rw [g4]; exact CellsAt.block (Heap.upd_same _ _ _) (fun i hi => by simp at hi; subst hi; rfl)
  · intro r H5 o5 f5 s5 n5
    have keep : ∀ y o, (H2.upd mb (.map me' mc')) y = some o → (∀ cs z, o ≠ .cells cs 3 z) → H5 y = some o := fun y o hy hne => s5 _ _ (in0 _ _ (s4 _ _ hy) hne)
    have q5' : QT H5 t (.map (some mb)) s2 es2 := by
      refine ⟨keep _ _ h5.top (fun cs z x => by simp at x), ⟨?_, fun i d hd => keep _ _ (h5.q.ones i d hd) (fun cs z x => by simp at x)⟩, h5.small⟩
      obtain ⟨o1, o2, o3⟩ := h5.q.own
      exact ⟨o1, o2, o3.imp_right fun ⟨b, arr, q, hb, r⟩ => ⟨b, arr, q, keep _ _ hb (fun cs z x => by simp at x), r⟩⟩
    have l2 := p2.length_eq
    simp only [List.length_append, List.length_cons, List.length_nil] at l2
    have hk2 := keys_perm p2 hk
    rw [List.map_append, List.nodup_append] at hk2
    have hlook : lookL ml e.key = some (ptrV e.b) := by
      rcases look_cases hpm e.key with ⟨-, hn⟩ | ⟨i, d, hi, hdk, hl⟩
      · exact absurd rfl (hn e (List.mem_of_getElem? a2))
      · rw [key_eq hk (List.mem_of_getElem? hi) (List.mem_of_getElem? a2) hdk] at hl; exact hl
    have hml : (delL ml e.key).Perm (pairs es2) := by
      have x1 := (del_perm hlook).symm.trans (hpm.trans (p2.symm.map fun e => (e.key, ptrV e.b)))
      rw [List.map_append] at x1
      have x2 : (pairs es2 ++ [(e.key, ptrV e.b)]).Perm ((e.key, ptrV e.b) :: pairs es2) := List.perm_append_comm
      exact (x1.trans x2).cons_inv
    have hrest : rest.Perm (kd es2) := by
      have x1 := hp.trans (p2.symm.map fun e => (e.key, e.due))
      rw [List.map_append] at x1
      have x2 : (kd es2 ++ [(e.key, e.due)]).Perm ((e.key, e.due) :: kd es2) := List.perm_append_comm
      exact (x1.trans x2).cons_inv
    refine ⟨r, rfl, rfl, ⟨es2, taken ++ [(e.key, e.due)], rest, ⟨⟨s2, mb, delL ml e.key, q5', ⟨me', mc', keep _ _ (Heap.upd_same _ _ _) (fun cs z x => by cases x), hm'⟩, hml⟩, hh2, hk2.1, by omega⟩, by simp, hrest, fun a ha => ?_, by simpa using o5⟩, ?_⟩
    · rcases List.mem_append.1 ha with x | x
      · exact ht a x
      · simp only [List.mem_singleton] at x; subst x; exact q2
    · simp only [List.length_append, List.length_cons] at la ⊢
      rw [n5]
      omega
end Go.Proofs.Ytcipmipadjenaaa
