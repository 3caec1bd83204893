/- The timers, and the document's, by one and the same list in order. -/
import Derived.Test.YtcipmipadjenaaaSc
import Derived.Test.YtcipmipadjenaaaHlLaw
namespace Go.Proofs.Ytcipmipadjenaaa
open Go.HL
set_option maxHeartbeats 400000

theorem beforeB_iff {a b : Int × Int} : beforeB a b = true ↔ ahead a b := by
  unfold beforeB ahead
  simp
theorem ahead_trans {a b c : Int × Int} (h : ahead a b) (k : ahead b c) : ahead a c := by unfold ahead at *; omega
theorem insL_mem {x : Int × Int} {l : List (Int × Int)} : ∀ a, a ∈ insL x l ↔ a = x ∨ a ∈ l := by
  induction l with
  | nil => intro a; simp [insL]
  | cons b l ih =>
    intro a
    unfold insL
    split
    · simp
    · simp only [List.mem_cons, ih]
      constructor
      · rintro (h | h | h) <;> simp [h]
      · rintro (h | h | h) <;> simp [h]
theorem insL_perm {x : Int × Int} {l : List (Int × Int)} : (insL x l).Perm (x :: l) := by
  induction l with
  | nil => exact List.Perm.refl _
  | cons b l ih =>
    unfold insL
    split
    · exact List.Perm.refl _
    · exact (ih.cons b).trans (List.Perm.swap _ _ _)
theorem insL_inorder {x : Int × Int} {l : List (Int × Int)} (h : Inorder l) (hx : ∀ a ∈ l, a.1 ≠ x.1) : Inorder (insL x l) := by
  induction l with
  | nil => exact List.pairwise_singleton _ _
  | cons b l ih =>
    obtain ⟨h1, h2⟩ := List.pairwise_cons.1 h
    unfold insL
    split
    · rename_i q
      refine List.pairwise_cons.2 ⟨fun a ha => ?_, h⟩
      have hb := beforeB_iff.1 q
      rcases List.mem_cons.1 ha with e | e
      · rw [e]; exact hb
      · exact ahead_trans hb (h1 a e)
    · rename_i q
      refine List.pairwise_cons.2 ⟨fun a ha => ?_, ih h2 fun a ha => hx a (List.mem_cons_of_mem _ ha)⟩
      rcases (insL_mem a).1 ha with e | e
      · rw [e]
        have hn : ¬ ahead x b := fun y => q (beforeB_iff.2 y)
        have hk := hx b List.mem_cons_self
        unfold ahead at *; omega
      · exact h1 a e
theorem inorder_filter {l : List (Int × Int)} {p : Int × Int → Bool} (h : Inorder l) : Inorder (l.filter p) := List.Pairwise.filter p h
/-- What Set answers; the list behind it. -/
def setC (A : List (Int × Int)) (key due : Int) : Int :=
  if due < 0 ∨ due > 1000000000 then 1 else if (butL A key).length = A.length ∧ 1000 ≤ A.length then 3 else 0
def setA (A : List (Int × Int)) (key due : Int) : List (Int × Int) := if setC A key due = 0 then insL (key, due) (butL A key) else A
def cancelC (A : List (Int × Int)) (key : Int) : Int := if (butL A key).length = A.length then 8 else 0
def atA (A : List (Int × Int)) (key : Int) : Int := ((A.find? fun a => decide (a.1 = key)).map Prod.snd).getD (-1)
def nextA (A : List (Int × Int)) : Int := (A.head?.map Prod.snd).getD (-1)
abbrev dueA (A : List (Int × Int)) (now : Int) : List Int := (A.takeWhile fun a => decide (a.2 ≤ now)).map Prod.fst
abbrev leftA (A : List (Int × Int)) (now : Int) : List (Int × Int) := A.dropWhile fun a => decide (a.2 ≤ now)
/-- Timers that read as a list in order. -/
def tim (t : Nat) (A : List (Int × Int)) : Chunk := fun H => ∃ es, TIn H t es ∧ A.Perm (kd es) ∧ Inorder A
theorem QT.mono {t : Nat} {m : Value} {s : Sl} {es : List E} : Mono (fun H => QT H t m s es) := fun _ _ hs h =>
  ⟨hs _ _ h.top, ⟨Own.mono _ _ hs h.q.own, fun i e he => hs _ _ (h.q.ones i e he)⟩, h.small⟩
theorem TIn.mono {t : Nat} {es : List E} : Mono (fun H => TIn H t es) := fun _ _ hs h => by
  obtain ⟨⟨s, mb, ml, hq, hm, hp⟩, hh, hk, hf⟩ := h
  exact ⟨⟨s, mb, ml, QT.mono _ _ hs hq, MapR.mono _ _ hs hm, hp⟩, hh, hk, hf⟩
theorem tim.mono {t : Nat} {A : List (Int × Int)} : Mono (tim t A) := fun _ _ hs ⟨es, h, r⟩ => ⟨es, TIn.mono _ _ hs h, r⟩
theorem butL_len {A : List (Int × Int)} {key : Int} : (butL A key).length = A.length ↔ ∀ a ∈ A, a.1 ≠ key := by
  rw [List.length_filter_eq_length_iff]; simp
theorem but_kd (es : List E) (key : Int) : kd (but es key) = butL (kd es) key := by
  unfold kd but butL
  rw [List.filter_map]; rfl
theorem kd_keys {es : List E} {A : List (Int × Int)} {key : Int} (h : A.Perm (kd es)) : (∀ a ∈ A, a.1 ≠ key) ↔ ∀ e ∈ es, e.key ≠ key := by
  constructor
  · intro k e he; exact k (e.key, e.due) (h.mem_iff.2 (List.mem_map.2 ⟨e, he, rfl⟩))
  · intro k a ha
    obtain ⟨e, he, rfl⟩ := List.mem_map.1 (h.mem_iff.1 ha)
    exact k e he
/-- Lists in order with the same elements are the same. -/
theorem inorder_eq {A B : List (Int × Int)} (h : A.Perm B) (ha : Inorder A) (hb : Inorder B) : A = B :=
  List.Perm.eq_of_pairwise (fun a b _ _ h1 h2 => by unfold ahead at *; omega) ha hb h
theorem tset_spec {cs : List Chunk} {H : Heap} {t : Nat} {A : List (Int × Int)} {key due : Int} {K : Value → Heap → Prop} (h : Holds (tim t A :: cs) H)
    (k : ∀ H', Holds (tim t (setA A key due) :: cs) H' → K (.int .i64 (setC A key due)) H') : FnH Try.prog 9 #[.pointer (some ⟨t, 0, none⟩), .int .i64 key, .int .i64 due] H K := by
  refine FnH.holds h (c' := fun v H' => v = .int .i64 (setC A key due) ∧ tim t (setA A key due) H') (fun B ⟨es, hT, hp, hs⟩ => ?_) fun v H' h' => by obtain ⟨hv, h2⟩ := Holds.pure.1 h'; subst hv; exact k H' h2
  have hl := hp.length_eq
  simp only [List.length_map] at hl
  refine set_spec hT (fun q => ?_) (fun q1 q2 q3 => ?_) fun H' es' q1 q2 hT' hp' => ?_
  · have e : setC A key due = 1 := by unfold setC; rw [if_pos q]
    unfold setA; rw [e]; exact ⟨rfl, es, hT, hp, hs⟩
  · have e : setC A key due = 3 := by
      unfold setC; rw [if_neg q1, if_pos ⟨butL_len.2 ((kd_keys hp).2 q2), by omega⟩]
    unfold setA; rw [e]; exact ⟨rfl, es, hT, hp, hs⟩
  · have e : setC A key due = 0 := by
      unfold setC; rw [if_neg q1, if_neg (fun x => q2 ⟨(kd_keys hp).1 (butL_len.1 x.1), by omega⟩)]
    unfold setA; rw [e]
    refine ⟨rfl, es', hT', (insL_perm.trans ?_).trans hp'.symm, insL_inorder (inorder_filter hs) fun a ha => by simpa using (List.mem_filter.1 ha).2⟩
    rw [but_kd]
    exact (hp.filter _).cons _
theorem rset_one {cs : List Chunk} {H : Heap} {rb : Nat} {A : List (Int × Int)} {key due : Int} {K : Value → Heap → Prop} (h : Holds (refT rb A :: cs) H) (hA : A.length ≤ 999999)
    (k : ∀ H', Holds (refT rb (setA A key due) :: cs) H' → K (.int .i64 (setC A key due)) H') : FnH Try.prog 10 #[.pointer (some ⟨rb, 0, none⟩), .int .i64 key, .int .i64 due] H K := by
  refine rset_spec h hA (fun q => ?_) (fun q1 q2 q3 H' h' => ?_) fun q1 q2 H' h' => ?_
  · have e : setC A key due = 1 := by unfold setC; rw [if_pos q]
    unfold setA at k; rw [e] at k; exact k H h
  · have e : setC A key due = 3 := by unfold setC; rw [if_neg q1, if_pos ⟨q2, q3⟩]
    unfold setA at k; rw [e] at k; exact k H' h'
  · have e : setC A key due = 0 := by unfold setC; rw [if_neg q1, if_neg q2]
    unfold setA at k; rw [e] at k; exact k H' h'
theorem tcancel_spec {cs : List Chunk} {H : Heap} {t : Nat} {A : List (Int × Int)} {key : Int} {K : Value → Heap → Prop} (h : Holds (tim t A :: cs) H)
    (k : ∀ H', Holds (tim t (butL A key) :: cs) H' → K (.int .i64 (cancelC A key)) H') : FnH Try.prog 11 #[.pointer (some ⟨t, 0, none⟩), .int .i64 key] H K := by
  refine FnH.holds h (c' := fun v H' => v = .int .i64 (cancelC A key) ∧ tim t (butL A key) H') (fun B ⟨es, hT, hp, hs⟩ => ?_) fun v H' h' => by obtain ⟨hv, h2⟩ := Holds.pure.1 h'; subst hv; exact k H' h2
  refine cancel_spec hT (fun q => ?_) fun H' es' hT' hp' q => ?_
  · have q' := (kd_keys hp).2 q
    have e : cancelC A key = 8 := by unfold cancelC; rw [if_pos (butL_len.2 q')]
    have e2 : butL A key = A := List.filter_eq_self.2 fun a ha => by simpa using q' a ha
    rw [e, e2]; exact ⟨rfl, es, hT, hp, hs⟩
  · have e : cancelC A key = 0 := by
      unfold cancelC
      rw [if_neg (fun x => by obtain ⟨e, he, hk⟩ := q; exact (kd_keys hp).1 (butL_len.1 x) e he hk)]
    rw [e]
    refine ⟨rfl, es', hT', ?_, inorder_filter hs⟩
    have := hp'.map fun e => (e.key, e.due)
    refine (hp.filter _).trans ?_
    have e3 := but_kd es key
    show (butL (kd es) key).Perm (kd es')
    rw [← e3]; exact this.symm
theorem rcancel_one {cs : List Chunk} {H : Heap} {rb : Nat} {A : List (Int × Int)} {key : Int} {K : Value → Heap → Prop} (h : Holds (refT rb A :: cs) H) (hA : A.length ≤ 1000000)
    (k : ∀ H', Holds (refT rb (butL A key) :: cs) H' → K (.int .i64 (cancelC A key)) H') : FnH Try.prog 12 #[.pointer (some ⟨rb, 0, none⟩), .int .i64 key] H K := by
  refine rcancel_spec h hA (fun q H' h' => ?_) fun q H' h' => ?_
  · have e : cancelC A key = 8 := by unfold cancelC; rw [if_pos q]
    have e2 : butL A key = A := List.filter_eq_self.2 fun a ha => by simpa using butL_len.1 q a ha
    rw [e, e2] at k; exact k H' h'
  · have e : cancelC A key = 0 := by unfold cancelC; rw [if_neg q]
    rw [e] at k; exact k H' h'
theorem inorder_root {es : List E} {A : List (Int × Int)} (hh : HeapN es es.length) (hp : A.Perm (kd es)) (hs : Inorder A) : nextL es = nextA A := by
  have hl := hp.length_eq
  simp only [List.length_map] at hl
  cases A with
  | nil =>
    have : es = [] := List.length_eq_zero_iff.1 (by simp at hl; omega)
    subst this; rfl
  | cons a l =>
    obtain ⟨h0, e⟩ := root_first hh hp hs
    unfold nextL nextA
    rw [e]
    cases es with
    | nil => simp at h0
    | cons x es => rfl
theorem tnext_spec {cs : List Chunk} {H : Heap} {t : Nat} {A : List (Int × Int)} {K : Value → Heap → Prop} {i : Nat} (h : Holds cs H) (ei : cs[i]? = some (tim t A)) (k : K (.int .i64 (nextA A)) H) : FnH Try.prog 19 #[.pointer (some ⟨t, 0, none⟩)] H K := by
  obtain ⟨es, hT, hp, hs⟩ := h.read i ei tim.mono
  refine next_spec hT ?_
  rw [inorder_root hT.heap hp hs]; exact k
theorem tlen_one {cs : List Chunk} {H : Heap} {t : Nat} {A : List (Int × Int)} {K : Value → Heap → Prop} {i : Nat} (h : Holds cs H) (ei : cs[i]? = some (tim t A)) (k : K (.int .i64 A.length) H) : FnH Try.prog 18 #[.pointer (some ⟨t, 0, none⟩)] H K := by
  obtain ⟨es, hT, hp, hs⟩ := h.read i ei tim.mono
  refine tlen_spec hT ?_
  have hl := hp.length_eq
  simp only [List.length_map] at hl
  rw [← hl]; exact k
theorem tim_few {cs : List Chunk} {H : Heap} {t : Nat} {A : List (Int × Int)} {i : Nat} (h : Holds cs H) (ei : cs[i]? = some (tim t A)) : A.length ≤ 1000 ∧ Inorder A ∧ (A.map Prod.fst).Nodup := by
  obtain ⟨es, hT, hp, hs⟩ := h.read i ei tim.mono
  have hl := hp.length_eq
  simp only [List.length_map] at hl
  refine ⟨by have := hT.few; omega, hs, ?_⟩
  have := (hp.map Prod.fst).nodup_iff.2 (by rw [List.map_map]; exact hT.keys)
  exact this
theorem atA_none {A : List (Int × Int)} {key : Int} (h : ∀ a ∈ A, a.1 ≠ key) : atA A key = -1 := by
  unfold atA
  rw [List.find?_eq_none.2 (fun e he => by simpa using h e he)]; rfl
theorem atA_some {A : List (Int × Int)} {a : Int × Int} (hk : (A.map Prod.fst).Nodup) (ha : a ∈ A) : atA A a.1 = a.2 := by
  unfold atA
  induction A with
  | nil => simp at ha
  | cons b A ih =>
    simp only [List.map_cons, List.nodup_cons] at hk
    rcases List.mem_cons.1 ha with e | e
    · subst e; simp
    · have : ¬ b.1 = a.1 := fun x => hk.1 (List.mem_map.2 ⟨a, e, x.symm⟩)
      rw [List.find?_cons_of_neg (by simpa using this)]
      exact ih hk.2 e
theorem tat_spec {cs : List Chunk} {H : Heap} {t : Nat} {A : List (Int × Int)} {key : Int} {K : Value → Heap → Prop} {i : Nat} (h : Holds cs H) (ei : cs[i]? = some (tim t A)) (k : K (.int .i64 (atA A key)) H) : FnH Try.prog 16 #[.pointer (some ⟨t, 0, none⟩), .int .i64 key] H K := by
  obtain ⟨hf, -, hnd⟩ := tim_few h ei
  obtain ⟨es, hT, hp, hs⟩ := h.read i ei tim.mono
  refine at_spec hT ?_
  have : atL es key = atA A key := by
    by_cases q : ∀ e ∈ es, e.key ≠ key
    · rw [atL_none q, atA_none ((kd_keys hp).2 q)]
    · have : ∃ e, e ∈ es ∧ e.key = key := by
        refine Classical.byContradiction fun x => q fun e he hk => x ⟨e, he, hk⟩
      obtain ⟨e, he, rfl⟩ := this
      rw [atL_some hT.keys he]
      exact (atA_some hnd (hp.mem_iff.2 (List.mem_map.2 ⟨e, he, rfl⟩))).symm
  rw [this]; exact k
/-- Timers, and a list that they have given. -/
def told (t : Nat) (A : List (Int × Int)) (r : Sl) (l : List Int) : Chunk := fun H => tim t A H ∧ Ints H r l
theorem told.mono {t : Nat} {A : List (Int × Int)} {r : Sl} {l : List Int} : Mono (told t A r l) := fun _ _ hs h => ⟨tim.mono _ _ hs h.1, h.2.sub hs⟩
theorem tdue_spec {cs : List Chunk} {H : Heap} {t : Nat} {A : List (Int × Int)} {now : Int} {K : Value → Heap → Prop} (h : Holds (tim t A :: cs) H)
    (k : ∀ (r : Sl) H', Holds (told t (leftA A now) r (dueA A now) :: cs) H' → K (.slice r.p r.n r.c) H') : FnH Try.prog 14 #[.pointer (some ⟨t, 0, none⟩), .int .i64 now] H K := by
  refine FnH.holds h (c' := fun v H' => ∃ r : Sl, v = .slice r.p r.n r.c ∧ told t (leftA A now) r (dueA A now) H') (fun B ⟨es, hT, hp, hs⟩ => ?_) fun v H' h' => by
    obtain ⟨r, h'⟩ := Holds.ex.1 h'
    obtain ⟨hv, h2⟩ := Holds.pure.1 h'
    subst hv; exact k r H' h2
  refine due_spec hT hp hs fun H' r es' hT' hi hp' => ⟨r, rfl, ⟨es', hT', hp', ?_⟩, hi⟩
  exact hs.sublist (List.dropWhile_sublist _)
theorem new_spec {cs : List Chunk} {H : Heap} {K : Value → Heap → Prop} (h : Holds cs H) (k : ∀ t H', Holds (tim t [] :: cs) H' → K (.pointer (some ⟨t, 0, none⟩)) H') : FnH Try.prog 7 #[] H K := by
  apply timer_New_fn
  unfold timer_New_vc
  refine h.new fun q1 H1 h1 => h1.new fun q2 H2 h2 => k q2 H2 ?_
  have h3 : Holds (Holds [blk q2 (.cells #[.slice none 0 0, .map (some q1)] 50 (0, 0)), blk q1 (.map #[] 0)] :: cs) H2 := Holds.flat.2 h2
  refine h3.head fun B hB => ⟨[], ⟨⟨⟨none, 0, 0⟩, q1, [], ⟨hB.get 0 rfl, ⟨Own.nil _ _ _, fun i e he => by simp at he⟩, by simp⟩, ⟨#[], 0, hB.get 1 rfl, rfl⟩, List.Perm.refl _⟩, fun k k0 k1 => by simp at k1, by simp, by simp⟩, List.Perm.refl _, List.Pairwise.nil⟩
theorem pick_spec {c n : Int} {H : Heap} {K : Value → Heap → Prop} (hn : n ≠ 0) (k : K (.int .i64 (pickI c n)) H) : FnH Try.prog 8 #[.int .i64 c, .int .i64 n] H K := by
  apply logboomlaw2_pick_fn
  exact pick_formula hn k
theorem ints_spec {H : Heap} {a b : Sl} {l m : List Int} {K : Value → Heap → Prop} (hl : Ints H a l) (hm : Ints H b m) (k : K (.bool (decide (l = m))) H) : FnH Try.prog 13 #[.slice a.p a.n a.c, .slice b.p b.n b.c] H K := by
  apply logboomlaw2_ints_fn
  exact ints_formula hl hm k
end Go.Proofs.Ytcipmipadjenaaa
