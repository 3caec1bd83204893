/- What the document's answer to chapter 2 does: a list of timers in order. -/
import Derived.Test.YtcipmipadjenaaaSa
import Derived.Test.YtcipmipadjenaaaHlSep
namespace Go.Proofs.Ytcipmipadjenaaa
open Go.HL
set_option maxHeartbeats 400000

abbrev e2 : Int × Int → List Value := fun a => [.int .i64 a.1, .int .i64 a.2]
theorem e2len : ∀ a, (e2 a).length = 2 := fun _ => rfl
theorem ok27 : ElemOK Try.prog 27 44 2 := ElemOK.of (by kernel_rfl)
theorem nt_e2 (l : List (Int × Int)) : noTups (l.flatMap e2) = true := by
  induction l with
  | nil => rfl
  | cons a l ih => rw [List.flatMap_cons]; simpa [e2, noTups, isTup] using ih
/-- The document's timers: a list of keys and ticks. -/
def refT (rb : Nat) (A : List (Int × Int)) : Chunk := fun H => ∃ s : Sl, Holds [blk rb (.cells #[.slice s.p s.n s.c] 29 (0, 0)), recs e2 s A] H
theorem refT_open {cs : List Chunk} {H : Heap} {rb : Nat} {A : List (Int × Int)} : Holds (refT rb A :: cs) H ↔ ∃ s : Sl, Holds (blk rb (.cells #[.slice s.p s.n s.c] 29 (0, 0)) :: recs e2 s A :: cs) H := Holds.open
theorem refT_mono {rb : Nat} {A : List (Int × Int)} : Mono (refT rb A) := fun _ _ hs ⟨s, h⟩ => ⟨s, h.up hs⟩
theorem refT_in {cs : List Chunk} {H : Heap} {rb : Nat} {A : List (Int × Int)} {i : Nat} (h : Holds cs H) (e : cs[i]? = some (refT rb A)) : ∃ s : Sl, cellH H ⟨rb, 0, none⟩ = some (.slice s.p s.n s.c) ∧ Recs e2 H s A := by
  obtain ⟨s, h⟩ := h.read i e refT_mono
  exact ⟨s, h.cell 0 rfl rfl, h.recs 1 rfl⟩
def beforeB (a b : Int × Int) : Bool := decide (a.2 < b.2) || (a.2 == b.2 && decide (a.1 < b.1))
theorem before_spec {H : Heap} {a b : Int × Int} {K : Value → Heap → Prop} (k : K (.bool (beforeB a b)) H) : FnH Try.prog 24 #[.agg #[.int .i64 a.1, .int .i64 a.2], .agg #[.int .i64 b.1, .int .i64 b.2]] H K := by
  apply logboomref2_before_fn
  unfold logboomref2_before_vc
  unfold beforeB at k
  refine br_intro (fun h => ?_) (fun h => br_intro (fun h2 => ?_) (fun h2 => ?_))
  · rw [h] at k; simpa using k
  · rw [h, h2] at k; simpa using k
  · rw [h, h2] at k; simpa using k
abbrev butL (A : List (Int × Int)) (key : Int) : List (Int × Int) := A.filter fun a => decide (a.1 ≠ key)
theorem without_spec {cs : List Chunk} {H : Heap} {rb : Nat} {A : List (Int × Int)} {key : Int} {K : Value → Heap → Prop} (h : Holds (refT rb A :: cs) H) (hA : A.length ≤ 1000000)
    (k : ∀ (r : Sl) H', Holds (own 44 2 r ((butL A key).flatMap e2) :: refT rb A :: cs) H' → r.n = (butL A key).length → K (.slice r.p r.n r.c) H') : FnH Try.prog 23 #[.pointer (some ⟨rb, 0, none⟩), .int .i64 key] H K := by
  apply logboomref2_Timers_without_fn
  unfold logboomref2_Timers_without_vc
  refine ⟨fun out i H1 => 0 ≤ i ∧ i ≤ A.length ∧ out.n = (butL (A.take i.toNat) key).length ∧ Holds (own 44 2 out ((butL (A.take i.toNat) key).flatMap e2) :: refT rb A :: cs) H1, fun _ i _ => (A.length - i).toNat,
    ⟨Int.le_refl _, by omega, rfl, h.own_nil _ _⟩, ?_⟩
  rintro out i H1 ⟨i0, i1, hn, h1⟩
  obtain ⟨s, c1, r1⟩ := refT_in (i := 1) h1 rfl
  have hl := r1.len
  refine ⟨s, c1, br_intro (fun q => ?_) (fun q => ?_)⟩
  · have q := of_decide_eq_true q
    obtain ⟨b, o, a, p1, p2, p3⟩ := r1.at_ e2len (by decide) i0 q
    have et := take_step i0 p2
    have hle : (butL (A.take i.toNat) key).length ≤ A.length := Nat.le_trans (List.length_filter_le _ _) (by simp; omega)
    refine ⟨s, c1, b, o, p1, i0, q, a.1, p3 0 _ rfl, br_intro (fun q2 => ?_) (fun q2 => ?_)⟩
    · refine ⟨s, c1, b, o, p1, i0, q, a.1, p3 0 _ rfl, a.2, p3 1 _ rfl, Holds.push ok27 h1 (m := 1) rfl rfl (by omega) fun r H2 h2 n2 => ⟨r, rfl, rfl, ?_, ?_⟩⟩
      · rw [wrap64_id (by omega) (by omega)]
        dsimp only
        rw [et, butL, List.filter_append, List.filter_cons_of_pos (by simpa using q2), List.flatMap_append]
        exact ⟨by omega, by omega, by rw [n2, hn, List.length_append]; rfl, h2⟩
      · rw [wrap64_id (by omega) (by omega)]; dsimp only; omega
    · refine ⟨rfl, ?_, ?_⟩
      · rw [wrap64_id (by omega) (by omega)]
        dsimp only
        rw [et, butL, List.filter_append, List.filter_cons_of_neg (by simpa using q2), List.filter_nil, List.append_nil]
        exact ⟨by omega, by omega, hn, h1⟩
      · rw [wrap64_id (by omega) (by omega)]; dsimp only; omega
  · have q := of_decide_eq_false q
    have : A.take i.toNat = A := List.take_of_length_le (by omega)
    rw [this] at h1 hn
    exact k out H1 h1 hn
theorem own_recs {H : Heap} {r : Sl} {A : List (Int × Int)} (h : Own H 44 2 r (A.flatMap e2)) (hA : A.length ≤ 1000000) : Recs e2 H r A := Own.recs e2len (by decide) h (by omega)
/-- The list's place takes another list. -/
theorem refT_put {cs : List Chunk} {H : Heap} {rb : Nat} {A B : List (Int × Int)} {r : Sl} (h : Holds (own 44 2 r (B.flatMap e2) :: refT rb A :: cs) H) (hB : B.length ≤ 1000000) {f : Heap → Prop} (k : ∀ H', Holds (refT rb B :: cs) H' → f H') :
    (∃ u, cellH H ⟨rb, 0, none⟩ = some u) ∧ frozenH H ⟨rb, 0, none⟩ = false ∧ letH (H.set ⟨rb, 0, none⟩ (.slice r.p r.n r.c)) f := by
  obtain ⟨s, h2⟩ := refT_open.1 h.swap
  refine h2.store 0 rfl (by simp) fun H' h3 => k H' ?_
  have h3 : Holds (blk rb (.cells #[.slice r.p r.n r.c] 29 (0, 0)) :: recs e2 s A :: own 44 2 r (B.flatMap e2) :: cs) H' := h3
  have h4 := h3.rot.head fun H h => own_recs h hB
  exact refT_open.2 ⟨r, (h4.pull 1 rfl).perm (List.Perm.refl _) |> fun h => (h.pull 2 rfl).tail.perm (List.Perm.refl _)⟩
theorem rcancel_spec {cs : List Chunk} {H : Heap} {rb : Nat} {A : List (Int × Int)} {key : Int} {K : Value → Heap → Prop} (h : Holds (refT rb A :: cs) H) (hA : A.length ≤ 1000000)
    (k1 : (butL A key).length = A.length → ∀ H', Holds (refT rb A :: cs) H' → K (.int .i64 8) H') (k2 : (butL A key).length ≠ A.length → ∀ H', Holds (refT rb (butL A key) :: cs) H' → K (.int .i64 0) H') :
    FnH Try.prog 12 #[.pointer (some ⟨rb, 0, none⟩), .int .i64 key] H K := by
  apply logboomref2_Timers_Cancel_fn
  refine without_spec h hA fun r H1 h1 n1 => ?_
  obtain ⟨s, c1, r1⟩ := refT_in (i := 1) h1 rfl
  have hl := r1.len
  have hle : (butL A key).length ≤ A.length := List.length_filter_le _ _
  refine ⟨r, rfl, s, c1, br_intro (fun q => ?_) (fun q => ?_)⟩
  · have q : (r.n : Int) = s.n := by simpa using q
    exact k1 (by omega) H1 h1.tail
  · have q : ¬ (r.n : Int) = s.n := by simpa using q
    exact refT_put h1 (by omega) fun H2 h2 => k2 (by omega) H2 h2
theorem rat_spec {cs : List Chunk} {H : Heap} {rb : Nat} {A : List (Int × Int)} {key : Int} {K : Value → Heap → Prop} (h : Holds (refT rb A :: cs) H) (hA : A.length ≤ 1000000)
    (k : K (.int .i64 (((A.find? fun a => decide (a.1 = key)).map Prod.snd).getD (-1))) H) : FnH Try.prog 17 #[.pointer (some ⟨rb, 0, none⟩), .int .i64 key] H K := by
  apply logboomref2_Timers_At_fn
  unfold logboomref2_Timers_At_vc
  obtain ⟨s, c1, r1⟩ := refT_in (i := 0) h rfl
  have hl := r1.len
  refine ⟨fun i H1 => H1 = H ∧ 0 ≤ i ∧ i ≤ A.length ∧ (A.take i.toNat).find? (fun a => decide (a.1 = key)) = none, fun i _ => (A.length - i).toNat, ⟨rfl, Int.le_refl _, by omega, rfl⟩, ?_⟩
  rintro i H1 ⟨rfl, i0, i1, hn⟩
  refine ⟨s, c1, br_intro (fun q => ?_) (fun q => ?_)⟩
  · have q := of_decide_eq_true q
    obtain ⟨b, o, a, p1, p2, p3⟩ := r1.at_ e2len (by decide) i0 q
    have et := take_step i0 p2
    refine ⟨s, c1, b, o, p1, i0, q, a.1, p3 0 _ rfl, br_intro (fun q2 => ?_) (fun q2 => ?_)⟩
    · have q2 : a.1 = key := by simpa using q2
      refine ⟨s, c1, b, o, p1, i0, q, a.2, p3 1 _ rfl, ?_⟩
      have : A.find? (fun a => decide (a.1 = key)) = some a := by
        have e := List.take_append_drop (i + 1).toNat A
        rw [et] at e
        rw [← e, List.find?_append, List.find?_append, hn]
        simp [q2]
      rw [this] at k; exact k
    · have q2 : ¬ a.1 = key := by simpa using q2
      refine ⟨rfl, ?_, ?_⟩
      · rw [wrap64_id (by omega) (by omega)]
        dsimp only
        rw [et, List.find?_append, hn]
        exact ⟨rfl, by omega, by omega, by simp [q2]⟩
      · rw [wrap64_id (by omega) (by omega)]; dsimp only; omega
  · have q := of_decide_eq_false q
    have : A.take i.toNat = A := List.take_of_length_le (by omega)
    rw [this] at hn
    rw [hn] at k; exact k
theorem rnext_spec {cs : List Chunk} {H : Heap} {rb : Nat} {A : List (Int × Int)} {K : Value → Heap → Prop} (h : Holds (refT rb A :: cs) H) (k : K (.int .i64 ((A.head?.map Prod.snd).getD (-1))) H) : FnH Try.prog 20 #[.pointer (some ⟨rb, 0, none⟩)] H K := by
  apply logboomref2_Timers_Next_fn
  unfold logboomref2_Timers_Next_vc
  obtain ⟨s, c1, r1⟩ := refT_in (i := 0) h rfl
  have hl := r1.len
  refine ⟨s, c1, br_intro (fun q => ?_) (fun q => ?_)⟩
  · have q : (s.n : Int) = 0 := by simpa using q
    have : A = [] := List.length_eq_zero_iff.1 (by omega)
    subst this; exact k
  · have q : ¬ (s.n : Int) = 0 := by simpa using q
    obtain ⟨b, o, a, p1, p2, p3⟩ := r1.at_ e2len (by decide) (Int.le_refl 0) (by omega)
    refine ⟨s, c1, b, o, p1, Int.le_refl _, by omega, a.2, p3 1 _ rfl, ?_⟩
    have p2 : A[0]? = some a := p2
    rw [List.head?_eq_getElem?, p2] at k; exact k
theorem rdue_spec {cs : List Chunk} {H : Heap} {rb : Nat} {A : List (Int × Int)} {now : Int} {K : Value → Heap → Prop} (h : Holds (refT rb A :: cs) H) (hA : A.length ≤ 1000000)
    (k : ∀ (r : Sl) H', Holds (own 3 1 r (((A.takeWhile fun a => decide (a.2 ≤ now)).map Prod.fst).map (Value.int .i64)) :: refT rb (A.dropWhile fun a => decide (a.2 ≤ now)) :: cs) H' → K (.slice r.p r.n r.c) H') :
    FnH Try.prog 15 #[.pointer (some ⟨rb, 0, none⟩), .int .i64 now] H K := by
  apply logboomref2_Timers_Due_fn
  unfold logboomref2_Timers_Due_vc
  refine ⟨fun out H1 => ∃ taken rest, A = taken ++ rest ∧ (∀ a ∈ taken, decide (a.2 ≤ now) = true) ∧ out.n = taken.length ∧ Holds (own 3 1 out ((taken.map Prod.fst).map (Value.int .i64)) :: refT rb rest :: cs) H1, fun out _ => A.length - out.n,
    ⟨[], A, rfl, by simp, rfl, h.own_nil _ _⟩, ?_⟩
  rintro out H1 ⟨taken, rest, rfl, ht, hn, h1⟩
  simp only [List.length_append] at hA
  obtain ⟨s, c1, r1⟩ := refT_in (i := 1) h1 rfl
  have hl := r1.len
  have fin : (∀ x, rest.head? = some x → decide (x.2 ≤ now) = false) → K (.slice out.p out.n out.c) H1 := fun hh => by
    obtain ⟨w1, w2⟩ := while_split (p := fun a : Int × Int => decide (a.2 ≤ now)) ht hh
    refine k out H1 ?_
    rw [w1, w2]; exact h1
  refine ⟨s, c1, br_intro (fun q => ?_) (fun q => fin fun x hx => ?_)⟩
  case refine_2 =>
    have q := of_decide_eq_false q
    have : rest = [] := List.length_eq_zero_iff.1 (by omega)
    rw [this] at hx; cases hx
  have q := of_decide_eq_true q
  obtain ⟨b, o, a, p1, p2, p3⟩ := r1.at_ e2len (by decide) (Int.le_refl 0) (by omega)
  have p2 : rest[0]? = some a := p2
  obtain ⟨rest, rfl⟩ : ∃ l, rest = a :: l := by
    cases rest with
    | nil => simp at p2
    | cons x l => simp at p2; subst p2; exact ⟨l, rfl⟩
  simp only [List.length_cons] at hl hA
  refine ⟨s, c1, b, o, p1, Int.le_refl _, by omega, a.2, p3 1 _ rfl, br_intro (fun q2 => ?_) (fun q2 => fin fun x hx => ?_)⟩
  case refine_2 =>
    simp only [List.head?_cons, Option.some.injEq] at hx
    subst hx; exact q2
  refine ⟨s, c1, b, o, p1, Int.le_refl _, by omega, a.1, p3 0 _ rfl, Holds.push ok37 h1 (m := 1) rfl rfl (by omega) fun r H2 h2 n2 => ⟨r, rfl, ?_⟩⟩
  obtain ⟨s', h3⟩ := refT_open.1 h2.swap
  have p6 := h3.recs 1 rfl
  have hl6 := p6.len
  simp only [List.length_cons] at hl6
  refine ⟨s', h3.cell 0 rfl rfl, by omega, by omega, h3.store 0 rfl (by simp) fun H4 h4 => ⟨rfl, ⟨taken ++ [a], rest, by simp, ?_, by rw [n2, hn]; simp, ?_⟩, ?_⟩⟩
  · intro x hx
    rcases List.mem_append.1 hx with y | y
    · exact ht x y
    · simp only [List.mem_singleton] at y; subst y; exact q2
  · have h5 := (h4.turn 1 (d := recs e2 (s'.from_ 1 2) rest) rfl fun H h => Recs.from_ e2len (l := a :: rest) h (by decide) (by omega)).swap
    have h6 := refT_open.2 ⟨s'.from_ 1 2, h5.swap⟩
    rw [List.map_append, List.map_append]
    exact h6.swap
  · simp only [List.length_append, List.length_cons]; omega
end Go.Proofs.Ytcipmipadjenaaa
