/- What Set of the document's answer does: the timer goes to its place in the order. -/
import Derived.Test.YtcipmipadjenaaaSb
namespace Go.Proofs.Ytcipmipadjenaaa
open Go.HL
set_option maxHeartbeats 400000

/-- At the place of the first that it comes before. -/
def insL (x : Int × Int) : List (Int × Int) → List (Int × Int)
  | [] => [x]
  | a :: l => if beforeB x a = true then x :: a :: l else a :: insL x l
theorem insL_any {x : Int × Int} : ∀ {l m : List (Int × Int)}, l.any (beforeB x) = true → insL x (l ++ m) = insL x l ++ m := by
  intro l
  induction l with
  | nil => intro m h; cases h
  | cons a l ih =>
    intro m h
    simp only [List.cons_append, insL]
    split
    · rfl
    · rename_i q
      simp only [List.any_cons, q, Bool.or_eq_true, Bool.false_eq_true, false_or] at h
      rw [ih h]; rfl
theorem insL_none {x : Int × Int} : ∀ {l m : List (Int × Int)}, l.any (beforeB x) = false → insL x (l ++ m) = l ++ insL x m := by
  intro l
  induction l with
  | nil => intro m h; rfl
  | cons a l ih =>
    intro m h
    simp only [List.any_cons, Bool.or_eq_false_iff] at h
    simp only [List.cons_append, insL]
    rw [if_neg (by rw [h.1]; simp), ih h.2]
theorem insL_len {x : Int × Int} : ∀ l : List (Int × Int), (insL x l).length = l.length + 1 := by
  intro l
  induction l with
  | nil => rfl
  | cons a l ih =>
    unfold insL
    split
    · rfl
    · simp [ih]
/-- What there is behind a part of the list. -/
def outL (x : Int × Int) (l : List (Int × Int)) : List (Int × Int) := if l.any (beforeB x) = true then insL x l else l
theorem outL_step {x a : Int × Int} {l : List (Int × Int)} : outL x (l ++ [a]) = (if beforeB x a = true ∧ (outL x l).length = l.length then outL x l ++ [x] else outL x l) ++ [a] := by
  unfold outL
  rw [List.any_append]
  by_cases h : l.any (beforeB x) = true
  · simp only [h, Bool.true_or, if_true]
    rw [if_neg (fun q => by rw [insL_len] at q; omega), insL_any h]
  · have h : l.any (beforeB x) = false := by simpa using h
    rw [h]
    by_cases q : beforeB x a = true
    · simp only [q, List.any_cons, List.any_nil, Bool.or_false, Bool.or_true, if_true, Bool.false_eq_true, if_false, true_and]
      rw [insL_none h]; simp [insL, q]
    · simp [q]
theorem outL_end {x : Int × Int} (l : List (Int × Int)) : (if (outL x l).length = l.length then outL x l ++ [x] else outL x l) = insL x l := by
  unfold outL
  by_cases h : l.any (beforeB x) = true
  · rw [h, if_pos rfl, if_neg (fun q => by rw [insL_len] at q; omega)]
  · have h : l.any (beforeB x) = false := by simpa using h
    rw [h]
    have := insL_none (m := []) h
    simp [insL] at this
    simp [this]
theorem outL_len {x : Int × Int} (l : List (Int × Int)) : (outL x l).length ≤ l.length + 1 := by
  unfold outL
  split
  · rw [insL_len]; omega
  · omega
theorem rset_spec {cs : List Chunk} {H : Heap} {rb : Nat} {A : List (Int × Int)} {key due : Int} {K : Value → Heap → Prop} (h : Holds (refT rb A :: cs) H) (hA : A.length ≤ 999999)
    (k0 : (due < 0 ∨ due > 1000000000) → K (.int .i64 1) H) (k1 : ¬ (due < 0 ∨ due > 1000000000) → (butL A key).length = A.length → 1000 ≤ A.length → ∀ H', Holds (refT rb A :: cs) H' → K (.int .i64 3) H')
    (k2 : ¬ (due < 0 ∨ due > 1000000000) → ¬ ((butL A key).length = A.length ∧ 1000 ≤ A.length) → ∀ H', Holds (refT rb (insL (key, due) (butL A key)) :: cs) H' → K (.int .i64 0) H') :
    FnH Try.prog 10 #[.pointer (some ⟨rb, 0, none⟩), .int .i64 key, .int .i64 due] H K := by
  apply logboomref2_Timers_Set_fn
  unfold logboomref2_Timers_Set_vc
  refine br_intro (fun q => k0 (.inl (of_decide_eq_true q))) (fun q => br_intro (fun q2 => k0 (.inr (of_decide_eq_true q2))) (fun q2 => ?_))
  have hd : ¬ (due < 0 ∨ due > 1000000000) := by have := of_decide_eq_false q; have := of_decide_eq_false q2; omega
  refine without_spec h (by omega) fun r H1 h1 n1 => ?_
  obtain ⟨s, c1, r1⟩ := refT_in (i := 1) h1 rfl
  have hl := r1.len
  have hle : (butL A key).length ≤ A.length := List.length_filter_le _ _
  have rl := own_recs (h1.own 0 rfl) (by omega)
  refine ⟨r, rfl, fun H2 => H2 = H1 ∧ ¬ ((butL A key).length = A.length ∧ 1000 ≤ A.length), ⟨s, c1, br_intro (fun q3 => ?_) (fun q3 => ⟨rfl, rfl, ?_⟩)⟩, ?_⟩
  · have q3 : (r.n : Int) = s.n := by simpa using q3
    refine br_intro (fun q4 => ?_) (fun q4 => ⟨rfl, rfl, ?_⟩)
    · have q4 := of_decide_eq_true q4
      exact k1 hd (by omega) (by omega) H1 h1.tail
    · have q4 := of_decide_eq_false q4
      omega
  · have q3 : ¬ (r.n : Int) = s.n := by simpa using q3
    omega
  rintro H2 ⟨rfl, hno⟩
  generalize hB : butL A key = B at *
  refine ⟨fun out i H3 => 0 ≤ i ∧ i ≤ B.length ∧ out.n = (outL (key, due) (B.take i.toNat)).length ∧ Holds (own 44 2 out ((outL (key, due) (B.take i.toNat)).flatMap e2) :: own 44 2 r (B.flatMap e2) :: refT rb A :: cs) H3, fun _ i _ => (B.length - i).toNat,
    ⟨Int.le_refl _, by omega, rfl, h1.own_nil _ _⟩, ?_⟩
  rintro out i H3 ⟨i0, i1, hn, h3⟩
  have rl := own_recs (h3.own 1 rfl) (by omega)
  have hlen := outL_len (x := (key, due)) (B.take i.toNat)
  have htl : (B.take i.toNat).length = i.toNat := by simp; omega
  refine br_intro (fun q => ?_) (fun q => ?_)
  · have q := of_decide_eq_true q
    obtain ⟨b, o, a, p1, p2, p3⟩ := rl.at_ e2len (by decide) i0 q
    have et := take_step i0 p2
    refine ⟨b, o, p1, i0, q, a.1, p3 0 _ rfl, a.2, p3 1 _ rfl, before_spec (a := (key, due)) ⟨_, rfl, HL.Sub.refl _, ?_⟩⟩
    -- the element goes behind what there is
    have last : ∀ (out' : Sl) H4 L, out'.n = L.length → L.length ≤ 1000000 → outL (key, due) (B.take (i + 1).toNat) = L ++ [a] → Holds (own 44 2 out' (L.flatMap e2) :: own 44 2 r (B.flatMap e2) :: refT rb A :: cs) H4 →
        ∃ q o, r.p = some ⟨q, o, none⟩ ∧ 0 ≤ i ∧ i < (r.n : Int) ∧ ∃ n1, cellH H4 ⟨q, o + Int.toNat i * 2, none⟩ = some (.int .i64 n1) ∧ ∃ n2, cellH H4 ⟨q, o + Int.toNat i * 2 + 1, none⟩ = some (.int .i64 n2) ∧
          ∀ q4 : Nat, H4 q4 = none → letH (Heap.upd H4 q4 (.cells #[.int .i64 n1, .int .i64 n2] 44 (0, 0))) fun H6 => runH Try.prog (Builtin.append_ #[27, 27] 27 #[.slice out'.p out'.n out'.c, .slice (some ⟨q4, 0, none⟩) 1 1]) H6 fun r4 H7 =>
            ∃ l4 : Sl, r4 = .slice l4.p l4.n l4.c ∧ SelfEq ([.v (.pointer (some ⟨rb, 0, none⟩)), .v (.slice r.p r.n r.c), .loc 0 0], [some (44, [.int .i64 key, .int .i64 due])], []) ∧
              (0 ≤ IntKind.wrap .i64 (i + 1) ∧ IntKind.wrap .i64 (i + 1) ≤ B.length ∧ l4.n = (outL (key, due) (B.take (IntKind.wrap .i64 (i + 1)).toNat)).length ∧ Holds (own 44 2 l4 ((outL (key, due) (B.take (IntKind.wrap .i64 (i + 1)).toNat)).flatMap e2) :: own 44 2 r (B.flatMap e2) :: refT rb A :: cs) H7) ∧
              (B.length - IntKind.wrap .i64 (i + 1)).toNat < (B.length - i).toNat := fun out' H4 L hn' hL ho h4 => by
      have rl4 := own_recs (h4.own 1 rfl) (by omega)
      obtain ⟨b, o, a', p1, p2', p3⟩ := rl4.at_ e2len (by decide) i0 q
      rw [p2] at p2'
      simp only [Option.some.injEq] at p2'
      subst p2'
      refine ⟨b, o, p1, i0, q, a.1, p3 0 _ rfl, a.2, p3 1 _ rfl, Holds.push ok27 h4 (m := 1) rfl rfl (by omega) fun r5 H5 h5 n5 => ⟨r5, rfl, rfl, ?_⟩⟩
      rw [wrap64_id (by omega) (by omega), ho, List.flatMap_append]
      exact ⟨⟨by omega, by omega, by rw [n5, hn', List.length_append]; rfl, h5⟩, by omega⟩
    refine br_intro (fun q2 => br_intro (fun q3 => ?_) (fun q3 => ?_)) (fun q2 => ?_)
    · have q3 : (out.n : Int) = i := by simpa using q3
      refine Holds.push ok27 h3 (m := 1) rfl rfl (by omega) fun r5 H5 h5 n5 => ⟨r5, rfl, ?_⟩
      refine last r5 H5 (outL (key, due) (B.take i.toNat) ++ [(key, due)]) (by rw [n5, hn, List.length_append]; rfl) (by simp; omega) ?_ (by rw [List.flatMap_append]; exact h5)
      rw [et, outL_step, if_pos ⟨q2, by omega⟩]
    · have q3 : ¬ (out.n : Int) = i := by simpa using q3
      refine last out H3 _ hn (by omega) ?_ h3
      rw [et, outL_step, if_neg (fun x => by omega)]
    · refine last out H3 _ hn (by omega) ?_ h3
      rw [et, outL_step, if_neg (fun x => by rw [q2] at x; simp at x)]
  · have q := of_decide_eq_false q
    have : B.take i.toNat = B := List.take_of_length_le (by omega)
    rw [this] at h3 hn hlen
    have oe := outL_end (x := (key, due)) B
    have rln := rl.len
    refine br_intro (fun q2 => ?_) (fun q2 => ?_)
    · have q2 : (out.n : Int) = r.n := by simpa using q2
      rw [if_pos (by omega)] at oe
      refine Holds.push ok27 h3 (m := 1) rfl rfl (by omega) fun r5 H5 h5 n5 => ⟨r5, rfl, ?_⟩
      have h6 : Holds (own 44 2 r5 ((insL (key, due) B).flatMap e2) :: own 44 2 r (B.flatMap e2) :: refT rb A :: cs) H5 := by rw [← oe, List.flatMap_append]; exact h5
      exact refT_put (h6.swap.tail) (by rw [insL_len]; omega) fun H7 h7 => k2 hd hno H7 h7
    · have q2 : ¬ (out.n : Int) = r.n := by simpa using q2
      rw [if_neg (by omega)] at oe
      rw [oe] at h3
      exact refT_put (h3.swap.tail) (by rw [insL_len]; omega) fun H7 h7 => k2 hd hno H7 h7
end Go.Proofs.Ytcipmipadjenaaa
