/- Chapter 7: the document's Read. -/
import Derived.Test.YtdgmifbcbmndgaaGreatDoorE5
namespace Go.Proofs.YtdgmifbcbmndgaaGreatDoor
open Go Go.HL
set_option maxHeartbeats 1600000
set_option maxRecDepth 10000

def lastT (D : List En) : Int := (D.getLast?.map Prod.fst).getD (-1)
def lastI (D : List En) : Int := (D.getLast?.map fun e => e.2.1).getD (-1)
theorem nx3_ok {s : ByteArray} (h : (readN (nb s)).2.2 = 0) : nb (nx3 s) = rest (nb s) := by unfold nx3; rw [if_pos h, nb_nx]
section
variable {cs : List Chunk} {H : Heap} {K : Value → Heap → Prop}
theorem rread7_spec {s : ByteArray} (h : HL.Holds cs H) (hsz : s.size ≤ 268435456) (k0 : ∀ H', readC s ≠ 0 → HL.Holds cs H' → K (.tuple #[.slice none 0 0, .int .i64 (readC s)]) H') (k1 : ∀ (r : Sl) H', readC s = 0 → HL.Holds (ownE r (readL s) :: cs) H' → K (.tuple #[.slice r.p r.n r.c, .int .i64 0]) H') :
    FnH Tryz.prog 29 #[.string s] H K := by
  apply logboomref7_Read_fn
  unfold logboomref7_Read_vc
  have bad : ∀ e : Int, readC s = e → e ≠ 0 → ∀ H', HL.Holds cs H' → K (.tuple #[.slice none 0 0, .int .i64 e]) H' := fun e he hne H' h' => by
    have := k0 H' (by rw [he]; exact hne) h'
    rw [he] at this; exact this
  refine br_intro (fun q => ?_) (fun q => ?_)
  · have q := of_decide_eq_true q
    exact bad 5 (by unfold readC; rw [if_pos (by omega)]) (by decide) H h
  have q := of_decide_eq_false q
  have hx : (s.extract 4 s.size).size ≤ s.size := by rw [ByteArray.size_extract]; omega
  have eS : s.extract (Int.toNat 4) (Int.toNat (s.size : Nat)) = s.extract 4 s.size := rfl
  rw [eS]
  refine ⟨by decide, by omega, by decide, by omega, rcrc_spec (by omega) ⟨_, rfl, HL.Sub.refl _, four_spec (crcN_lt _ (nb_byte _)) fun H2 s2 => ⟨_, rfl, s2, ?_⟩⟩⟩
  have e4 : s.extract (Int.toNat 0) (Int.toNat 4) = s.extract 0 4 := rfl
  rw [e4, str_eq]
  refine br_intro (fun w => ?_) (fun w => ⟨by decide, by omega, ?_⟩)
  · have w : ¬ strN (fourN (crcN (nb (s.extract 4 s.size)))) = s.extract 0 4 := nd_t w
    exact bad 6 (by unfold readC; rw [if_neg (by omega), if_pos w]) (by decide) H2 (h.up s2)
  have w : strN (fourN (crcN (nb (s.extract 4 s.size)))) = s.extract 0 4 := nd_f w
  have hC : readC s = if (readE (nb (s.extract 4 s.size))).isSome then 0 else 4 := by unfold readC; rw [if_neg (by omega), if_neg (fun z => z w)]
  have hLs : readL s = (readE (nb (s.extract 4 s.size))).getD [] := rfl
  have no : ∀ H', readE (nb (s.extract 4 s.size)) = none → HL.Holds cs H' → K (.tuple #[.slice none 0 0, .int .i64 4]) H' := fun H' e h' => bad 4 (by rw [hC, e]; rfl) (by decide) H' h'
  have yes : ∀ (r : Sl) H' L, readE (nb (s.extract 4 s.size)) = some L → HL.Holds (ownE r L :: cs) H' → K (.tuple #[.slice r.p r.n r.c, .int .i64 0]) H' := fun r H' L e h' => k1 r H' (by rw [hC, e]; rfl) (by rw [hLs, e]; exact h')
  clear bad k0 k1 hC hLs w
  generalize s.extract 4 s.size = t at *
  refine rread3_lent (h.up s2) fun H4 h4 => ?_
  -- what is read must be
  have hR : (readN (nb t)).2.2 = 0 → 0 ≤ (readN (nb t)).1 → (readN (nb t)).1 ≤ 200 → readE (nb t) = endE (entsR (readN (nb t)).1.toNat (-1) (-1) (rest (nb t))) := fun a b c => by unfold readE; rw [if_pos ⟨a, b, c⟩]
  have hN : ¬ ((readN (nb t)).2.2 = 0 ∧ 0 ≤ (readN (nb t)).1 ∧ (readN (nb t)).1 ≤ 200) → readE (nb t) = none := fun a => by unfold readE; rw [if_neg a]
  refine ⟨fun l i v b H => 0 ≤ i ∧ i ≤ 201 ∧ (i ≤ (readN (nb t)).1 ∨ i = 0) ∧ ∃ D : List En, HL.Holds (ownE l D :: cs) H ∧ D.length = i.toNat ∧ (b = true → readE (nb t) = none) ∧
      (b = false → (readN (nb t)).2.2 = 0 ∧ (0 ≤ (readN (nb t)).1 → (readN (nb t)).1 ≤ 200 → readE (nb t) = endE ((entsR ((readN (nb t)).1.toNat - i.toNat) (lastT D) (lastI D) (nb v)).map fun p => (D ++ p.1, p.2)))), fun _ i _ _ _ => (201 - i).toNat, ⟨Int.le_refl _, by decide, .inr rfl, [], h4.own_nil 51 3, rfl, fun e => ?_, fun e => ?_⟩, ?_⟩
  · have : ¬ (readN (nb t)).2.2 = 0 := fun z => by rw [decide_eq_true z] at e; cases e
    exact hN fun z => this z.1
  · have z : (readN (nb t)).2.2 = 0 := Decidable.byContradiction fun z => by rw [decide_eq_false z] at e; cases e
    refine ⟨z, fun a b => ?_⟩
    rw [hR z a b, nx3_ok z]
    show _ = endE ((entsR ((readN (nb t)).1.toNat - 0) (-1) (-1) (rest (nb t))).map _)
    rw [Nat.sub_zero]
    cases entsR (readN (nb t)).1.toNat (-1) (-1) (rest (nb t)) <;> simp
  rintro l i v b H5 ⟨i0, i1, i2, D, h5, hD, hb1, hb2⟩
  have hDl := (h5.own 0 rfl).1
  rw [flat_len eElen] at hDl
  -- the end
  have fin : (b = false → 0 ≤ (readN (nb t)).1 → (readN (nb t)).1 ≤ 200 → (readN (nb t)).1.toNat - i.toNat = 0) → br b (K (.tuple #[.slice none 0 0, .int .i64 4]) H5) (br (!(v.toList == (⟨#[]⟩ : ByteArray).toList)) (K (.tuple #[.slice none 0 0, .int .i64 4]) H5)
      (br (decide ((readN (nb t)).1 < 0)) (K (.tuple #[.slice none 0 0, .int .i64 4]) H5) (br (decide ((readN (nb t)).1 > 200)) (K (.tuple #[.slice none 0 0, .int .i64 4]) H5) (K (.tuple #[.slice l.p l.n l.c, .int .i64 0]) H5)))) := fun hz => by
    rw [str_eq]
    refine br_intro (fun c1 => no H5 (hb1 c1) h5.tail) (fun c1 => ?_)
    obtain ⟨g1, g2⟩ := hb2 c1
    refine br_intro (fun c2 => no H5 ?_ h5.tail) (fun c2 => br_intro (fun c3 => no H5 (hN fun z => ?_) h5.tail) (fun c3 => br_intro (fun c4 => no H5 (hN fun z => ?_) h5.tail) (fun c4 => yes l H5 D ?_ h5)))
    · have c2 : ¬ v = ⟨#[]⟩ := nd_t c2
      by_cases z : 0 ≤ (readN (nb t)).1 ∧ (readN (nb t)).1 ≤ 200
      · rw [g2 z.1 z.2, hz c1 z.1 z.2]
        cases hv : nb v with
        | nil => exact absurd (nb_inj (s := v) (t := ⟨#[]⟩) (by rw [hv]; rfl)) c2
        | cons x l => rfl
      · exact hN fun z2 => z z2.2
    · have := of_decide_eq_true c3; omega
    · have := of_decide_eq_true c4; omega
    · have c2 : v = ⟨#[]⟩ := nd_f c2
      have c3 := of_decide_eq_false c3
      have c4 := of_decide_eq_false c4
      rw [g2 (by omega) (by omega), hz c1 (by omega) (by omega), c2]
      show endE (some (D ++ [], [])) = some D
      rw [List.append_nil]; rfl
  refine br_intro (fun c1 => ?_) (fun c1 => fin fun _ _ _ => ?_)
  rotate_left
  · have := of_decide_eq_false c1; omega
  have c1 := of_decide_eq_true c1
  refine br_intro (fun c2 => ?_) (fun c2 => fin fun _ _ _ => ?_)
  rotate_left
  · have := of_decide_eq_false c2; omega
  have c2 := of_decide_eq_true c2
  refine br_intro (fun c3 => ?_) (fun c3 => fin fun e => ?_)
  rotate_left
  · rw [e] at c3; cases c3
  have c3 : b = false := by cases b <;> simp_all
  subst c3
  obtain ⟨g1, g2⟩ := hb2 rfl
  refine rread3_lent h5 fun H7 h7 => rread3_lent h7 fun H9 h9 => ?_
  clear h7 h5 fin hb1 hb2
  -- a bad entry is none
  have stop : ¬ ((readN (nb v)).2.2 = 0 ∧ (readN (nb (nx3 v))).2.2 = 0 ∧ mayP (readN (nb v)).1 ∧ mayP (readN (nb (nx3 v))).1 ∧ lastT D < (readN (nb v)).1 ∧ lastI D < (readN (nb (nx3 v))).1) → readE (nb t) = none := fun hn => by
    by_cases z : 0 ≤ (readN (nb t)).1 ∧ (readN (nb t)).1 ≤ 200
    · obtain ⟨j, hj⟩ : ∃ j, (readN (nb t)).1.toNat - i.toNat = j + 1 := ⟨(readN (nb t)).1.toNat - i.toNat - 1, by omega⟩
      rw [g2 z.1 z.2, hj, entsR_succ, if_neg]
      · rfl
      · rintro ⟨z1, z2, z3, z4, z5, z6⟩
        rw [← nx3_ok z1] at z2 z4 z6
        exact hn ⟨z1, z2, z3, z4, z5, z6⟩
    · exact hN fun z2 => z z2.2
  have go : (readN (nb v)).2.2 = 0 → (readN (nb (nx3 v))).2.2 = 0 → mayP (readN (nb v)).1 → mayP (readN (nb (nx3 v))).1 → lastT D < (readN (nb v)).1 → lastI D < (readN (nb (nx3 v))).1 → 0 ≤ (readN (nb t)).1 → (readN (nb t)).1 ≤ 200 →
      readE (nb t) = endE ((entsR ((readN (nb t)).1.toNat - (i + 1).toNat) (readN (nb v)).1 (readN (nb (nx3 v))).1 (nb (nx3 (nx3 v)))).map fun p => ((D ++ [((readN (nb v)).1, (readN (nb (nx3 v))).1, (⟨#[]⟩ : ByteArray))]) ++ p.1, p.2)) := fun a1 a2 a3 a4 a5 a6 z1 z2 => by
    obtain ⟨j, hj⟩ : ∃ j, (readN (nb t)).1.toNat - i.toNat = j + 1 := ⟨(readN (nb t)).1.toNat - i.toNat - 1, by omega⟩
    have ea : nb (nx3 v) = rest (nb v) := nx3_ok a1
    have eb : nb (nx3 (nx3 v)) = rest (rest (nb v)) := by rw [nx3_ok a2, ea]
    have hP : entP (lastT D) (lastI D) (nb v) := ⟨a1, by rw [← ea]; exact a2, a3, by rw [← ea]; exact a4, a5, by rw [← ea]; exact a6⟩
    rw [g2 z1 z2, hj, entsR_succ, if_pos hP, eb, ea, show (readN (nb t)).1.toNat - (i + 1).toNat = j by omega]
    cases entsR j (readN (nb v)).1 (readN (rest (nb v))).1 (rest (rest (nb v))) <;> simp
  -- an entry more
  have push : ∀ (X : List SVal × List (Option (Nat × List Value)) × List Nat) (f : List Value), f = [.int .i64 (readN (nb v)).1, .int .i64 (readN (nb (nx3 v))).1, .string (⟨#[]⟩ : ByteArray)] → ((¬ ((readN (nb v)).2.2 = 0 ∧ (readN (nb (nx3 v))).2.2 = 0)) ∨ (mayP (readN (nb v)).1 ∧ mayP (readN (nb (nx3 v))).1 ∧ lastT D < (readN (nb v)).1 ∧ lastI D < (readN (nb (nx3 v))).1)) →
      ∀ q6 : Nat, H9 q6 = none → letH (Heap.upd H9 q6 (.cells f.toArray 51 (0, 0))) fun H10 => runH Tryz.prog (Builtin.append_ #[44, 44] 44 #[.slice l.p l.n l.c, .slice (some ⟨q6, 0, none⟩) 1 1]) H10 fun r6 H11 => ∃ l1 : Sl, r6 = .slice l1.p l1.n l1.c ∧ SelfEq X ∧
        (0 ≤ IntKind.wrap .i64 (i + 1) ∧ IntKind.wrap .i64 (i + 1) ≤ 201 ∧ (IntKind.wrap .i64 (i + 1) ≤ (readN (nb t)).1 ∨ IntKind.wrap .i64 (i + 1) = 0) ∧ ∃ D : List En, HL.Holds (ownE l1 D :: cs) H11 ∧ D.length = (IntKind.wrap .i64 (i + 1)).toNat ∧ (((false || !decide ((readN (nb v)).2.2 = 0)) || !decide ((readN (nb (nx3 v))).2.2 = 0)) = true → readE (nb t) = none) ∧
          (((false || !decide ((readN (nb v)).2.2 = 0)) || !decide ((readN (nb (nx3 v))).2.2 = 0)) = false → (readN (nb t)).2.2 = 0 ∧ (0 ≤ (readN (nb t)).1 → (readN (nb t)).1 ≤ 200 → readE (nb t) = endE ((entsR ((readN (nb t)).1.toNat - (IntKind.wrap .i64 (i + 1)).toNat) (lastT D) (lastI D) (nb (nx3 (nx3 v)))).map fun p => (D ++ p.1, p.2))))) ∧
        (201 - IntKind.wrap .i64 (i + 1)).toNat < (201 - i).toNat := fun X f hf ha => by
    subst hf
    refine Holds.push okEn h9 (xs := [.int .i64 (readN (nb v)).1, .int .i64 (readN (nb (nx3 v))).1, .string (⟨#[]⟩ : ByteArray)]) (m := 1) rfl rfl (by omega) fun l1 H11 h11 n11 => ⟨l1, rfl, rfl, ?_⟩
    rw [wrap64_id (n := i + 1) (by omega) (by omega)]
    refine ⟨⟨by omega, by omega, .inl (by omega), D ++ [((readN (nb v)).1, (readN (nb (nx3 v))).1, ⟨#[]⟩)], ?_, by simp; omega, fun e => stop fun z => ?_, fun e => ?_⟩, by omega⟩
    · have e : (D ++ [((readN (nb v)).1, (readN (nb (nx3 v))).1, (⟨#[]⟩ : ByteArray))]).flatMap eE = D.flatMap eE ++ [.int .i64 (readN (nb v)).1, .int .i64 (readN (nb (nx3 v))).1, .string (⟨#[]⟩ : ByteArray)] := by simp
      show HL.Holds (own 51 3 l1 ((D ++ [((readN (nb v)).1, (readN (nb (nx3 v))).1, (⟨#[]⟩ : ByteArray))]).flatMap eE) :: cs) H11
      rw [e]; exact h11
    · rw [z.1, z.2.1] at e; simp at e
    · have e1 : (readN (nb v)).2.2 = 0 := Decidable.byContradiction fun z => by rw [decide_eq_false z] at e; simp at e
      have e2 : (readN (nb (nx3 v))).2.2 = 0 := Decidable.byContradiction fun z => by rw [decide_eq_false z] at e; simp at e
      refine ⟨g1, fun z1 z2 => ?_⟩
      rcases ha with ha | ⟨a3, a4, a5, a6⟩
      · exact absurd ⟨e1, e2⟩ ha
      have := go e1 e2 a3 a4 a5 a6 z1 z2
      rw [this]
      have eT : lastT (D ++ [((readN (nb v)).1, (readN (nb (nx3 v))).1, (⟨#[]⟩ : ByteArray))]) = (readN (nb v)).1 := by unfold lastT; simp
      have eI : lastI (D ++ [((readN (nb v)).1, (readN (nb (nx3 v))).1, (⟨#[]⟩ : ByteArray))]) = (readN (nb (nx3 v))).1 := by unfold lastI; simp
      rw [eT, eI]
  have n9 : readE (nb t) = none → K (.tuple #[.slice none 0 0, .int .i64 4]) H9 := fun e => no H9 e h9.tail
  refine br_intro (fun d1 => n9 (stop fun z => ?_)) (fun d1 => br_intro (fun d2 => n9 (stop fun z => ?_)) (fun d2 => br_intro (fun d3 => n9 (stop fun z => ?_)) (fun d3 => br_intro (fun d4 => n9 (stop fun z => ?_)) (fun d4 => br_intro (fun d5 => ?_) (fun d5 => ?_)))))
  · have := of_decide_eq_true d1; omega
  · have := of_decide_eq_true d2; omega
  · have := of_decide_eq_true d3; omega
  · have := of_decide_eq_true d4; omega
  · have d1 := of_decide_eq_false d1
    have d2 := of_decide_eq_false d2
    have d3 := of_decide_eq_false d3
    have d4 := of_decide_eq_false d4
    have d5 := of_decide_eq_true d5
    have hR9 : Recs eE H9 l D := Own.recs eElen (by decide) (h9.own 0 rfl) (by omega)
    obtain ⟨b1, o1, y, y1, y2, y3⟩ := hR9.at_ eElen (by decide) (j := i - 1) (by omega) (by omega)
    have el : D.getLast? = some y := by rw [List.getLast?_eq_getElem?, ← y2]; congr 1; omega
    have eT : lastT D = y.1 := by unfold lastT; rw [el]; rfl
    have eI : lastI D = y.2.1 := by unfold lastI; rw [el]; rfl
    have ew : IntKind.wrap .i64 (i - 1) = i - 1 := wrap64_id (by omega) (by omega)
    rw [ew]
    refine ⟨b1, o1, y1, by omega, by omega, _, y3 0 _ rfl, br_intro (fun d6 => n9 (stop fun z => ?_)) (fun d6 => ⟨b1, o1, y1, by omega, by omega, _, y3 1 _ rfl, br_intro (fun d7 => n9 (stop fun z => ?_)) (fun d7 => ?_)⟩)⟩
    · have := of_decide_eq_true d6; omega
    · have := of_decide_eq_true d7; omega
    · have d6 := of_decide_eq_false d6
      have d7 := of_decide_eq_false d7
      exact push _ _ rfl (.inr ⟨⟨by omega, by omega⟩, ⟨by omega, by omega⟩, by omega, by omega⟩)
  · have d1 := of_decide_eq_false d1
    have d2 := of_decide_eq_false d2
    have d3 := of_decide_eq_false d3
    have d4 := of_decide_eq_false d4
    have d5 := of_decide_eq_false d5
    have eD : D = [] := List.eq_nil_of_length_eq_zero (by omega)
    have eT : lastT D = -1 := by rw [eD]; rfl
    have eI : lastI D = -1 := by rw [eD]; rfl
    exact push _ _ rfl (.inr ⟨⟨by omega, by omega⟩, ⟨by omega, by omega⟩, by omega, by omega⟩)
end
end Go.Proofs.YtdgmifbcbmndgaaGreatDoor
