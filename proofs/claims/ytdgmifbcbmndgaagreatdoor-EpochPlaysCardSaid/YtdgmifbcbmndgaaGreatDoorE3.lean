/- Chapter 7: epochs: the program's functions: read, Open, All, Last, End. -/
import Derived.Test.YtdgmifbcbmndgaaGreatDoorE2
namespace Go.Proofs.YtdgmifbcbmndgaaGreatDoor
open Go Go.HL
set_option maxHeartbeats 1600000
set_option maxRecDepth 10000

/-- An entry at the front: can it be read, and may it stand behind another? -/
def entP (t i : Int) (l : List Nat) : Prop := (readN l).2.2 = 0 ∧ (readN (rest l)).2.2 = 0 ∧ mayP (readN l).1 ∧ mayP (readN (rest l)).1 ∧ t < (readN l).1 ∧ i < (readN (rest l)).1
instance (t i : Int) (l : List Nat) : Decidable (entP t i l) := by unfold entP; infer_instance
def entsR : Nat → Int → Int → List Nat → Option (List En × List Nat)
  | 0, _, _, l => some ([], l)
  | m + 1, t, i, l => if entP t i l then (entsR m (readN l).1 (readN (rest l)).1 (rest (rest l))).map fun p => (((readN l).1, (readN (rest l)).1, ⟨#[]⟩) :: p.1, p.2) else none
theorem entsR_succ (m : Nat) (t i : Int) (l : List Nat) : entsR (m + 1) t i l = if entP t i l then (entsR m (readN l).1 (readN (rest l)).1 (rest (rest l))).map fun p => (((readN l).1, (readN (rest l)).1, ⟨#[]⟩) :: p.1, p.2) else none := rfl
def endE : Option (List En × List Nat) → Option (List En)
  | some (L, []) => some L
  | _ => none
def readE (l : List Nat) : Option (List En) := if (readN l).2.2 = 0 ∧ 0 ≤ (readN l).1 ∧ (readN l).1 ≤ 200 then endE (entsR (readN l).1.toNat (-1) (-1) (rest l)) else none
def readC (s : ByteArray) : Int := if s.size < 4 then 5 else if strN (fourN (crcN (nb (s.extract 4 s.size)))) ≠ s.extract 0 4 then 6 else if (readE (nb (s.extract 4 s.size))).isSome then 0 else 4
def readL (s : ByteArray) : List En := (readE (nb (s.extract 4 s.size))).getD []
section
variable {cs : List Chunk} {H : Heap} {K : Value → Heap → Prop}
theorem next_spec {q1 q2 : Nat} {s : ByteArray} {ok : Bool} (h : HL.Holds (blk q1 (.cells #[.string s] 9 (0, 0)) :: blk q2 (.cells #[.bool ok] 4 (0, 0)) :: cs) H)
    (k : ∀ H', HL.Holds (blk q1 (.cells #[.string (nx s)] 9 (0, 0)) :: blk q2 (.cells #[.bool (ok && decide ((readN (nb s)).2.2 = 0))] 4 (0, 0)) :: cs) H' → K (.int .i64 (readN (nb s)).1) H') :
    FnH Tryz.prog 57 #[.pointer (some ⟨q1, 0, none⟩), .pointer (some ⟨q2, 0, none⟩)] H K := by
  apply epochs_Cache_read_1_fn
  unfold epochs_Cache_read_1_vc
  obtain ⟨k0, k1⟩ := read_k (nb s) (nb_byte s)
  rw [nb_len] at k1
  have hz : ∀ z : Int, (z == 0) = decide (z = 0) := fun z => by by_cases e : z = 0 <;> simp [e]
  refine ⟨s, h.cell 0 rfl rfl, readInt_spec ⟨_, _, _, rfl, ok, h.cell 1 rfl rfl, br_intro (fun q => ?_) (fun q => ?_)⟩⟩
  · subst q
    refine h.store 1 rfl (by simp) fun H2 h2 => ⟨s, h2.cell 0 rfl rfl, k0, k1, h2.store 0 rfl (by simp) fun H3 h3 => k H3 ?_⟩
    rw [hz] at h3
    exact h3
  · subst q
    refine h.store 1 rfl (by simp) fun H2 h2 => ⟨s, h2.cell 0 rfl rfl, k0, k1, h2.store 0 rfl (by simp) fun H3 h3 => k H3 ?_⟩
    exact h3
theorem cread_spec {c d : Nat} {n s : ByteArray} (h : HL.Holds (cch c d n [] :: cs) H) (hsz : s.size ≤ 268435456) (k0 : ∀ H', readC s ≠ 0 → HL.Holds cs H' → K (.int .i64 (readC s)) H') (k1 : ∀ H', readC s = 0 → HL.Holds (cch c d n (readL s) :: cs) H' → K (.int .i64 0) H') :
    FnH Tryz.prog 41 #[.pointer (some ⟨c, 0, none⟩), .string s] H K := by
  apply epochs_Cache_read_fn
  unfold epochs_Cache_read_vc
  have bad : ∀ e : Int, readC s = e → e ≠ 0 → ∀ H', HL.Holds cs H' → K (.int .i64 e) H' := fun e he hne H' h' => by
    have := k0 H' (by rw [he]; exact hne) h'
    rw [he] at this; exact this
  refine h.new fun q1 H1 h1 => ⟨s, h1.cell 0 rfl rfl, br_intro (fun q => ?_) (fun q => ?_)⟩
  · have q := of_decide_eq_true q
    exact bad 5 (by unfold readC; rw [if_pos (by omega)]) (by decide) H1 h1.tail.tail
  have q := of_decide_eq_false q
  have hx : (s.extract 4 s.size).size ≤ s.size := by rw [ByteArray.size_extract]; omega
  refine ⟨s, h1.cell 0 rfl rfl, by decide, by omega, s, h1.cell 0 rfl rfl, by decide, by omega, esum_spec (s := s.extract 4 s.size) (by omega) fun H2 s2 => ⟨_, rfl, s2, ?_⟩⟩
  have e4 : s.extract (Int.toNat 0) (Int.toNat 4) = s.extract 0 4 := rfl
  rw [e4, str_eq]
  refine br_intro (fun w => ?_) (fun w => ?_)
  · have w : ¬ strN (fourN (crcN (nb (s.extract 4 s.size)))) = s.extract 0 4 := by simpa using w
    exact bad 6 (by unfold readC; rw [if_neg (by omega), if_pos w]) (by decide) H2 (h1.tail.tail.up s2)
  have w : strN (fourN (crcN (nb (s.extract 4 s.size)))) = s.extract 0 4 := by simpa using w
  have hC : readC s = if (readE (nb (s.extract 4 s.size))).isSome then 0 else 4 := by unfold readC; rw [if_neg (by omega), if_neg (fun z => z w)]
  have hLs : readL s = (readE (nb (s.extract 4 s.size))).getD [] := rfl
  have no : ∀ H', readE (nb (s.extract 4 s.size)) = none → HL.Holds cs H' → K (.int .i64 4) H' := fun H' e h' => bad 4 (by rw [hC, e]; rfl) (by decide) H' h'
  have yes : ∀ H' L, readE (nb (s.extract 4 s.size)) = some L → HL.Holds (cch c d n L :: cs) H' → K (.int .i64 0) H' := fun H' L e h' => k1 H' (by rw [hC, e]; rfl) (by rw [hLs, e]; exact h')
  clear bad k0 k1 hC hLs w
  have h2 := h1.up s2
  refine ⟨s, h2.cell 0 rfl rfl, by decide, by omega, h2.store 0 rfl (by simp) fun H3 h3 => h3.new fun q2 H4 h4 => h4.store 0 rfl (by simp) fun H5 h5 => ?_⟩
  have h5 : HL.Holds (blk q2 (.cells #[.bool true] 4 (0, 0)) :: blk q1 (.cells #[.string (s.extract 4 s.size)] 9 (0, 0)) :: cch c d n [] :: cs) H5 := h5
  clear h1 h2 h3 h4 s2
  generalize s.extract 4 s.size = t at *
  have hnb := nb_len t
  have htb := nb_byte t
  refine next_spec h5.swap fun H6 h6 => ⟨_, rfl, ?_⟩
  unfold readE at no yes
  refine br_intro (fun u => ?_) (fun u => br_intro (fun u2 => ?_) (fun u2 => ?_))
  · have u := of_decide_eq_true u
    exact no H6 (by rw [if_neg (fun z => by omega)]) h6.tail.tail.tail
  · have u2 := of_decide_eq_true u2
    exact no H6 (by rw [if_neg (fun z => by omega)]) h6.tail.tail.tail
  have u := of_decide_eq_false u
  have u2 := of_decide_eq_false u2
  obtain ⟨m, hm⟩ := Int.eq_ofNat_of_zero_le (show 0 ≤ (readN (nb t)).1 by omega)
  have hm2 : m ≤ 200 := by omega
  -- all entries, from one on
  refine ⟨fun i x y z H => 0 ≤ i ∧ i ≤ (readN (nb t)).1 ∧ ∃ (D : List En) (v : ByteArray), HL.Holds (blk q1 (.cells #[.string v] 9 (0, 0)) :: blk q2 (.cells #[.bool (true && decide ((readN (nb t)).2.2 = 0))] 4 (0, 0)) :: cch c d n D :: cs) H ∧ D.length = i.toNat ∧
      ((readN (nb t)).2.2 = 0 → entsR m (-1) (-1) (rest (nb t)) = (entsR (m - i.toNat) x y (nb v)).map fun p => (D ++ p.1, p.2)) ∧ ((readN (nb t)).2.2 ≠ 0 → i = 0), fun i _ _ _ _ => ((readN (nb t)).1 - i).toNat, ⟨Int.le_refl _, by omega, [], nx t, h6, rfl, fun _ => ?_, fun _ => rfl⟩, ?_⟩
  · rw [nb_nx]
    show _ = (entsR (m - 0) (-1) (-1) (rest (nb t))).map _
    rw [Nat.sub_zero]
    cases entsR m (-1) (-1) (rest (nb t)) <;> simp
  rintro i x y z H7 ⟨i0, i1, D, v, h7, hD, hE, hbad⟩
  refine br_intro (fun a => ?_) (fun a => ?_)
  · have a := of_decide_eq_true a
    refine next_spec h7 fun H8 h8 => ⟨_, rfl, next_spec h8 fun H9 h9 => ⟨_, rfl, _, h9.cell 1 rfl rfl, ?_⟩⟩
    rw [nb_nx] at h9
    have hv : ∀ b ∈ nb v, b < 256 := nb_byte v
    rw [nb_nx]
    obtain ⟨j, hj⟩ : ∃ j, m - i.toNat = j + 1 := ⟨m - i.toNat - 1, by omega⟩
    rw [hj, entsR_succ] at hE
    have stop : ¬ ((readN (nb t)).2.2 = 0 ∧ entP x y (nb v)) → K (.int .i64 4) H9 := fun hn => by
      refine no H9 ?_ h9.tail.tail.tail
      by_cases e : (readN (nb t)).2.2 = 0
      · have hp : ¬ entP x y (nb v) := fun z => hn ⟨e, z⟩
        have hE := hE e
        rw [if_neg hp] at hE
        rw [if_pos ⟨e, by omega, by omega⟩, hm, Int.toNat_natCast, hE]; rfl
      · rw [if_neg (fun z => e z.1)]
    refine br_intro (fun b1 => stop fun z => ?_) (fun b1 => may_spec ⟨_, rfl, br_intro (fun b2 => stop fun z => ?_) (fun b2 => may_spec ⟨_, rfl, br_intro (fun b3 => stop fun z => ?_) (fun b3 => br_intro (fun b4 => stop fun z => ?_) (fun b4 => br_intro (fun b5 => stop fun z => ?_) (fun b5 => ?_)))⟩)⟩)
    · obtain ⟨z1, z2, z3, -⟩ := z
      rw [z1, z2, z3] at b1
      simp at b1
    · obtain ⟨z1, z2, z3, z4, -⟩ := z
      rw [decide_eq_true z4] at b2; cases b2
    · obtain ⟨z1, z2, z3, z4, z5, -⟩ := z
      rw [decide_eq_true z5] at b3; cases b3
    · obtain ⟨z1, z2, z3, z4, z5, z6, -⟩ := z
      have := of_decide_eq_true b4; omega
    · obtain ⟨z1, z2, z3, z4, z5, z6, z7⟩ := z
      have := of_decide_eq_true b5; omega
    have g1 : (readN (nb t)).2.2 = 0 ∧ (readN (nb v)).2.2 = 0 ∧ (readN (rest (nb v))).2.2 = 0 := by
      refine ⟨?_, ?_, ?_⟩
      all_goals
        refine Decidable.byContradiction fun e => ?_
        rw [decide_eq_false e] at b1
        simp at b1
    obtain ⟨g1, g2, g3⟩ := g1
    have hP : entP x y (nb v) := ⟨g2, g3, by simpa using b2, by simpa using b3, by have := of_decide_eq_false b4; omega, by have := of_decide_eq_false b5; omega⟩
    have hE := hE g1
    rw [if_pos hP] at hE
    rw [g1, g2, g3] at h9
    obtain ⟨sl, h10⟩ := cch_open.1 (h9.pull 2 rfl)
    refine ⟨sl, h10.cell 0 rfl rfl, ?_⟩
    have hDl := (h10.own 1 rfl).1
    rw [flat_len eElen] at hDl
    refine (h10.pull 1 rfl).newS fun q3 H12 s12 h12 => ⟨s12, ?_⟩
    have hx3 : CellsAt H12 (some ⟨q3, 0, none⟩) [.int .i64 (readN (nb v)).1, .int .i64 (readN (rest (nb v))).1, .string (⟨#[]⟩ : ByteArray)] := CellsAt.block (h12.get 0 rfl) fun i hi => by
      have hi : i < 3 := hi
      have : i = 0 ∨ i = 1 ∨ i = 2 := by omega
      rcases this with rfl | rfl | rfl <;> rfl
    refine Holds.append okEn okEn.under h12.swap hx3 rfl rfl (by omega) fun r H13 h13 n13 => ⟨r, rfl, ?_⟩
    refine h13.store 2 rfl (by simp) fun H14 h14 => ⟨rfl, ?_⟩
    rw [wrap64_id (n := i + 1) (by omega) (by omega)]
    refine ⟨⟨by omega, by omega, D ++ [((readN (nb v)).1, (readN (rest (nb v))).1, ⟨#[]⟩)], nx (nx v), ?_, by simp; omega, fun _ => ?_, fun e => absurd g1 e⟩, by dsimp only; omega⟩
    · rw [g1]
      have h14 : HL.Holds (ownE r (D ++ [((readN (nb v)).1, (readN (rest (nb v))).1, ⟨#[]⟩)]) :: blk q3 (.cells #[.int .i64 (readN (nb v)).1, .int .i64 (readN (rest (nb v))).1, .string (⟨#[]⟩ : ByteArray)] 51 (0, 0)) :: blk c (.cells #[.pointer (some ⟨d, 0, none⟩), .string n, .slice r.p r.n r.c] 65 (0, 0)) ::
          blk q1 (.cells #[.string (nx (nx v))] 9 (0, 0)) :: blk q2 (.cells #[.bool (true && decide ((0 : Int) = 0) && decide ((0 : Int) = 0) && decide ((0 : Int) = 0))] 4 (0, 0)) :: cs) H14 := by
        have e : (D ++ [((readN (nb v)).1, (readN (rest (nb v))).1, (⟨#[]⟩ : ByteArray))]).flatMap eE = D.flatMap eE ++ [.int .i64 (readN (nb v)).1, .int .i64 (readN (rest (nb v))).1, .string (⟨#[]⟩ : ByteArray)] := by simp
        show HL.Holds (own 51 3 r ((D ++ [((readN (nb v)).1, (readN (rest (nb v))).1, (⟨#[]⟩ : ByteArray))]).flatMap eE) :: _) H14
        rw [e]; exact h14
      have h15 := (h14.pull 1 rfl).tail
      have h16 := cch_open.2 ⟨r, h15.swap⟩
      exact h16.down 2
    · rw [hE, nb_nx, nb_nx]
      have : m - (i + 1).toNat = j := by omega
      rw [this]
      cases entsR j (readN (nb v)).1 (readN (rest (nb v))).1 (rest (rest (nb v))) <;> simp
  · have a := of_decide_eq_false a
    have hi : i = (readN (nb t)).1 := by omega
    have him : m - i.toNat = 0 := by omega
    refine ⟨_, h7.cell 1 rfl rfl, br_intro (fun b1 => ?_) (fun b1 => ⟨v, h7.cell 0 rfl rfl, ?_⟩)⟩
    · have e : ¬ (readN (nb t)).2.2 = 0 := by simpa using b1
      exact no H7 (by rw [if_neg (fun z => e z.1)]) h7.tail.tail.tail
    · have e : (readN (nb t)).2.2 = 0 := by simpa using b1
      have hE := hE e
      rw [him] at hE
      simp only [entsR, Option.map_some, List.append_nil] at hE
      rw [if_pos ⟨e, by omega, by omega⟩, hm, Int.toNat_natCast, hE] at no yes
      rw [str_eq]
      refine br_intro (fun b2 => no H7 ?_ h7.tail.tail.tail) (fun b2 => yes H7 D ?_ (h7.tail.tail))
      · have b2 : ¬ v = ⟨#[]⟩ := by simpa using b2
        cases hv : nb v with
        | nil => exact absurd (nb_inj (s := v) (t := ⟨#[]⟩) (by rw [hv]; rfl)) b2
        | cons x l => rfl
      · have b2 : v = ⟨#[]⟩ := by simpa using b2
        rw [b2]; rfl
end
end Go.Proofs.YtdgmifbcbmndgaaGreatDoor
