/- Chapter 8: the document's Load. -/
import Derived.Test.YtkabaoigablphaaR2
import Derived.Test.YtkabaoigablphaaV7
namespace Go.Proofs.Ytkabaoigablphaa
open Go Go.HL
set_option maxRecDepth 10000
set_option maxHeartbeats 3200000

abbrev Mk := Int × Nt
abbrev eM : Mk → List Value := fun m => [.int .i64 m.1, .int .i64 m.2.1, .int .i64 m.2.2.1, .int .i64 m.2.2.2.1, .int .i64 m.2.2.2.2]
theorem eMlen : ∀ x, (eM x).length = 5 := fun _ => rfl
theorem ok79 : ElemOK Try.prog 79 83 5 := ElemOK.of (by kernel_rfl)
abbrev ownM (s : Sl) (l : List Mk) : Chunk := own 83 5 s (l.flatMap eM)
/-- The document's table. -/
def rtab (t : Nat) (L : List Mk) : Chunk := fun H => ∃ s : Sl, Holds [blk t (.cells #[.slice s.p s.n s.c] 81 (0, 0)), ownM s L] H
def flatT (T : Tb) : List Mk := T.flatMap fun p => p.2.map fun x => (p.1, x)
theorem flatT_snoc (D : Tb) (p : Int) (N : List Nt) : flatT (D ++ [(p, N)]) = flatT D ++ N.map fun x => (p, x) := by simp [flatT]
section
variable {cs : List Chunk} {H : Heap} {K : Value → Heap → Prop}
theorem rtab_open {t : Nat} {L : List Mk} : Holds (rtab t L :: cs) H ↔ ∃ s : Sl, Holds (blk t (.cells #[.slice s.p s.n s.c] 81 (0, 0)) :: ownM s L :: cs) H := by
  constructor
  · intro h
    obtain ⟨s, h⟩ := Holds.ex.1 h
    exact ⟨s, Holds.flat.1 h⟩
  · rintro ⟨s, h⟩
    exact Holds.ex.2 ⟨s, Holds.flat.2 h⟩
theorem within39_spec {n m : Int} (k : K (.bool (inB n m)) H) : FnH Try.prog 39 #[.int .i64 n, .int .i64 m] H K := by
  apply logboomref8_within_fn
  unfold logboomref8_within_vc
  unfold inB at k
  refine br_intro (fun q => ?_) (fun q => ?_)
  · have q := of_decide_eq_true q
    rw [decide_eq_true (show 0 ≤ n from q), Bool.true_and] at k; exact k
  · have q := of_decide_eq_false q
    rw [decide_eq_false (show ¬ 0 ≤ n from q), Bool.false_and] at k; exact k
theorem nx3_good {s : ByteArray} (h : (readN (nb s)).2.2 = 0) : nx3 s = nx s := by unfold nx3; rw [if_pos h]
theorem nx3_le (s : ByteArray) : (nx3 s).size ≤ s.size := by
  unfold nx3
  split
  · rw [← nb_len, nb_nx, ← nb_len]; exact rest_le _
  · exact Nat.zero_le _
/-- Four numbers read by the document's reader. -/
theorem four_read (s : ByteArray) : let s1 := nx3 s; let s2 := nx3 s1; let s3 := nx3 s2; let s4 := nx3 s3
    ((((false || !decide ((readN (nb s)).2.2 = 0)) || !decide ((readN (nb s1)).2.2 = 0)) || !decide ((readN (nb s2)).2.2 = 0)) || !decide ((readN (nb s3)).2.2 = 0)) = !decide (ntGood (nb s)) ∧
    (ntGood (nb s) → nb s4 = rest4 (nb s) ∧ ntR (nb s) = ((readN (nb s)).1, (readN (nb s1)).1, (readN (nb s2)).1, (readN (nb s3)).1)) := by
  dsimp only
  have good : ∀ (a : (readN (nb s)).2.2 = 0), nb (nx3 s) = rest (nb s) := fun a => by rw [nx3_good a, nb_nx]
  have good2 : ∀ (_ : (readN (nb s)).2.2 = 0) (_ : (readN (nb (nx3 s))).2.2 = 0), nb (nx3 (nx3 s)) = rest (rest (nb s)) := fun a b => by rw [nx3_good b, nb_nx, good a]
  have good3 : ∀ (_ : (readN (nb s)).2.2 = 0) (_ : (readN (nb (nx3 s))).2.2 = 0) (_ : (readN (nb (nx3 (nx3 s)))).2.2 = 0), nb (nx3 (nx3 (nx3 s))) = rest (rest (rest (nb s))) := fun a b c => by rw [nx3_good c, nb_nx, good2 a b]
  constructor
  · rw [Bool.eq_iff_iff]
    simp only [Bool.false_or, Bool.or_eq_true, Bool.not_eq_true', decide_eq_false_iff_not]
    show _ ↔ ¬ ((readN (nb s)).2.2 = 0 ∧ (readN (rest (nb s))).2.2 = 0 ∧ (readN (rest (rest (nb s)))).2.2 = 0 ∧ (readN (rest (rest (rest (nb s))))).2.2 = 0)
    by_cases a : (readN (nb s)).2.2 = 0
    · have g1 := good a
      by_cases b : (readN (nb (nx3 s))).2.2 = 0
      · have g2 := good2 a b
        by_cases c : (readN (nb (nx3 (nx3 s)))).2.2 = 0
        · have g3 := good3 a b c
          rw [← g3, ← g2, ← g1]
          simp [a, b, c]
        · rw [← g2, ← g1]
          simp [a, b, c]
      · rw [← g1]
        simp [a, b]
    · simp [a]
  · rintro ⟨a, b, c, d⟩
    have b' : (readN (nb (nx3 s))).2.2 = 0 := by rw [good a]; exact b
    have c' : (readN (nb (nx3 (nx3 s)))).2.2 = 0 := by rw [good2 a b']; exact c
    have d' : (readN (nb (nx3 (nx3 (nx3 s))))).2.2 = 0 := by rw [good3 a b' c']; exact d
    exact ⟨by rw [nx3_good d', nb_nx, good3 a b' c']; rfl, by rw [good a, good2 a b', good3 a b' c']; rfl⟩
theorem rload_spec {s : ByteArray} (h : Holds cs H) (hs : s.size ≤ 100000000)
    (k5 : s.size < 4 → K (.tuple #[.pointer none, .int .i64 5]) H)
    (k6 : ¬ s.size < 4 → ¬ sumN ((nb s).drop 4) = (nb s).take 4 → ∀ H', Holds cs H' → K (.tuple #[.pointer none, .int .i64 6]) H')
    (k4 : ¬ s.size < 4 → sumN ((nb s).drop 4) = (nb s).take 4 → loadM ((nb s).drop 4) = none → ∀ H', Holds cs H' → K (.tuple #[.pointer none, .int .i64 4]) H')
    (k : ∀ T, ¬ s.size < 4 → sumN ((nb s).drop 4) = (nb s).take 4 → loadM ((nb s).drop 4) = some T → ∀ t H', Holds (rtab t (flatT T) :: cs) H' → K (.tuple #[.pointer (some ⟨t, 0, none⟩), .int .i64 0]) H') :
    FnH Try.prog 20 #[.string s] H K := by
  apply logboomref8_Load_fn
  unfold logboomref8_Load_vc
  refine br_intro (fun q => k5 (by have := of_decide_eq_true q; omega)) (fun q => ?_)
  have q : ¬ s.size < 4 := by have := of_decide_eq_false q; omega
  have en : nb (s.extract (Int.toNat 4) (Int.toNat (s.size : Int))) = (nb s).drop 4 := by
    rw [nb_extract, List.take_of_length_le (by rw [nb_len]; omega)]; rfl
  have hsz : (s.extract (Int.toNat 4) (Int.toNat (s.size : Int))).size ≤ 100000000 := by rw [← nb_len, en, List.length_drop, nb_len]; omega
  refine ⟨by decide, by omega, by decide, by omega, rcrc_spec (by omega) ⟨_, rfl, HL.Sub.refl _, four_spec (crcN_lt _ (nb_byte _)) fun H2 s2 => ⟨_, rfl, s2, ?_⟩⟩⟩
  have hc : Holds cs H2 := Holds.up s2 h
  rw [← sumN_four, en, str_eq]
  have e0 : nb (s.extract (Int.toNat 0) (Int.toNat 4)) = (nb s).take 4 := by rw [nb_extract]; rfl
  refine br_intro (fun q2 => k6 q ?_ H2 hc) (fun q2 => ?_)
  · have q2 : ¬ strN (sumN ((nb s).drop 4)) = s.extract (Int.toNat 0) (Int.toNat 4) := by simpa using q2
    intro e
    exact q2 (nb_inj (by rw [nb_str (sumN_bytes _), e0]; exact e))
  have q2 : strN (sumN ((nb s).drop 4)) = s.extract (Int.toNat 0) (Int.toNat 4) := by simpa using q2
  have q2 : sumN ((nb s).drop 4) = (nb s).take 4 := by rw [← nb_str (sumN_bytes ((nb s).drop 4)), q2, e0]
  have k4 := k4 q q2
  have k := fun T => k T q q2
  rw [← en] at k k4
  generalize s.extract (Int.toNat 4) (Int.toNat (s.size : Int)) = s0 at *
  clear k5 k6 e0 en q2 h s2
  refine ⟨by decide, by omega, hc.new fun t H3 h3 => ?_⟩
  have h3 : Holds (rtab t [] :: cs) H3 := rtab_open.2 ⟨⟨none, 0, 0⟩, (h3.own_nil 83 5).swap⟩
  refine rread3_lent h3 fun H5 h5 => ?_
  have hin := read_in (nb s0) (nb_byte s0)
  have hsz1 : (nx3 s0).size ≤ 100000000 := Nat.le_trans (nx3_le s0) hsz
  have hlM : loadM (nb s0) = if (readN (nb s0)).2.2 = 0 ∧ 0 ≤ (readN (nb s0)).1 then endR (tabR (readN (nb s0)).1.toNat 0 (rest (nb s0))) else none := rfl
  by_cases g : ¬ ((readN (nb s0)).2.2 = 0 ∧ 0 ≤ (readN (nb s0)).1)
  · rw [if_neg g] at hlM
    have hle : (readN (nb s0)).1 ≤ 0 := by
      by_cases g1 : (readN (nb s0)).2.2 = 0
      · have g2 : ¬ 0 ≤ (readN (nb s0)).1 := fun z => g ⟨g1, z⟩
        omega
      · rw [read_bad g1]; exact Int.le_refl _
    refine ⟨fun _ i s bad H => Holds (rtab t [] :: cs) H ∧ i = 0 ∧ bad = !decide ((readN (nb s0)).2.2 = 0), fun _ _ _ _ _ => 0, ⟨h5, rfl, by simp⟩, ?_⟩
    rintro last i s bad H7 ⟨h7, rfl, rfl⟩
    refine br_f (decide_eq_false (by omega)) ?_
    by_cases g1 : (readN (nb s0)).2.2 = 0
    · have g2 : ¬ 0 ≤ (readN (nb s0)).1 := fun z => g ⟨g1, z⟩
      exact br_f (by simp [g1]) (br_intro (fun _ => k4 hlM H7 h7.tail) (fun _ => br_t (decide_eq_true (by omega)) (k4 hlM H7 h7.tail)))
    · exact br_t (by simp [g1]) (k4 hlM H7 h7.tail)
  have g := Decidable.not_not.1 g
  have en0 : nb (nx3 s0) = rest (nb s0) := by rw [nx3_good g.1, nb_nx]
  rw [if_pos g, ← en0] at hlM
  obtain ⟨g1, g2⟩ := g
  have g3 : (false || !decide ((readN (nb s0)).2.2 = 0)) = false := by simp [g1]
  rw [g3]
  generalize (readN (nb s0)).1 = m0 at *
  generalize nx3 s0 = s1 at *
  rw [hlM] at k k4
  clear hlM g1 g3 en0 hsz
  refine ⟨fun last i s bad H => 0 ≤ i ∧ s.size ≤ 100000000 ∧ ∃ L, Holds (rtab t L :: cs) H ∧ ((bad = true ∧ endR (tabR m0.toNat 0 (nb s1)) = none) ∨ (bad = false ∧ i ≤ m0 ∧ 0 ≤ last ∧ ∃ D, L = flatT D ∧ L.length * 4 + s.size ≤ 100000000 ∧ endR (tabR m0.toNat 0 (nb s1)) = endR ((tabR (m0 - i).toNat last (nb s)).map fun p => (D ++ p.1, p.2)))), fun _ i _ _ _ => (m0 - i).toNat,
    ⟨Int.le_refl _, hsz1, [], h5, .inr ⟨rfl, g2, Int.le_refl _, [], rfl, by simp; omega, ?_⟩⟩, ?_⟩
  · rw [Int.sub_zero]
    cases tabR m0.toNat 0 (nb s1) <;> rfl
  rintro last i s bad H7 ⟨i0, hs, L, h7, hcase⟩
  have hin2 := hin.2
  have exit : i ≥ m0 ∨ bad = true → br bad (K (.tuple #[.pointer none, .int .i64 4]) H7) (br (!(s.toList == (⟨#[]⟩ : ByteArray).toList)) (K (.tuple #[.pointer none, .int .i64 4]) H7) (br (decide (m0 < 0)) (K (.tuple #[.pointer none, .int .i64 4]) H7) (K (.tuple #[.pointer (some ⟨t, 0, none⟩), .int .i64 0]) H7))) := fun he => by
    rcases hcase with ⟨rfl, hn⟩ | ⟨rfl, i1, hl, D, rfl, -, hR⟩
    · exact br_t rfl (k4 hn H7 h7.tail)
    · have e : (m0 - i).toNat = 0 := by rcases he with z | z; omega; cases z
      rw [e] at hR
      have hR : endR (tabR m0.toNat 0 (nb s1)) = endR (some (D ++ [], nb s)) := hR
      rw [List.append_nil] at hR
      rw [str_eq]
      refine br_f rfl (br_intro (fun p => k4 ?_ H7 h7.tail) (fun p => br_f (decide_eq_false (by omega)) (k D ?_ t H7 h7)))
      · have p : ¬ s = ⟨#[]⟩ := by simpa using p
        cases e : nb s with
        | nil => exact absurd (nb_inj (by rw [e]; rfl)) p
        | cons a l => rw [hR, e]; rfl
      · have p : s = ⟨#[]⟩ := by simpa using p
        subst p
        exact hR
  refine br_intro (fun c => br_intro (fun cb => ?_) (fun cb => exit (.inr (by simpa using cb)))) (fun c => exit (.inl (by have := of_decide_eq_false c; omega)))
  clear exit
  have c := of_decide_eq_true c
  have cb : bad = false := by simpa using cb
  subst cb
  obtain ⟨-, i1, hl, D, rfl, hLs, hR⟩ := hcase.resolve_left (fun z => by cases z.1)
  clear hcase
  have em : (m0 - i).toNat = (m0 - (i + 1)).toNat + 1 := by omega
  rw [em, tabR_succ] at hR
  refine rread3_lent h7 fun H8 h8 => rread3_lent h8 fun H9 h9 => ?_
  have hp := read_in (nb s) (nb_byte s)
  have hp2 := (read_in (nb (nx3 s)) (nb_byte _)).2
  have hs2 : (nx3 (nx3 s)).size ≤ s.size := Nat.le_trans (nx3_le _) (nx3_le _)
  have badK : ¬ keyOk last (nb s) → K (.tuple #[.pointer none, .int .i64 4]) H9 := fun z => by
    rw [if_neg z] at hR
    exact k4 hR H9 h9.tail
  by_cases gk : ¬ keyOk last (nb s)
  · refine br_intro (fun _ => badK gk) (fun p => br_intro (fun _ => badK gk) (fun p2 => br_intro (fun _ => badK gk) (fun p3 => absurd ?_ gk)))
    have p := of_decide_eq_false p
    have p2 := of_decide_eq_false p2
    have p3 := of_decide_eq_false p3
    have a : (readN (nb s)).2.2 = 0 := Decidable.byContradiction fun e => by have := read_bad e; omega
    have b : (readN (nb (nx3 s))).2.2 = 0 := Decidable.byContradiction fun e => by have := read_bad e; omega
    have f1 : nb (nx3 s) = rest (nb s) := by rw [nx3_good a, nb_nx]
    rw [f1] at b p3
    exact ⟨a, b, by omega, by omega, by omega⟩
  have gk := Decidable.not_not.1 gk
  rw [if_pos gk] at hR
  obtain ⟨a, b, c1, c2, c3⟩ := gk
  have f1 : nb (nx3 s) = rest (nb s) := by rw [nx3_good a, nb_nx]
  rw [← f1] at b c3
  have f2 : nb (nx3 (nx3 s)) = rest (rest (nb s)) := by rw [nx3_good b, nb_nx, f1]
  rw [← f2, ← f1] at hR
  have ef : ((false || !decide ((readN (nb s)).2.2 = 0)) || !decide ((readN (nb (nx3 s))).2.2 = 0)) = false := by simp [a, b]
  rw [ef]
  clear ef f1 f2 a b badK
  generalize (readN (nb s)).1 = pid at *
  generalize (readN (nb (nx3 s))).1 = n at *
  generalize nx3 (nx3 s) = s5 at *
  refine br_f (decide_eq_false (by omega)) (br_f (decide_eq_false (by omega)) (br_f (decide_eq_false (by omega)) ?_))
  have hR : endR (tabR m0.toNat 0 (nb s1)) = endR ((match notesR n.toNat was0 (nb s5) with
      | none => none
      | some q => (tabR (m0 - (i + 1)).toNat pid q.2).map fun p : Tb × List Nat => ((pid, q.1) :: p.1, p.2)).map fun p : Tb × List Nat => (D ++ p.1, p.2)) := hR
  refine ⟨fun kx s6 b5 _ a5 b6 c6 d6 H => 0 ≤ kx ∧ kx ≤ n ∧ (0 ≤ b6 ∧ b6 ≤ 1000001 ∧ 0 ≤ c6 ∧ c6 ≤ 64) ∧ (kx = 0 → a5 = 0 ∧ b6 = 0 ∧ c6 = 0 ∧ d6 = -1) ∧ s6.size ≤ 100000000 ∧ ∃ N : List Nt, Holds (rtab t (flatT D ++ N.map fun x => (pid, x)) :: cs) H ∧ ((b5 = true ∧ notesR n.toNat was0 (nb s5) = none) ∨ (b5 = false ∧ ((flatT D).length + N.length) * 4 + s6.size ≤ 100000000 ∧ notesR n.toNat was0 (nb s5) = (notesR (n - kx).toNat (a5, b6, c6, d6) (nb s6)).map fun p => (N ++ p.1, p.2))), fun kx _ _ _ _ _ _ _ _ => (n - kx).toNat,
    ⟨Int.le_refl _, by omega, ⟨by decide, by decide, by decide, by decide⟩, fun _ => ⟨rfl, rfl, rfl, rfl⟩, by omega, [], by rw [List.map_nil, List.append_nil]; exact h9, .inr ⟨rfl, by simp; omega, ?_⟩⟩, ?_⟩
  · rw [Int.sub_zero]
    show _ = (notesR n.toNat was0 (nb s5)).map _
    cases notesR n.toNat was0 (nb s5) <;> rfl
  rintro kx s6 b5 p5 a5 b6 c6 d6 H11 ⟨x0, x1, ⟨y0, y1, y2, y3⟩, xz, hs6, N, h11, hc11⟩
  rw [wrap64_id (n := i + 1) (by omega) (by omega)]
  have none_R : notesR n.toNat was0 (nb s5) = none → endR (tabR m0.toNat 0 (nb s1)) = none := fun z => by rw [z] at hR; exact hR
  have out : (kx ≥ n ∨ b5 = true) → (0 ≤ i + 1 ∧ s6.size ≤ 100000000 ∧ ∃ L, Holds (rtab t L :: cs) H11 ∧ ((b5 = true ∧ endR (tabR m0.toNat 0 (nb s1)) = none) ∨ (b5 = false ∧ i + 1 ≤ m0 ∧ 0 ≤ pid ∧ ∃ D, L = flatT D ∧ L.length * 4 + s6.size ≤ 100000000 ∧ endR (tabR m0.toNat 0 (nb s1)) = endR ((tabR (m0 - (i + 1)).toNat pid (nb s6)).map fun p => (D ++ p.1, p.2))))) := fun he => by
    rcases hc11 with ⟨rfl, hn⟩ | ⟨rfl, hl6, hN⟩
    · exact ⟨by omega, hs6, _, h11, .inl ⟨rfl, none_R hn⟩⟩
    · have e : (n - kx).toNat = 0 := by rcases he with z | z; omega; cases z
      rw [e] at hN
      have hN : notesR n.toNat was0 (nb s5) = some (N ++ [], nb s6) := hN
      rw [List.append_nil] at hN
      rw [hN] at hR
      have hR : endR (tabR m0.toNat 0 (nb s1)) = endR (((tabR (m0 - (i + 1)).toNat pid (nb s6)).map fun p : Tb × List Nat => ((pid, N) :: p.1, p.2)).map fun p : Tb × List Nat => (D ++ p.1, p.2)) := hR
      refine ⟨by omega, hs6, _, h11, .inr ⟨rfl, by omega, by omega, D ++ [(pid, N)], (flatT_snoc _ _ _).symm, by rw [List.length_append, List.length_map]; exact hl6, ?_⟩⟩
      rw [hR]
      cases tabR (m0 - (i + 1)).toNat pid (nb s6) with
      | none => rfl
      | some p => simp
  refine br_intro (fun q3 => br_intro (fun q4 => ?_) (fun q4 => ⟨rfl, out (.inr (by simpa using q4)), by dsimp only; omega⟩)) (fun q3 => ⟨rfl, out (.inl (by have := of_decide_eq_false q3; omega)), by dsimp only; omega⟩)
  clear out
  have q3 := of_decide_eq_true q3
  rw [wrap64_id (n := kx + 1) (by omega) (by omega)]
  have q4 : b5 = false := by simpa using q4
  subst q4
  obtain ⟨-, hl6, hN⟩ := hc11.resolve_left (fun z => by cases z.1)
  clear hc11
  have em2 : (n - kx).toNat = (n - (kx + 1)).toNat + 1 := by omega
  rw [em2, notesR_succ] at hN
  obtain ⟨f3, f4⟩ := four_read s6
  refine rread3_lent h11 fun H13 h13 => rread3_lent h13 fun H15 h15 => rread3_lent h15 fun H17 h17 => rread3_lent h17 fun H19 h19 => ?_
  rw [f3]
  have hlen : ntGood (nb s6) → (nx3 (nx3 (nx3 (nx3 s6)))).size + 4 ≤ s6.size := fun g => by
    have hbs := nb_byte s6
    have t5 := congrArg List.length (f4 g).1
    obtain ⟨g1, g2, g3, g4⟩ := g
    have t1 := rest_lt hbs g1
    have t2 := rest_lt (rest_bytes hbs) g2
    have t3 := rest_lt (rest_bytes (rest_bytes hbs)) g3
    have t4 := rest_lt (rest_bytes (rest_bytes (rest_bytes hbs))) g4
    unfold rest4 at t5
    rw [nb_len] at t5 t1
    omega
  have hs10 : (nx3 (nx3 (nx3 (nx3 s6)))).size ≤ s6.size := Nat.le_trans (nx3_le _) (Nat.le_trans (nx3_le _) (Nat.le_trans (nx3_le _) (nx3_le _)))
  clear f3 h13 h15 h17
  generalize (readN (nb s6)).1 = x1' at *
  generalize (readN (nb (nx3 s6))).1 = x2 at *
  generalize (readN (nb (nx3 (nx3 s6)))).1 = x3 at *
  generalize (readN (nb (nx3 (nx3 (nx3 s6))))).1 = x4 at *
  generalize nx3 (nx3 (nx3 (nx3 s6))) = s10 at *
  have ex : (NtOk (a5, b6, c6, d6) (x1', x2, x3, x4) → False) → K (.tuple #[.pointer none, .int .i64 4]) H19 := fun z => by
    rw [if_neg (fun g => z (by rw [← (f4 g.1).2]; exact g.2))] at hN
    exact k4 (none_R hN) H19 h19.tail
  have inb : ∀ {u v : Int} {w : Bool}, inB u v = w → (w = true → 0 ≤ u ∧ u ≤ v) ∧ (w = false → ¬ (0 ≤ u ∧ u ≤ v)) := fun {u v w} e => by
    unfold inB at e
    subst e
    simp
  refine br_intro (fun p1 => ex fun z => ?_) (fun p1 => br_intro (fun p2 => ex fun z => ?_) (fun p2 => ?_))
  · have := of_decide_eq_true p1; have := z.1; dsimp only at this; omega
  · have := of_decide_eq_true p2; have := z.2.1; dsimp only at this; omega
  have p1 := of_decide_eq_false p1
  have p2 := of_decide_eq_false p2
  rw [wrap64_id (n := x3 - 1) (by omega) (by omega), wrap64_id (n := 1000000 - (x3 - 1)) (by omega) (by omega), wrap64_id (n := 1000000000 - (x3 - 1)) (by omega) (by omega), wrap64_id (n := b6 + c6) (by omega) (by omega)]
  refine within39_spec ⟨_, rfl, br_intro (fun p3 => ex fun z => ?_) (fun p3 => within39_spec ⟨_, rfl, br_intro (fun p4 => ex fun z => ?_) (fun p4 => within39_spec ⟨_, rfl, br_intro (fun p5 => ex fun z => ?_) (fun p5 => ?_)⟩)⟩)⟩
  · exact (inb (w := false) (by simpa using p3)).2 rfl z.2.2.1
  · have := (inb (w := false) (by simpa using p4)).2 rfl; have := z.2.2.2.1; dsimp only at this; omega
  · have := (inb (w := false) (by simpa using p5)).2 rfl; have := z.2.2.2.2.1; dsimp only at this; omega
  have p3 := (inb (w := true) (by simpa using p3)).1 rfl
  have p4 := (inb (w := true) (by simpa using p4)).1 rfl
  have p5 := (inb (w := true) (by simpa using p5)).1 rfl
  refine br_intro (fun p6 => ex fun z => ?_) (fun p6 => br_intro (fun p7 => ex fun z => ?_) (fun p7 => ?_))
  · have := of_decide_eq_true p6; have := z.2.2.2.2.2.1; dsimp only at this; omega
  · have := of_decide_eq_true p7; have := z.2.2.2.2.2.2.1; dsimp only at this; omega
  have p6 := of_decide_eq_false p6
  have p7 := of_decide_eq_false p7
  have app : ∀ X : Heap → Prop, (∀ H25, Holds (rtab t (flatT D ++ (N ++ [(x1', x2, x3, x4)]).map fun x => (pid, x)) :: cs) H25 → X H25) → ∃ l1 : Sl, cellH H19 ⟨t, 0, none⟩ = some (.slice l1.p l1.n l1.c) ∧ ∀ q9, H19 q9 = none → letH (Heap.upd H19 q9 (.cells #[.int .i64 pid, .int .i64 x1', .int .i64 x2, .int .i64 x3, .int .i64 x4] 83 (0, 0))) fun H23 => HL.Sub H19 H23 ∧
      runH Try.prog (Builtin.append_ #[79, 79] 79 #[.slice l1.p l1.n l1.c, .slice (some ⟨q9, 0, none⟩) 1 1]) H23 fun r13 H24 => ∃ l2 : Sl, r13 = .slice l2.p l2.n l2.c ∧ (∃ u, cellH H24 ⟨t, 0, none⟩ = some u) ∧ frozenH H24 ⟨t, 0, none⟩ = false ∧ letH (Heap.set H24 ⟨t, 0, none⟩ (.slice l2.p l2.n l2.c)) X := fun X kX => by
    obtain ⟨r, h20⟩ := rtab_open.1 h19
    have hrn := (h20.own 1 rfl).1
    rw [flat_len eMlen, List.length_append, List.length_map] at hrn
    refine ⟨r, h20.cell 0 rfl rfl, fun q hq => letH_intro fun H23 g => ?_⟩
    subst g
    refine ⟨HL.Sub.new hq _, ?_⟩
    have hpu := Holds.push ok79 (ty := 79) (T := 83) h20.swap (xs := eM (pid, (x1', x2, x3, x4))) (m := 1) rfl rfl (by omega) (K := fun r13 H24 => ∃ l2 : Sl, r13 = .slice l2.p l2.n l2.c ∧ (∃ u, cellH H24 ⟨t, 0, none⟩ = some u) ∧ frozenH H24 ⟨t, 0, none⟩ = false ∧ letH (Heap.set H24 ⟨t, 0, none⟩ (.slice l2.p l2.n l2.c)) X) (fun l2 H24 h24 n24 => ⟨l2, rfl, Holds.store h24.swap 0 rfl (by simp) fun H25 h25 => kX H25 (rtab_open.2 ⟨l2, ?_⟩)⟩) q hq
    · exact hpu
    · have e : (flatT D ++ (N ++ [(x1', x2, x3, x4)]).map fun x => (pid, x)).flatMap eM = (flatT D ++ N.map fun x => (pid, x)).flatMap eM ++ eM (pid, (x1', x2, x3, x4)) := by simp
      show Holds (_ :: own 83 5 l2 ((flatT D ++ (N ++ [(x1', x2, x3, x4)]).map fun x => (pid, x)).flatMap eM) :: cs) H25
      rw [e]; exact h25
  have nextI : NtOk (a5, b6, c6, d6) (x1', x2, x3, x4) → ∀ H25, Holds (rtab t (flatT D ++ (N ++ [(x1', x2, x3, x4)]).map fun x => (pid, x)) :: cs) H25 → (0 ≤ kx + 1 ∧ kx + 1 ≤ n ∧ (0 ≤ x2 ∧ x2 ≤ 1000001 ∧ 0 ≤ x3 ∧ x3 ≤ 64) ∧ (kx + 1 = 0 → x1' = 0 ∧ x2 = 0 ∧ x3 = 0 ∧ x4 = -1) ∧ s10.size ≤ 100000000 ∧ ∃ N : List Nt, Holds (rtab t (flatT D ++ N.map fun x => (pid, x)) :: cs) H25 ∧ (((!decide (ntGood (nb s6))) = true ∧ notesR n.toNat was0 (nb s5) = none) ∨ ((!decide (ntGood (nb s6))) = false ∧ ((flatT D).length + N.length) * 4 + s10.size ≤ 100000000 ∧ notesR n.toNat was0 (nb s5) = (notesR (n - (kx + 1)).toNat (x1', x2, x3, x4) (nb s10)).map fun p => (N ++ p.1, p.2)))) := fun z H25 h25 => by
    refine ⟨by omega, by omega, ⟨p4.1, by omega, by omega, by omega⟩, fun e => by omega, by omega, _, h25, ?_⟩
    by_cases gd : ntGood (nb s6)
    · have hl := hlen gd
      refine .inr ⟨by simp [gd], by rw [List.length_append, List.length_singleton]; omega, ?_⟩
      rw [if_pos ⟨gd, by rw [(f4 gd).2]; exact z⟩, (f4 gd).2, ← (f4 gd).1] at hN
      rw [hN]
      cases notesR (n - (kx + 1)).toNat (x1', x2, x3, x4) (nb s10) with
      | none => rfl
      | some p => simp
    · rw [if_neg (fun g => gd g.1)] at hN
      exact .inl ⟨by simp [gd], hN⟩
  refine br_intro (fun p8 => br_intro (fun p9 => br_intro (fun p10 => ex fun z => ?_) (fun p10 => ?_)) (fun p9 => ?_)) (fun p8 => ?_)
  · have := of_decide_eq_true p10; have := z.2.2.2.2.2.2.2 (by simpa using p9); dsimp only at this; omega
  · have p10 := of_decide_eq_false p10
    have z : NtOk (a5, b6, c6, d6) (x1', x2, x3, x4) := ⟨by dsimp only; omega, by dsimp only; omega, p3, by dsimp only; omega, by dsimp only; omega, by dsimp only; omega, by dsimp only; omega, fun _ => by dsimp only; omega⟩
    exact app _ fun H25 h25 => ⟨rfl, nextI z H25 h25, by dsimp only; omega⟩
  · have p9 : ¬ x1' = a5 := by simpa using p9
    have z : NtOk (a5, b6, c6, d6) (x1', x2, x3, x4) := ⟨by dsimp only; omega, by dsimp only; omega, p3, by dsimp only; omega, by dsimp only; omega, by dsimp only; omega, by dsimp only; omega, fun e => absurd e p9⟩
    exact app _ fun H25 h25 => ⟨rfl, nextI z H25 h25, by dsimp only; omega⟩
  · have p8 := of_decide_eq_false p8
    obtain ⟨w1, w2, w3, w4⟩ := xz (by omega)
    have z : NtOk (a5, b6, c6, d6) (x1', x2, x3, x4) := ⟨by dsimp only; omega, by dsimp only; omega, p3, by dsimp only; omega, by dsimp only; omega, by dsimp only; omega, by dsimp only; omega, fun _ => by dsimp only; omega⟩
    exact app _ fun H25 h25 => ⟨rfl, nextI z H25 h25, by dsimp only; omega⟩
end
end Go.Proofs.Ytkabaoigablphaa
