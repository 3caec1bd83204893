/- Chapter 1: the document's disk's crash. -/
import Derived.Test.YtldaflbdldepnaaDoorS7
namespace Go.Proofs.YtldaflbdldepnaaDoor
open Go Go.HL
set_option maxRecDepth 10000
set_option maxHeartbeats 1600000

theorem set_mid {α : Type} {D R : List α} {p v : α} {i : Nat} (h : D.length = i) : (D ++ p :: R).set i v = D ++ v :: R := by
  subst h
  rw [List.set_append_right _ _ (Nat.le_refl _), Nat.sub_self]; rfl
theorem get_mid {α : Type} {D R : List α} {p : α} {i : Nat} (h : D.length = i) : (D ++ p :: R)[i]? = some p := by
  subst h
  rw [List.getElem?_append_right (Nat.le_refl _), Nat.sub_self]; rfl
theorem headD_drop (L : List Int) (i : Nat) : (L.drop i).headD 0 = L.getD i 0 := by
  induction L generalizing i with
  | nil => simp
  | cons a l ih => cases i with
    | zero => rfl
    | succ i => exact ih i
section
variable {cs : List Chunk} {H : Heap} {r : Nat} {size : Int} {F : Fs} {K : Value → Heap → Prop}
theorem rcrash_spec {keep : Sl} {L : List Int} {c0 : Chunk} {i0 : Nat} (h : Holds (rdsk r size F :: cs) H) (g : Gives c0 fun A => Ints A keep L) (ei : cs[i0]? = some c0) (hw : ∀ n ∈ L, i64B n)
    (k : ∀ H', Holds (rdsk r size (crashF L F) :: cs) H' → K (.tuple #[]) H') : FnH Tryd.prog 45 #[.pointer (some ⟨r, 0, none⟩), .slice keep.p keep.n keep.c] H K := by
  apply logboomref1_Disk_Crash_fn
  unfold logboomref1_Disk_Crash_vc
  have hfew : F.length ≤ 256 := by
    obtain ⟨s, hB, -⟩ := rdsk_open.1 h
    exact hB.few
  refine ⟨fun kk ii H => ∃ D, Holds (rdsk r size (D ++ F.drop ii.toNat) :: cs) H ∧ (D.length : Int) = ii ∧ 0 ≤ kk ∧ kk ≤ ii ∧ ii ≤ F.length ∧ crashF L F = D ++ crashF (L.drop kk.toNat) (F.drop ii.toNat), fun _ ii _ => (F.length - ii).toNat,
    ⟨[], h, rfl, Int.le_refl _, Int.le_refl _, by omega, rfl⟩, ?_⟩
  rintro kk ii H1 ⟨D, h1, hD, k0, k1, i1, hc⟩
  obtain ⟨s, hB, hh⟩ := rdsk_open.1 h1
  have hR : Recs eF H1 s (D ++ F.drop ii.toNat) := rdsk_recs hB hh (i := 1) rfl
  have hl := hR.len
  rw [List.length_append, List.length_drop] at hl
  refine ⟨s, hh.cell 0 rfl rfl, br_intro (fun q => ?_) (fun q => ?_)⟩
  · have q := of_decide_eq_true q
    obtain ⟨i, rfl⟩ := Int.eq_ofNat_of_zero_le (show 0 ≤ ii by omega)
    have hi : ((i : Int)).toNat = i := by omega
    have hDl : D.length = i := by omega
    have hm : i < F.length := by omega
    have em : ((i : Int) + 1).toNat = i + 1 := by omega
    have ed := List.drop_eq_getElem_cons hm
    rw [hi, ed] at h1 hc hB hh hR
    generalize F[i] = p at *
    rw [wrap64_id (n := (i : Int) + 1) (by omega) (by omega), wrap64_id (n := kk + 1) (by omega) (by omega)]
    have z3 : (D ++ p :: F.drop (i + 1))[i]? = some (p.1, p.2) := get_mid hDl
    obtain ⟨q1, o1, c1, c2, c3, c4, c5⟩ := rcells hR z3
    have hlook := look_mid hB.sorted
    have eg : getF (D ++ p :: F.drop (i + 1)) p.1 = p.2 := by unfold getF; rw [hlook]; rfl
    have hsafe := hB.safe p (by simp)
    have huse := useF_le (F := D ++ p :: F.drop (i + 1)) (p := p) (by simp)
    have hB1 := hB.use
    have hB2 := hB.s1
    refine ⟨s, hh.cell 0 rfl rfl, q1, o1, c1, by omega, c2, _, c4, _, c5, ?_⟩
    rw [wrap64_id (n := (p.2.1.size : Int) - p.2.2) (by omega) (by omega)]
    rw [crashF_cons] at hc
    refine br_intro (fun q2 => ?_) (fun q2 => ?_)
    · rw [if_pos (by simpa using q2)] at hc
      refine ⟨rfl, ⟨D ++ [p], ?_, by simp; omega, k0, by omega, by omega, ?_⟩, by dsimp only; omega⟩
      · rw [em, List.append_assoc]; exact h1
      · rw [em, hc]; simp
    rw [if_neg (by simpa using q2), headD_drop, List.drop_drop] at hc
    have q2 : ¬ (p.2.1.size : Int) - p.2.2 = 0 := by simpa using q2
    rw [wrap64_id (n := (p.2.1.size : Int) - p.2.2 + 1) (by omega) (by omega)]
    have stepK : ∀ (x y : Int), x = L.getD kk.toNat 0 → i64B x → y = pickI x ((p.2.1.size : Int) - p.2.2 + 1) → ∀ {X : Heap → Prop}, (∀ H5, (∃ D2, Holds (rdsk r size (D2 ++ F.drop ((i : Int) + 1).toNat) :: cs) H5 ∧ (D2.length : Int) = (i : Int) + 1 ∧ 0 ≤ kk + 1 ∧ kk + 1 ≤ (i : Int) + 1 ∧ (i : Int) + 1 ≤ F.length ∧ crashF L F = D2 ++ crashF (L.drop (kk + 1).toNat) (F.drop ((i : Int) + 1).toNat)) → X H5) →
        ∃ s2 : ByteArray, cellH H1 ⟨q1, o1 + Int.toNat (i : Int) * 3 + 1, none⟩ = some (.string s2) ∧ ∃ n3 : Int, cellH H1 ⟨q1, o1 + Int.toNat (i : Int) * 3 + 2, none⟩ = some (.int .i64 n3) ∧
          (p.2.1.size : Int) - p.2.2 + 1 ≠ 0 ∧ 0 ≤ IntKind.wrap .i64 (n3 + y) ∧ IntKind.wrap .i64 (n3 + y) ≤ (s2.size : Int) ∧
          (∃ u, cellH H1 ⟨q1, o1 + Int.toNat (i : Int) * 3 + 1, none⟩ = some u) ∧ frozenH H1 ⟨q1, o1 + Int.toNat (i : Int) * 3 + 1, none⟩ = false ∧
          letH (Heap.set H1 ⟨q1, o1 + Int.toNat (i : Int) * 3 + 1, none⟩ (.string (s2.extract (Int.toNat 0) (Int.toNat (IntKind.wrap .i64 (n3 + y)))))) fun H2 =>
          ∃ s3 : ByteArray, cellH H2 ⟨q1, o1 + Int.toNat (i : Int) * 3 + 1, none⟩ = some (.string s3) ∧
          (∃ u, cellH H2 ⟨q1, o1 + Int.toNat (i : Int) * 3 + 2, none⟩ = some u) ∧ frozenH H2 ⟨q1, o1 + Int.toNat (i : Int) * 3 + 2, none⟩ = false ∧
          letH (Heap.set H2 ⟨q1, o1 + Int.toNat (i : Int) * 3 + 2, none⟩ (.int .i64 (s3.size : Int))) X := fun x y hx hxw hy X hX => by
      obtain ⟨y0, y1⟩ := pickI_in (c := x) (n := (p.2.1.size : Int) - p.2.2 + 1) (by omega) hxw.1 hxw.2
      rw [← hy] at y0 y1
      refine ⟨_, c4, _, c5, by omega, ?_⟩
      rw [wrap64_id (n := p.2.2 + y) (by omega) (by omega)]
      have es : (p.2.1.extract 0 (p.2.2 + y).toNat).size = (p.2.2 + y).toNat := ext_size (by omega)
      refine ⟨by omega, by omega, rset (j := 1) (g := (p.2.1.extract 0 (p.2.2 + y).toNat, p.2.2)) hh z3 c1 (by decide) rfl fun H' h' => ?_⟩
      rw [set_mid hDl] at h'
      have z5 : (D ++ (p.1, (p.2.1.extract 0 (p.2.2 + y).toNat, p.2.2)) :: F.drop (i + 1))[i]? = some (p.1, (p.2.1.extract 0 (p.2.2 + y).toNat, p.2.2)) := get_mid hDl
      have hlen : (D ++ (p.1, (p.2.1.extract 0 (p.2.2 + y).toNat, p.2.2)) :: F.drop (i + 1)).length ≤ 256 := by
        simp only [List.length_append, List.length_cons, List.length_drop]; omega
      have hR2 : Recs eF H' s (D ++ (p.1, (p.2.1.extract 0 (p.2.2 + y).toNat, p.2.2)) :: F.drop (i + 1)) := Own.recs eFlen (by decide) (h'.own 1 rfl) (by omega)
      obtain ⟨q2', o2, d1, d2, d3, d4, d5⟩ := rcells hR2 z5
      obtain ⟨rfl, rfl⟩ : q2' = q1 ∧ o2 = o1 := by rw [c1] at d1; simp only [Option.some.injEq, Addr.mk.injEq, and_true] at d1; exact ⟨d1.1.symm, d1.2.symm⟩
      refine ⟨_, d4, rset (j := 2) (g := (p.2.1.extract 0 (p.2.2 + y).toNat, ((p.2.1.extract 0 (p.2.2 + y).toNat).size : Int))) h' z5 c1 (by decide) rfl fun H2 h2 => ?_⟩
      rw [set_mid hDl, es] at h2
      have ey : (((p.2.2 + y).toNat : Nat) : Int) = p.2.2 + y := by omega
      rw [ey] at h2
      refine hX H2 ⟨D ++ [(p.1, (p.2.1.extract 0 (p.2.2 + y).toNat, p.2.2 + y))], ?_, by simp; omega, by omega, by omega, by omega, ?_⟩
      · rw [em, List.append_assoc]
        have hb : DkB size (insL ltB (D ++ p :: F.drop (i + 1)) p.1 (p.2.1.extract 0 (p.2.2 + y).toNat, p.2.2 + y)) := hB.ins (hB.names p (by simp)) (fun e => by rw [hlook] at e; cases e) (by rw [eg]; dsimp only; rw [es]; omega) (by dsimp only; rw [es]; omega)
        rw [ins_mid hB.sorted] at hb
        exact rdsk_open.2 ⟨s, hb, h2⟩
      · have e1 : (kk + 1).toNat = kk.toNat + 1 := by omega
        rw [em, e1, hc, hy, hx]; simp
    have hI : Ints H1 keep L := g.at_ h1 (i0 + 1) (by simpa using ei)
    have hkl := hI.len
    refine br_intro (fun q3 => ?_) (fun q3 => ?_)
    · have q3 := of_decide_eq_true q3
      obtain ⟨q5, o5, f1, f2, f3, f4⟩ := hI.at_ k0 q3
      have hmem : L.getD kk.toNat 0 ∈ L := by
        have : kk.toNat < L.length := by omega
        rw [List.getD_eq_getElem?_getD, List.getElem?_eq_getElem this]
        exact List.getElem_mem this
      have hx := hw _ hmem
      refine ⟨q5, o5, f1, f2, f3, _, f4, br_intro (fun q4 => ?_) (fun q4 => ?_)⟩
      · exact stepK _ _ rfl hx (by unfold pickI; rw [if_pos (of_decide_eq_true q4)]) fun H5 z => ⟨rfl, z, by dsimp only; omega⟩
      · exact stepK _ _ rfl hx (by unfold pickI; rw [if_neg (of_decide_eq_false q4)]) fun H5 z => ⟨rfl, z, by dsimp only; omega⟩
    · have q3 := of_decide_eq_false q3
      have e0 : 0 = L.getD kk.toNat 0 := by
        rw [List.getD_eq_getElem?_getD, List.getElem?_eq_none (by omega)]; rfl
      refine br_intro (fun q4 => by have := of_decide_eq_true q4; omega) (fun q4 => ?_)
      exact stepK 0 _ e0 ⟨by decide, by decide⟩ (by unfold pickI; rw [if_neg (by omega)]) fun H5 z => ⟨rfl, z, by dsimp only; omega⟩
  · have q := of_decide_eq_false q
    have e : F.drop ii.toNat = [] := List.drop_eq_nil_of_le (by omega)
    rw [e] at hc h1
    have e2 : crashF (L.drop kk.toNat) [] = [] := by cases L.drop kk.toNat <;> rfl
    rw [e2, List.append_nil] at hc
    rw [List.append_nil] at h1
    rw [hc] at k
    exact k H1 h1
end
end Go.Proofs.YtldaflbdldepnaaDoor
