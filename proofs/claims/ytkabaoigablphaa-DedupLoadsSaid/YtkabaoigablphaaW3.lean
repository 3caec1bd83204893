/- Chapter 8: Keep. -/
import Derived.Test.YtkabaoigablphaaW2
import Derived.Test.YtkabaoigablphaaV5
namespace Go.Proofs.Ytkabaoigablphaa
open Go Go.HL
set_option maxRecDepth 10000
set_option maxHeartbeats 1600000

/-! ### what Keep writes -/
def ntI (x : Nt) : List Int := [x.1, x.2.1, x.2.2.1, x.2.2.2]
def rowI (p : Int × List Nt) : List Int := [p.1, (p.2.length : Int)] ++ p.2.flatMap ntI
def bodyI (S : Tb) : List Int := (S.length : Int) :: S.flatMap rowI
def keepN (S : Tb) : List Nat := sumN (encL (bodyI S)) ++ encL (bodyI S)
def keysS (T : Tb) : List Int := (T.map Prod.fst).mergeSort fun x y => decide (x ≤ y)
def sortT (T : Tb) : Tb := (keysS T).map fun k => (k, (lookL T k).getD [])
theorem keepN_bytes (S : Tb) : ∀ b ∈ keepN S, b < 256 := fun b hb => (List.mem_append.1 hb).elim (sumN_bytes _ b) (encL_bytes _ b)
/-- What may be written: numbers of 64 bits. -/
def WfT (T : Tb) : Prop := ∀ p ∈ T, i64B p.1 ∧ ∀ x ∈ p.2, ∀ n ∈ ntI x, i64B n
theorem encN_pos (n : Int) : 0 < (encN n).length := by
  unfold encN encD
  split <;> simp
theorem encL_len : ∀ (L : List Int), L.length ≤ (encL L).length
  | [] => Nat.le_refl _
  | n :: L => by
    have := encL_len L
    have := encN_pos n
    have e : encL (n :: L) = encN n ++ encL L := rfl
    rw [e, List.length_append, List.length_cons]; omega
theorem keysS_perm (T : Tb) : (keysS T).Perm (T.map Prod.fst) := List.mergeSort_perm _ _
theorem sortT_len (T : Tb) : (sortT T).length = T.length := by
  unfold sortT
  rw [List.length_map, (keysS_perm T).length_eq, List.length_map]
theorem flat_rowI_take {S : Tb} {m : Nat} {p : Int × List Nt} (h : S[m]? = some p) : (S.take (m + 1)).flatMap rowI = (S.take m).flatMap rowI ++ ([p.1, (p.2.length : Int)] ++ p.2.flatMap ntI) := by
  obtain ⟨h1, h2⟩ := List.getElem?_eq_some_iff.1 h
  rw [List.take_succ_eq_append_getElem h1, h2, List.flatMap_append]; simp [rowI]
theorem flat_ntI_take {l : List Nt} {m : Nat} {x : Nt} (h : l[m]? = some x) : (l.take (m + 1)).flatMap ntI = (l.take m).flatMap ntI ++ ntI x := by
  obtain ⟨h1, h2⟩ := List.getElem?_eq_some_iff.1 h
  rw [List.take_succ_eq_append_getElem h1, h2, List.flatMap_append]; simp
theorem lit_gives {q T : Nat} {l : List Int} (hb : l.length ≤ 9223372036854775807) : Gives (blk q (.cells (l.map (Value.int .i64)).toArray T (0, 0))) (fun A => Ints A ⟨some ⟨q, 0, none⟩, l.length, l.length⟩ l) :=
  ⟨blk_mono _ _, fun A hA => ⟨rfl, hb, Nat.le_refl _, CellsAt.block hA fun i hi => by simp at hi; simp [hi]⟩⟩
section
variable {cs : List Chunk} {H : Heap} {K : Value → Heap → Prop}
/-- The buffer: a variable that holds a slice of bytes. -/
def buf (q : Nat) (B : List Nat) : Chunk := fun H => ∃ s : Sl, Holds [blk q (.cells #[.slice s.p s.n s.c] 68 (0, 0)), ownY s B] H
theorem buf_open {q : Nat} {B : List Nat} : Holds (buf q B :: cs) H ↔ ∃ s : Sl, Holds (blk q (.cells #[.slice s.p s.n s.c] 68 (0, 0)) :: ownY s B :: cs) H := by
  constructor
  · intro h
    obtain ⟨s, h⟩ := Holds.ex.1 h
    exact ⟨s, Holds.flat.1 h⟩
  · rintro ⟨s, h⟩
    exact Holds.ex.2 ⟨s, Holds.flat.2 h⟩
/-- A literal's numbers are put behind the buffer. -/
theorem lit_put {q : Nat} {B : List Nat} (L : List Int) {X : Value → Heap → Prop} (h : Holds (buf q B :: cs) H) (hw : ∀ n ∈ L, i64B n) (hb : B.length + (encL L).length ≤ 268435456)
    (k : ∀ H', Holds (buf q (B ++ encL L) :: cs) H' → X (.tuple #[]) H') :
    ∀ q2, H q2 = none → letH (Heap.upd H q2 (.cells (L.map (Value.int .i64)).toArray 3 (0, 0))) fun H2 => FnH Try.prog 40 #[.slice (some ⟨q2, 0, none⟩) L.length L.length, .pointer (some ⟨q, 0, none⟩)] H2 X :=
  h.newS fun q2 H2 _ h2 => by
    have hl := encL_len L
    obtain ⟨s, h3⟩ := buf_open.1 h2.swap
    exact put_spec (l := ⟨some ⟨q2, 0, none⟩, L.length, L.length⟩) (i := 0) h3 (lit_gives (by omega)) rfl hw hb fun r H4 h4 => k H4 (buf_open.2 ⟨r, (h4.pull 2 rfl).tail⟩)
theorem keep_spec {t : Nat} {T : Tb} (h : Holds (tab t T :: cs) H) (hw : WfT T) (hb : (encL (bodyI (sortT T))).length ≤ 100000000) (k : ∀ H', Holds (tab t T :: cs) H' → K (.string (strN (keepN (sortT T)))) H') :
    FnH Try.prog 21 #[.pointer (some ⟨t, 0, none⟩)] H K := by
  apply dedup_Table_Keep_fn
  unfold dedup_Table_Keep_vc
  have hbl := encL_len (bodyI (sortT T))
  have hSl := sortT_len T
  have hbody : bodyI (sortT T) = ((sortT T).length : Int) :: (sortT T).flatMap rowI := rfl
  have hTl : T.length ≤ 100000000 := by
    have : (sortT T).length ≤ ((sortT T).flatMap rowI).length := by
      generalize sortT T = S
      induction S with
      | nil => exact Nat.le_refl _
      | cons a S ih => rw [List.flatMap_cons, List.length_append, List.length_cons]; have : 2 ≤ (rowI a).length := by simp [rowI]
                       omega
    have h5 := congrArg List.length hbody
    rw [List.length_cons] at h5
    omega
  refine h.newS fun q H1 s1 h1 => ?_
  obtain ⟨mb, ps, ⟨eT, hN⟩, h2⟩ := tab_open.1 h1.swap
  have e1 : (tmap ps).length = T.length := by rw [← eT]; simp [tmap, tmod]
  refine ⟨some mb, h2.cell 0 rfl rfl, h2.lenM 1 rfl ?_⟩
  have h3 : Holds (buf q [] :: blk t (.cells #[.map (some mb)] 55 (0, 0)) :: mp mb encI (tmap ps) :: Holds (ps.map hown) :: cs) H1 := buf_open.2 ⟨⟨none, 0, 0⟩, ((h2.own_nil 5 1).pull 4 rfl)⟩
  have hpre : ∀ L1 L2, bodyI (sortT T) = L1 ++ L2 → (encL L1).length ≤ 100000000 := fun L1 L2 e => by
    rw [e, encL_app, List.length_append] at hb; omega
  refine lit_put [((tmap ps).length : Int)] h3 (by rw [e1]; intro n hn; simp at hn; subst hn; exact ⟨by omega, by omega⟩) ?_ fun H4 h4 => ⟨rfl, ?_⟩
  · have := encN_len ((tmap ps).length : Int)
    have e : encL [((tmap ps).length : Int)] = encN ((tmap ps).length : Int) := by simp [encL]
    rw [e, List.length_nil]; omega
  refine ⟨some mb, h4.cell 1 rfl rfl, keys_spec (h4.pull 2 rfl) fun q3 H5 h5 => ⟨_, rfl, sorted_spec h5 (by rw [keys_tmap, eT]; exact hN) (by rw [e1]; omega) ?_ fun s H6 h6 => ⟨s, rfl, ?_⟩⟩⟩
  · intro x hx
    rw [keys_tmap, eT] at hx
    obtain ⟨p, hp, rfl⟩ := List.mem_map.1 hx
    exact (hw p hp).1
  rw [keys_tmap, eT] at h6
  have h7 : Holds (buf q (encL [((sortT T).length : Int)]) :: own 3 1 s ((keysS T).map (Value.int .i64)) :: mp mb encI (tmap ps) :: blk t (.cells #[.map (some mb)] 55 (0, 0)) :: Holds (ps.map hown) :: cs) H6 := by
    have := h6.pull 2 rfl
    rw [e1, ← hSl] at this
    exact this
  have hkl : (keysS T).length = T.length := by rw [(keysS_perm T).length_eq, List.length_map]
  have hsn : s.n = T.length := by
    have := (h7.own 1 rfl).1
    rw [List.length_map, hkl] at this; omega
  refine ⟨fun m H => 0 ≤ m ∧ m ≤ s.n ∧ Holds (buf q (encL (((sortT T).length : Int) :: ((sortT T).take m.toNat).flatMap rowI)) :: own 3 1 s ((keysS T).map (Value.int .i64)) :: mp mb encI (tmap ps) :: blk t (.cells #[.map (some mb)] 55 (0, 0)) :: Holds (ps.map hown) :: cs) H, fun m _ => (s.n - m).toNat,
    ⟨Int.le_refl _, by omega, h7⟩, ?_⟩
  clear h h1 h2 h3 h4 h5 h6 h7
  rintro m H7 ⟨m0, m1, h7⟩
  refine br_intro (fun c => ?_) (fun c => ?_)
  · have c := of_decide_eq_true c
    have hI : Ints H7 s (keysS T) := (h7.own 1 rfl).ints (by omega)
    obtain ⟨q4, o1, f1, f2, f3, f4⟩ := hI.at_ m0 c
    have hlt : m.toNat < (keysS T).length := by omega
    have ex : (keysS T).getD m.toNat 0 = (keysS T)[m.toNat] := by rw [List.getD_eq_getElem?_getD, List.getElem?_eq_getElem hlt]; rfl
    rw [ex] at f4
    have hS : (sortT T)[m.toNat]? = some ((keysS T)[m.toNat], (lookL T (keysS T)[m.toNat]).getD []) := by
      unfold sortT
      rw [List.getElem?_map, List.getElem?_eq_getElem hlt]; rfl
    have hmem : (keysS T)[m.toNat] ∈ T.map Prod.fst := (keysS_perm T).mem_iff.1 (List.getElem_mem hlt)
    generalize (keysS T)[m.toNat] = x at *
    obtain ⟨l, hl⟩ : ∃ l, lookL T x = some l := by
      obtain ⟨w, hw⟩ := idxL_mem hmem
      exact ⟨w.2, by unfold lookL; rw [hw]; rfl⟩
    rw [hl] at hS
    have hS : (sortT T)[m.toNat]? = some (x, l) := hS
    obtain ⟨v, hv⟩ : ∃ v, lookL (tmap ps) x = some v := by
      rw [← eT] at hl
      unfold lookL at hl ⊢
      rw [idx_tmod] at hl
      rw [idx_tmap]
      cases e : idxL ps x with
      | none => rw [e] at hl; cases hl
      | some w => exact ⟨_, rfl⟩
    obtain ⟨j, sl, l2, g1, rfl, g2, g3⟩ := look_held hv
    obtain rfl : l2 = l := by rw [eT, hl] at g3; exact (Option.some.inj g3).symm
    have hTm : (x, l2) ∈ T := by
      obtain ⟨w, hw2⟩ := lookL_idx hl
      exact List.mem_of_getElem? (idxL_get hw2)
    have hwl := hw _ hTm
    have hcut := flat_rowI_take hS
    have hfin : ∀ L2 L3, [x, (l2.length : Int)] ++ l2.flatMap ntI = L2 ++ L3 → (encL ((((sortT T).length : Int) :: ((sortT T).take m.toNat).flatMap rowI) ++ L2)).length ≤ 100000000 := fun L2 L3 e => by
      refine hpre _ (L3 ++ ((sortT T).drop (m.toNat + 1)).flatMap rowI) ?_
      have : (sortT T).flatMap rowI = ((sortT T).take (m.toNat + 1)).flatMap rowI ++ ((sortT T).drop (m.toNat + 1)).flatMap rowI := by rw [← List.flatMap_append, List.take_append_drop]
      rw [hbody, this, hcut, e]; simp
    have hl2 : l2.length ≤ 100000000 := by
      have h1 := hfin _ [] (by rw [List.append_nil])
      have h2 := encL_len ((((sortT T).length : Int) :: ((sortT T).take m.toNat).flatMap rowI) ++ ([x, (l2.length : Int)] ++ l2.flatMap ntI))
      have h3 : (l2.flatMap ntI).length = 4 * l2.length := by
        rw [List.length_flatMap]
        have : l2.map (fun a => (ntI a).length) = l2.map fun _ => 4 := by rfl
        rw [this, List.map_const', List.sum_replicate_nat]; omega
      simp only [List.length_append, List.length_cons, h3] at h2
      omega
    have rd : ∀ {H : Heap} {B : List Nat}, Holds (buf q B :: own 3 1 s ((keysS T).map (Value.int .i64)) :: mp mb encI (tmap ps) :: blk t (.cells #[.map (some mb)] 55 (0, 0)) :: Holds (ps.map hown) :: cs) H → Recs eN H sl l2 := fun h => by
      have h4 := Holds.read (h.read 4 rfl (Holds.mono _)) j (by rw [List.getElem?_map, g1]; rfl) (hown_mono (x, sl, l2))
      exact Own.recs eNlen (by decide) h4 (by show l2.length ≤ _; omega)
    have hln : sl.n = l2.length := (rd h7).len
    refine ⟨q4, o1, f1, f2, f3, x, f4, some mb, h7.cell 3 rfl rfl, runH_lookup1 u53 kint z56 (h7.map 2 rfl) (k := x) ?_⟩
    rw [hv]
    refine ⟨sl, rfl, ?_⟩
    rw [hln]
    refine lit_put [x, (l2.length : Int)] h7 (by intro n hn; simp at hn; rcases hn with rfl | rfl; exact hwl.1; exact ⟨by omega, by omega⟩) ?_ fun H8 h8 => ⟨rfl, some mb, h8.cell 3 rfl rfl, runH_lookup1 u53 kint z56 (h8.map 2 rfl) (k := x) ?_⟩
    · have := hfin _ _ rfl
      rw [encL_app, List.length_append] at this; omega
    rw [hv]
    refine ⟨sl, rfl, ?_⟩
    rw [← encL_app] at h8
    refine ⟨fun i H => 0 ≤ i ∧ i ≤ sl.n ∧ Holds (buf q (encL ((((sortT T).length : Int) :: ((sortT T).take m.toNat).flatMap rowI) ++ ([x, (l2.length : Int)] ++ (l2.take i.toNat).flatMap ntI))) :: own 3 1 s ((keysS T).map (Value.int .i64)) :: mp mb encI (tmap ps) :: blk t (.cells #[.map (some mb)] 55 (0, 0)) :: Holds (ps.map hown) :: cs) H, fun i _ => (sl.n - i).toNat,
      ⟨Int.le_refl _, by omega, h8⟩, ?_⟩
    clear h7 h8
    rintro i H9 ⟨i0, i1, h9⟩
    refine br_intro (fun c2 => ?_) (fun c2 => ?_)
    · have c2 := of_decide_eq_true c2
      obtain ⟨q5, o2, y, k1, k2, k3⟩ := (rd h9).at_ eNlen (by decide) i0 c2
      have hy := hwl.2 y (List.mem_of_getElem? k2)
      have hk := flat_ntI_take k2
      refine ⟨q5, o2, k1, i0, c2, y.1, k3 0 _ rfl, y.2.1, k3 1 _ rfl, y.2.2.1, k3 2 _ rfl, y.2.2.2, k3 3 _ rfl, ?_⟩
      have ei : (i + 1).toNat = i.toNat + 1 := by omega
      refine lit_put (ntI y) h9 hy ?_ fun H10 h10 => ⟨rfl, rfl, ⟨by rw [wrap64_id (by omega) (by omega)]; omega, by rw [wrap64_id (by omega) (by omega)]; omega, ?_⟩, ?_⟩
      · have := hfin ([x, (l2.length : Int)] ++ (l2.take (i.toNat + 1)).flatMap ntI) ((l2.drop (i.toNat + 1)).flatMap ntI) (by rw [List.append_assoc, ← List.flatMap_append, List.take_append_drop])
        rw [hk, ← List.append_assoc, ← List.append_assoc, encL_app, List.length_append, List.append_assoc] at this
        omega
      · rw [wrap64_id (n := i + 1) (by omega) (by omega), ei, hk]
        rw [← encL_app] at h10
        simp only [List.append_assoc] at h10 ⊢
        exact h10
      · rw [wrap64_id (n := i + 1) (by omega) (by omega)]; dsimp only; omega
    · have c2 := of_decide_eq_false c2
      have em : (m + 1).toNat = m.toNat + 1 := by omega
      rw [List.take_of_length_le (l := l2) (by omega)] at h9
      refine ⟨rfl, ⟨by rw [wrap64_id (by omega) (by omega)]; omega, by rw [wrap64_id (by omega) (by omega)]; omega, ?_⟩, ?_⟩
      · rw [wrap64_id (n := m + 1) (by omega) (by omega), em, hcut]
        exact h9
      · rw [wrap64_id (n := m + 1) (by omega) (by omega)]; dsimp only; omega
  · have c := of_decide_eq_false c
    rw [List.take_of_length_le (by omega)] at h7
    rw [← hbody] at h7
    obtain ⟨r, h8⟩ := buf_open.1 h7
    refine ⟨r, h8.cell 0 rfl rfl, r, h8.cell 0 rfl rfl, sum_spec (i := 1) h8 rfl (encL_bytes _) (by omega) fun r2 H9 s9 h9 n9 => ⟨r2, rfl, s9, ?_⟩⟩
    have hr : r.n = (encL (bodyI (sortT T))).length := by
      have := (h8.own 1 rfl).1
      simp only [List.length_map, Nat.mul_one] at this; exact this.symm
    refine Holds.append ok68 ok68.under h9 (h9.own 2 rfl).cells (by rw [List.length_map, hr, Nat.mul_one]) (noTups_by _) (by omega) fun r3 H10 h10 n10 => ⟨r3, rfl, ?_⟩
    have ho := h10.own 0 rfl
    rw [← List.map_append] at ho
    refine toStr ho (keepN_bytes (sortT T)) ⟨_, rfl, k H10 (tab_open.2 ⟨mb, ps, ⟨eT, hN⟩, ?_⟩)⟩
    have h11 := (h10.tail.tail.tail).tail
    exact h11.swap
end
end Go.Proofs.Ytkabaoigablphaa
