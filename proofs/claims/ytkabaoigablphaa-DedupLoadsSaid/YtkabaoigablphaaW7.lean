/- Chapter 8: Keep turns nothing that was there. -/
import Derived.Test.YtkabaoigablphaaW3
import Derived.Test.YtkabaoigablphaaHlSortS
namespace Go.Proofs.Ytkabaoigablphaa
open Go Go.HL Go.RowKit Go.Maps Go.Shelf
set_option maxRecDepth 10000
set_option maxHeartbeats 1600000

section
variable {cs : List Chunk} {H : Heap} {K : Value → Heap → Prop}
theorem sortedS_spec {q b : Nat} {l : List (Int × Value)} (h : Holds cs H) (hq : H q = some (.cells #[.map (some b)] 53 (0, 0))) (hm : MapR H b (fun n : Int => Value.int .i64 n) l) (hn : (l.map Prod.fst).Nodup) (hlen : l.length ≤ 268435456)
    (hwf : ∀ x ∈ l.map Prod.fst, -9223372036854775808 ≤ x ∧ x ≤ 9223372036854775807)
    (k : ∀ (s : Sl) H', HL.Sub H H' → Holds (HL.own 3 1 s (((l.map Prod.fst).mergeSort fun x y => decide (x ≤ y)).map (Value.int .i64)) :: cs) H' → K (.slice s.p s.n s.c) H') :
    FnH Try.prog 42 #[.func (.func 59) #[] #[.pointer (some ⟨q, 0, none⟩)]] H K :=
  sortedInt_fnS (g := 59) (kt := 3) (by kernel_rfl)
    (fun Bm b nn D0 w hBm hm hown => AnyZI.keys_gives (ρ := Try.keysA_ren) { Try.keysA with } Fence.wide _ trivial rfl (by omega) Bm b nn D0 w hBm hm hown)
    (fun lb S N w hN hNb hseq => (callsIn_wide (n := 5)).1 (AnyZI.sorted_in Try.sortedA Fence.wide 5 trivial trivial trivial trivial rfl (by omega) (sortsA _) (enters_of Try.func58 (by kernel_rfl) rfl) 59 lb trivial (enters_of Try.func59 (by kernel_rfl) rfl) S N hN hNb w hseq))
    h hq hm hn hlen hwf k
theorem keepR_spec {t : Nat} {T : Tb} (h : tab t T H) (hw : WfT T) (hb : (encL (bodyI (sortT T))).length ≤ 100000000) (k : ∀ H', HL.Sub H H' → K (.string (strN (keepN (sortT T)))) H') :
    FnH Try.prog 21 #[.pointer (some ⟨t, 0, none⟩)] H K := by
  apply dedup_Table_Keep_fn
  unfold dedup_Table_Keep_vc
  have hbl := encL_len (bodyI (sortT T))
  have hSl := sortT_len T
  have hbody : bodyI (sortT T) = ((sortT T).length : Int) :: (sortT T).flatMap rowI := rfl
  have hTl : T.length ≤ 100000000 := by
    have : (sortT T).length ≤ ((sortT T).flatMap rowI).length := by
      generalize sortT T = S
      induction S with
      | nil => exact Nat.le_refl _
      | cons a S ih => rw [List.flatMap_cons, List.length_append, List.length_cons]; have : 2 ≤ (rowI a).length := by simp [rowI]
                       omega
    have h5 := congrArg List.length hbody
    rw [List.length_cons] at h5
    omega
  obtain ⟨⟨mb, ps⟩, ⟨eT, hN⟩, hh⟩ := h
  dsimp only at eT hN hh
  refine (Holds.whole H).newS fun q H1 s1 h1 => ?_
  have h2 := Holds.up (h1.sub 1 rfl) hh
  have e1 : (tmap ps).length = T.length := by rw [← eT]; simp [tmap, tmod]
  refine ⟨some mb, h2.cell 0 rfl rfl, h2.lenM 1 rfl ?_⟩
  have h3 : Holds (buf q [] :: [ro H]) H1 := buf_open.2 ⟨⟨none, 0, 0⟩, (h1.own_nil 5 1).swap⟩
  have hpre : ∀ L1 L2, bodyI (sortT T) = L1 ++ L2 → (encL L1).length ≤ 100000000 := fun L1 L2 e => by
    rw [e, encL_app, List.length_append] at hb; omega
  refine lit_put [((tmap ps).length : Int)] h3 (by rw [e1]; intro n hn; simp at hn; subst hn; exact ⟨by omega, by omega⟩) ?_ fun H4 h4 => ⟨rfl, ?_⟩
  · have := encN_len ((tmap ps).length : Int)
    have e : encL [((tmap ps).length : Int)] = encN ((tmap ps).length : Int) := by simp [encL]
    rw [e, List.length_nil]; omega
  refine ⟨some mb, (Holds.up (h4.sub 1 rfl) hh).cell 0 rfl rfl, keys_spec h4 fun q3 H5 h5 => ⟨_, rfl, sortedS_spec h5 (h5.get 0 rfl) ((Holds.up (h5.sub 2 rfl) hh).map 1 rfl) (by rw [keys_tmap, eT]; exact hN) (by rw [e1]; omega) ?_ fun s H6 _ h6 => ⟨s, rfl, ?_⟩⟩⟩
  · intro x hx
    rw [keys_tmap, eT] at hx
    obtain ⟨p, hp, rfl⟩ := List.mem_map.1 hx
    exact (hw p hp).1
  rw [keys_tmap, eT] at h6
  have h7 : Holds (buf q (encL [((sortT T).length : Int)]) :: own 3 1 s ((keysS T).map (Value.int .i64)) :: [ro H]) H6 := by
    have := ((h6.pull 1 rfl).tail).swap
    rw [e1, ← hSl] at this
    exact this
  have hkl : (keysS T).length = T.length := by rw [(keysS_perm T).length_eq, List.length_map]
  have hsn : s.n = T.length := by
    have := (h7.own 1 rfl).1
    rw [List.length_map, hkl] at this; omega
  refine ⟨fun m H' => 0 ≤ m ∧ m ≤ s.n ∧ Holds (buf q (encL (((sortT T).length : Int) :: ((sortT T).take m.toNat).flatMap rowI)) :: own 3 1 s ((keysS T).map (Value.int .i64)) :: [ro H]) H', fun m _ => (s.n - m).toNat,
    ⟨Int.le_refl _, by omega, h7⟩, ?_⟩
  clear h1 h2 h3 h4 h5 h6 h7
  rintro m H7 ⟨m0, m1, h7⟩
  refine br_intro (fun c => ?_) (fun c => ?_)
  · have c := of_decide_eq_true c
    have hI : Ints H7 s (keysS T) := (h7.own 1 rfl).ints (by omega)
    obtain ⟨q4, o1, f1, f2, f3, f4⟩ := hI.at_ m0 c
    have hlt : m.toNat < (keysS T).length := by omega
    have ex : (keysS T).getD m.toNat 0 = (keysS T)[m.toNat] := by rw [List.getD_eq_getElem?_getD, List.getElem?_eq_getElem hlt]; rfl
    rw [ex] at f4
    have hS : (sortT T)[m.toNat]? = some ((keysS T)[m.toNat], (lookL T (keysS T)[m.toNat]).getD []) := by
      unfold sortT
      rw [List.getElem?_map, List.getElem?_eq_getElem hlt]; rfl
    have hmem : (keysS T)[m.toNat] ∈ T.map Prod.fst := (keysS_perm T).mem_iff.1 (List.getElem_mem hlt)
    generalize (keysS T)[m.toNat] = x at *
    obtain ⟨l, hl⟩ : ∃ l, lookL T x = some l := by
      obtain ⟨w, hw⟩ := idxL_mem hmem
      exact ⟨w.2, by unfold lookL; rw [hw]; rfl⟩
    rw [hl] at hS
    have hS : (sortT T)[m.toNat]? = some (x, l) := hS
    obtain ⟨v, hv⟩ : ∃ v, lookL (tmap ps) x = some v := by
      rw [← eT] at hl
      unfold lookL at hl ⊢
      rw [idx_tmod] at hl
      rw [idx_tmap]
      cases e : idxL ps x with
      | none => rw [e] at hl; cases hl
      | some w => exact ⟨_, rfl⟩
    obtain ⟨j, sl, l2, g1, rfl, g2, g3⟩ := look_held hv
    obtain rfl : l2 = l := by rw [eT, hl] at g3; exact (Option.some.inj g3).symm
    have hTm : (x, l2) ∈ T := by
      obtain ⟨w, hw2⟩ := lookL_idx hl
      exact List.mem_of_getElem? (idxL_get hw2)
    have hwl := hw _ hTm
    have hcut := flat_rowI_take hS
    have hfin : ∀ L2 L3, [x, (l2.length : Int)] ++ l2.flatMap ntI = L2 ++ L3 → (encL ((((sortT T).length : Int) :: ((sortT T).take m.toNat).flatMap rowI) ++ L2)).length ≤ 100000000 := fun L2 L3 e => by
      refine hpre _ (L3 ++ ((sortT T).drop (m.toNat + 1)).flatMap rowI) ?_
      have : (sortT T).flatMap rowI = ((sortT T).take (m.toNat + 1)).flatMap rowI ++ ((sortT T).drop (m.toNat + 1)).flatMap rowI := by rw [← List.flatMap_append, List.take_append_drop]
      rw [hbody, this, hcut, e]; simp
    have hl2 : l2.length ≤ 100000000 := by
      have h1 := hfin _ [] (by rw [List.append_nil])
      have h2 := encL_len ((((sortT T).length : Int) :: ((sortT T).take m.toNat).flatMap rowI) ++ ([x, (l2.length : Int)] ++ l2.flatMap ntI))
      have h3 : (l2.flatMap ntI).length = 4 * l2.length := by
        rw [List.length_flatMap]
        have : l2.map (fun a => (ntI a).length) = l2.map fun _ => 4 := by rfl
        rw [this, List.map_const', List.sum_replicate_nat]; omega
      simp only [List.length_append, List.length_cons, h3] at h2
      omega
    have rd : ∀ {H' : Heap} {B : List Nat}, Holds (buf q B :: own 3 1 s ((keysS T).map (Value.int .i64)) :: [ro H]) H' → Recs eN H' sl l2 := fun h => by
      have h4 := Holds.read ((Holds.up (h.sub 2 rfl) hh).read 2 rfl (Holds.mono _)) j (by rw [List.getElem?_map, g1]; rfl) (hown_mono (x, sl, l2))
      exact Own.recs eNlen (by decide) h4 (by show l2.length ≤ _; omega)
    have hln : sl.n = l2.length := (rd h7).len
    refine ⟨q4, o1, f1, f2, f3, x, f4, some mb, (Holds.up (h7.sub 2 rfl) hh).cell 0 rfl rfl, runH_lookup1 u53 kint z56 ((Holds.up (h7.sub 2 rfl) hh).map 1 rfl) (k := x) ?_⟩
    rw [hv]
    refine ⟨sl, rfl, ?_⟩
    rw [hln]
    refine lit_put [x, (l2.length : Int)] h7 (by intro n hn; simp at hn; rcases hn with rfl | rfl; exact hwl.1; exact ⟨by omega, by omega⟩) ?_ fun H8 h8 => ⟨rfl, some mb, (Holds.up (h8.sub 2 rfl) hh).cell 0 rfl rfl, runH_lookup1 u53 kint z56 ((Holds.up (h8.sub 2 rfl) hh).map 1 rfl) (k := x) ?_⟩
    · have := hfin _ _ rfl
      rw [encL_app, List.length_append] at this; omega
    rw [hv]
    refine ⟨sl, rfl, ?_⟩
    rw [← encL_app] at h8
    refine ⟨fun i H' => 0 ≤ i ∧ i ≤ sl.n ∧ Holds (buf q (encL ((((sortT T).length : Int) :: ((sortT T).take m.toNat).flatMap rowI) ++ ([x, (l2.length : Int)] ++ (l2.take i.toNat).flatMap ntI))) :: own 3 1 s ((keysS T).map (Value.int .i64)) :: [ro H]) H', fun i _ => (sl.n - i).toNat,
      ⟨Int.le_refl _, by omega, h8⟩, ?_⟩
    clear h7 h8
    rintro i H9 ⟨i0, i1, h9⟩
    refine br_intro (fun c2 => ?_) (fun c2 => ?_)
    · have c2 := of_decide_eq_true c2
      obtain ⟨q5, o2, y, k1, k2, k3⟩ := (rd h9).at_ eNlen (by decide) i0 c2
      have hy := hwl.2 y (List.mem_of_getElem? k2)
      have hk := flat_ntI_take k2
      refine ⟨q5, o2, k1, i0, c2, y.1, k3 0 _ rfl, y.2.1, k3 1 _ rfl, y.2.2.1, k3 2 _ rfl, y.2.2.2, k3 3 _ rfl, ?_⟩
      have ei : (i + 1).toNat = i.toNat + 1 := by omega
      refine lit_put (ntI y) h9 hy ?_ fun H10 h10 => ⟨rfl, rfl, ⟨by rw [wrap64_id (by omega) (by omega)]; omega, by rw [wrap64_id (by omega) (by omega)]; omega, ?_⟩, ?_⟩
      · have := hfin ([x, (l2.length : Int)] ++ (l2.take (i.toNat + 1)).flatMap ntI) ((l2.drop (i.toNat + 1)).flatMap ntI) (by rw [List.append_assoc, ← List.flatMap_append, List.take_append_drop])
        rw [hk, ← List.append_assoc, ← List.append_assoc, encL_app, List.length_append, List.append_assoc] at this
        omega
      · rw [wrap64_id (n := i + 1) (by omega) (by omega), ei, hk]
        rw [← encL_app] at h10
        simp only [List.append_assoc] at h10 ⊢
        exact h10
      · rw [wrap64_id (n := i + 1) (by omega) (by omega)]; dsimp only; omega
    · have c2 := of_decide_eq_false c2
      have em : (m + 1).toNat = m.toNat + 1 := by omega
      rw [List.take_of_length_le (l := l2) (by omega)] at h9
      refine ⟨rfl, ⟨by rw [wrap64_id (by omega) (by omega)]; omega, by rw [wrap64_id (by omega) (by omega)]; omega, ?_⟩, ?_⟩
      · rw [wrap64_id (n := m + 1) (by omega) (by omega), em, hcut]
        exact h9
      · rw [wrap64_id (n := m + 1) (by omega) (by omega)]; dsimp only; omega
  · have c := of_decide_eq_false c
    rw [List.take_of_length_le (by omega)] at h7
    rw [← hbody] at h7
    obtain ⟨r, h8⟩ := buf_open.1 h7
    refine ⟨r, h8.cell 0 rfl rfl, r, h8.cell 0 rfl rfl, sum_spec (i := 1) h8 rfl (encL_bytes _) (by omega) fun r2 H9 s9 h9 n9 => ⟨r2, rfl, s9, ?_⟩⟩
    have hr : r.n = (encL (bodyI (sortT T))).length := by
      have := (h8.own 1 rfl).1
      simp only [List.length_map, Nat.mul_one] at this; exact this.symm
    refine Holds.append ok68 ok68.under h9 (h9.own 2 rfl).cells (by rw [List.length_map, hr, Nat.mul_one]) (noTups_by _) (by omega) fun r3 H10 h10 n10 => ⟨r3, rfl, ?_⟩
    have ho := h10.own 0 rfl
    rw [← List.map_append] at ho
    exact toStr ho (keepN_bytes (sortT T)) ⟨_, rfl, k H10 (h10.sub 4 rfl)⟩
end
end Go.Proofs.Ytkabaoigablphaa
