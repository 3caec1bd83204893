/- TimerMany: whatever comes in, the call gives true and turns nothing that was there. -/
import Derived.Test.YtcipmipadjenaaaLPlays
namespace Go.Proofs.Ytcipmipadjenaaa
open Go.HL
set_option maxHeartbeats 400000

theorem butL_less {A : List (Int × Int)} {key : Int} (hk : (A.map Prod.fst).Nodup) (h : key ∈ A.map Prod.fst) : (butL A key).length + 1 = A.length := by
  induction A with
  | nil => simp at h
  | cons a A ih =>
    simp only [List.map_cons, List.nodup_cons] at hk
    by_cases q : a.1 = key
    · have : ∀ b ∈ A, b.1 ≠ key := fun b hb e => hk.1 (List.mem_map.2 ⟨b, hb, by rw [e, q]⟩)
      have e : butL (a :: A) key = A := by
        unfold butL
        rw [List.filter_cons_of_neg (by simpa using q)]
        exact List.filter_eq_self.2 fun b hb => by simpa using this b hb
      rw [e]; rfl
    · have h2 : key ∈ A.map Prod.fst := by
        simp only [List.map_cons, List.mem_cons] at h
        rcases h with e | e
        · exact absurd e.symm q
        · exact e
      have e : butL (a :: A) key = a :: butL A key := by
        unfold butL
        rw [List.filter_cons_of_pos (by simpa using q)]
      rw [e]
      simp only [List.length_cons]
      have := ih hk.2 h2
      omega
theorem butL_self {A : List (Int × Int)} {key : Int} (h : ∀ a ∈ A, a.1 ≠ key) : butL A key = A := List.filter_eq_self.2 fun a ha => by simpa using h a ha
theorem timerMany_walk {H0 : Heap} {n at0 key : Int} (hn : i64B n) (ha : i64B at0) (hk : i64B key) : FnH Try.prog 4 #[.int .i64 n, .int .i64 at0, .int .i64 key] H0 fun r H' => r = .bool true ∧ HL.Sub H0 H' := by
  apply logboomlaw2_TimerMany_fn
  unfold logboomlaw2_TimerMany_vc
  refine shown_spec (Holds.whole H0) fun H1 h1 => ⟨_, rfl, new_spec h1 fun t H2 h2 => ⟨_, rfl, br_f rfl (br_f rfl (pick_spec (by decide) ⟨_, rfl, pick_spec (by decide) ⟨_, rfl, ?_⟩⟩))⟩⟩
  obtain ⟨a0, a1⟩ := pickI_in (c := n) (n := 20) (by decide) hn.1 hn.2
  obtain ⟨b0, b1⟩ := pickI_in (c := at0) (n := 1000000001) (by decide) ha.1 ha.2
  generalize pickI n 20 = m at *
  generalize pickI at0 1000000001 = w at *
  rw [wrap64_id (n := 990 + m) (by omega) (by omega)]
  refine ⟨fun i H => 0 ≤ i ∧ i ≤ 990 + m ∧ ∃ A, Holds [tim t A, ro H0] H ∧ (A.length : Int) = min i 1000 ∧ (∀ a ∈ A, 0 ≤ a.1 ∧ a.1 < min i 1000 ∧ a.2 ≤ 1000000000) ∧ (∀ k, 0 ≤ k → k < min i 1000 → k ∈ A.map Prod.fst), fun i _ => (990 + m - i).toNat,
    ⟨Int.le_refl _, by omega, [], h2, by simp; omega, by simp, fun k k0 k1 => by omega⟩, ?_⟩
  rintro i H5 ⟨i0, i1, A, h5, hl, hA, hall⟩
  obtain ⟨hf, hso, hnd⟩ := tim_few (i := 0) h5 rfl
  refine br_intro (fun q => ⟨by decide, ?_⟩) (fun q => ?_)
  · have q := of_decide_eq_true q
    rw [wrap64_id (n := 7 * i) (by omega) (by omega), wrap64_id (n := w + 7 * i) (by omega) (by omega)]
    have d0 : 0 ≤ Int.tmod (w + 7 * i) 1000000001 := Int.tmod_nonneg _ (by omega)
    have d1 : Int.tmod (w + 7 * i) 1000000001 < 1000000001 := Int.tmod_lt_of_pos _ (by decide)
    generalize Int.tmod (w + 7 * i) 1000000001 = d at *
    rw [wrap64_id (n := i + 1) (by omega) (by omega)]
    by_cases hi : i < 1000
    · have hno : ∀ a ∈ A, a.1 ≠ i := fun a ha e => by have := (hA a ha).2.1; omega
      have e0 : setC A i d = 0 := by
        unfold setC
        rw [if_neg (by omega), if_neg (fun x => by omega)]
      have e1 : setA A i d = insL (i, d) A := by
        unfold setA
        rw [e0, if_pos rfl, butL_self hno]
      refine tset_spec h5 fun H6 h6 => ⟨_, rfl, ?_⟩
      rw [e0]
      rw [e1] at h6
      refine br_f (by simp [hi]) (br_f rfl ⟨rfl, ⟨by omega, by omega, _, h6, by rw [insL_len]; omega, fun a ha => ?_, fun k k0 k1 => ?_⟩, by dsimp only; omega⟩)
      · rcases (insL_mem a).1 ha with e | e
        · rw [e]; exact ⟨by omega, by show i < _; omega, by show d ≤ _; omega⟩
        · have := hA a e; exact ⟨this.1, by omega, this.2.2⟩
      · by_cases e : k = i
        · rw [e]; exact List.mem_map.2 ⟨(i, d), (insL_mem _).2 (.inl rfl), rfl⟩
        · obtain ⟨a, ha, hk⟩ := List.mem_map.1 (hall k k0 (by omega))
          exact List.mem_map.2 ⟨a, (insL_mem _).2 (.inr ha), hk⟩
    · have hno : ∀ a ∈ A, a.1 ≠ i := fun a ha e => by have := (hA a ha).2.1; omega
      have e0 : setC A i d = 3 := by
        unfold setC
        rw [if_neg (by omega), if_pos ⟨by rw [butL_self hno], by omega⟩]
      have e1 : setA A i d = A := by
        unfold setA
        rw [e0]; rfl
      refine tset_spec h5 fun H6 h6 => ⟨_, rfl, ?_⟩
      rw [e0]
      rw [e1] at h6
      refine br_f (by simp [hi]) (br_t rfl (br_f rfl ⟨rfl, ⟨by omega, by omega, A, h6, by omega, fun a ha => ?_, fun k k0 k1 => ?_⟩, by dsimp only; omega⟩))
      · have := hA a ha; exact ⟨this.1, by omega, this.2.2⟩
      · exact hall k k0 (by omega)
  · have q := of_decide_eq_false q
    have ei : i = 990 + m := by omega
    subst ei
    have eall : (if 1000 < 990 + m then 1000 else 990 + m) = min (990 + m) 1000 := by split <;> omega
    rw [eall]
    generalize hM : min (990 + m) 1000 = M at *
    obtain ⟨c0, c1⟩ := pickI_in (c := key) (n := M) (by omega) hk.1 hk.2
    refine pick_spec (by omega) ⟨_, rfl, ?_⟩
    generalize pickI key M = y at *
    refine tlen_one (i := 0) h5 rfl ⟨_, rfl, br_f (by simp; omega) ?_⟩
    have hin := hall y c0 c1
    have hbl := butL_less hnd hin
    have e0 : setC A y w = 0 := by
      unfold setC
      rw [if_neg (by omega), if_neg (fun x => by omega)]
    have e1 : setA A y w = insL (y, w) (butL A y) := by unfold setA; rw [e0, if_pos rfl]
    refine tset_spec h5 fun H6 h6 => ⟨_, rfl, ?_⟩
    rw [e0]
    rw [e1] at h6
    obtain ⟨hf6, -, hnd6⟩ := tim_few (i := 0) h6 rfl
    have hl6 : (insL (y, w) (butL A y)).length = A.length := by rw [insL_len]; exact hbl
    have hy6 : (y, w) ∈ insL (y, w) (butL A y) := (insL_mem _).2 (.inl rfl)
    refine br_f rfl (tat_spec (i := 0) h6 rfl ⟨_, rfl, br_f (by rw [atA_some hnd6 hy6]; simp) (tlen_one (i := 0) h6 rfl ⟨_, rfl, br_f (by rw [hl6]; simp; omega) (tcancel_spec h6 fun H7 h7 => ⟨_, rfl, br_t ?_ ?_⟩)⟩)⟩)
    · have hb := butL_less hnd6 (List.mem_map.2 ⟨_, hy6, rfl⟩)
      unfold cancelC
      rw [if_neg (by have : (butL (insL (y, w) (butL A y)) y).length + 1 = _ := hb; omega)]; rfl
    · have hb : (butL (insL (y, w) (butL A y)) y).length + 1 = _ := butL_less hnd6 (List.mem_map.2 ⟨_, hy6, rfl⟩)
      generalize hC : butL (insL (y, w) (butL A y)) y = C at *
      have hCA : ∀ a ∈ C, 0 ≤ a.1 ∧ a.2 ≤ 1000000000 := fun a ha => by
        rw [← hC] at ha
        rcases (insL_mem a).1 (List.mem_filter.1 ha).1 with e | e
        · rw [e]; exact ⟨c0, by show w ≤ _; omega⟩
        · have := hA a (List.mem_filter.1 e).1; exact ⟨this.1, this.2.2⟩
      have hno : ∀ a ∈ C, a.1 ≠ -1 := fun a ha e => by have := (hCA a ha).1; omega
      have f0 : setC C (-1) w = 0 := by
        unfold setC
        rw [if_neg (by omega), if_neg (fun x => by omega)]
      have f1 : setA C (-1) w = insL (-1, w) C := by unfold setA; rw [f0, if_pos rfl, butL_self hno]
      refine tset_spec h7 fun H8 h8 => ⟨_, rfl, ?_⟩
      rw [f0]
      rw [f1] at h8
      have hl8 := insL_len (x := (-1, w)) C
      refine br_t rfl (tlen_one (i := 0) h8 rfl ⟨_, rfl, br_t (by simp; omega) (tdue_spec h8 fun r H9 h9 => ⟨r, rfl, ?_, h9.sub 1 rfl⟩)⟩)
      have hi9 := (h9.read 0 rfl told.mono).2
      have := hi9.len
      have e9 : (insL (-1, w) C).takeWhile (fun a => decide (a.2 ≤ 1000000000)) = insL (-1, w) C := by
        have := (while_split (p := fun a : Int × Int => decide (a.2 ≤ 1000000000)) (a := insL (-1, w) C) (b := []) (fun a ha => ?_) (by simp)).1
        · simpa using this
        · rcases (insL_mem a).1 ha with e | e
          · rw [e]; exact decide_eq_true (by show w ≤ _; omega)
          · exact decide_eq_true (hCA a e).2
      rw [dueA, e9] at this
      simp only [List.length_map] at this
      have e10 : ((r.n : Nat) : Int) = M := by omega
      rw [e10]; simp
end Go.Proofs.Ytcipmipadjenaaa
