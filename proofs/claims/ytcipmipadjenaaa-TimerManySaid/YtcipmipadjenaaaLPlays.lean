/- The laws' head, and TimerPlays: whatever comes in, the call gives true and turns nothing that was there. -/
import Derived.Test.YtcipmipadjenaaaSd
namespace Go.Proofs.Ytcipmipadjenaaa
open Go.HL
set_option maxHeartbeats 400000

theorem sub_emp (H : Heap) : HL.Sub Heap.emp H := fun _ _ h => nomatch (show Heap.emp _ = some _ from h)
theorem tim_of_told {cs : List Chunk} {H : Heap} {t : Nat} {A : List (Int × Int)} {r : Sl} {l : List Int} (h : Holds (told t A r l :: cs) H) : Holds (tim t A :: cs) H := h.head fun _ h => h.1
theorem shown_spec {cs : List Chunk} {H : Heap} {K : Value → Heap → Prop} (h : Holds cs H) (k : ∀ H', Holds cs H' → K (.bool true) H') : FnH Try.prog 6 #[] H K := by
  apply logboomlaw2_shown_fn
  unfold logboomlaw2_shown_vc
  refine new_spec h fun t H1 h1 => ⟨_, rfl, br_f rfl ?_⟩
  refine tset_spec h1 fun H2 h2 => ⟨_, rfl, tset_spec h2 fun H3 h3 => ⟨_, rfl, tset_spec h3 fun H4 h4 => ⟨_, rfl, ?_⟩⟩⟩
  have e : setA (setA (setA [] 7 5) 3 5) 9 2 = [(9, 2), (3, 5), (7, 5)] := by decide +kernel
  rw [e] at h4
  have c1 : (setC [] 7 5 == 0) = true := by decide +kernel
  have c2 : (setC (setA [] 7 5) 3 5 == 0) = true := by decide +kernel
  have c3 : (setC (setA (setA [] 7 5) 3 5) 9 2 == 0) = true := by decide +kernel
  have c4 : (nextA [(9, 2), (3, 5), (7, 5)] == 2) = true := by decide +kernel
  have c5 : (nextA [] == -1) = true := by decide +kernel
  have c6 : (cancelC [] 1 == 8) = true := by decide +kernel
  have d1 : dueA [(9, 2), (3, 5), (7, 5)] 4 = [9] := by decide +kernel
  have d2 : leftA [(9, 2), (3, 5), (7, 5)] 4 = [(3, 5), (7, 5)] := by decide +kernel
  have d3 : dueA [(3, 5), (7, 5)] 5 = [3, 7] := by decide +kernel
  have d4 : leftA [(3, 5), (7, 5)] 5 = [] := by decide +kernel
  refine tnext_spec (i := 0) h4 rfl ⟨_, rfl, tdue_spec h4 fun r1 H5 h5 => ⟨r1, rfl, ?_⟩⟩
  rw [d1, d2] at h5
  refine h5.new fun q1 H6 h6 => ?_
  have i1 := (h6.read 1 rfl told.mono).2
  have i2 : Ints H6 ⟨some ⟨q1, 0, none⟩, 1, 1⟩ [9] := Holds.litInts (l := [9]) h6 (by simp)
  refine ints_spec (b := ⟨some ⟨q1, 0, none⟩, 1, 1⟩) i1 i2 ⟨_, rfl, tdue_spec (tim_of_told h6.tail) fun r2 H7 h7 => ⟨r2, rfl, ?_⟩⟩
  rw [d3, d4] at h7
  refine h7.new fun q2 H8 h8 => ?_
  have j1 := (h8.read 1 rfl told.mono).2
  have j2 : Ints H8 ⟨some ⟨q2, 0, none⟩, 2, 2⟩ [3, 7] := Holds.litInts (l := [3, 7]) h8 (by simp)
  have h9 := tim_of_told h8.tail
  refine ints_spec (b := ⟨some ⟨q2, 0, none⟩, 2, 2⟩) j1 j2 ⟨_, rfl, br_t c1 (br_t c2 (br_t c3 (br_t c4 (br_t (by simp) (br_t (by simp) ?_)))))⟩
  refine tlen_one (i := 0) h9 rfl ⟨_, rfl, br_t rfl (tnext_spec (i := 0) h9 rfl ⟨_, rfl, br_t c5 ?_⟩)⟩
  exact tcancel_spec h9 fun H10 h10 => ⟨_, rfl, by rw [c6]; exact k H10 h10.tail⟩

abbrev e3 : Int × Int × Int → List Value := fun a => [.int .i64 a.1, .int .i64 a.2.1, .int .i64 a.2.2]
theorem e3len : ∀ a, (e3 a).length = 3 := fun _ => rfl
def i64B (n : Int) : Prop := -9223372036854775808 ≤ n ∧ n ≤ 9223372036854775807
theorem setA_le {A : List (Int × Int)} {key due : Int} (h : ∀ a ∈ A, a.2 ≤ 1000000000) : ∀ a ∈ setA A key due, a.2 ≤ 1000000000 := by
  unfold setA
  split
  · rename_i q
    intro a ha
    rcases (insL_mem a).1 ha with e | e
    · rw [e]
      unfold setC at q
      split at q
      · cases q
      · rename_i q2; show due ≤ _; omega
    · exact h a (List.mem_filter.1 e).1
  · exact h
theorem timerPlays_walk {H0 : Heap} {script : Sl} {ops : List (Int × Int × Int)} (hs : Recs e3 H0 script ops) (hr : ∀ o ∈ ops, i64B o.1) :
    FnH Try.prog 3 #[.slice script.p script.n script.c] H0 fun r H' => r = .bool true ∧ HL.Sub H0 H' := by
  apply logboomlaw2_TimerPlays_fn
  unfold logboomlaw2_TimerPlays_vc
  refine shown_spec (Holds.whole H0) fun H1 h1 => ⟨_, rfl, new_spec h1 fun t H2 h2 => ⟨_, rfl, br_f rfl (br_f rfl (h2.new fun rb H3 h3 => ?_))⟩⟩
  let S : List (Int × Int) → Heap → Prop := fun A H => (∀ a ∈ A, a.2 ≤ 1000000000) ∧ Holds [tim t A, refT rb A, ro H0] H
  have start : S [] H3 := ⟨by simp, (refT_open.2 ⟨⟨none, 0, 0⟩, (show Holds (recs e2 ⟨none, 0, 0⟩ [] :: _) H3 from h3.cons_emp (Recs.nil _)).swap⟩).swap⟩
  have fin : ∀ A H4, S A H4 → FnH Try.prog 14 #[.pointer (some ⟨t, 0, none⟩), .int .i64 1000000000] H4 fun r34 H37 => ∃ l8 : Sl, r34 = .slice l8.p l8.n l8.c ∧
      FnH Try.prog 15 #[.pointer (some ⟨rb, 0, none⟩), .int .i64 1000000000] H37 fun r35 H38 => ∃ l9 : Sl, r35 = .slice l9.p l9.n l9.c ∧
        FnH Try.prog 13 #[.slice l8.p l8.n l8.c, .slice l9.p l9.n l9.c] H38 fun r36 H39 => ∃ b5 : Bool, r36 = .bool b5 ∧ br (b5) (
          FnH Try.prog 18 #[.pointer (some ⟨t, 0, none⟩)] H39 fun r37 H40 => ∃ n26 : Int, r37 = .int .i64 n26 ∧ ((Value.bool ((n26 : Int) == 0)) = .bool true ∧ HL.Sub H0 H40)) ((Value.bool false) = .bool true ∧ HL.Sub H0 H39) := fun A H4 ⟨hle, h4⟩ => by
    obtain ⟨hf, -, -⟩ := tim_few (i := 0) h4 rfl
    refine tdue_spec h4 fun l8 H5 h5 => ⟨l8, rfl, rdue_spec (cs := [told t (leftA A 1000000000) l8 (dueA A 1000000000), ro H0]) h5.swap (by omega) fun l9 H6 h6 => ⟨l9, rfl, ?_⟩⟩
    have i1 := (h6.read 2 rfl told.mono).2
    have hd : (dueA A 1000000000).length ≤ A.length := by simpa using (List.takeWhile_sublist (l := A) _).length_le
    have i2 : Ints H6 l9 (dueA A 1000000000) := Own.ints (h6.own 0 rfl) (by omega)
    refine ints_spec i1 i2 ⟨_, rfl, br_t (by simp) ?_⟩
    have el : leftA A 1000000000 = [] := by have := (while_split (p := fun a : Int × Int => decide (a.2 ≤ 1000000000)) (a := A) (b := []) (fun a ha => decide_eq_true (hle a ha)) (by simp)).2; simpa using this
    have h7 := tim_of_told (h6.pull 2 rfl)
    refine tlen_one (i := 0) h7 rfl ⟨_, rfl, ?_, h6.sub 3 rfl⟩
    rw [el]; rfl
  refine ⟨fun i H => 0 ≤ i ∧ i ≤ script.n ∧ ∃ A, S A H, fun i _ => (script.n - i).toNat, ⟨Int.le_refl _, by omega, [], start⟩, ?_⟩
  rintro i H4 ⟨i0, i1, A, hle, h4⟩
  have hs4 := Recs.mono _ _ (h4.sub 2 rfl) hs
  have hbig := hs.big
  refine br_intro (fun q => br_intro (fun q2 => ?_) (fun q2 => ?_)) (fun q => ?_)
  case refine_2 => exact fin A H4 ⟨hle, h4⟩
  case refine_3 => exact fin A H4 ⟨hle, h4⟩
  have q := of_decide_eq_true q
  obtain ⟨b, o, op, p1, p2, p3⟩ := hs4.at_ e3len (by decide) i0 q
  obtain ⟨n1, n2, n3⟩ := op
  refine ⟨b, o, p1, i0, q, n1, p3 0 _ rfl, n2, p3 1 _ rfl, n3, p3 2 _ rfl, fun ok H => ok = true ∧ ∃ A, S A H, ?_, ?_⟩
  · have hn1 : i64B n1 := hr _ (List.mem_of_getElem? p2)
    obtain ⟨c0, c1⟩ := pickI_in (c := n1) (n := 6) (by decide) hn1.1 hn1.2
    obtain ⟨hf, -, -⟩ := tim_few (i := 0) h4 rfl
    have doSet : FnH Try.prog 9 #[.pointer (some ⟨t, 0, none⟩), .int .i64 n2, .int .i64 n3] H4 fun r4 H6 => ∃ n5 : Int, r4 = .int .i64 n5 ∧ HL.Sub Heap.emp H6 ∧
        FnH Try.prog 10 #[.pointer (some ⟨rb, 0, none⟩), .int .i64 n2, .int .i64 n3] H6 fun r5 H7 => ∃ n6 : Int, r5 = .int .i64 n6 ∧ HL.Sub Heap.emp H7 ∧
          SelfEq ([.v (.slice script.p script.n script.c), .v (.pointer (some ⟨t, 0, none⟩)), .v (.pointer (some ⟨rb, 0, none⟩)), .v (.int .i64 i)], [some (31, [.int .i64 n1, .int .i64 n2, .int .i64 n3])], []) ∧
          (((n5 : Int) == n6) = true ∧ ∃ A, S A H7) :=
      tset_spec h4 fun H6 h6 => ⟨_, rfl, sub_emp _, rset_one (cs := [tim t (setA A n2 n3), ro H0]) h6.swap (by omega) fun H7 h7 => ⟨_, rfl, sub_emp _, rfl, by simp, _, setA_le hle, h7.swap⟩⟩
    refine pick_spec (by decide) ⟨_, rfl, ?_⟩
    generalize hn : pickI n1 6 = n at *
    have : n = 0 ∨ n = 1 ∨ n = 2 ∨ n = 3 ∨ n = 4 ∨ n = 5 := by omega
    rcases this with rfl | rfl | rfl | rfl | rfl | rfl
    · exact br_t rfl (br_t rfl doSet)
    · exact br_f rfl (br_t rfl (br_t rfl doSet))
    · exact br_f rfl (br_f rfl (br_t rfl doSet))
    · refine br_f rfl (br_f rfl (br_f rfl (br_t rfl ?_)))
      exact tcancel_spec h4 fun H6 h6 => ⟨_, rfl, sub_emp _, rcancel_one (cs := [tim t (butL A n2), ro H0]) h6.swap (by omega) fun H7 h7 => ⟨_, rfl, sub_emp _, rfl, by simp, _, fun a ha => hle a (List.mem_filter.1 ha).1, h7.swap⟩⟩
    · refine br_f rfl (br_f rfl (br_f rfl (br_f rfl (br_t rfl ?_))))
      refine tdue_spec h4 fun l8 H5 h5 => ⟨l8, rfl, sub_emp _, rdue_spec (cs := [told t (leftA A n3) l8 (dueA A n3), ro H0]) h5.swap (by omega) fun l9 H6 h6 => ⟨l9, rfl, sub_emp _, ?_⟩⟩
      have i1 := (h6.read 2 rfl told.mono).2
      have hd : (dueA A n3).length ≤ A.length := by simpa using (List.takeWhile_sublist (l := A) _).length_le
      have i2 : Ints H6 l9 (dueA A n3) := Own.ints (h6.own 0 rfl) (by omega)
      refine ints_spec i1 i2 ⟨_, rfl, sub_emp _, rfl, by simp, leftA A n3, fun a ha => hle a ((List.dropWhile_sublist _).mem ha), ?_⟩
      exact tim_of_told (h6.tail.swap)
    · refine br_f rfl (br_f rfl (br_f rfl (br_f rfl (br_f rfl (br_t rfl ?_)))))
      exact tat_spec (i := 0) h4 rfl ⟨_, rfl, sub_emp _, rat_spec (cs := [tim t A, ro H0]) h4.swap (by omega) ⟨_, rfl, sub_emp _, rfl, by simp [atA], A, hle, h4⟩⟩
  · rintro ok H5 ⟨rfl, A, hle, h5⟩
    obtain ⟨s, c1, r1⟩ := refT_in (i := 1) h5 rfl
    have hl := r1.len
    refine br_f rfl ⟨s, c1, tlen_one (i := 0) h5 rfl ⟨_, rfl, HL.Sub.refl _, br_f (by rw [hl]; simp) ?_⟩⟩
    refine tnext_spec (i := 0) h5 rfl ⟨_, rfl, HL.Sub.refl _, rnext_spec (cs := [tim t A, ro H0]) h5.swap ⟨_, rfl, HL.Sub.refl _, br_f (by simp [nextA]) ⟨rfl, ?_, ?_⟩⟩⟩
    · rw [wrap64_id (by omega) (by omega)]; exact ⟨by omega, by omega, A, hle, h5⟩
    · rw [wrap64_id (by omega) (by omega)]; dsimp only; omega
end Go.Proofs.Ytcipmipadjenaaa
