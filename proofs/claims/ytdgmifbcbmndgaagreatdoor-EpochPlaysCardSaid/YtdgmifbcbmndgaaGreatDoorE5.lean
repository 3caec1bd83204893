/- Chapter 7: epochs: the program's functions: Begin, Cut, Delete. -/
import Derived.Test.YtdgmifbcbmndgaaGreatDoorE4
import Derived.Test.YtdgmifbcbmndgaaGreatDoorHlCell
namespace Go.Proofs.YtdgmifbcbmndgaaGreatDoor
open Go Go.HL
set_option maxHeartbeats 1600000
set_option maxRecDepth 10000

section
variable {cs : List Chunk} {H : Heap} {K : Value → Heap → Prop}
theorem ahead_may {L : List En} (h : EOk L) (off : Int) : ∀ e ∈ aheadL L off, i64B e.1 ∧ i64B e.2.1 := fun e he => h.i64 e (List.mem_filter.1 he).1
theorem cut_spec7 {c d : Nat} {size : Int} {F : Fs} {n : ByteArray} {L : List En} {off : Int} (h : HL.Holds (cch c d n L :: dsk d size F :: cs) H) (hL : EOk L)
    (k : ∀ H', HL.Holds (cch c d n (cutR size F n L off).2.2 :: dsk d size (cutR size F n L off).2.1 :: cs) H' → K (.int .i64 (cutR size F n L off).1) H') : FnH Tryz.prog 11 #[.pointer (some ⟨c, 0, none⟩), .int .i64 off] H K := by
  apply epochs_Cache_Cut_fn
  unfold epochs_Cache_Cut_vc
  have hlen := hL.len
  unfold cutR at k
  refine may_spec ⟨_, rfl, br_intro (fun q => ?_) (fun q => ?_)⟩
  · have q : ¬ mayP off := nd_t q
    rw [if_pos q] at k; dsimp only at k; exact k H h
  have q : mayP off := nd_f q
  rw [if_neg (fun z => z q)] at k
  dsimp only [wr] at k
  obtain ⟨s, hc⟩ := cch_open.1 h
  have hfl : (aheadL L off).length ≤ L.length := List.length_filter_le _ _
  have hR : Recs eE H s L := Own.recs eElen (by decide) (hc.own 1 rfl) (by omega)
  have hn := hR.len
  have hcap := hR.cap
  refine ⟨s, hc.cell 0 rfl rfl, ahead_spec (i := 0) h rfl hL.srt (by omega) fun H2 s2 h2 => ⟨_, rfl, s2, by omega, by omega, ?_⟩⟩
  have hup := (Recs.mono _ _ s2 hR).upto eElen (j := ((aheadL L off).length : Int)) (by omega) (by omega)
  rw [Int.toNat_natCast, ← (hL.srt.ahead off).1] at hup
  refine eclone_spec (s := s.upto ((aheadL L off).length : Int) 3) h2 hup (by omega) fun r H3 s3 h3 => ⟨r, rfl, s2.trans s3, ?_⟩
  exact write_spec (s := r) (l := aheadL L off) h3 (by omega) (by omega) (ahead_may hL off) fun H4 h4 => ⟨_, rfl, k H4 h4⟩
theorem del_may {L : List En} (h : EOk L) {off : Int} (ho : mayP off) : ∀ e ∈ delE L off, i64B e.1 ∧ i64B e.2.1 := fun e he => by
  unfold delE at he
  split at he
  · cases he
  · rename_i x t hx
    have hm : ∀ y ∈ x :: t, y ∈ L := fun y hy => by rw [← hx] at hy; exact List.mem_of_mem_drop hy
    rcases List.mem_cons.1 he with w | w
    · subst w
      obtain ⟨⟨a1, a2⟩, a3, a4⟩ := h.i64 x (hm x (by simp))
      refine ⟨⟨a1, a2⟩, ?_⟩
      show -9223372036854775808 ≤ (if off > x.2.1 then off else x.2.1) ∧ (if off > x.2.1 then off else x.2.1) ≤ 9223372036854775807
      split
      · omega
      · exact ⟨a3, a4⟩
    · exact h.i64 e (hm e (List.mem_cons_of_mem _ w))
theorem delE_len (L : List En) (off : Int) : (delE L off).length ≤ L.length := by
  have h : (L.drop ((aheadL L (off + 1)).length - 1)).length ≤ L.length := by rw [List.length_drop]; omega
  unfold delE
  split
  · simp
  · rename_i x t hx
    rw [hx] at h
    simpa using h
theorem delete_spec7 {c d : Nat} {size : Int} {F : Fs} {n : ByteArray} {L : List En} {off : Int} (h : HL.Holds (cch c d n L :: dsk d size F :: cs) H) (hL : EOk L)
    (k : ∀ H', HL.Holds (cch c d n (deleteR size F n L off).2.2 :: dsk d size (deleteR size F n L off).2.1 :: cs) H' → K (.int .i64 (deleteR size F n L off).1) H') : FnH Tryz.prog 13 #[.pointer (some ⟨c, 0, none⟩), .int .i64 off] H K := by
  apply epochs_Cache_Delete_fn
  unfold epochs_Cache_Delete_vc
  have hlen := hL.len
  unfold deleteR at k
  refine may_spec ⟨_, rfl, br_intro (fun q => ?_) (fun q => ?_)⟩
  · have q : ¬ mayP off := nd_t q
    rw [if_pos q] at k; dsimp only at k; exact k H h
  have q : mayP off := nd_f q
  rw [if_neg (fun z => z q)] at k
  dsimp only [wr] at k
  rw [wrap64_id (n := off + 1) (by omega) (by omega)]
  have hfl : (aheadL L (off + 1)).length ≤ L.length := List.length_filter_le _ _
  refine ahead_spec (i := 0) h rfl hL.srt (by omega) fun H2 s2 h2 => ⟨_, rfl, ?_⟩
  obtain ⟨s, hc⟩ := cch_open.1 h2
  have hR : Recs eE H2 s L := Own.recs eElen (by decide) (hc.own 1 rfl) (by omega)
  have hn := hR.len
  have hcap := hR.cap
  have eg : (if IntKind.wrap .i64 (((aheadL L (off + 1)).length : Int) - 1) > 0 then IntKind.wrap .i64 (((aheadL L (off + 1)).length : Int) - 1) else 0) = (((aheadL L (off + 1)).length - 1 : Nat) : Int) := by
    rw [wrap64_id (by omega) (by omega)]; split <;> omega
  rw [eg]
  have hdm := del_may hL q
  have hdl := delE_len L off
  have ed : ∀ x t, L.drop ((aheadL L (off + 1)).length - 1) = x :: t → delE L off = (x.1, (if off > x.2.1 then off else x.2.1), x.2.2) :: t := fun x t e => by unfold delE; rw [e]
  have en : L.drop ((aheadL L (off + 1)).length - 1) = [] → delE L off = [] := fun e => by unfold delE; rw [e]
  have hg2 : (((aheadL L (off + 1)).length - 1 : Nat) : Int) ≤ s.n := by omega
  clear eg
  generalize (aheadL L (off + 1)).length - 1 = g at *
  have hfr := hR.from_ eElen (j := (g : Int)) (by omega) (by omega)
  rw [Int.toNat_natCast] at hfr
  refine ⟨s, hc.cell 0 rfl rfl, by omega, hg2, eclone_spec (s := s.from_ (g : Int) 3) h2 hfr (by rw [List.length_drop]; omega) fun r H3 s3 h3 => ⟨r, rfl, ?_⟩⟩
  have hrl := (h3.own 0 rfl).1
  rw [flat_len eElen, List.length_drop] at hrl
  refine br_intro (fun w => ?_) (fun w => ?_)
  · have w := of_decide_eq_true w
    cases e : L.drop g with
    | nil =>
      have := congrArg List.length e
      rw [List.length_drop] at this
      simp at this; omega
    | cons x t =>
      rw [e] at h3
      have hR3 : Recs eE H3 r (x :: t) := Own.recs eElen (by decide) (h3.own 0 rfl) (by have := congrArg List.length e; rw [List.length_drop] at this; omega)
      obtain ⟨b, o, y, e1, e2, e3⟩ := hR3.at_ eElen (by decide) (j := 0) (Int.le_refl 0) w
      have ey : y = x := by simpa using e2.symm
      subst ey
      have c1 : cellH H3 ⟨b, o + Int.toNat 0 * 3 + 1, none⟩ = some (.int .i64 y.2.1) := e3 1 _ rfl
      refine ⟨b, o, e1, by decide, w, _, c1, b, o, e1, by decide, w, ?_⟩
      have hz : o + Int.toNat 0 * 3 + 1 = o + 1 := by simp
      rw [hz]
      refine Holds.setCell h3 e1 (j := 1) (by simp) fun H4 h4 => ?_
      have e4 : ((y :: t).flatMap eE).set 1 (.int .i64 (if off > y.2.1 then off else y.2.1)) = (delE L off).flatMap eE := by
        rw [ed y t e]; rfl
      rw [e4] at h4
      have h5 : HL.Holds (ownE r (delE L off) :: cch c d n L :: dsk d size F :: cs) H4 := h4
      exact write_spec (s := r) (l := delE L off) h5 (by omega) (by omega) hdm fun H5 h5 => ⟨_, rfl, k H5 h5⟩
  · have w := of_decide_eq_false w
    have e : L.drop g = [] := List.drop_eq_nil_of_le (by omega)
    rw [e, ← en e] at h3
    exact write_spec (s := r) (l := delE L off) h3 (by omega) (by omega) hdm fun H5 h5 => ⟨_, rfl, k H5 h5⟩
theorem begin_spec {c d : Nat} {size : Int} {F : Fs} {n : ByteArray} {L : List En} {ep off : Int} (h : HL.Holds (cch c d n L :: dsk d size F :: cs) H) (hL : EOk L)
    (k : ∀ H', HL.Holds (cch c d n (beginR size F n L ep off).2.2 :: dsk d size (beginR size F n L ep off).2.1 :: cs) H' → K (.int .i64 (beginR size F n L ep off).1) H') : FnH Tryz.prog 9 #[.pointer (some ⟨c, 0, none⟩), .int .i64 ep, .int .i64 off] H K := by
  apply epochs_Cache_Begin_fn
  unfold epochs_Cache_Begin_vc
  have hlen := hL.len
  unfold beginR at k
  refine may_spec ⟨_, rfl, br_intro (fun q => ?_) (fun q => may_spec ⟨_, rfl, br_intro (fun q2 => ?_) (fun q2 => ?_)⟩)⟩
  · have q : ¬ mayP ep := nd_t q
    rw [if_pos (fun z => q z.1)] at k; dsimp only at k; exact k H h
  · have q2 : ¬ mayP off := nd_t q2
    rw [if_pos (fun z => q2 z.2)] at k; dsimp only at k; exact k H h
  have q : mayP ep := nd_f q
  have q2 : mayP off := nd_f q2
  rw [if_neg (fun z => z ⟨q, q2⟩)] at k
  obtain ⟨s, hc⟩ := cch_open.1 h
  have hR : Recs eE H s L := Own.recs eElen (by decide) (hc.own 1 rfl) (by omega)
  have hn := hR.len
  have hfl : (aheadL L off).length ≤ L.length := List.length_filter_le _ _
  have go : (∀ H', HL.Holds (cch c d n (goB size F n L ep off).2.2 :: dsk d size (goB size F n L ep off).2.1 :: cs) H' → K (.int .i64 (goB size F n L ep off).1) H') →
      FnH Tryz.prog 31 #[.pointer (some ⟨c, 0, none⟩), .int .i64 off] H fun r7 H9 => ∃ n5 : Int, r7 = .int .i64 n5 ∧ br (n5 == 200) (K (.int .i64 3) H9) (∃ l6 : Sl, cellH H9 ⟨c, 0 + 2, none⟩ = some (.slice l6.p l6.n l6.c) ∧ 0 ≤ n5 ∧ n5 ≤ (l6.c : Int) ∧
        FnH Tryz.prog 33 #[.slice (slP l6.p l6.c (0 : Int) 3) (Int.toNat (n5 - (0 : Int))) (Int.toNat ((l6.c : Nat) - (0 : Int)))] H9 fun r8 H10 => ∃ l7 : Sl, r8 = .slice l7.p l7.n l7.c ∧ ∀ q3 : Nat, H10 q3 = none → letH (Heap.upd H10 q3 (.cells #[.int .i64 ep, .int .i64 off, .string (⟨#[]⟩ : ByteArray)] 51 (0, 0))) fun H11 =>
          runH Tryz.prog (Builtin.append_ #[44, 44] 44 #[.slice l7.p l7.n l7.c, .slice (some ⟨q3, 0, none⟩) 1 1]) H11 fun r9 H12 => ∃ l8 : Sl, r9 = .slice l8.p l8.n l8.c ∧ FnH Tryz.prog 32 #[.pointer (some ⟨c, 0, none⟩), .slice l8.p l8.n l8.c] H12 fun r10 H13 => ∃ n6 : Int, r10 = .int .i64 n6 ∧ K (.int .i64 n6) H13) := fun k => by
    unfold goB at k
    refine ahead_spec (i := 0) h rfl hL.srt (by omega) fun H2 s2 h2 => ⟨_, rfl, br_intro (fun w => ?_) (fun w => ?_)⟩
    · have w : (((aheadL L off).length : Nat) : Int) = 200 := by simpa using w
      rw [if_pos (by omega)] at k; dsimp only at k; exact k H2 h2
    · have w : ¬ (((aheadL L off).length : Nat) : Int) = 200 := by simpa using w
      rw [if_neg (by omega)] at k
      dsimp only [wr] at k
      obtain ⟨s2', hc2⟩ := cch_open.1 h2
      have hR2 : Recs eE H2 s2' L := Own.recs eElen (by decide) (hc2.own 1 rfl) (by omega)
      have hn2 := hR2.len
      have hcap := hR2.cap
      have hup := hR2.upto eElen (j := ((aheadL L off).length : Int)) (by omega) (by omega)
      rw [Int.toNat_natCast, ← (hL.srt.ahead off).1] at hup
      refine ⟨s2', hc2.cell 0 rfl rfl, by omega, by omega, eclone_spec (s := s2'.upto ((aheadL L off).length : Int) 3) h2 hup (by omega) fun r H3 s3 h3 => ⟨r, rfl, ?_⟩⟩
      have hrl := (h3.own 0 rfl).1
      rw [flat_len eElen] at hrl
      refine Holds.push okEn h3 (xs := [.int .i64 ep, .int .i64 off, .string (⟨#[]⟩ : ByteArray)]) (m := 1) rfl rfl (by omega) fun r2 H4 h4 n4 => ⟨r2, rfl, ?_⟩
      have e4 : (aheadL L off).flatMap eE ++ [.int .i64 ep, .int .i64 off, .string (⟨#[]⟩ : ByteArray)] = (aheadL L off ++ [(ep, off, (⟨#[]⟩ : ByteArray))]).flatMap eE := by simp
      rw [e4] at h4
      have h5 : HL.Holds (ownE r2 (aheadL L off ++ [(ep, off, ⟨#[]⟩)]) :: cch c d n L :: dsk d size F :: cs) H4 := h4
      refine write_spec (s := r2) (l := aheadL L off ++ [(ep, off, ⟨#[]⟩)]) h5 (by simp; omega) (by omega) (fun e he => ?_) fun H5 h5 => ⟨_, rfl, k H5 h5⟩
      rcases List.mem_append.1 he with w | w
      · exact ahead_may hL off e w
      · simp only [List.mem_singleton] at w
        subst w
        show i64B ep ∧ i64B off
        exact ⟨⟨by omega, by omega⟩, by omega, by omega⟩
  refine ⟨s, hc.cell 0 rfl rfl, br_intro (fun w => ?_) (fun w => ?_)⟩
  · have w := of_decide_eq_true w
    rw [wrap64_id (n := (s.n : Int) - 1) (by omega) (by omega)]
    obtain ⟨b, o, x, e1, e2, e3⟩ := hR.at_ eElen (by decide) (j := (s.n : Int) - 1) (by omega) (by omega)
    have el : L.getLast? = some x := by
      rw [List.getLast?_eq_getElem?, ← e2]; congr 1; omega
    rw [el] at k
    dsimp only at k
    refine ⟨s, hc.cell 0 rfl rfl, b, o, e1, by omega, by omega, _, e3 0 _ rfl, _, e3 1 _ rfl, _, e3 2 _ rfl, fun bb H' => H' = H ∧ (bb = true ↔ (ep = x.1 ∧ off ≥ x.2.1)), br_intro (fun u => ⟨rfl, rfl, ?_⟩) (fun u => ⟨rfl, rfl, ?_⟩), ?_⟩
    · have u : ep = x.1 := by simpa using u
      simp [u]
    · have u : ¬ ep = x.1 := by simpa using u
      simp [u]
    rintro bb H3 ⟨rfl, hbb⟩
    refine br_intro (fun u => ?_) (fun u => br_intro (fun u2 => ?_) (fun u2 => ?_))
    · rw [if_pos (hbb.1 u)] at k; dsimp only at k; exact k H3 h
    · have u2 := of_decide_eq_true u2
      rw [if_neg (fun z => by rw [hbb.2 z] at u; cases u), if_pos u2] at k; dsimp only at k; exact k H3 h
    · have u2 := of_decide_eq_false u2
      rw [if_neg (fun z => by rw [hbb.2 z] at u; cases u), if_neg u2] at k; exact go k
  · have w := of_decide_eq_false w
    have e0' : L = [] := List.eq_nil_of_length_eq_zero (by omega)
    have el : L.getLast? = none := by rw [e0']; rfl
    rw [el] at k
    exact go k
end
end Go.Proofs.YtdgmifbcbmndgaaGreatDoor
