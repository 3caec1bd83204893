/- Chapter 5: the chapter's examples; what small batches do. -/
import Derived.Test.YtokceblmbmajgaaGreatDoorS8
namespace Go.Proofs.YtokceblmbmajgaaGreatDoor
open Go Go.HL
set_option maxHeartbeats 3200000
set_option maxRecDepth 10000

theorem safe_none {z : Int} {bs : List Ba} (h : safeP z bs 0 = false) : safeN z bs = 0 := Decidable.byContradiction fun e => by
  have : safeP z bs 0 = true := cnt_lt (p := safeP z bs) (n := bs.length) (j := 0) (by unfold safeN at e; omega)
  rw [h] at this; cases this
theorem safe_all (bs : List Ba) : safeN (lenB bs : Nat) bs = bs.length := Decidable.byContradiction fun e => by
  have hle : safeN (lenB bs : Nat) bs ≤ bs.length := cnt_le _ _
  have h := cnt_at (p := safeP (lenB bs : Nat) bs) (n := bs.length) (by unfold safeN at e hle; omega)
  have h : safeP (lenB bs : Nat) bs (safeN (lenB bs : Nat) bs) = false := h
  unfold safeP at h
  have h := of_decide_eq_false h
  have := lenB_take_mono bs (i := safeN (lenB bs : Nat) bs + 1) (j := bs.length) (by omega)
  rw [List.take_length] at this
  omega
theorem SegOk.nil {base : Int} (h0 : 0 ≤ base) (h1 : base ≤ 1000000000) : SegOk base [] := ⟨trivial, h0, h1, Nat.zero_le _⟩
theorem SegOk.snoc {base : Int} {bs : List Ba} {b : Ba} (h : SegOk base bs) (hb : b.base = nextB base bs) (he : endB b ≤ 1000000000) (hr : rightB b = 0) (hl : bs.length < 4096) : SegOk base (bs ++ [b]) :=
  ⟨h.chain.snoc hb he (right_facts hr).some_ hr, h.b0, h.b1, by simp; omega⟩
theorem SegOk.take {base : Int} {bs : List Ba} (h : SegOk base bs) (n : Nat) : SegOk base (bs.take n) := ⟨h.chain.take n, h.b0, h.b1, by rw [List.length_take]; have := h.len; omega⟩
theorem SegOk.next0 {base : Int} {bs : List Ba} (h : SegOk base bs) : 0 ≤ nextB base bs := Int.le_trans h.b0 h.chain.next_ge
/-- A small batch behind the last one. -/
theorem small_app {size base : Int} {bs : List Ba} {n : Nat} (h : SegOk base bs) (n0 : 1 ≤ n) (n1 : n ≤ 64) (he : nextB base bs + n ≤ 1000000000) (hl : bs.length < 4096) (hr : ((lenB bs + flen (smallB (nextB base bs) n) : Nat) : Int) ≤ size) :
    appB size base bs (smallB (nextB base bs) n) = 0 ∧ SegOk base (bs ++ [smallB (nextB base bs) n]) := by
  have h0 := h.next0
  have hrt := small_right (n := n) h0 (by omega) n0 n1
  have hend := small_end (nextB base bs) n
  refine ⟨?_, h.snoc rfl (by omega) hrt hl⟩
  unfold appB
  rw [if_neg (fun z => z hrt), if_neg (fun z => z rfl), if_neg (by omega), if_neg (by omega), if_neg (by omega)]
theorem fB_take (bs : List Ba) (n : Nat) : (fB bs).extract 0 n = strN ((bs.flatMap frameB).take n) := by
  refine nb_inj ?_
  have e : nb (fB bs) = bs.flatMap frameB := nb_str (frames_b bs)
  rw [nb_extract, e, nb_str fun x hx => frames_b bs x (List.mem_of_mem_take hx)]
  rfl
theorem flen51 : flen (smallB 5 1) = 18 := by rw [flen_eq]; decide +kernel
theorem flen61 : flen (smallB 6 1) = 18 := by rw [flen_eq]; decide +kernel
section
variable {cs : List Chunk} {H : Heap} {K : Value → Heap → Prop}
theorem open_new {d : Nat} {size base : Int} (h : HL.Holds (dsk d size [] :: cs) H) (h0 : 0 ≤ base) (h1 : base ≤ 1000000000) (k : ∀ q H', HL.Holds (sgc q d base [] :: dsk d size (F1 (fB []) 0) :: cs) H' → K (.tuple #[.pointer (some ⟨q, 0, none⟩), .int .i64 0, .int .i64 0]) H') :
    FnH Tryz.prog 11 #[.pointer (some ⟨d, 0, none⟩), .string nS, .int .i64 base] H K :=
  open5_spec (z := 0) (bs := []) (tail := []) h (.inl ⟨rfl, rfl, rfl⟩) (SegOk.nil h0 h1) (.inl rfl) k
/-- A small batch is appended. -/
theorem append_small {q d n : Nat} {size base z x : Int} {bs : List Ba} {s : Sl} (h : HL.Holds (ownR s (smallB x n).recs :: sgc q d base bs :: dsk d size (F1 (fB bs) z) :: cs) H) (hs : SegOk base bs) (hx : x = nextB base bs) (n0 : 1 ≤ n) (n1 : n ≤ 64) (he : x + n ≤ 1000000000) (hl : bs.length < 4096) (hr : ((lenB bs + flen (smallB x n) : Nat) : Int) ≤ size)
    (k : ∀ H', SegOk base (bs ++ [smallB x n]) → HL.Holds (sgc q d base (bs ++ [smallB x n]) :: dsk d size (F1 (fB (bs ++ [smallB x n])) z) :: ownR s (smallB x n).recs :: cs) H' → K (.int .i64 0) H') :
    FnH Tryz.prog 13 #[.pointer (some ⟨q, 0, none⟩), .agg #[.int .i64 x, .int .i64 1, .int .i64 0, .int .i64 0, .int .i64 0, .slice s.p s.n s.c]] H K := by
  subst hx
  obtain ⟨e1, e2⟩ := small_app (size := size) hs n0 n1 he hl hr
  refine append5_spec (b := smallB (nextB base bs) n) (i := 0) (h.down 2) hs (ownR_gives (by show (List.replicate n vr).length ≤ _; rw [List.length_replicate]; omega)) rfl fun H1 h1 => ?_
  unfold appL at h1
  rw [e1, if_pos rfl] at h1
  rw [e1]
  exact k H1 e2 h1
theorem shown5_spec (h : HL.Holds cs H) (k : ∀ H', HL.Holds cs H' → K (.bool true) H') : FnH Tryz.prog 4 #[] H K := by
  apply logboomlaw5_shown_fn
  unfold logboomlaw5_shown_vc
  refine dnew_spec h (fun q => by omega) fun _ _ d H1 h1 => ⟨_, _, rfl, br_f rfl (br_f rfl (open_new h1 (by decide) (by decide) fun q H2 h2 => ⟨_, _, _, rfl, br_f rfl (br_f rfl (br_f rfl ?_))⟩))⟩
  have o0 : SegOk 5 [] := SegOk.nil (by decide) (by decide)
  have b5 : rightB (smallB 5 1) = 0 := small_right (by decide) (by decide) (by decide) (by decide)
  have b6 : rightB (smallB 6 1) = 0 := small_right (by decide) (by decide) (by decide) (by decide)
  refine next5_spec (i := 0) h2 rfl (by decide) ⟨_, rfl, br_f rfl (small5_spec (n := 1) h2 (by decide) fun l1 H4 _ h4 => ⟨_, _, _, _, _, l1, rfl, ?_⟩)⟩
  refine append_small (n := 1) h4 o0 rfl (by decide) (by decide) (by decide) (by decide) (by rw [flen51]; decide) fun H5 o1 h5 => ⟨_, rfl, br_f rfl ?_⟩
  have o1 : SegOk 5 [smallB 5 1] := o1
  have h5 : HL.Holds (sgc q d 5 [smallB 5 1] :: dsk d 1000 (F1 (fB [smallB 5 1]) 0) :: ownR l1 (smallB 5 1).recs :: cs) H5 := h5
  refine small5_spec (n := 1) (base := 5) h5 (by decide) fun l2 H6 _ h6 => ⟨_, _, _, _, _, l2, rfl, ?_⟩
  refine append5_spec (b := smallB 5 1) (i := 0) (h6.down 2) o1 (ownR_gives (by decide)) rfl fun H7 h7 => ?_
  have ea : appB 1000 5 [smallB 5 1] (smallB 5 1) = 11 := by
    unfold appB
    rw [if_neg (fun z => z b5), if_pos (by decide)]
  unfold appL at h7
  rw [ea, if_neg (by decide)] at h7
  rw [ea]
  refine ⟨_, rfl, br_f rfl (next5_spec (i := 0) h7 rfl (by decide) ⟨_, rfl, br_f rfl ?_⟩)⟩
  have l1e : lenB [smallB 5 1] = 18 := by rw [lenB_cons, flen51]; rfl
  have hs0 : safeN 0 [smallB 5 1] = 0 := safe_none (by unfold safeP; rw [List.take_succ_cons, List.take_zero, l1e]; decide)
  refine safe5_spec (i := 0) (j := 1) h7 rfl rfl (by decide) fun H9 s9 => ?_
  rw [hs0]
  have h9 := h7.up s9
  refine ⟨_, rfl, br_f rfl (sync5_spec h9 fun H10 h10 => ⟨_, rfl, br_f rfl ?_⟩)⟩
  refine safe5_spec (i := 0) (j := 1) h10 rfl rfl (by decide) fun H11 s11 => ?_
  rw [safe_all]
  have h11 := h10.up s11
  refine ⟨_, rfl, br_f rfl (bytes5_spec (i := 0) (j := 1) h11 rfl rfl ⟨_, rfl, ?_⟩)⟩
  rw [fB_size, l1e]
  refine small5_spec (n := 1) (base := 6) h11 (by decide) fun l3 H13 _ h13 => ⟨_, _, _, _, _, l3, rfl, ?_⟩
  refine append_small (n := 1) (x := 6) h13 o1 rfl (by decide) (by decide) (by decide) (by decide) (by rw [l1e, flen61]; decide) fun H14 o2 h14 => ⟨_, rfl, br_f rfl ?_⟩
  have o2 : SegOk 5 [smallB 5 1, smallB 6 1] := o2
  have l2e : lenB [smallB 5 1, smallB 6 1] = 36 := by rw [lenB_cons, lenB_cons, flen51, flen61]; rfl
  rw [l1e] at h14
  have h14 : HL.Holds (sgc q d 5 [smallB 5 1, smallB 6 1] :: dsk d 1000 (F1 (fB [smallB 5 1, smallB 6 1]) ((18 : Nat) : Int)) :: ownR l3 (smallB 6 1).recs :: ownR l2 (smallB 5 1).recs :: ownR l1 (smallB 5 1).recs :: cs) H14 := h14
  refine bytes5_spec (i := 0) (j := 1) h14 rfl rfl ⟨_, rfl, ?_⟩
  rw [fB_size, l2e]
  refine br_f (by decide +kernel) (h14.new fun q1 H16 h16 => ?_)
  have ew : IntKind.wrap .i64 (((18 : Nat) : Int) - 1) = 17 := by decide +kernel
  rw [ew] at h16 ⊢
  have gk : Gives (blk q1 (.cells #[.int .i64 17] 3 (0, 0))) fun A => Ints A ⟨some ⟨q1, 0, none⟩, 1, 1⟩ [17] := ⟨blk_mono _ _, fun A hA => ⟨rfl, by show (1 : Nat) ≤ _; decide, Nat.le_refl _, CellsAt.block hA fun i hi => by
    have : i = 0 := by simp at hi; exact hi
    subst this; rfl⟩⟩
  refine crash_spec (keep := ⟨some ⟨q1, 0, none⟩, 1, 1⟩) (L := [17]) (i := 0) (h16.pull 2 rfl) gk rfl (by simp) fun H17 h17 => ⟨rfl, ?_⟩
  have hcr : crashF [17] (F1 (fB [smallB 5 1, smallB 6 1]) ((18 : Nat) : Int)) = F1 (strN ([smallB 5 1].flatMap frameB ++ (frameB (smallB 6 1)).take 17)) 35 := by
    have hc := crashF_cons [17] (nS, (fB [smallB 5 1, smallB 6 1], ((18 : Nat) : Int))) []
    have h00 : crashF [17] ([] : Fs) = [] := rfl
    have h000 : crashF (List.drop 1 [17]) ([] : Fs) = [] := rfl
    rw [h00, h000] at hc
    dsimp only at hc
    rw [fB_size, l2e, if_neg (by decide)] at hc
    have hp : ((18 : Nat) : Int) + pickI ([17].headD 0) (((36 : Nat) : Int) - ((18 : Nat) : Int) + 1) = 35 := by decide +kernel
    rw [hp] at hc
    show crashF [17] [(nS, (fB [smallB 5 1, smallB 6 1], ((18 : Nat) : Int)))] = _
    rw [hc]
    have ht : (Int.toNat 35) = 35 := rfl
    rw [ht, fB_take]
    have : ([smallB 5 1, smallB 6 1].flatMap frameB).take 35 = [smallB 5 1].flatMap frameB ++ (frameB (smallB 6 1)).take 17 := by
      simp only [List.flatMap_cons, List.flatMap_nil, List.append_nil]
      have hf : (frameB (smallB 5 1)).length = 18 := flen51
      rw [List.take_append, hf, List.take_of_length_le (by omega)]
    rw [this]; rfl
  rw [hcr] at h17
  have htl : ((frameB (smallB 6 1)).take 17).length = 17 := by
    have hf : (frameB (smallB 6 1)).length = 18 := flen61
    rw [List.length_take, hf]; rfl
  refine open5_spec (z := 35) (bs := [smallB 5 1]) h17 (.inr rfl) o1 (.inr (.inl ⟨smallB 6 1, 17, b6, by decide, by rw [flen61]; decide, rfl⟩)) fun q2 H18 h18 => ⟨_, _, _, rfl, br_t rfl (br_t rfl (br_t ?_ ?_))⟩
  · rw [htl]; rfl
  refine next5_spec (i := 0) h18 rfl (by decide) ⟨_, rfl, br_t rfl ?_⟩
  refine read5_spec (i := 0) (j := 1) (off := 5) (most := 1) h18 rfl rfl o1 (by decide) fun r20 H20 s20 h20 => ⟨r20, rfl, ?_⟩
  have e20 : readB 5 5 1 [smallB 5 1] = [smallB 5 1] := rfl
  rw [e20] at h20
  have n20 := (btl_bts (h20.read 0 rfl btl_mono) (fun b hb => by rw [List.mem_singleton.1 hb]; decide) (by decide)).len
  refine br_t (by rw [n20]; rfl) ?_
  refine read5_spec (i := 1) (j := 2) (off := 6) (most := 100) h20 rfl rfl o1 (by decide) fun r21 H21 s21 h21 => ⟨r21, rfl, ?_⟩
  have e21 : readB 5 6 100 [smallB 5 1] = [] := rfl
  rw [e21] at h21
  have n21 := (btl_bts (h21.read 0 rfl btl_mono) (fun b hb => (by cases hb)) (by decide)).len
  refine br_t (by rw [n21]; rfl) ?_
  refine index5_spec (i := 2) h21 rfl (by decide) fun r22 H22 s22 h22 => ⟨r22, rfl, ?_⟩
  have n22 : r22.n = (ixE [smallB 5 1]).length := (Own.recs eElen (by decide) (h22.own 0 rfl) (by decide)).len
  have e22 : (ixE [smallB 5 1]).length = 1 := rfl
  rw [n22, e22]
  refine k H22 ?_
  have h23 := ((h22.tail.tail.tail.tail.tail.tail))
  exact h23.tail.tail.tail.tail
end
end Go.Proofs.YtokceblmbmajgaaGreatDoor
