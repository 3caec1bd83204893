/- Chapter 7: the document's cache: Delete, End. -/
import Derived.Test.YtdgmifbcbmndgaaGreatDoorQ1
namespace Go.Proofs.YtdgmifbcbmndgaaGreatDoor
open Go Go.HL
set_option maxHeartbeats 1600000
set_option maxRecDepth 10000

def delX (off : Int) (k : Nat) (x : En) : En := if k = 0 then (x.1, (if off > x.2.1 then off else x.2.1), x.2.2) else x
theorem del_get {L : List En} {off : Int} {g : Nat} (hg : (aheadL L (off + 1)).length - 1 = g) (k : Nat) : (delE L off)[k]? = (L[g + k]?).map (delX off k) := by
  rw [← List.getElem?_drop, ← hg]
  unfold delE
  cases e : L.drop ((aheadL L (off + 1)).length - 1) with
  | nil => rfl
  | cons x t =>
    cases k with
    | zero => simp [delX]
    | succ m =>
      have e : delX off (m + 1) = id := by funext y; simp [delX]
      simp [e]
section
variable {cs : List Chunk} {H : Heap} {K : Value → Heap → Prop}
theorem rdelete_spec7 {c d : Nat} {size : Int} {F : Fs} {n : ByteArray} {L : List En} {off : Int} (h : HL.Holds (rch c d n L :: rdsk d size F :: cs) H) (hL : EOk L)
    (k : ∀ H', HL.Holds (rch c d n (deleteR size F n L off).2.2 :: rdsk d size (deleteR size F n L off).2.1 :: cs) H' → K (.int .i64 (deleteR size F n L off).1) H') : FnH Tryz.prog 14 #[.pointer (some ⟨c, 0, none⟩), .int .i64 off] H K := by
  apply logboomref7_Cache_Delete_fn
  unfold logboomref7_Cache_Delete_vc
  have hlen := hL.len
  unfold deleteR at k
  refine rmay_spec ⟨_, rfl, br_intro (fun q => ?_) (fun q => ?_)⟩
  · have q : ¬ mayP off := nd_t q
    rw [if_pos q] at k; dsimp only at k; exact k H h
  have q : mayP off := nd_f q
  rw [if_neg (fun z => z q)] at k
  dsimp only [wr] at k
  obtain ⟨a, ha⟩ : ∃ a, (aheadL L (off + 1)).length = a := ⟨_, rfl⟩
  have hfl : (aheadL L (off + 1)).length ≤ L.length := List.length_filter_le _ _
  obtain ⟨f1, f2⟩ := hL.srt.ahead (off + 1)
  have hget := del_get (L := L) (off := off) (g := a - 1) (by rw [ha])
  have hdm := del_may hL q
  have hdl := delE_len L off
  obtain ⟨s, hc⟩ := h.read 0 rfl rch_mono
  have hn := (Own.recs eElen (by decide) (hc.own 1 rfl) (by omega) : Recs eE H s L).len
  -- what is ahead, and what is not
  have fa : ∀ i x, L[i]? = some x → i < a → x.2.1 ≤ off := fun i x hx hi => by
    have := take_filt f1 hx (by have h0 : i < (aheadL L (off + 1)).length := by omega
                                exact h0)
    simp only [decide_eq_true_eq] at this; omega
  have fb : ∀ i x, L[i]? = some x → a ≤ i → off < x.2.1 := fun i x hx hi => by
    have := f2 x (drop_filt hx (by omega)); omega
  rw [ha] at hfl
  clear f1 f2 ha
  refine ⟨fun out j H' => 0 ≤ j ∧ j ≤ s.n ∧ HL.Holds [ownE out ((delE L off).take (j.toNat - (a - 1))), ro H] H', fun _ j _ => (s.n - j).toNat, ⟨Int.le_refl _, by omega, by
      have e : Int.toNat 0 - (a - 1) = 0 := by simp
      show HL.Holds [ownE _ ((delE L off).take (Int.toNat 0 - (a - 1))), ro H] H
      rw [e]; exact (Holds.whole H).own_nil 51 3⟩, ?_⟩
  rintro out j H2 ⟨j0, j1, h2⟩
  have hc1 := hc.up (h2.sub 1 rfl)
  have hR : Recs eE H2 s L := Own.recs eElen (by decide) (hc1.own 1 rfl) (by omega)
  have c2 : cellH H2 ⟨c, 0 + 2, none⟩ = some (.slice s.p s.n s.c) := hc1.cell 0 rfl rfl
  have hol := (h2.own 0 rfl).1
  rw [flat_len eElen, List.length_take] at hol
  refine ⟨s, c2, br_intro (fun w => ?_) (fun w => ?_)⟩
  · have w := of_decide_eq_true w
    obtain ⟨b, o, x, e1, e2, e3⟩ := hR.at_ eElen (by decide) j0 w
    have push : ∀ {Z : Sl → Heap → Prop} (y : En), (delE L off)[j.toNat - (a - 1)]? = some y → a - 1 ≤ j.toNat → (∀ l6 H4, HL.Holds [ownE l6 ((delE L off).take ((j + 1).toNat - (a - 1))), ro H] H4 → Z l6 H4) →
        ∀ q3 : Nat, H2 q3 = none → letH (Heap.upd H2 q3 (.cells #[.int .i64 y.1, .int .i64 y.2.1, .string y.2.2] 51 (0, 0))) fun H3 => runH Tryz.prog (Builtin.append_ #[44, 44] 44 #[.slice out.p out.n out.c, .slice (some ⟨q3, 0, none⟩) 1 1]) H3 fun r1 H4 => ∃ l6 : Sl, r1 = .slice l6.p l6.n l6.c ∧ Z l6 H4 := fun {Z} y hy hgj kz => by
      refine Holds.push okEn h2 (xs := [.int .i64 y.1, .int .i64 y.2.1, .string y.2.2]) (m := 1) rfl rfl (by omega) fun l6 H3 h3 n3 => ⟨l6, rfl, kz l6 H3 ?_⟩
      have et := take_step (l := delE L off) (i := ((j.toNat - (a - 1) : Nat) : Int)) (by omega) (by rw [Int.toNat_natCast]; exact hy)
      rw [Int.toNat_natCast, show (((j.toNat - (a - 1) : Nat) : Int) + 1).toNat = (j + 1).toNat - (a - 1) by omega] at et
      rw [et]
      have e : ((delE L off).take (j.toNat - (a - 1)) ++ [y]).flatMap eE = ((delE L off).take (j.toNat - (a - 1))).flatMap eE ++ [.int .i64 y.1, .int .i64 y.2.1, .string y.2.2] := by simp
      show HL.Holds [own 51 3 l6 _, ro H] H3
      rw [e]; exact h3
    have got : a - 1 ≤ j.toNat → (delE L off)[j.toNat - (a - 1)]? = some (delX off (j.toNat - (a - 1)) x) := fun hgj => by
      rw [hget, show a - 1 + (j.toNat - (a - 1)) = j.toNat by omega, e2]; rfl
    have len : a - 1 ≤ j.toNat → (out.n : Int) = j.toNat - (a - 1 : Nat) := fun hgj => by
      have := (List.getElem?_eq_some_iff.1 (got hgj)).1
      omega
    have ew : IntKind.wrap .i64 (j + 1) = j + 1 := wrap64_id (by omega) (by omega)
    rw [ew]
    refine ⟨s, c2, br_intro (fun u => ?_) (fun u => ?_)⟩
    · have u := of_decide_eq_true u
      obtain ⟨b', o', y, y1, y2, y3⟩ := hR.at_ eElen (by decide) (j := j + 1) (by omega) u
      refine ⟨s, c2, b', o', y1, by omega, u, _, y3 1 _ rfl, br_intro (fun v => ?_) (fun v => ?_)⟩
      · have v := of_decide_eq_true v
        have hj : (j + 1).toNat < a := Nat.lt_of_not_le fun z => by have := fb _ y y2 z; omega
        refine ⟨rfl, ⟨by omega, by omega, ?_⟩, by dsimp only; omega⟩
        rw [show (j + 1).toNat - (a - 1) = j.toNat - (a - 1) by omega]; exact h2
      · have v := of_decide_eq_false v
        have hj : a - 1 ≤ j.toNat := Nat.le_of_not_lt fun z => by have := fa _ y y2 (by omega); omega
        have hl := len hj
        have hgt := got hj
        refine ⟨s, c2, b, o, e1, j0, w, _, e3 0 _ rfl, _, e3 1 _ rfl, _, e3 2 _ rfl, br_intro (fun z => ⟨s, c2, b, o, e1, j0, w, _, e3 1 _ rfl, ?_⟩) (fun z => ?_)⟩
        · have z := of_decide_eq_true z
          rw [delX, if_neg (by omega)] at hgt
          exact push x hgt hj fun l6 H4 h4 => ⟨rfl, ⟨by omega, by omega, h4⟩, by dsimp only; omega⟩
        · have z := of_decide_eq_false z
          rw [delX, if_pos (by omega)] at hgt
          exact push (x.1, (if off > x.2.1 then off else x.2.1), x.2.2) hgt hj fun l6 H4 h4 => ⟨rfl, ⟨by omega, by omega, h4⟩, by dsimp only; omega⟩
    · have u := of_decide_eq_false u
      have hj : a - 1 ≤ j.toNat := by omega
      have hl := len hj
      have hgt := got hj
      refine ⟨s, c2, b, o, e1, j0, w, _, e3 0 _ rfl, _, e3 1 _ rfl, _, e3 2 _ rfl, br_intro (fun z => ⟨s, c2, b, o, e1, j0, w, _, e3 1 _ rfl, ?_⟩) (fun z => ?_)⟩
      · have z := of_decide_eq_true z
        rw [delX, if_neg (by omega)] at hgt
        exact push x hgt hj fun l6 H4 h4 => ⟨rfl, ⟨by omega, by omega, h4⟩, by dsimp only; omega⟩
      · have z := of_decide_eq_false z
        rw [delX, if_pos (by omega)] at hgt
        exact push (x.1, (if off > x.2.1 then off else x.2.1), x.2.2) hgt hj fun l6 H4 h4 => ⟨rfl, ⟨by omega, by omega, h4⟩, by dsimp only; omega⟩
  · have w := of_decide_eq_false w
    have hend : (delE L off).length ≤ j.toNat - (a - 1) := by
      rw [← List.getElem?_eq_none_iff, hget, List.getElem?_eq_none (by omega)]; rfl
    rw [List.take_of_length_le hend] at h2
    exact rwrite_spec (lift_ro h h2) (by omega) (by omega) hdm fun H3 h3 => ⟨_, rfl, k H3 h3⟩
theorem rend_spec {c d i : Nat} {n : ByteArray} {L : List En} {ep nxt : Int} (h : HL.Holds cs H) (ei : cs[i]? = some (rch c d n L)) (hs : SrtE L) (hl : L.length ≤ 1000) (k : K (.tuple #[.int .i64 (endR L ep nxt).1, .int .i64 (endR L ep nxt).2]) H) :
    FnH Tryz.prog 16 #[.pointer (some ⟨c, 0, none⟩), .int .i64 ep, .int .i64 nxt] H K := by
  apply logboomref7_Cache_End_fn
  unfold logboomref7_Cache_End_vc
  obtain ⟨s, hc⟩ := h.read i ei rch_mono
  have hR : Recs eE H s L := Own.recs eElen (by decide) (hc.own 1 rfl) (by omega)
  have hn := hR.len
  have c2 : cellH H ⟨c, 0 + 2, none⟩ = some (.slice s.p s.n s.c) := hc.cell 0 rfl rfl
  obtain ⟨f1, f2⟩ := hs.upto ep
  have hfl : (uptoL L ep).length ≤ L.length := List.length_filter_le _ _
  unfold endR at k
  refine ⟨s, c2, fun j H' => H' = H ∧ -1 ≤ j ∧ j < s.n ∧ ((uptoL L ep).length : Int) ≤ j + 1, fun j _ => (j + 1).toNat, ?_, ?_⟩
  · rw [wrap64_id (n := (s.n : Int) - 1) (by omega) (by omega)]
    exact ⟨rfl, by omega, by omega, by omega⟩
  rintro j H1 ⟨rfl, j0, j1, j2⟩
  refine br_intro (fun w => ?_) (fun w => ?_)
  · have w := of_decide_eq_true w
    obtain ⟨b, o, x, e1, e2, e3⟩ := hR.at_ eElen (by decide) (j := j) (by omega) (by omega)
    refine ⟨s, c2, b, o, e1, by omega, by omega, _, e3 0 _ rfl, br_intro (fun u => ?_) (fun u => ?_)⟩
    · have u := of_decide_eq_true u
      rw [wrap64_id (n := j - 1) (by omega) (by omega)]
      have : ¬ j.toNat < (uptoL L ep).length := fun z => by
        have := take_filt f1 e2 z
        simp only [decide_eq_true_eq] at this; omega
      exact ⟨rfl, ⟨rfl, by omega, by omega, by omega⟩, by dsimp only; omega⟩
    · have u := of_decide_eq_false u
      have : ¬ (uptoL L ep).length ≤ j.toNat := fun z => by
        have := f2 x (drop_filt e2 z); omega
      have hr : (uptoL L ep).length = j.toNat + 1 := by omega
      rw [if_neg (by omega)] at k
      have ex : L.getD ((uptoL L ep).length - 1) e0 = x := getD_of (by rw [← e2]; congr 1; omega)
      rw [ex] at k
      rw [wrap64_id (n := j + 1) (by omega) (by omega)]
      refine ⟨s, c2, br_intro (fun v => ?_) (fun v => ?_)⟩
      · have v := of_decide_eq_true v
        rw [if_neg (by omega)] at k
        obtain ⟨b', o', y, y1, y2, y3⟩ := hR.at_ eElen (by decide) (j := j + 1) (by omega) v
        have ey : L.getD (uptoL L ep).length e0 = y := getD_of (by rw [← y2]; congr 1; omega)
        rw [ey] at k
        exact ⟨s, c2, b, o, e1, by omega, by omega, _, e3 0 _ rfl, s, c2, b', o', y1, by omega, v, _, y3 1 _ rfl, k⟩
      · have v := of_decide_eq_false v
        rw [if_pos (by omega)] at k
        exact ⟨s, c2, b, o, e1, by omega, by omega, _, e3 0 _ rfl, k⟩
  · have w := of_decide_eq_false w
    rw [if_pos (by omega)] at k; exact k
end
end Go.Proofs.YtdgmifbcbmndgaaGreatDoor
