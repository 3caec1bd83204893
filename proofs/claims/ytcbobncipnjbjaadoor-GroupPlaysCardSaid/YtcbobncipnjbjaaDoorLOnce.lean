/- GroupOnce and GroupApart: whatever comes in, the calls give true and turn nothing that was there. -/
import Derived.Test.YtcbobncipnjbjaaDoorLShown
namespace Go.Proofs.YtcbobncipnjbjaaDoor
open Go.HL
set_option maxHeartbeats 800000
set_option maxRecDepth 10000

/-- One group of one member, its last commit. -/
def gO (last off : Int) : List (ByteArray × Grp) := [(gN, ⟨1, 1, [1], [1, 2], if last < 0 then [] else [(1, off)], if last < 0 then [] else [(1, last)]⟩)]
def mJ2 (n : ByteArray) : Rec := ⟨1, 0, 0, 0, 0, n, eN⟩
def mO (d : Int) : Rec := ⟨3, 1, 1, 1, d, gN, eN⟩
theorem gO_fine (last off : Int) : Fine (gO last off) 1000000 := by
  intro p hp
  simp only [gO, List.mem_singleton] at hp
  subst hp
  refine ⟨?_, ?_, ?_, ?_, ?_, ?_⟩ <;> simp
theorem gO_step {last off n d : Int} (hl : last = -1 ∨ 0 ≤ last) (n0 : 0 ≤ n) (n1 : n ≤ 1000) (d0 : 0 ≤ d) (d1 : d ≤ 1000) :
    applyG (gO last off) (mO d) [n] = (if n > last then gO n d else gO last off) ∧ (applyT (gO last off) 0 (mO d) [n]).err = (if n > last then 0 else 12) ∧ (applyT (gO last off) 0 (mO d) [n]).parts = [] := by
  have hx : lookL (gO last off) gN = some ⟨1, 1, [1], [1, 2], if last < 0 then [] else [(1, off)], if last < 0 then [] else [(1, last)]⟩ := by
    unfold gO lookL idxL; rw [if_pos rfl]; rfl
  have hX : theX (gO last off) gN = ⟨1, 1, [1], [1, 2], if last < 0 then [] else [(1, off)], if last < 0 then [] else [(1, last)]⟩ := by unfold theX; rw [hx]; rfl
  have hd : doesC (gO last off) (mO d) = 0 := by
    unfold doesC
    show (match lookL (gO last off) gN with | none => (8 : Int) | some x => if (mO d).kind ≠ 4 ∧ (mO d).a ∉ x.mem then 17 else if ((mO d).kind = 3 ∨ (mO d).kind = 6) ∧ (mO d).b ≠ x.gen then 18 else 0) = 0
    rw [hx]; rfl
  have hc : commitC ⟨1, 1, [1], [1, 2], if last < 0 then [] else [(1, off)], if last < 0 then [] else [(1, last)]⟩ (mO d) [n] = if n > last then 0 else 12 := by
    unfold commitC
    rw [if_neg (by show ¬ (d < 0 ∨ d > 1000000000 ∨ (1 : Nat) ≠ 1 ∨ n < 0 ∨ n > 1000000000); omega)]
    have ho : ¬ ownerM ⟨1, 1, [1], [1, 2], if last < 0 then [] else [(1, off)], if last < 0 then [] else [(1, last)]⟩ (mO d).c ≠ (mO d).a := fun q => q (show ownerM ⟨1, 1, [1], [1, 2], if last < 0 then [] else [(1, off)], if last < 0 then [] else [(1, last)]⟩ 1 = 1 by kernel_rfl)
    rw [if_neg ho]
    by_cases q : last < 0
    · simp only [if_pos q]
      have e : lookL ([] : List (Int × Int)) (mO d).a = none := rfl
      rw [e, if_pos (show n > last by omega)]; rfl
    · simp only [if_neg q]
      have e : lookL [((1 : Int), last)] (mO d).a = some last := rfl
      rw [e]
      show (if decide (n ≤ last) = true then (12 : Int) else 0) = _
      by_cases q2 : n ≤ last
      · rw [if_pos (decide_eq_true q2), if_neg (by omega)]
      · rw [if_neg (by simpa using q2), if_pos (by omega)]
  have eG : applyG (gO last off) (mO d) [n] = putL (gO last off) gN (commitG (theX (gO last off) gN) (mO d) [n]) := by
    unfold applyG
    rw [if_neg (show ¬ (mO d).kind = 1 from (show ¬ (3 : Int) = 1 by decide)), if_pos (show (mO d).kind = 2 ∨ _ from .inr (.inl rfl)), hd, if_pos rfl]
    have : doesX (theX (gO last off) (mO d).name) (mO d) [n] = commitG (theX (gO last off) gN) (mO d) [n] := by
      unfold doesX; rw [if_neg (show ¬ (mO d).kind = 2 from (show ¬ (3 : Int) = 2 by decide)), if_pos (show (mO d).kind = 3 from rfl)]; rfl
    rw [this]; rfl
  have eT : applyT (gO last off) 0 (mO d) [n] = commitT (theX (gO last off) gN) (mO d) [n] := by
    unfold applyT
    rw [if_neg (show ¬ (mO d).kind = 1 from (show ¬ (3 : Int) = 1 by decide)), if_neg (show ¬ (mO d).kind = 5 from (show ¬ (3 : Int) = 5 by decide)), if_pos (show (mO d).kind = 2 ∨ _ from .inr (.inl rfl)), hd, if_pos rfl]
    unfold doesT
    rw [if_neg (show ¬ (mO d).kind = 2 from (show ¬ (3 : Int) = 2 by decide)), if_pos (show (mO d).kind = 3 from rfl)]; rfl
  rw [eG, eT, hX]
  unfold commitG commitT
  rw [hc]
  by_cases q : n > last
  · rw [if_pos q, if_pos q, if_pos rfl, if_pos rfl]
    refine ⟨?_, rfl, rfl⟩
    have hn : ¬ n < 0 := by omega
    by_cases q2 : last < 0
    · simp only [gO, putL, if_pos rfl, if_pos q2, if_neg hn]; rfl
    · simp only [gO, putL, if_pos rfl, if_neg q2, if_neg hn]; rfl
  · rw [if_neg q, if_neg q, if_neg (show ¬ (12 : Int) = 0 by decide), if_neg (show ¬ (12 : Int) = 0 by decide)]
    refine ⟨?_, rfl, rfl⟩
    exact putL_self hx
theorem gO_off {last off : Int} : ((lookL (gO last off) gN).map fun x => offM x 1).getD (-1) = if last < 0 then -1 else off := by
  have hx : lookL (gO last off) gN = some ⟨1, 1, [1], [1, 2], if last < 0 then [] else [(1, off)], if last < 0 then [] else [(1, last)]⟩ := by
    unfold gO lookL idxL; rw [if_pos rfl]; rfl
  rw [hx]
  simp only [Option.map_some, Option.getD_some, offM]
  split <;> rfl
theorem t1 : applyG [] (mJ2 gN) [1, 2] = gO (-1) (-1) ∧ applyT [] 0 (mJ2 gN) [1, 2] = ⟨0, 1, 1, 0, [1, 2]⟩ ∧ applyE 0 (mJ2 gN) = 0 := ⟨by kernel_rfl, by kernel_rfl, by kernel_rfl⟩
theorem groupOnce_walk {H0 : Heap} {numbers offsets : Sl} {ns os : List Int} (hn : Ints H0 numbers ns) (hnr : ∀ n ∈ ns, i64B n) (ho : Ints H0 offsets os) (hor : ∀ n ∈ os, i64B n) :
    FnH Tryd.prog 4 #[.slice numbers.p numbers.n numbers.c, .slice offsets.p offsets.n offsets.c] H0 fun r H' => r = .bool true ∧ HL.Sub H0 H' := by
  apply logboomlaw15_GroupOnce_fn
  unfold logboomlaw15_GroupOnce_vc
  have hnl := hn.len
  have hnb := hn.big
  have hol := ho.len
  refine shown_spec (Holds.whole H0) fun H1 h1 => ⟨_, rfl, new_spec h1 fun g H2 h2 => ⟨_, rfl, br_f rfl (br_f rfl (h2.new fun q1 H3 h3 => ?_))⟩⟩
  refine applyL (mJ2 gN) [1, 2] (Fine.nil _) h3.swap (by decide) (by decide) fun s H4 h4 => ?_
  rw [t1.1, t1.2.1, t1.2.2] at *
  refine ⟨_, _, _, _, s, rfl, ?_⟩
  have h4 : Holds (grs g (gO (-1) (-1)) 0 :: blk q1 (.cells (iv [1, 2]).toArray 3 (0, 0)) :: ro H0 :: []) H4 := h4.tail
  have h4 : Holds [grs g (gO (-1) (-1)) 0, ro H0] H4 := (h4.swap).tail
  refine ⟨fun last off i H => 0 ≤ i ∧ i ≤ 60 ∧ (last = -1 ∧ off = -1 ∨ 0 ≤ last) ∧ Holds [grs g (gO last off) 0, ro H0] H, fun _ _ i _ => (60 - i).toNat, ⟨Int.le_refl _, by omega, .inl ⟨rfl, rfl⟩, h4⟩, ?_⟩
  rintro last off i H5 ⟨i0, i1, hlast, h5⟩
  have S5 := h5.sub 1 rfl
  refine br_intro (fun q => br_intro (fun q2 => br_intro (fun q3 => ?_) (fun _ => ⟨rfl, S5⟩)) (fun _ => ⟨rfl, S5⟩)) (fun _ => ⟨rfl, S5⟩)
  have q := of_decide_eq_true q
  have q2 := of_decide_eq_true q2
  have q3 := of_decide_eq_true q3
  obtain ⟨b, o, e1, e2, e3, e4⟩ := (hn.sub S5).at_ i0 q
  obtain ⟨b', o', f1, f2, f3, f4⟩ := (ho.sub S5).at_ i0 q2
  have hni : i64B (ns.getD i.toNat 0) := hnr _ (getD_mem i0 (by omega))
  have hoi : i64B (os.getD i.toNat 0) := hor _ (getD_mem i0 (by omega))
  obtain ⟨c0, c1⟩ := pickI_in (c := ns.getD i.toNat 0) (n := 30) (by decide) hni.1 hni.2
  obtain ⟨d0, d1⟩ := pickI_in (c := os.getD i.toNat 0) (n := 1000) (by decide) hoi.1 hoi.2
  refine ⟨b, o, e1, e2, e3, _, e4, pick_spec (by decide) ⟨_, rfl, b', o', f1, f2, f3, _, f4, pick_spec (by decide) ⟨_, rfl, ?_⟩⟩⟩
  generalize pickI (ns.getD i.toNat 0) 30 = n at *
  generalize pickI (os.getD i.toNat 0) 1000 = d at *
  refine h5.new fun q4 H8 h8 => ?_
  obtain ⟨aG, aT, aP⟩ := gO_step (last := last) (off := off) (n := n) (d := d) (by omega) c0 (by omega) d0 (by omega)
  refine applyL (mO d) [n] (gO_fine _ _) h8.swap (by show gN.size ≤ _; decide) (by show (1 : Nat) ≤ _; decide) fun s H9 h9 => ⟨_, _, _, _, s, rfl, ?_⟩
  rw [aT]
  rw [aG, show applyE 0 (mO d) = 0 from rfl] at h9
  rw [wrap64_id (n := i + 1) (by omega) (by omega)]
  have h10 := h9.tail
  refine br_intro (fun q5 => ?_) (fun q5 => ?_)
  · have q5 := of_decide_eq_true q5
    rw [if_pos q5]
    rw [if_pos q5] at h10
    have h10 : Holds (grs g (gO n d) 0 :: blk q4 _ :: ro H0 :: []) H9 := h10
    have h11 : Holds [grs g (gO n d) 0, ro H0] H9 := h10.swap.tail
    refine br_f rfl (gOffset_spec (n := gN) (part := 1) (gO_fine _ _).small (h11.read 0 rfl grs_mono) ⟨_, rfl, br_f (by rw [gO_off, if_neg (by omega)]; simp) ⟨rfl, ⟨by omega, by omega, .inr c0, h11⟩, by dsimp only; omega⟩⟩)
  · have q5 := of_decide_eq_false q5
    rw [if_neg q5]
    rw [if_neg q5] at h10
    have h10 : Holds (grs g (gO last off) 0 :: blk q4 _ :: ro H0 :: []) H9 := h10
    have h11 : Holds [grs g (gO last off) 0, ro H0] H9 := h10.swap.tail
    refine br_f rfl (gOffset_spec (n := gN) (part := 1) (gO_fine _ _).small (h11.read 0 rfl grs_mono) ⟨_, rfl, br_f (by rw [gO_off, if_neg (by omega)]; simp) ⟨rfl, ⟨by omega, by omega, hlast, h11⟩, by dsimp only; omega⟩⟩)
end Go.Proofs.YtcbobncipnjbjaaDoor
