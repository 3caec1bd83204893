/- GroupApart: whatever comes in, the call gives true and turns nothing that was there. -/
import Derived.Test.YtcbobncipnjbjaaDoorLOnce
namespace Go.Proofs.YtcbobncipnjbjaaDoor
open Go.HL
set_option maxHeartbeats 800000
set_option maxRecDepth 10000

/-- A record that came in: its list, and where it lies. -/
abbrev Op := Rec × Sl × List Int
abbrev e8 : Op → List Value := fun p => [.int .i64 p.1.kind, .int .i64 p.1.a, .int .i64 p.1.b, .int .i64 p.1.c, .int .i64 p.1.d, .string p.1.name, .string p.1.text, .slice p.2.1.p p.2.1.n p.2.1.c]
theorem e8len : ∀ p, (e8 p).length = 8 := fun _ => rfl
def OpOk (H0 : Heap) (p : Op) : Prop := Ints H0 p.2.1 p.2.2 ∧ p.1.name.size ≤ 9223372036854775807
theorem look_apply {G : List (ByteArray × Grp)} {m : Rec} {L : List Int} {n : ByteArray} (h : n ≠ m.name) : lookL (applyG G m L) n = lookL G n := by
  unfold applyG
  split
  · unfold joinG
    split
    · rw [lookL_put, if_neg h]
    · rfl
  · split
    · split
      · rw [lookL_put, if_neg h]
      · rfl
    · rfl
def mineN : ByteArray := ⟨#[109, 105, 110, 101]⟩
def xA : Grp := ⟨1, 1, [1], [1, 2], [(2, 5)], [(1, 0)]⟩
def gA0 : List (ByteArray × Grp) := [(mineN, ⟨1, 1, [1], [1, 2], [], []⟩)]
def gA : List (ByteArray × Grp) := [(mineN, xA)]
def mA : Rec := ⟨3, 1, 1, 2, 5, mineN, eN⟩
theorem a1 : applyG [] (mJ2 mineN) [1, 2] = gA0 ∧ applyT [] 0 (mJ2 mineN) [1, 2] = ⟨0, 1, 1, 0, [1, 2]⟩ ∧ applyE 0 (mJ2 mineN) = 0 := ⟨by kernel_rfl, by kernel_rfl, by kernel_rfl⟩
theorem a2 : applyG gA0 mA [0] = gA ∧ applyT gA0 0 mA [0] = ⟨0, 1, 1, 5, []⟩ ∧ applyE 0 mA = 0 := ⟨by kernel_rfl, by kernel_rfl, by kernel_rfl⟩
theorem fA0 : Fine gA0 1000 := by intro p hp; simp [gA0] at hp; subst hp; decide
theorem fA : Fine gA 1000 := by intro p hp; simp [gA, xA] at hp; subst hp; decide
theorem lA : lookL gA mineN = some xA := by kernel_rfl
theorem groupApart_walk {H0 : Heap} {script : Sl} {ops : List Op} (hs : Recs e8 H0 script ops) (hr : ∀ o ∈ ops, OpOk H0 o) :
    FnH Tryd.prog 5 #[.slice script.p script.n script.c] H0 fun r H' => r = .bool true ∧ HL.Sub H0 H' := by
  apply logboomlaw15_GroupApart_fn
  unfold logboomlaw15_GroupApart_vc
  have hsl := hs.len
  have hsb := hs.big
  refine shown_spec (Holds.whole H0) fun H1 h1 => ⟨_, rfl, new_spec h1 fun g H2 h2 => ⟨_, rfl, br_f rfl (br_f rfl (h2.new fun q1 H3 h3 => ?_))⟩⟩
  refine applyL (mJ2 mineN) [1, 2] (Fine.nil _) h3.swap (by decide) (by decide) fun s H4 h4 => ?_
  rw [a1.1, a1.2.1, a1.2.2] at *
  refine ⟨_, _, _, _, s, rfl, ?_⟩
  have h4 : Holds (grs g gA0 0 :: blk q1 (.cells (iv [1, 2]).toArray 3 (0, 0)) :: ro H0 :: []) H4 := h4.tail
  refine h4.swap.tail.new fun q2 H5 h5 => ?_
  refine applyL mA [0] (fA0.mono (by decide)) h5.swap (by decide) (by decide) fun s2 H6 h6 => ?_
  rw [a2.1, a2.2.1, a2.2.2] at *
  refine ⟨_, _, _, _, s2, rfl, br_f rfl (br_f rfl ?_)⟩
  have h6 : Holds (grs g gA 0 :: blk q2 (.cells (iv [0]).toArray 3 (0, 0)) :: ro H0 :: []) H6 := h6.tail
  have h6 : Holds [grs g gA 0, ro H0] H6 := (h6.swap).tail
  refine ⟨fun i H => 0 ≤ i ∧ i ≤ 100 ∧ ∃ G ep, Holds [grs g G ep, ro H0] H ∧ Fine G (1000 + i) ∧ lookL G mineN = some xA, fun i _ => (100 - i).toNat, ⟨Int.le_refl _, by omega, gA, 0, h6, fA, lA⟩, ?_⟩
  rintro i H7 ⟨i0, i1, G, ep, h7, hF, hlook⟩
  have S7 := h7.sub 1 rfl
  refine br_intro (fun q => br_intro (fun q2 => ?_) (fun _ => ⟨rfl, S7⟩)) (fun _ => ⟨rfl, S7⟩)
  have q := of_decide_eq_true q
  have q2 := of_decide_eq_true q2
  obtain ⟨b, o, op, p1, p2, p3⟩ := (Recs.mono _ _ S7 hs).at_ e8len (by decide) i0 q
  obtain ⟨r1, r2⟩ := hr op (List.mem_of_getElem? p2)
  rw [wrap64_id (n := i + 1) (by omega) (by omega)]
  refine ⟨b, o, p1, i0, q, op.1.name, p3 5 _ rfl, br_intro (fun q3 => ⟨rfl, ⟨by omega, by omega, G, ep, h7, hF.mono (by omega), hlook⟩, by dsimp only; omega⟩) (fun q3 => ⟨b, o, p1, i0, q, op.2.1, p3 7 _ rfl, br_intro (fun q4 => ⟨rfl, ⟨by omega, by omega, G, ep, h7, hF.mono (by omega), hlook⟩, by dsimp only; omega⟩) (fun q4 => ?_)⟩)⟩
  rw [str_eq] at q3
  have q3 : ¬ op.1.name = mineN := of_decide_eq_false q3
  refine ⟨b, o, p1, i0, q, op.1.kind, p3 0 _ rfl, op.1.a, p3 1 _ rfl, op.1.b, p3 2 _ rfl, op.1.c, p3 3 _ rfl, op.1.d, p3 4 _ rfl, op.1.name, p3 5 _ rfl, op.1.text, p3 6 _ rfl, op.2.1, p3 7 _ rfl, ?_⟩
  refine apply_spec (hF.mono (by omega)) h7 ⟨ro_mono H0, fun A hA => r1.sub hA⟩ (i0 := 0) rfl r2 fun s3 H8 h8 => ⟨_, _, _, _, s3, rfl, ?_⟩
  have h8 := h8.tail
  have hF2 := hF.apply (by omega) op.1 op.2.2
  have hl2 : lookL (applyG G op.1 op.2.2) mineN = some xA := by rw [look_apply (fun e => q3 e.symm)]; exact hlook
  generalize applyG G op.1 op.2.2 = G2 at *
  generalize applyE ep op.1 = ep2 at *
  -- what is asked behind it
  have fin : ∀ H9, HL.Sub H8 H9 → ∀ (b2 : Bool) (Q : Prop), b2 = true → Q → br (!b2) ((Value.bool false) = .bool true ∧ HL.Sub H0 H9) (FnH Tryd.prog 18 #[ptrV g, .string mineN] H9 fun r8 H12 => ∃ n18 : Int, r8 = .int .i64 n18 ∧ HL.Sub H9 H12 ∧ br ((n18 : Int) != 1) ((Value.bool false) = .bool true ∧ HL.Sub H0 H12)
      (FnH Tryd.prog 16 #[ptrV g, .string mineN, .int .i64 2] H12 fun r9 H13 => ∃ n19 : Int, r9 = .int .i64 n19 ∧ HL.Sub H9 H13 ∧ br ((n19 : Int) != 5) ((Value.bool false) = .bool true ∧ HL.Sub H0 H13)
        (FnH Tryd.prog 19 #[ptrV g, .string mineN, .int .i64 1] H13 fun r10 H14 => ∃ n20 : Int, r10 = .int .i64 n20 ∧ HL.Sub H9 H14 ∧ br ((n20 : Int) != 1) ((Value.bool false) = .bool true ∧ HL.Sub H0 H14)
          (Q ∧
            (0 ≤ i + 1 ∧ i + 1 ≤ 100 ∧ ∃ G ep, Holds [grs g G ep, ro H0] H14 ∧ Fine G (1000 + (i + 1)) ∧ lookL G mineN = some xA) ∧ (100 - (i + 1)).toNat < (100 - i).toNat)))) := fun H9 s9 b2 Q hb hQ => by
    have h9 : Holds [grs g G2 ep2, ro H0] H9 := Holds.up s9 h8
    have g9 := h9.read 0 rfl grs_mono
    refine br_f (by rw [hb]; rfl) (gGen_spec hF2.small g9 ⟨_, rfl, HL.Sub.refl _, br_f (by rw [hl2]; rfl) (gOffset_spec hF2.small g9 ⟨_, rfl, HL.Sub.refl _, br_f (by rw [hl2]; rfl) (gOwner_spec hF2.small g9 fun H14 s14 => ⟨_, rfl, s14, br_f (by rw [hl2]; rfl) ⟨hQ, ⟨by omega, by omega, G2, ep2, h9.up s14, hF2.mono (by omega), hl2⟩, by omega⟩⟩)⟩)⟩)
  have lit : ∀ {H : Heap} {q : Nat}, H q = some (.cells #[.int .i64 1] 3 (0, 0)) → Ints H ⟨some ⟨q, 0, none⟩, 1, 1⟩ [1] := fun hq => ⟨rfl, (by show (1 : Nat) ≤ _; decide), Nat.le_refl _, CellsAt.block hq fun i hi => by simp at hi; subst hi; rfl⟩
  have em : ((lookL G2 mineN).map Grp.mem).getD [] = [1] := by rw [hl2]; rfl
  have g8 : grs g G2 ep2 H8 := (show Holds [grs g G2 ep2, ro H0] H8 from h8).read 0 rfl grs_mono
  refine ⟨?_, ?_⟩
  · refine gMembers_spec (n := mineN) hF2.small g8 fun r H9 s9 hm => ⟨r, rfl, s9, fun q6 hq6 => letH_intro fun H10 g10 => ?_⟩
    rw [em] at hm
    have s10 : HL.Sub H9 H10 := by rw [g10]; exact Sub.new hq6 _
    refine ⟨s9.trans s10, sameList_spec (b := ⟨some ⟨q6, 0, none⟩, 1, 1⟩) (hm.sub s10) (lit (by rw [g10]; exact Heap.upd_same _ _ _)) ⟨_, rfl, s9.trans s10, fin H10 (s9.trans s10) (decide (([1] : List Int) = [1])) _ (by decide) rfl⟩⟩
  · intro q7 hq7
    refine letH_intro fun H15 g15 => ?_
    have s15 : HL.Sub H8 H15 := by rw [g15]; exact Sub.new hq7 _
    refine ⟨s15, gMembers_spec (n := mineN) hF2.small (grs_mono _ _ s15 g8) fun r H16 s16 hm => ⟨r, rfl, s15.trans s16, ?_⟩⟩
    rw [em] at hm
    exact sameList_spec (b := ⟨some ⟨q7, 0, none⟩, 1, 1⟩) hm (lit (s16 _ _ (by rw [g15]; exact Heap.upd_same _ _ _))) ⟨_, rfl, s15.trans s16, fin H16 (s15.trans s16) (decide (([1] : List Int) = [1])) _ (by decide) rfl⟩
end Go.Proofs.YtcbobncipnjbjaaDoor
