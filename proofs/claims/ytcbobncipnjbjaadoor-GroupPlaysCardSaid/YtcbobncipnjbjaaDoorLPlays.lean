/- GroupPlays: whatever comes in, the call gives true and turns nothing that was there. -/
import Derived.Test.YtcbobncipnjbjaaDoorT3
namespace Go.Proofs.YtcbobncipnjbjaaDoor
open Go Go.HL
set_option maxHeartbeats 1600000
set_option maxRecDepth 10000

theorem groupPlays_walk {H0 : Heap} {script : Sl} {ops : List Op} {part : Int} (hs : Recs e8 H0 script ops) (hr : ∀ o ∈ ops, OpOk H0 o) :
    FnH Tryd.prog 8 #[.slice script.p script.n script.c, .int .i64 part] H0 fun r H' => r = .bool true ∧ HL.Sub H0 H' := by
  apply logboomlaw15_GroupPlays_fn
  unfold logboomlaw15_GroupPlays_vc
  have hsl := hs.len
  have hsb := hs.big
  refine shown_spec (Holds.whole H0) fun H1 h1 => ⟨_, rfl, new_spec h1 fun g H2 h2 => ⟨_, rfl, h2.new fun r H3 h3 => br_f rfl (br_f rfl ?_)⟩⟩
  have h3' : HL.Holds [rgrs r [] 0 0, grs g [] 0, ro H0] H3 := rgrs_open.2 ⟨⟨none, 0, 0⟩, [], ⟨List.Perm.refl _, List.Pairwise.nil⟩, by
    have h4 : HL.Holds (HL.Holds (([] : List Held).map (rf 0)) :: blk r (.cells #[.slice none 0 0, .int .i64 0] 46 (0, 0)) :: grs g [] 0 :: [ro H0]) H3 := h3.cons_emp True.intro
    have h5 := h4.own_nil 63 1
    exact h5.pull 2 rfl⟩
  refine ⟨fun i H => 0 ≤ i ∧ i ≤ 200 ∧ ∃ G ep, HL.Holds [grs g G ep, rgrs r G ep i.toNat, ro H0] H ∧ Fine G (1000 + i) ∧ Good G ∧ (G.length : Int) ≤ i, fun i _ => (200 - i).toNat,
    ⟨Int.le_refl _, by omega, [], 0, h3'.swap, Fine.nil _, fun p hp => (by cases hp), by simp⟩, ?_⟩
  rintro i H4 ⟨i0, i1, G, ep, h4, hF, hG, hl⟩
  have S4 := h4.sub 2 rfl
  refine br_intro (fun q => br_intro (fun q2 => ?_) (fun _ => ⟨rfl, S4⟩)) (fun _ => ⟨rfl, S4⟩)
  have q := of_decide_eq_true q
  have q2 := of_decide_eq_true q2
  obtain ⟨b, o, op, p1, p2, p3⟩ := (Recs.mono _ _ S4 hs).at_ e8len (by decide) i0 q
  obtain ⟨r1, r2⟩ := hr op (List.mem_of_getElem? p2)
  rw [wrap64_id (n := i + 1) (by omega) (by omega)]
  have e1 : (i + 1).toNat = i.toNat + 1 := by omega
  have skip : (0 ≤ i + 1 ∧ i + 1 ≤ 200 ∧ ∃ G ep, HL.Holds [grs g G ep, rgrs r G ep (i + 1).toNat, ro H0] H4 ∧ Fine G (1000 + (i + 1)) ∧ Good G ∧ (G.length : Int) ≤ i + 1) :=
    ⟨by omega, by omega, G, ep, by rw [e1]; exact (rgrs_more h4.swap).swap, hF.mono (by omega), hG, by omega⟩
  refine ⟨b, o, p1, i0, q, op.2.1, p3 7 _ rfl, br_intro (fun w => ⟨rfl, skip, by dsimp only; omega⟩) (fun w => ⟨b, o, p1, i0, q, op.1.name, p3 5 _ rfl, br_intro (fun w2 => ⟨rfl, skip, by dsimp only; omega⟩) (fun w2 => ?_)⟩)⟩
  refine ⟨b, o, p1, i0, q, op.1.kind, p3 0 _ rfl, op.1.a, p3 1 _ rfl, op.1.b, p3 2 _ rfl, op.1.c, p3 3 _ rfl, op.1.d, p3 4 _ rfl, op.1.name, p3 5 _ rfl, op.1.text, p3 6 _ rfl, op.2.1, p3 7 _ rfl, b, o, p1, i0, q, ?_⟩
  have first : ∀ {X : Value → Heap → Prop}, (∀ (s : Sl) H5, HL.Holds [ints s (applyT G ep op.1 op.2.2).parts, grs g (applyG G op.1 op.2.2) (applyE ep op.1), rgrs r G ep i.toNat, ro H0] H5 → X (toldV (applyT G ep op.1 op.2.2) s) H5) → FnH Tryd.prog 14 #[ptrV g, recV op.1 op.2.1] H4 X := fun k =>
    apply_spec (m := op.1) (hF.mono (by omega)) h4 ⟨ro_mono H0, fun A hA => r1.sub hA⟩ (i0 := 1) rfl r2 fun s H5 h5 => k s H5 h5
  have second : ∀ (s : Sl) H5, HL.Holds [ints s (applyT G ep op.1 op.2.2).parts, grs g (applyG G op.1 op.2.2) (applyE ep op.1), rgrs r G ep i.toNat, ro H0] H5 →
      FnH Tryd.prog 22 #[ptrV r, recV op.1 op.2.1] H5 fun r4 H6 => ∃ n15 n16 n17 n18 : Int, ∃ l5 : Sl, r4 = .agg #[.int .i64 n15, .int .i64 n16, .int .i64 n17, .int .i64 n18, .slice l5.p l5.n l5.c] ∧
        FnH Tryd.prog 21 #[toldV (applyT G ep op.1 op.2.2) s, .agg #[.int .i64 n15, .int .i64 n16, .int .i64 n17, .int .i64 n18, .slice l5.p l5.n l5.c]] H6 fun r5 H7 => ∃ b2 : Bool, r5 = .bool b2 ∧
          FnH Tryd.prog 23 #[ptrV g, ptrV r, .int .i64 part] H7 fun r6 H8 => ∃ b3 : Bool, r6 = .bool b3 ∧ br (!b2) (Value.bool false = .bool true ∧ HL.Sub H0 H8) (br (!b3) (Value.bool false = .bool true ∧ HL.Sub H0 H8)
            (SelfEq ([.v (.slice script.p script.n script.c), .v (.int .i64 part), .v (ptrV g), .v (ptrV r)], [], []) ∧ (0 ≤ i + 1 ∧ i + 1 ≤ 200 ∧ ∃ G ep, HL.Holds [grs g G ep, rgrs r G ep (i + 1).toNat, ro H0] H8 ∧ Fine G (1000 + (i + 1)) ∧ Good G ∧ (G.length : Int) ≤ i + 1) ∧ (200 - (i + 1)).toNat < (200 - i).toNat)) := fun s H5 h5 => by
    refine rapply_spec (m := op.1) (ml := op.2.1) (L := op.2.2) (hF.mono (by omega)) (by omega) (by omega) (fun p hp => (hG p hp).2.1) (h5.pull 2 rfl) (c0 := ro H0) ⟨ro_mono H0, fun A hA => r1.sub hA⟩ (i0 := 2) rfl fun s2 H6 h6 => ⟨_, _, _, _, s2, rfl, ?_⟩
    have h6 : HL.Holds [ints s2 (applyT G ep op.1 op.2.2).parts, rgrs r (applyG G op.1 op.2.2) (applyE ep op.1) (i.toNat + 1), ints s (applyT G ep op.1 op.2.2).parts, grs g (applyG G op.1 op.2.2) (applyE ep op.1), ro H0] H6 := h6
    refine same_spec (h6.read 2 rfl Ints.mono) (h6.read 0 rfl Ints.mono) ⟨_, rfl, ?_⟩
    have hlen := applyG_len G op.1 op.2.2
    have hF2 := hF.apply (by omega) op.1 op.2.2
    have hG2 := hG.apply op.1 op.2.2
    have h7 : HL.Holds [grs g (applyG G op.1 op.2.2) (applyE ep op.1), rgrs r (applyG G op.1 op.2.2) (applyE ep op.1) (i.toNat + 1), ro H0] H6 := ((h6.tail.pull 1 rfl).tail.pull 1 rfl)
    refine alike_spec (hF2.mono (by omega)) hG2 (by omega) (by omega) h7 fun H8 h8 => ⟨_, rfl, br_f rfl (br_f rfl ⟨rfl, ⟨by omega, by omega, _, _, by rw [e1]; exact h8, hF2.mono (by omega), hG2, by omega⟩, by omega⟩)⟩
  constructor
  · refine first fun s H5 h5 => ⟨_, _, _, _, s, rfl, ?_⟩
    have s5 := h5.sub 3 rfl
    obtain ⟨b', o', op', p1', p2', p3'⟩ := (Recs.mono _ _ s5 hs).at_ e8len (by decide) i0 q
    have eo : op' = op := by rw [p2] at p2'; exact (Option.some.inj p2').symm
    subst eo
    rw [p1] at p1'
    simp only [Option.some.injEq, Addr.mk.injEq, and_true] at p1'
    obtain ⟨rfl, rfl⟩ := p1'
    exact ⟨_, p3' 0 _ rfl, _, p3' 1 _ rfl, _, p3' 2 _ rfl, _, p3' 3 _ rfl, _, p3' 4 _ rfl, _, p3' 5 _ rfl, _, p3' 6 _ rfl, _, p3' 7 _ rfl, second s H5 h5⟩
  · exact ⟨_, p3 0 _ rfl, _, p3 1 _ rfl, _, p3 2 _ rfl, _, p3 3 _ rfl, _, p3 4 _ rfl, _, p3 5 _ rfl, _, p3 6 _ rfl, _, p3 7 _ rfl, HL.Sub.refl _, first fun s H5 h5 => ⟨_, _, _, _, s, rfl, second s H5 h5⟩⟩
end Go.Proofs.YtcbobncipnjbjaaDoor
