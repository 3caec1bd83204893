/- The law SegmentCuts holds: for every argument the call gives true, and the arguments read behind it as before. No condition beyond the tables that the row lists. -/
import Derived.Test.YtokceblmbmajgaaDoorL3
import Derived.Test.YtokceblmbmajgaaDoorOpen
namespace Go.Proofs.YtokceblmbmajgaaDoor
open Go Go.HL Go.RowKit Go.ChangeShapes Go.WideShapes Go.ChangeAt
set_option maxRecDepth 100000

theorem segmentCuts_lifted (os : Os) (started : os.Started) (H : Type) (enc : TypeId × Value → H) :
    ReturnsInHanded {} Tryd.checked os 7 .any (fun w args => (Rows.segmentCutsSpec.pre enc Tryd.prog Tryd.f7 Rows.segmentCutsRow.domain false w args ∧ laidMetH Tryd.prog laidL w) ∧ sizedMet enc Tryd.prog Tryd.f7 (OpenSpec.ofChange Rows.segmentCutsSpec) false w args) (Rows.segmentCutsSpec.post enc Tryd.prog Tryd.f7 false true false false) := by
  refine returnsInHanded_of_change_and (C := Tryd.checked) (X := fun w _ => laidMetH Tryd.prog laidL w) (fun _ _ _ hh h => h.of_heap hh) Tryd.own started (by kernel_rfl) Tryd.func7
    (ChangeSpec.witness_shaped (enc := enc) (C := Tryd.checked) (os := os) (X := fun w _ => laidMetH Tryd.prog laidL w) false (World.laidAll Tryd.prog os laidL) #[.slice none 0 0, .int .i64 0, .int .i64 0] 8 (World.laidAll_os _ _ _) (World.shaped_of_ZipB (by kernel_rfl) (by kernel_rfl)) (by kernel_rfl) (by kernel_rfl) (by kernel_rfl) (laid_met os _)) ?_
  intro W base args ds gs before hval0 hW hcnd _ _ _
  have hval : ∀ (j : Nat) t v, Tryd.f7.params[j]? = some t → args[j]? = some v → Value.okWide Tryd.prog W .any base t v := hval0
  have hW' := hW
  obtain ⟨p, q, hA0, hV, rfl, hfz, hnd⟩ := hW
  have hA : DataW.TrodAll enc Tryd.prog W 0 (fun _ => true) true Tryd.f7.params.toList args.toList ds p := hA0
  rw [Tryd.params7] at hA hval
  obtain ⟨v0, v1, v2, d0, d1, d2, p0, p1, p2, rfl, rfl, rfl, h0, h1, h2⟩ := trodAll_three hA
  obtain ⟨rfl, rfl⟩ := trodVars_none hV
  obtain ⟨s0, l0, e0, i0, r0⟩ := ints_came Tryd.underlying22 u3 (by kernel_rfl) (hval 0 22 v0 rfl rfl) h0
  obtain ⟨n1, e1, r1⟩ := int_came u3 (hval 1 3 v1 rfl rfl) h1
  obtain ⟨n2, e2, r2⟩ := int_came u3 (hval 2 3 v2 rfl rfl) h2
  clear hA0 hval0
  simp only [List.append_nil] at hW'
  have hlt : ∀ x ∈ p0 ++ p1 ++ p2, x.block < W.heap.size := fun x hx => by simpa using hW'.lt x hx
  have hwalk := calls_true (w := W) (cuts5 i0 r0 r1 r2 fun H2 s2 => ⟨rfl, s2⟩)
  rw [← e0, ← e1, ← e2] at hwalk
  refine hwalk.mono fun e W' ⟨he, hb⟩ => ?_
  subst he
  have g : ∀ sp : Nat → Bool, (∀ x ∈ p0 ++ p1 ++ p2, sp x.block = true) → DataW.TrodAll enc Tryd.prog W' 0 sp true [22, 3, 3] [v0, v1, v2] [d0, d1, d2] (p0 ++ p1 ++ p2) := fun sp hsp =>
    by
      simp only [List.append_assoc]
      exact trodAll_mk3 (trod_below Tryd.laidOut (by kernel_rfl) (by kernel_rfl) h0 hb (fun x hx => by simp [hx]) hlt hsp)
        (trod_below Tryd.laidOut (by kernel_rfl) (by kernel_rfl) h1 hb (fun x hx => by simp [hx]) hlt hsp)
        (trod_below Tryd.laidOut (by kernel_rfl) (by kernel_rfl) h2 hb (fun x hx => by simp [hx]) hlt hsp)
  exact ⟨_, rfl, post_of_below (pa := p0 ++ p1 ++ p2) (pv := []) hW' (fun _ _ _ => trodAll_mk1 (shut_bool (by kernel_rfl) true)) g (fun _ _ => rfl) (by simp) hb
    (ok_one (t := 4) (by kernel_rfl) rfl (okWide_bool_mk (by kernel_rfl) true))⟩

theorem segmentCuts_holds : Rows.SegmentCutsSaid :=
  OpenClaim.holds_of_wide 7 Tryd.f7 rfl rfl rfl rfl rfl rfl rfl ⟨rfl, rfl, rfl, rfl, rfl⟩ rfl rfl rfl rfl rfl (by kernel_rfl) Tryd.func7 (by kernel_rfl)
    (of_decide_eq_true (by kernel_rfl)) (by unfold Func.isWrapper; first | (rw [if_pos (by decide +kernel)]; kernel_rfl) | (rw [if_neg (by decide +kernel)]; exact ⟨rfl, rfl⟩))
    (fun os started H enc _ => segmentCuts_lifted os started H enc)
theorem segmentCuts_card : Rows.SegmentCutsCardSaid :=
  Claim7.holds_tied_plain_at .later [] [.data, .pinned] true (true, "394cd76be3ec16bbd14d7b0b1698d1c5f6a83d67681075ad6f8de55f43ef81e7") true segmentCuts_holds (fun _ h => by cases h) (by kernel_rfl) (fun _ h => by cases h) segmentCuts_row_tie rfl ⟨rfl, rfl⟩ (by kernel_rfl) rfl
    (fun f fn hf hfn => by
      obtain rfl : f = 7 := Option.some.inj ((show Tryd.prog.funcNamed "logboom/logboomlaw5.SegmentCuts" = some 7 by kernel_rfl).symm.trans hf) |>.symm
      obtain rfl : fn = Tryd.f7 := (Option.some.inj (Tryd.func7.symm.trans hfn)).symm
      exact ⟨by kernel_rfl, fun j t ht => by
        rw [Tryd.params7] at ht
        have hm : t ∈ ([22, 3, 3] : List Nat) := by simpa using Array.mem_of_getElem? ht
        have hall : (([22, 3, 3] : List Nat).all fun u => !Tryd.prog.wantsStandIn u) = true := by kernel_rfl
        exact (show Tryd.prog.wantsStandIn t = false by simpa using List.all_eq_true.1 hall t hm)⟩)
    (by kernel_rfl)
#print axioms segmentCuts_card
end Go.Proofs.YtokceblmbmajgaaDoor
