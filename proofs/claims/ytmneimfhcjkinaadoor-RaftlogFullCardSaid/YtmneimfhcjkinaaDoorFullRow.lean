/- The law RaftlogFull holds: for every argument the call gives true, and the arguments read behind it as before. No condition beyond the tables that the row lists. -/
import Derived.Test.YtmneimfhcjkinaaDoorL3
import Derived.Test.YtmneimfhcjkinaaDoorOpen
namespace Go.Proofs.YtmneimfhcjkinaaDoor
open Go Go.HL Go.RowKit Go.ChangeShapes Go.WideShapes Go.ChangeAt
set_option maxRecDepth 100000

theorem raftlogFull_lifted (os : Os) (started : os.Started) (H : Type) (enc : TypeId × Value → H) :
    ReturnsInHanded {} Tryd.checked os 4 .any (fun w args => (Rows.raftlogFullSpec.pre enc Tryd.prog Tryd.f4 Rows.raftlogFullRow.domain false w args ∧ laidMetH Tryd.prog laidL w) ∧ sizedMet enc Tryd.prog Tryd.f4 (OpenSpec.ofChange Rows.raftlogFullSpec) false w args) (Rows.raftlogFullSpec.post enc Tryd.prog Tryd.f4 false true false false) := by
  refine returnsInHanded_of_change_and (C := Tryd.checked) (X := fun w _ => laidMetH Tryd.prog laidL w) (fun _ _ _ hh h => h.of_heap hh) Tryd.own started (by kernel_rfl) Tryd.func4
    (ChangeSpec.witness_shaped (enc := enc) (C := Tryd.checked) (os := os) (X := fun w _ => laidMetH Tryd.prog laidL w) false (World.laidAll Tryd.prog os laidL) #[.int .i64 0, .slice none 0 0] 8 (World.laidAll_os _ _ _) (World.shaped_of_ZipB (by kernel_rfl) (by kernel_rfl)) (by kernel_rfl) (by kernel_rfl) (by kernel_rfl) (laid_met os _)) ?_
  intro W base args ds gs before hval0 hW hcnd _ _ _
  have hval : ∀ (j : Nat) t v, Tryd.f4.params[j]? = some t → args[j]? = some v → Value.okWide Tryd.prog W .any base t v := hval0
  have hW' := hW
  obtain ⟨p, q, hA0, hV, rfl, hfz, hnd⟩ := hW
  have hA : DataW.TrodAll enc Tryd.prog W 0 (fun _ => true) true Tryd.f4.params.toList args.toList ds p := hA0
  rw [Tryd.params4] at hA hval
  obtain ⟨v0, v1, d0, d1, p0, p1, rfl, rfl, rfl, h0, h1⟩ := trodAll_two hA
  obtain ⟨rfl, rfl⟩ := trodVars_none hV
  obtain ⟨n0, e0, r0⟩ := int_came u3 (hval 0 3 v0 rfl rfl) h0
  obtain ⟨s1, l1, e1, i1, r1⟩ := ints_came Tryd.underlying32 u3 (by kernel_rfl) (hval 1 32 v1 rfl rfl) h1
  clear hA0 hval0
  simp only [List.append_nil] at hW'
  have hlt : ∀ x ∈ p0 ++ p1, x.block < W.heap.size := fun x hx => by simpa using hW'.lt x hx
  have hwalk := calls_true (w := W) (full9 r0 i1 r1 fun H2 s2 => ⟨rfl, s2⟩)
  rw [← e0, ← e1] at hwalk
  refine hwalk.mono fun e W' ⟨he, hb⟩ => ?_
  subst he
  have g : ∀ sp : Nat → Bool, (∀ x ∈ p0 ++ p1, sp x.block = true) → DataW.TrodAll enc Tryd.prog W' 0 sp true [3, 32] [v0, v1] [d0, d1] (p0 ++ p1) := fun sp hsp =>
    trodAll_mk2 (trod_below Tryd.laidOut (by kernel_rfl) (by kernel_rfl) h0 hb (fun x hx => by simp [hx]) hlt hsp)
        (trod_below Tryd.laidOut (by kernel_rfl) (by kernel_rfl) h1 hb (fun x hx => by simp [hx]) hlt hsp)
  exact ⟨_, rfl, post_of_below (pa := p0 ++ p1) (pv := []) hW' (fun _ _ _ => trodAll_mk1 (shut_bool (by kernel_rfl) true)) g (fun _ _ => rfl) (by simp) hb
    (ok_one (t := 4) (by kernel_rfl) rfl (okWide_bool_mk (by kernel_rfl) true))⟩

theorem raftlogFull_holds : Rows.RaftlogFullSaid :=
  OpenClaim.holds_of_wide 4 Tryd.f4 rfl rfl rfl rfl rfl rfl rfl ⟨rfl, rfl, rfl, rfl, rfl⟩ rfl rfl rfl rfl rfl (by kernel_rfl) Tryd.func4 (by kernel_rfl)
    (of_decide_eq_true (by kernel_rfl)) (by unfold Func.isWrapper; first | (rw [if_pos (by decide +kernel)]; kernel_rfl) | (rw [if_neg (by decide +kernel)]; exact ⟨rfl, rfl⟩))
    (fun os started H enc _ => raftlogFull_lifted os started H enc)
theorem raftlogFull_card : Rows.RaftlogFullCardSaid :=
  Claim7.holds_tied_plain_at .later [] [.data, .pinned] true (true, "e2e48f1ffdec53cb6b101f1a49eab58d9d51e17666a9b0ddb4248a1d4a5e6d5a") false raftlogFull_holds (fun _ h => by cases h) (by kernel_rfl) (fun _ h => by cases h) raftlogFull_row_tie rfl ⟨rfl, rfl⟩ (by kernel_rfl) rfl
    (fun f fn hf hfn => by
      obtain rfl : f = 4 := Option.some.inj ((show Tryd.prog.funcNamed "logboom/logboomlaw9.RaftlogFull" = some 4 by kernel_rfl).symm.trans hf) |>.symm
      obtain rfl : fn = Tryd.f4 := (Option.some.inj (Tryd.func4.symm.trans hfn)).symm
      exact ⟨by kernel_rfl, fun j t ht => by
        rw [Tryd.params4] at ht
        have hm : t ∈ ([3, 32] : List Nat) := by simpa using Array.mem_of_getElem? ht
        have hall : (([3, 32] : List Nat).all fun u => !Tryd.prog.wantsStandIn u) = true := by kernel_rfl
        exact (show Tryd.prog.wantsStandIn t = false by simpa using List.all_eq_true.1 hall t hm)⟩)
    (by kernel_rfl)
#print axioms raftlogFull_card
end Go.Proofs.YtmneimfhcjkinaaDoor
