/- The law MoveEnds holds: for every partition's state and list of targets the call gives true, and the arguments read behind it as before. No condition. -/
import Derived.Test.YtahempkggcbegaaLEnds
import Derived.Test.YtahempkggcbegaaOpen
namespace Go.Proofs.Ytahempkggcbegaa
open Go Go.HL Go.RowKit Go.ChangeShapes Go.WideShapes Go.ChangeAt

theorem moveEnds_lifted (os : Os) (started : os.Started) (H : Type) (enc : TypeId × Value → H) :
    ReturnsInHanded {} Try.checked os 3 .any (Rows.moveEndsSpec.pre6 enc Try.prog Try.f3 Rows.moveEndsRow.domain false) (Rows.moveEndsSpec.post enc Try.prog Try.f3 false true false false) := by
  refine returnsInHanded_of_change (C := Try.checked) Try.own started (by kernel_rfl) Try.func3
    (ChangeSpec.witness6 (enc := enc) (C := Try.checked) false ⟨#[], #[.agg #[.int .i64 0, .int .i64 0, .int .i64 0, .int .i64 0, .slice none 0 0, .slice none 0 0, .slice none 0 0, .slice none 0 0, .int .i64 0], .slice none 0 0], []⟩ 8 (by kernel_rfl) (by kernel_rfl) (by kernel_rfl) (by kernel_rfl)) ?_
  intro W base args ds gs before hval0 hW hcnd _
  have hval : ∀ (j : Nat) t v, Try.f3.params[j]? = some t → args[j]? = some v → Value.okWide Try.prog W .any base t v := hval0
  have hW' := hW
  obtain ⟨p, q, hA0, hV, rfl, hfz, hnd⟩ := hW
  have hA : DataW.TrodAll enc Try.prog W 0 (fun _ => true) true Try.f3.params.toList args.toList ds p := hA0
  rw [Try.params3] at hA hval
  obtain ⟨v0, v1, d0, d1, p0, p1, rfl, rfl, rfl, h0, h1⟩ := trodAll_two hA
  obtain ⟨rfl, rfl⟩ := trodVars_none hV
  obtain ⟨v, P, e0, hp⟩ := part_came (hval 0 24 v0 rfl rfl) h0
  obtain ⟨s, l, e1, hs, -⟩ := list_came (hval 1 22 v1 rfl rfl) h1
  clear hA0 hval0
  simp only [List.append_nil] at hW'
  have hlt : ∀ x ∈ p0 ++ p1, x.block < W.heap.size := fun x hx => by simpa using hW'.lt x hx
  have hwalk := calls_true (moveEnds_walk hp hs)
  rw [← e0, ← e1] at hwalk
  refine hwalk.mono fun e W' ⟨he, hb⟩ => ?_
  subst he
  have g : ∀ sp : Nat → Bool, (∀ x ∈ p0 ++ p1, sp x.block = true) → DataW.TrodAll enc Try.prog W' 0 sp true [24, 22] [v0, v1] [d0, d1] (p0 ++ p1) := fun sp hsp =>
    trodAll_mk2 (trod_below Try.laidOut (by kernel_rfl) (by kernel_rfl) h0 hb (fun x hx => by simp [hx]) hlt hsp)
      (trod_below Try.laidOut (by kernel_rfl) (by kernel_rfl) h1 hb (fun x hx => by simp [hx]) hlt hsp)
  exact ⟨_, rfl, post_of_below (pa := p0 ++ p1) (pv := []) hW' (fun _ _ _ => trodAll_mk1 (shut_bool (by kernel_rfl) true)) g (fun _ _ => rfl) (by simp) hb
    (ok_one (t := 4) (by kernel_rfl) rfl (okWide_bool_mk (by kernel_rfl) true))⟩

theorem moveEnds_holds : Rows.MoveEndsSaid :=
  OpenClaim.holds_of_wide 3 Try.f3 rfl rfl rfl rfl rfl rfl rfl ⟨rfl, rfl, rfl, rfl, rfl⟩ rfl rfl rfl rfl rfl (by kernel_rfl) Try.func3 (by kernel_rfl)
    (of_decide_eq_true (by kernel_rfl)) (by unfold Func.isWrapper; first | (rw [if_pos (by decide +kernel)]; kernel_rfl) | (rw [if_neg (by decide +kernel)]; exact ⟨rfl, rfl⟩))
    (fun os started H enc _ => moveEnds_lifted os started H enc)
#print axioms moveEnds_holds
end Go.Proofs.Ytahempkggcbegaa
