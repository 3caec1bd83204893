/- The law MoveRules holds: for every partition's state and every script of decisions the call gives true, and the arguments read behind it as before. No condition. -/
import Derived.Test.YtahempkggcbegaaLRules
import Derived.Test.YtahempkggcbegaaOpen
namespace Go.Proofs.Ytahempkggcbegaa
open Go Go.HL Go.RowKit Go.ChangeShapes Go.WideShapes Go.ChangeAt

theorem list6 {cs : List Value} (h : cs.length = 6) : ∃ a b c d e f, cs = [a, b, c, d, e, f] := by
  match cs, h with
  | [a, b, c, d, e, f], _ => exact ⟨a, b, c, d, e, f, rfl⟩
theorem ops_came {H : Type} {enc : TypeId × Value → H} {w : World} {base : Nat} {sp : Nat → Bool} {held : Bool} {r : Reach} {b0 : Nat} {x : Value} {d : DataW H} {ps : List MemPlace}
    (hv : Value.okWide Try.prog w r b0 40 x) (h : DataW.Trod enc Try.prog w base sp held 40 x d ps) : ∃ s : Sl, x = .slice s.p s.n s.c ∧ Ops (wholeH w) s := by
  obtain ⟨a, len, cap, rfl⟩ := okWide_slice Try.underlying40 hv
  obtain ⟨fuel, hf⟩ := h
  obtain ⟨s, e, h1, h2, h3⟩ := structs_of_trod (c := 6) Try.underlying40 Try.underlying42 (by kernel_rfl) (by kernel_rfl) rfl (by decide) hf
  refine ⟨s, e, by omega, fun j j0 j1 => ?_⟩
  obtain ⟨b, o, e1, cs, hl, hc, hfs⟩ := h3 j.toNat (by omega)
  obtain ⟨v0, v1, v2, v3, v4, v5, rfl⟩ := list6 hl
  obtain ⟨_, _, t0⟩ := hfs 0 _ rfl v0 rfl
  obtain ⟨_, _, t1⟩ := hfs 1 _ rfl v1 rfl
  obtain ⟨_, _, t2⟩ := hfs 2 _ rfl v2 rfl
  obtain ⟨_, _, t3⟩ := hfs 3 _ rfl v3 rfl
  obtain ⟨_, _, t4⟩ := hfs 4 _ rfl v4 rfl
  obtain ⟨_, _, t5⟩ := hfs 5 _ rfl v5 rfl
  obtain ⟨n0, rfl, r0⟩ := int_of_trod Try.underlying3 t0
  obtain ⟨n1, rfl, -⟩ := int_of_trod Try.underlying3 t1
  obtain ⟨n2, rfl, -⟩ := int_of_trod Try.underlying3 t2
  obtain ⟨n3, rfl, -⟩ := int_of_trod Try.underlying3 t3
  obtain ⟨s4, l4, rfl, i4, -⟩ := ints_of_trod Try.underlying22 Try.underlying3 (by kernel_rfl) t4
  obtain ⟨s5, l5, rfl, i5, -⟩ := ints_of_trod Try.underlying22 Try.underlying3 (by kernel_rfl) t5
  exact ⟨b, o, e1, n0, n1, n2, n3, s4, s5, l4, l5, hc 0 _ rfl, hc 1 _ rfl, hc 2 _ rfl, hc 3 _ rfl, hc 4 _ rfl, hc 5 _ rfl, i4, i5, r0⟩

theorem moveRules_lifted (os : Os) (started : os.Started) (H : Type) (enc : TypeId × Value → H) :
    ReturnsInHanded {} Try.checked os 6 .any (Rows.moveRulesSpec.pre6 enc Try.prog Try.f6 Rows.moveRulesRow.domain false) (Rows.moveRulesSpec.post enc Try.prog Try.f6 false true false false) := by
  refine returnsInHanded_of_change (C := Try.checked) Try.own started (by kernel_rfl) Try.func6
    (ChangeSpec.witness6 (enc := enc) (C := Try.checked) false ⟨#[], #[.agg #[.int .i64 0, .int .i64 0, .int .i64 0, .int .i64 0, .slice none 0 0, .slice none 0 0, .slice none 0 0, .slice none 0 0, .int .i64 0], .slice none 0 0], []⟩ 8 (by kernel_rfl) (by kernel_rfl) (by kernel_rfl) (by kernel_rfl)) ?_
  intro W base args ds gs before hval0 hW hcnd _
  have hval : ∀ (j : Nat) t v, Try.f6.params[j]? = some t → args[j]? = some v → Value.okWide Try.prog W .any base t v := hval0
  have hW' := hW
  obtain ⟨p, q, hA0, hV, rfl, hfz, hnd⟩ := hW
  have hA : DataW.TrodAll enc Try.prog W 0 (fun _ => true) true Try.f6.params.toList args.toList ds p := hA0
  rw [Try.params6] at hA hval
  obtain ⟨v0, v1, d0, d1, p0, p1, rfl, rfl, rfl, h0, h1⟩ := trodAll_two hA
  obtain ⟨rfl, rfl⟩ := trodVars_none hV
  obtain ⟨v, P, e0, hp⟩ := part_came (hval 0 24 v0 rfl rfl) h0
  obtain ⟨s, e1, hs⟩ := ops_came (hval 1 40 v1 rfl rfl) h1
  clear hA0 hval0
  simp only [List.append_nil] at hW'
  have hlt : ∀ x ∈ p0 ++ p1, x.block < W.heap.size := fun x hx => by simpa using hW'.lt x hx
  have hwalk := calls_true (moveRules_walk hp hs)
  rw [← e0, ← e1] at hwalk
  refine hwalk.mono fun e W' ⟨he, hb⟩ => ?_
  subst he
  have g : ∀ sp : Nat → Bool, (∀ x ∈ p0 ++ p1, sp x.block = true) → DataW.TrodAll enc Try.prog W' 0 sp true [24, 40] [v0, v1] [d0, d1] (p0 ++ p1) := fun sp hsp =>
    trodAll_mk2 (trod_below Try.laidOut (by kernel_rfl) (by kernel_rfl) h0 hb (fun x hx => by simp [hx]) hlt hsp)
      (trod_below Try.laidOut (by kernel_rfl) (by kernel_rfl) h1 hb (fun x hx => by simp [hx]) hlt hsp)
  exact ⟨_, rfl, post_of_below (pa := p0 ++ p1) (pv := []) hW' (fun _ _ _ => trodAll_mk1 (shut_bool (by kernel_rfl) true)) g (fun _ _ => rfl) (by simp) hb
    (ok_one (t := 4) (by kernel_rfl) rfl (okWide_bool_mk (by kernel_rfl) true))⟩

theorem moveRules_holds : Rows.MoveRulesSaid :=
  OpenClaim.holds_of_wide 6 Try.f6 rfl rfl rfl rfl rfl rfl rfl ⟨rfl, rfl, rfl, rfl, rfl⟩ rfl rfl rfl rfl rfl (by kernel_rfl) Try.func6 (by kernel_rfl)
    (of_decide_eq_true (by kernel_rfl)) (by unfold Func.isWrapper; first | (rw [if_pos (by decide +kernel)]; kernel_rfl) | (rw [if_neg (by decide +kernel)]; exact ⟨rfl, rfl⟩))
    (fun os started H enc _ => moveRules_lifted os started H enc)
#print axioms moveRules_holds
end Go.Proofs.Ytahempkggcbegaa
