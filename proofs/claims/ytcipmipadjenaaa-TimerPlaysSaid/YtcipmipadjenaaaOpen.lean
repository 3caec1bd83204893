/- What the laws of chapter 2 are given, as the walks want it. -/
import Derived.Test.YtcipmipadjenaaaRows
import Derived.Test.YtcipmipadjenaaaLPlays
import Derived.Test.YtcipmipadjenaaaHlRow
namespace Go.Proofs.Ytcipmipadjenaaa
open Go Go.HL Go.RowKit Go.ChangeShapes Go.WideShapes Go.ChangeAt

theorem Try.own : ownKnob Try.prog.godebug = none := by kernel_rfl
theorem Try.laidOut : laidOutB Try.prog = true := by kernel_rfl
theorem u3 : Try.prog.underlying 3 = some (.int .i64) := by kernel_rfl
theorem list3 {cs : List Value} (h : cs.length = 3) : ∃ a b c, cs = [a, b, c] := by
  match cs, h with
  | [a, b, c], _ => exact ⟨a, b, c, rfl⟩
theorem ops_came {H : Type} {enc : TypeId × Value → H} {w : World} {base : Nat} {sp : Nat → Bool} {held : Bool} {r : Reach} {b0 : Nat} {x : Value} {d : DataW H} {ps : List MemPlace}
    (hv : Value.okWide Try.prog w r b0 22 x) (h : DataW.Trod enc Try.prog w base sp held 22 x d ps) : ∃ (s : Sl) (l : List (Int × Int × Int)), x = .slice s.p s.n s.c ∧ Recs e3 (wholeH w) s l ∧ ∀ o ∈ l, i64B o.1 ∧ i64B o.2.1 ∧ i64B o.2.2 := by
  obtain ⟨a, len, cap, rfl⟩ := okWide_slice Try.underlying22 hv
  obtain ⟨fuel, hf⟩ := h
  obtain ⟨s, e, h1, h2, h3⟩ := structs_of_trod (c := 3) Try.underlying22 Try.underlying31 (by kernel_rfl) (by kernel_rfl) rfl (by decide) hf
  obtain ⟨l, h4, h5⟩ := recs_of (enc := e3) e3len (fun o => i64B o.1 ∧ i64B o.2.1 ∧ i64B o.2.2) h1 h2 fun j hj => by
    obtain ⟨b, o, e1, cs, hl, hc, hfs⟩ := h3 j hj
    obtain ⟨v0, v1, v2, rfl⟩ := list3 hl
    obtain ⟨_, _, t0⟩ := hfs 0 _ rfl v0 rfl
    obtain ⟨_, _, t1⟩ := hfs 1 _ rfl v1 rfl
    obtain ⟨_, _, t2⟩ := hfs 2 _ rfl v2 rfl
    obtain ⟨n0, rfl, r0⟩ := int_of_trod u3 t0
    obtain ⟨n1, rfl, r1⟩ := int_of_trod u3 t1
    obtain ⟨n2, rfl, r2⟩ := int_of_trod u3 t2
    exact ⟨b, o, e1, (n0, n1, n2), ⟨r0, r1, r2⟩, hc⟩
  exact ⟨s, l, e, h4, h5⟩
end Go.Proofs.Ytcipmipadjenaaa
