/- What the laws of chapter 8 are given, as the walks want it. -/
import Derived.Test.YtkabaoigablphaaRows
import Derived.Test.YtkabaoigablphaaLOnce
import Derived.Test.YtkabaoigablphaaHlRow
namespace Go.Proofs.Ytkabaoigablphaa
open Go Go.HL Go.RowKit Go.ChangeShapes Go.WideShapes Go.ChangeAt
set_option maxRecDepth 100000

theorem Try.own : ownKnob Try.prog.godebug = none := by kernel_rfl
theorem Try.laidOut : laidOutB Try.prog = true := by kernel_rfl
theorem list6 {cs : List Value} (h : cs.length = 6) : ∃ a b c d e f, cs = [a, b, c, d, e, f] := by
  match cs, h with
  | [a, b, c, d, e, f], _ => exact ⟨a, b, c, d, e, f, rfl⟩
theorem ops_came {H : Type} {enc : TypeId × Value → H} {w : World} {base : Nat} {sp : Nat → Bool} {held : Bool} {r : Reach} {b0 : Nat} {x : Value} {d : DataW H} {ps : List MemPlace}
    (hv : Value.okWide Try.prog w r b0 22 x) (h : DataW.Trod enc Try.prog w base sp held 22 x d ps) : ∃ (s : Sl) (l : List Op), x = .slice s.p s.n s.c ∧ Recs eOp (wholeH w) s l ∧ ∀ o ∈ l, OpB o := by
  obtain ⟨a, len, cap, rfl⟩ := okWide_slice Try.underlying22 hv
  obtain ⟨fuel, hf⟩ := h
  obtain ⟨s, e, h1, h2, h3⟩ := structs_of_trod (c := 6) Try.underlying22 Try.underlying28 (by kernel_rfl) (by kernel_rfl) rfl (by decide) hf
  obtain ⟨l, h4, h5⟩ := recs_of (enc := eOp) eOplen OpB h1 h2 fun j hj => by
    obtain ⟨b, o, e1, cs, hl, hc, hfs⟩ := h3 j hj
    obtain ⟨v0, v1, v2, v3, v4, v5, rfl⟩ := list6 hl
    obtain ⟨_, _, t0⟩ := hfs 0 _ rfl v0 rfl
    obtain ⟨_, _, t1⟩ := hfs 1 _ rfl v1 rfl
    obtain ⟨_, _, t2⟩ := hfs 2 _ rfl v2 rfl
    obtain ⟨_, _, t3⟩ := hfs 3 _ rfl v3 rfl
    obtain ⟨_, _, t4⟩ := hfs 4 _ rfl v4 rfl
    obtain ⟨_, _, t5⟩ := hfs 5 _ rfl v5 rfl
    obtain ⟨n0, rfl, r0⟩ := int_of_trod u3 t0
    obtain ⟨n1, rfl, r1⟩ := int_of_trod u3 t1
    obtain ⟨n2, rfl, r2⟩ := int_of_trod u3 t2
    obtain ⟨n3, rfl, r3⟩ := int_of_trod u3 t3
    obtain ⟨n4, rfl, r4⟩ := int_of_trod u3 t4
    obtain ⟨n5, rfl, r5⟩ := int_of_trod u3 t5
    exact ⟨b, o, e1, ⟨n0, n1, n2, n3, n4, n5⟩, ⟨r0, r1, r2, r3, r4, r5⟩, hc⟩
  exact ⟨s, l, e, h4, h5⟩
theorem once_walk {w : World} {s : Sl} {ops : List Op} (h : Recs eOp (wholeH w) s ops) (hb : ∀ o ∈ ops, OpB o) : FnH Try.prog 3 #[.slice s.p s.n s.c] (wholeH w) fun v H' => v = .bool true ∧ HL.Sub (wholeH w) H' :=
  once_spec h hb fun H' hs => ⟨rfl, hs⟩
end Go.Proofs.Ytkabaoigablphaa
