/- A partition's state that came in by value, as the walk wants it. -/
import Derived.Test.YtahempkggcbegaaRows
import Derived.Test.YtahempkggcbegaaS9
import Derived.Test.YtahempkggcbegaaHlRow
namespace Go.Proofs.Ytahempkggcbegaa
open Go Go.HL Go.RowKit Go.ChangeShapes Go.WideShapes Go.ChangeAt

theorem Try.own : ownKnob Try.prog.godebug = none := by kernel_rfl
theorem Try.laidOut : laidOutB Try.prog = true := by kernel_rfl
theorem array9 {cs : Array Value} (h : cs.size = 9) : ∃ a b c d e f g i j, cs = #[a, b, c, d, e, f, g, i, j] := by
  rcases cs with ⟨l⟩
  match l, h with
  | [a, b, c, d, e, f, g, i, j], _ => exact ⟨a, b, c, d, e, f, g, i, j, rfl⟩
theorem part_came {H : Type} {enc : TypeId × Value → H} {w : World} {base : Nat} {sp : Nat → Bool} {held : Bool} {r : Reach} {b0 : Nat} {x : Value} {d : DataW H} {ps : List MemPlace}
    (hv : Value.okWide Try.prog w r b0 24 x) (h : DataW.Trod enc Try.prog w base sp held 24 x d ps) : ∃ (v : PV) (p : Part), x = v.val ∧ PIn (wholeH w) v p := by
  obtain ⟨cs, rfl, hsz, hf⟩ := open_agg Try.underlying24 (by kernel_rfl) hv h
  obtain ⟨a, b, c, d, e, f, g, i, j, rfl⟩ := array9 (hsz.trans (by kernel_rfl))
  obtain ⟨_, _, t0⟩ := hf 0 _ rfl a rfl
  obtain ⟨_, _, t1⟩ := hf 1 _ rfl b rfl
  obtain ⟨_, _, t2⟩ := hf 2 _ rfl c rfl
  obtain ⟨_, _, t3⟩ := hf 3 _ rfl d rfl
  obtain ⟨_, _, t4⟩ := hf 4 _ rfl e rfl
  obtain ⟨_, _, t5⟩ := hf 5 _ rfl f rfl
  obtain ⟨_, _, t6⟩ := hf 6 _ rfl g rfl
  obtain ⟨_, _, t7⟩ := hf 7 _ rfl i rfl
  obtain ⟨_, _, t8⟩ := hf 8 _ rfl j rfl
  obtain ⟨n0, rfl, -⟩ := int_of_trod Try.underlying3 t0
  obtain ⟨n1, rfl, -⟩ := int_of_trod Try.underlying3 t1
  obtain ⟨n2, rfl, -⟩ := int_of_trod Try.underlying3 t2
  obtain ⟨n3, rfl, -⟩ := int_of_trod Try.underlying3 t3
  obtain ⟨s4, l4, rfl, i4, -⟩ := ints_of_trod Try.underlying22 Try.underlying3 (by kernel_rfl) t4
  obtain ⟨s5, l5, rfl, i5, -⟩ := ints_of_trod Try.underlying22 Try.underlying3 (by kernel_rfl) t5
  obtain ⟨s6, l6, rfl, i6, -⟩ := ints_of_trod Try.underlying22 Try.underlying3 (by kernel_rfl) t6
  obtain ⟨s7, l7, rfl, i7, -⟩ := ints_of_trod Try.underlying22 Try.underlying3 (by kernel_rfl) t7
  obtain ⟨n8, rfl, -⟩ := int_of_trod Try.underlying3 t8
  exact ⟨⟨n0, n1, n2, n3, s4, s5, s6, s7, n8⟩, ⟨n0, n1, n2, n3, l4, l5, l6, l7, n8⟩, rfl, rfl, rfl, rfl, rfl, rfl, i4, i5, i6, i7⟩
theorem list_came {H : Type} {enc : TypeId × Value → H} {w : World} {base : Nat} {sp : Nat → Bool} {held : Bool} {r : Reach} {b0 : Nat} {x : Value} {d : DataW H} {ps : List MemPlace}
    (hv : Value.okWide Try.prog w r b0 22 x) (h : DataW.Trod enc Try.prog w base sp held 22 x d ps) : ∃ (s : Sl) (l : List Int), x = .slice s.p s.n s.c ∧ Ints (wholeH w) s l ∧ ∀ n ∈ l, -9223372036854775808 ≤ n ∧ n ≤ 9223372036854775807 := by
  obtain ⟨a, len, cap, rfl⟩ := okWide_slice Try.underlying22 hv
  obtain ⟨fuel, hf⟩ := h
  exact ints_of_trod Try.underlying22 Try.underlying3 (by kernel_rfl) hf
end Go.Proofs.Ytahempkggcbegaa
