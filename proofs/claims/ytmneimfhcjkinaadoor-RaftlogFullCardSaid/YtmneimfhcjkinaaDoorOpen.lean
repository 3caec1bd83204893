/- What the laws of chapter 9 are given, as the walks want it; a start at which the listed variables are laid. -/
import Derived.Test.YtmneimfhcjkinaaDoorRows
import Derived.Test.YtmneimfhcjkinaaDoorL2
import Derived.Test.YtmneimfhcjkinaaDoorHlRow
import Derived.LaidMore
import Derived.OpenShut
import Derived.Lay
import Derived.SevenTiedAt
import Derived.Test.YtmneimfhcjkinaaDoorTie
import Derived.Test.YtmneimfhcjkinaaDoorCards
import Derived.Stop.Joined
namespace Go.Proofs.YtmneimfhcjkinaaDoor
open Go Go.HL Go.RowKit Go.ChangeShapes Go.WideShapes Go.ChangeAt
set_option maxRecDepth 100000

theorem Tryd.own : ownKnob Tryd.prog.godebug = none := by kernel_rfl
theorem Tryd.laidOut : laidOutB Tryd.prog = true := by kernel_rfl
theorem u3 : Tryd.prog.underlying 3 = some (.int .i64) := by kernel_rfl
theorem u9 : Tryd.prog.underlying 9 = some .string := by kernel_rfl
theorem u4 : Tryd.prog.underlying 4 = some .bool := by kernel_rfl
theorem list3 {cs : List Value} (h : cs.length = 3) : ∃ a b c, cs = [a, b, c] := by
  match cs, h with
  | [a, b, c], _ => exact ⟨a, b, c, rfl⟩
theorem list7 {cs : List Value} (h : cs.length = 7) : ∃ a b c d e f g, cs = [a, b, c, d, e, f, g] := by
  match cs, h with
  | [a, b, c, d, e, f, g], _ => exact ⟨a, b, c, d, e, f, g, rfl⟩
/-- What the rows list: Go's own tables. -/
def laidL : List (String × DataW Unit) := [("unicode/utf8.acceptRanges", Rows.laid_unicode_utf8_acceptRanges), ("unicode/utf8.first", Rows.laid_unicode_utf8_first)]
theorem entries_of {H : Type} {enc : TypeId × Value → H} {w : World} {base : Nat} {sp : Nat → Bool} {held : Bool} {fuel : Nat} {x : Value} {y : DataW H × List MemPlace}
    (h : DataW.trod enc Tryd.prog w base sp held fuel 31 [x] = some y) : ∃ (s : Sl) (l : List En), x = .slice s.p s.n s.c ∧ Recs eE (wholeH w) s l := by
  obtain ⟨s, e, h1, h2, h3⟩ := structs_of_trod (c := 3) Tryd.underlying31 Tryd.underlying43 (by kernel_rfl) (by kernel_rfl) rfl (by decide) h
  obtain ⟨l, h4, -⟩ := recs_of (enc := eE) eElen (fun _ => True) h1 h2 fun j hj => by
    obtain ⟨b, o, e1, cs, hl, hc, hfs⟩ := h3 j hj
    obtain ⟨v0, v1, v2, rfl⟩ := list3 hl
    obtain ⟨_, _, t0⟩ := hfs 0 _ rfl v0 rfl
    obtain ⟨_, _, t1⟩ := hfs 1 _ rfl v1 rfl
    obtain ⟨_, _, t2⟩ := hfs 2 _ rfl v2 rfl
    obtain ⟨n0, rfl, r0⟩ := int_of_trod u3 t0
    obtain ⟨n1, rfl, r1⟩ := int_of_trod u3 t1
    obtain ⟨s2, rfl, r2⟩ := str_of_trod u9 t2
    exact ⟨b, o, e1, (n0, n1, s2), trivial, hc⟩
  exact ⟨s, l, e, h4⟩
theorem ops_came {H : Type} {enc : TypeId × Value → H} {w : World} {base : Nat} {sp : Nat → Bool} {held : Bool} {r : Reach} {b0 : Nat} {x : Value} {d : DataW H} {ps : List MemPlace}
    (hv : Value.okWide Tryd.prog w r b0 22 x) (h : DataW.Trod enc Tryd.prog w base sp held 22 x d ps) : ∃ (s : Sl) (l : List Op9), x = .slice s.p s.n s.c ∧ Recs eOp9 (wholeH w) s l ∧ ∀ o ∈ l, Op9Ok (wholeH w) o := by
  obtain ⟨a, len, cap, rfl⟩ := okWide_slice Tryd.underlying22 hv
  obtain ⟨fuel, hf⟩ := h
  obtain ⟨s, e, h1, h2, h3⟩ := structs_of_trod (c := 7) Tryd.underlying22 Tryd.underlying34 (by kernel_rfl) (by kernel_rfl) rfl (by decide) hf
  obtain ⟨l, h4, h5⟩ := recs_of (enc := eOp9) eOp9len (fun o => Op9Ok (wholeH w) o) h1 h2 fun j hj => by
    obtain ⟨b, o, e1, cs, hl, hc, hfs⟩ := h3 j hj
    obtain ⟨v0, v1, v2, v3, v4, v5, v6, rfl⟩ := list7 hl
    obtain ⟨_, _, t0⟩ := hfs 0 _ rfl v0 rfl
    obtain ⟨_, _, t1⟩ := hfs 1 _ rfl v1 rfl
    obtain ⟨_, _, t2⟩ := hfs 2 _ rfl v2 rfl
    obtain ⟨_, _, t3⟩ := hfs 3 _ rfl v3 rfl
    obtain ⟨_, _, t4⟩ := hfs 4 _ rfl v4 rfl
    obtain ⟨_, _, t5⟩ := hfs 5 _ rfl v5 rfl
    obtain ⟨_, _, t6⟩ := hfs 6 _ rfl v6 rfl
    obtain ⟨n0, rfl, r0⟩ := int_of_trod u3 t0
    obtain ⟨n1, rfl, r1⟩ := int_of_trod u3 t1
    obtain ⟨n2, rfl, r2⟩ := int_of_trod u3 t2
    obtain ⟨s3, rfl, r3⟩ := str_of_trod u9 t3
    obtain ⟨s4, l4, rfl, r4⟩ := entries_of t4
    obtain ⟨b5, e5, -⟩ := DataW.trod_bool u4 t5
    obtain rfl : v5 = .bool b5 := by simpa using e5
    obtain ⟨s6, l6, rfl, r6, r7⟩ := ints_of_trod Tryd.underlying32 u3 (by kernel_rfl) t6
    exact ⟨b, o, e1, ⟨n0, n1, n2, s3, s4, l4, b5, s6, l6⟩, ⟨r0, r1, r2, r4, r6, r7⟩, hc⟩
  exact ⟨s, l, e, h4, h5⟩
/-- The zero heap with the tables laid meets the condition. -/
theorem laid_met (os : Os) (args : Array Value) : laidMetH Tryd.prog laidL ((World.laidAll Tryd.prog os laidL).forCall (fun _ _ => 0) ⟨#[], args, []⟩).memory := by
  rw [MakeChecks.laidMetH_plain _ _ _ (by kernel_rfl)]
  exact laidMet_laidAll _ (by kernel_rfl) (by kernel_rfl)
end Go.Proofs.YtmneimfhcjkinaaDoor
