/- What the laws of chapter 7 are given, as the walks want it; a start at which the listed variables are laid. -/
import Derived.Test.YtdgmifbcbmndgaaGreatDoorRows
import Derived.Test.YtdgmifbcbmndgaaGreatDoorL3
import Derived.Test.YtdgmifbcbmndgaaGreatDoorHlRow
import Derived.LaidMore
import Derived.OpenShut
import Derived.Lay
import Derived.SevenTiedAt
import Derived.Test.YtdgmifbcbmndgaaGreatDoorTie
import Derived.Test.YtdgmifbcbmndgaaGreatDoorCards
import Derived.Stop.Joined
namespace Go.Proofs.YtdgmifbcbmndgaaGreatDoor
open Go Go.HL Go.RowKit Go.ChangeShapes Go.WideShapes Go.ChangeAt
set_option maxRecDepth 100000

theorem Tryz.own : ownKnob Tryz.prog.godebug = none := by kernel_rfl
theorem Tryz.laidOut : laidOutB Tryz.prog = true := by kernel_rfl
theorem u3 : Tryz.prog.underlying 3 = some (.int .i64) := by kernel_rfl
theorem list3 {cs : List Value} (h : cs.length = 3) : ∃ a b c, cs = [a, b, c] := by
  match cs, h with
  | [a, b, c], _ => exact ⟨a, b, c, rfl⟩
/-- What the rows list: Go's own tables. -/
def laidL : List (String × DataW Unit) := [("unicode/utf8.acceptRanges", Rows.laid_unicode_utf8_acceptRanges), ("unicode/utf8.first", Rows.laid_unicode_utf8_first)]
theorem ops_came {H : Type} {enc : TypeId × Value → H} {w : World} {base : Nat} {sp : Nat → Bool} {held : Bool} {r : Reach} {b0 : Nat} {x : Value} {d : DataW H} {ps : List MemPlace}
    (hv : Value.okWide Tryz.prog w r b0 22 x) (h : DataW.Trod enc Tryz.prog w base sp held 22 x d ps) : ∃ (s : Sl) (l : List Op7), x = .slice s.p s.n s.c ∧ Recs e3 (wholeH w) s l ∧ ∀ o ∈ l, Op7Ok o := by
  obtain ⟨a, len, cap, rfl⟩ := okWide_slice Tryz.underlying22 hv
  obtain ⟨fuel, hf⟩ := h
  obtain ⟨s, e, h1, h2, h3⟩ := structs_of_trod (c := 3) Tryz.underlying22 Tryz.underlying36 (by kernel_rfl) (by kernel_rfl) rfl (by decide) hf
  obtain ⟨l, h4, h5⟩ := recs_of (enc := e3) e3len Op7Ok h1 h2 fun j hj => by
    obtain ⟨b, o, e1, cs, hl, hc, hfs⟩ := h3 j hj
    obtain ⟨v0, v1, v2, rfl⟩ := list3 hl
    obtain ⟨_, _, t0⟩ := hfs 0 _ rfl v0 rfl
    obtain ⟨_, _, t1⟩ := hfs 1 _ rfl v1 rfl
    obtain ⟨_, _, t2⟩ := hfs 2 _ rfl v2 rfl
    obtain ⟨n0, rfl, r0⟩ := int_of_trod u3 t0
    obtain ⟨n1, rfl, r1⟩ := int_of_trod u3 t1
    obtain ⟨n2, rfl, r2⟩ := int_of_trod u3 t2
    exact ⟨b, o, e1, (n0, n1, n2), ⟨r0, r1, r2⟩, hc⟩
  exact ⟨s, l, e, h4, h5⟩
/-- The zero heap with the tables laid meets the condition. -/
theorem laid_met (os : Os) (args : Array Value) : laidMetH Tryz.prog laidL ((World.laidAll Tryz.prog os laidL).forCall (fun _ _ => 0) ⟨#[], args, []⟩).memory := by
  rw [MakeChecks.laidMetH_plain _ _ _ (by kernel_rfl)]
  exact laidMet_laidAll _ (by kernel_rfl) (by kernel_rfl)
end Go.Proofs.YtdgmifbcbmndgaaGreatDoor
