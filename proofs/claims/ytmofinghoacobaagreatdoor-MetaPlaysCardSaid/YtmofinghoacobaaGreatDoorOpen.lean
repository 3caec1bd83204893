import Derived.Test.YtmofinghoacobaaGreatDoorRows
import Derived.Test.YtmofinghoacobaaGreatDoorBM
import Derived.Test.YtmofinghoacobaaGreatDoorHlRow
import Derived.LaidMore
import Derived.OpenShut
import Derived.Lay
import Derived.SevenTiedAt
import Derived.Test.YtmofinghoacobaaGreatDoorTie
import Derived.Test.YtmofinghoacobaaGreatDoorCards
import Derived.Carry
import Derived.Stop.Joined
namespace Go.Proofs.YtmofinghoacobaaGreatDoor
open Go Go.HL Go.RowKit Go.ChangeShapes Go.WideShapes Go.ChangeAt
set_option maxRecDepth 100000
theorem Tryz.own : ownKnob Tryz.prog.godebug = none := by kernel_rfl
theorem Tryz.laidOut : laidOutB Tryz.prog = true := by kernel_rfl
theorem u3 : Tryz.prog.underlying 3 = some (.int .i64) := by kernel_rfl
theorem u9 : Tryz.prog.underlying 9 = some .string := by kernel_rfl
theorem list8 {cs : List Value} (h : cs.length = 8) : ∃ a b c d e f g i, cs = [a, b, c, d, e, f, g, i] := by
  match cs, h with
  | [a, b, c, d, e, f, g, i], _ => exact ⟨a, b, c, d, e, f, g, i, rfl⟩
def laidL : List (String × DataW Unit) := [("unicode/utf8.acceptRanges", Rows.laid_unicode_utf8_acceptRanges), ("unicode/utf8.first", Rows.laid_unicode_utf8_first)]
theorem metas_came {H : Type} {enc : TypeId × Value → H} {w : World} {base : Nat} {sp : Nat → Bool} {held : Bool} {r : Reach} {b0 : Nat} {x : Value} {d : DataW H} {ps : List MemPlace}
    (hv : Value.okWide Tryz.prog w r b0 33 x) (h : DataW.Trod enc Tryz.prog w base sp held 33 x d ps) : ∃ (s : Sl) (l : List Mr), x = .slice s.p s.n s.c ∧ Script (wholeH w) s l := by
  obtain ⟨a, len, cap, rfl⟩ := okWide_slice Tryz.underlying33 hv
  obtain ⟨fuel, hf⟩ := h
  obtain ⟨s, e, h1, h2, h3⟩ := structs_of_trod (c := 8) Tryz.underlying33 Tryz.underlying31 (by kernel_rfl) (by kernel_rfl) rfl (by decide) hf
  obtain ⟨l, h4, h5⟩ := recs_of (enc := eM) eMlen (MtOk (wholeH w)) h1 h2 fun j hj => by
    obtain ⟨b, o, e1, cs, hl, hc, hfs⟩ := h3 j hj
    obtain ⟨v0, v1, v2, v3, v4, v5, v6, v7, rfl⟩ := list8 hl
    obtain ⟨_, _, t0⟩ := hfs 0 _ rfl v0 rfl
    obtain ⟨_, _, t1⟩ := hfs 1 _ rfl v1 rfl
    obtain ⟨_, _, t2⟩ := hfs 2 _ rfl v2 rfl
    obtain ⟨_, _, t3⟩ := hfs 3 _ rfl v3 rfl
    obtain ⟨_, _, t4⟩ := hfs 4 _ rfl v4 rfl
    obtain ⟨_, _, t5⟩ := hfs 5 _ rfl v5 rfl
    obtain ⟨_, _, t6⟩ := hfs 6 _ rfl v6 rfl
    obtain ⟨_, _, t7⟩ := hfs 7 _ rfl v7 rfl
    obtain ⟨n0, rfl, r0⟩ := int_of_trod u3 t0
    obtain ⟨n1, rfl, r1⟩ := int_of_trod u3 t1
    obtain ⟨n2, rfl, r2⟩ := int_of_trod u3 t2
    obtain ⟨n3, rfl, r3⟩ := int_of_trod u3 t3
    obtain ⟨n4, rfl, r4⟩ := int_of_trod u3 t4
    obtain ⟨s5, rfl, r5⟩ := str_of_trod u9 t5
    obtain ⟨s6, rfl, r6⟩ := str_of_trod u9 t6
    obtain ⟨s7, l7, rfl, i7, r7⟩ := ints_of_trod Tryz.underlying22 u3 (by kernel_rfl) t7
    exact ⟨b, o, e1, (⟨n0, n1, n2, n3, n4, s5, s6, l7⟩, s7), ⟨i7, r0, r1, r2, r3, r4, r5, r7⟩, hc⟩
  exact ⟨s, l, e, h4, h5⟩
theorem laid_met (os : Os) (args : Array Value) : laidMetH Tryz.prog laidL ((World.laidAll Tryz.prog os laidL).forCall (fun _ _ => 0) ⟨#[], args, []⟩).memory := by
  rw [MakeChecks.laidMetH_plain _ _ _ (by kernel_rfl)]
  exact laidMet_laidAll _ (by kernel_rfl) (by kernel_rfl)
end Go.Proofs.YtmofinghoacobaaGreatDoor
