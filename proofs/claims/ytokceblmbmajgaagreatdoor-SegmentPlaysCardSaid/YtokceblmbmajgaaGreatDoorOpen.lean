/- What the law of chapter 5 is given, as the walk wants it; a start at which the listed variables are laid. -/
import Derived.Test.YtokceblmbmajgaaGreatDoorRows
import Derived.Test.YtokceblmbmajgaaGreatDoorL3
import Derived.Test.YtokceblmbmajgaaGreatDoorHlRow
import Derived.LaidMore
import Derived.OpenShut
import Derived.Lay
import Derived.SevenTiedAt
import Derived.Test.YtokceblmbmajgaaGreatDoorTie
import Derived.Test.YtokceblmbmajgaaGreatDoorCards
import Derived.Stop.Joined
namespace Go.Proofs.YtokceblmbmajgaaGreatDoor
open Go Go.HL Go.RowKit Go.ChangeShapes Go.WideShapes Go.ChangeAt
set_option maxRecDepth 100000

theorem Tryz.own : ownKnob Tryz.prog.godebug = none := by kernel_rfl
theorem Tryz.laidOut : laidOutB Tryz.prog = true := by kernel_rfl
theorem u3 : Tryz.prog.underlying 3 = some (.int .i64) := by kernel_rfl
theorem u4 : Tryz.prog.underlying 4 = some .bool := by kernel_rfl
theorem u9 : Tryz.prog.underlying 9 = some .string := by kernel_rfl
theorem c3 : Tryz.prog.cellsOf 3 = 1 := by kernel_rfl
theorem c4 : Tryz.prog.cellsOf 4 = 1 := by kernel_rfl
theorem c38 : Tryz.prog.cellsOf 38 = 1 := by kernel_rfl
theorem c40 : Tryz.prog.cellsOf 40 = 6 := by kernel_rfl
theorem c41 : Tryz.prog.cellsOf 41 = 1 := by kernel_rfl
theorem c43 : Tryz.prog.cellsOf 43 = 11 := by kernel_rfl
theorem list3 {cs : List Value} (h : cs.length = 3) : ∃ a b c, cs = [a, b, c] := by
  match cs, h with
  | [a, b, c], _ => exact ⟨a, b, c, rfl⟩
theorem list11 {cs : List Value} (h : cs.length = 11) : ∃ a b c d e f g i j k l, cs = [a, b, c, d, e, f, g, i, j, k, l] := by
  match cs, h with
  | [a, b, c, d, e, f, g, i, j, k, l], _ => exact ⟨a, b, c, d, e, f, g, i, j, k, l, rfl⟩
/-- What the rows list: Go's own tables. -/
def laidL : List (String × DataW Unit) := [("unicode/utf8.acceptRanges", Rows.laid_unicode_utf8_acceptRanges), ("unicode/utf8.first", Rows.laid_unicode_utf8_first)]
/-- A struct that reads: each field reads. -/
theorem field_trod {H : Type} {enc : TypeId × Value → H} {w : World} {base : Nat} {sp : Nat → Bool} {held : Bool} {t n : Nat} {fs : Array Field} {cs : List Value} {y : DataW H × List MemPlace} (ht : Tryz.prog.underlying t = some (.struct fs)) (h : DataW.trod enc Tryz.prog w base sp held n t cs = some y) (i : Nat) {f : Field} {ty off c : Nat} (hi : fs[i]? = some f) (h1 : f.type = ty) (h2 : f.offset = off) (h3 : Tryz.prog.cellsOf ty = c) :
    ∃ m z, DataW.trod enc Tryz.prog w base sp held m ty ((cs.drop off).take c) = some z := by
  subst h1 h2 h3
  obtain ⟨xs, n2, -, -, -, hlen, hxx⟩ := DataW.trod_struct ht h
  have h1 := hxx i f hi
  have hl : i < xs.length := by rw [hlen]; exact (Array.getElem?_eq_some_iff.1 hi).1
  rw [List.getElem?_eq_getElem hl] at h1
  exact ⟨n2, _, h1⟩
theorem records_of {H : Type} {enc : TypeId × Value → H} {w : World} {base : Nat} {sp : Nat → Bool} {held : Bool} {n : Nat} {v : Value} {y : DataW H × List MemPlace} (h : DataW.trod enc Tryz.prog w base sp held n 38 [v] = some y) : ∃ (s : Sl) (l : List Rcd), v = .slice s.p s.n s.c ∧ Recs eR (wholeH w) s l := by
  obtain ⟨s, e, h1, h2, h3⟩ := structs_of_trod (c := 3) Tryz.underlying38 Tryz.underlying86 (by kernel_rfl) (by kernel_rfl) rfl (by decide) h
  obtain ⟨l, h4, h5⟩ := recs_of (enc := eR) eRlen (fun _ => True) h1 h2 fun j hj => by
    obtain ⟨b, o, e1, cs, hl, hc, hfs⟩ := h3 j hj
    obtain ⟨v0, v1, v2, rfl⟩ := list3 hl
    obtain ⟨_, _, t0⟩ := hfs 0 _ rfl v0 rfl
    obtain ⟨_, _, t1⟩ := hfs 1 _ rfl v1 rfl
    obtain ⟨_, _, t2⟩ := hfs 2 _ rfl v2 rfl
    obtain ⟨s0, rfl, r0⟩ := str_of_trod u9 t0
    obtain ⟨s1, rfl, r1⟩ := str_of_trod u9 t1
    obtain ⟨n2, rfl, r2⟩ := int_of_trod u3 t2
    exact ⟨b, o, e1, (s0, s1, n2), trivial, hc⟩
  exact ⟨s, l, e, h4⟩
theorem ops_came {H : Type} {enc : TypeId × Value → H} {w : World} {base : Nat} {sp : Nat → Bool} {held : Bool} {r : Reach} {b0 : Nat} {x : Value} {d : DataW H} {ps : List MemPlace}
    (hv : Value.okWide Tryz.prog w r b0 22 x) (h : DataW.Trod enc Tryz.prog w base sp held 22 x d ps) : ∃ (s : Sl) (l : List Op5), x = .slice s.p s.n s.c ∧ Recs eOp (wholeH w) s l ∧ ∀ o ∈ l, OpOk (wholeH w) o := by
  obtain ⟨a, len, cap, rfl⟩ := okWide_slice Tryz.underlying22 hv
  obtain ⟨fuel, hf⟩ := h
  obtain ⟨s, e, h1, h2, h3⟩ := elems_of_trod (c := 11) Tryz.underlying22 c43 (by decide) hf
  obtain ⟨l, h4, h5⟩ := recs_of (enc := eOp) eOplen (OpOk (wholeH w)) h1 h2 fun j hj => by
    obtain ⟨b, o, e1, cs, hl, hc, n, y, ht⟩ := h3 j hj
    obtain ⟨v0, v1, v2, v3, v4, v5, v6, v7, v8, v9, v10, rfl⟩ := list11 hl
    obtain ⟨_, _, t0⟩ := field_trod Tryz.underlying43 ht 0 rfl (show _ = 3 from rfl) (show _ = 0 from rfl) c3
    obtain ⟨_, _, t1⟩ := field_trod Tryz.underlying43 ht 1 rfl (show _ = 3 from rfl) (show _ = 1 from rfl) c3
    obtain ⟨_, _, t2⟩ := field_trod Tryz.underlying43 ht 2 rfl (show _ = 3 from rfl) (show _ = 2 from rfl) c3
    obtain ⟨_, _, tb⟩ := field_trod Tryz.underlying43 ht 3 rfl (show _ = 40 from rfl) (show _ = 3 from rfl) c40
    obtain ⟨_, _, t9⟩ := field_trod Tryz.underlying43 ht 4 rfl (show _ = 4 from rfl) (show _ = 9 from rfl) c4
    obtain ⟨_, _, t10⟩ := field_trod Tryz.underlying43 ht 5 rfl (show _ = 41 from rfl) (show _ = 10 from rfl) c41
    obtain ⟨_, _, t3⟩ := field_trod Tryz.underlying40 tb 0 rfl (show _ = 3 from rfl) (show _ = 0 from rfl) c3
    obtain ⟨_, _, t4⟩ := field_trod Tryz.underlying40 tb 1 rfl (show _ = 3 from rfl) (show _ = 1 from rfl) c3
    obtain ⟨_, _, t5⟩ := field_trod Tryz.underlying40 tb 2 rfl (show _ = 3 from rfl) (show _ = 2 from rfl) c3
    obtain ⟨_, _, t6⟩ := field_trod Tryz.underlying40 tb 3 rfl (show _ = 3 from rfl) (show _ = 3 from rfl) c3
    obtain ⟨_, _, t7⟩ := field_trod Tryz.underlying40 tb 4 rfl (show _ = 3 from rfl) (show _ = 4 from rfl) c3
    obtain ⟨_, _, t8⟩ := field_trod Tryz.underlying40 tb 5 rfl (show _ = 38 from rfl) (show _ = 5 from rfl) c38
    obtain ⟨n0, rfl, r0⟩ := int_of_trod u3 (v := v0) t0
    obtain ⟨n1, rfl, r1⟩ := int_of_trod u3 (v := v1) t1
    obtain ⟨n2, rfl, r2⟩ := int_of_trod u3 (v := v2) t2
    obtain ⟨n3, rfl, r3⟩ := int_of_trod u3 (v := v3) t3
    obtain ⟨n4, rfl, r4⟩ := int_of_trod u3 (v := v4) t4
    obtain ⟨n5, rfl, r5⟩ := int_of_trod u3 (v := v5) t5
    obtain ⟨n6, rfl, r6⟩ := int_of_trod u3 (v := v6) t6
    obtain ⟨n7, rfl, r7⟩ := int_of_trod u3 (v := v7) t7
    obtain ⟨s8, l8, rfl, r8⟩ := records_of (v := v8) t8
    obtain ⟨b9, e9, -⟩ := DataW.trod_bool (cs := [v9]) u4 t9
    obtain rfl : v9 = .bool b9 := by simpa using e9
    obtain ⟨s10, l10, rfl, i10, r10⟩ := ints_of_trod (v := v10) u41 u3 (by kernel_rfl) t10
    exact ⟨b, o, e1, ⟨n0, n1, n2, ⟨n3, n4, n5, n6, n7, l8⟩, s8, b9, s10, l10⟩, ⟨r0, r2, r3, r8, i10, r10⟩, hc⟩
  exact ⟨s, l, e, h4, h5⟩
/-- The zero heap with the tables laid meets the condition. -/
theorem laid_met (os : Os) (args : Array Value) : laidMetH Tryz.prog laidL ((World.laidAll Tryz.prog os laidL).forCall (fun _ _ => 0) ⟨#[], args, []⟩).memory := by
  rw [MakeChecks.laidMetH_plain _ _ _ (by kernel_rfl)]
  exact laidMet_laidAll _ (by kernel_rfl) (by kernel_rfl)
end Go.Proofs.YtokceblmbmajgaaGreatDoor
