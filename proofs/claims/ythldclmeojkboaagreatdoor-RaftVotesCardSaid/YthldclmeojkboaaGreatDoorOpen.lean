import Derived.Test.YthldclmeojkboaaGreatDoorRows
import Derived.Test.YthldclmeojkboaaGreatDoorL1
import Derived.Test.YthldclmeojkboaaGreatDoorHlRow
import Derived.LaidMore
import Derived.OpenShut
import Derived.Lay
import Derived.SevenTiedAt
import Derived.Test.YthldclmeojkboaaGreatDoorTie
import Derived.Test.YthldclmeojkboaaGreatDoorCards
import Derived.Stop.Joined
namespace Go.Proofs.YthldclmeojkboaaGreatDoor
open Go Go.HL Go.RowKit Go.ChangeShapes Go.WideShapes Go.ChangeAt
set_option maxRecDepth 100000
theorem Tryz.own : ownKnob Tryz.prog.godebug = none := by kernel_rfl
theorem Tryz.laidOut : laidOutB Tryz.prog = true := by kernel_rfl
theorem u3 : Tryz.prog.underlying 3 = some (.int .i64) := by kernel_rfl
theorem u30 : Tryz.prog.underlying 30 = some (.int .i64) := by kernel_rfl
theorem u4 : Tryz.prog.underlying 4 = some .bool := by kernel_rfl
theorem u9 : Tryz.prog.underlying 9 = some .string := by kernel_rfl
theorem u28 : Tryz.prog.underlying 28 = some (.slice 3) := by kernel_rfl
theorem u29 : Tryz.prog.underlying 29 = some (.slice 51) := by kernel_rfl
theorem u31 : Tryz.prog.underlying 31 = some (.slice 242) := by kernel_rfl
theorem u22 : Tryz.prog.underlying 22 = some (.slice 35) := by kernel_rfl
theorem c242 : Tryz.prog.cellsOf 242 = 6 := by kernel_rfl
theorem c35 : Tryz.prog.cellsOf 35 = 26 := by kernel_rfl
theorem list3 {cs : List Value} (h : cs.length = 3) : ∃ a b c, cs = [a, b, c] := by
  match cs, h with
  | [a, b, c], _ => exact ⟨a, b, c, rfl⟩
theorem list26 {cs : List Value} (h : cs.length = 26) : ∃ a0 a1 a2 a3 a4 a5 a6 a7 a8 a9 a10 a11 a12 a13 a14 a15 a16 a17 a18 a19 a20 a21 a22 a23 a24 a25, cs = [a0, a1, a2, a3, a4, a5, a6, a7, a8, a9, a10, a11, a12, a13, a14, a15, a16, a17, a18, a19, a20, a21, a22, a23, a24, a25] := by
  match cs, h with
  | [a0, a1, a2, a3, a4, a5, a6, a7, a8, a9, a10, a11, a12, a13, a14, a15, a16, a17, a18, a19, a20, a21, a22, a23, a24, a25], _ => exact ⟨a0, a1, a2, a3, a4, a5, a6, a7, a8, a9, a10, a11, a12, a13, a14, a15, a16, a17, a18, a19, a20, a21, a22, a23, a24, a25, rfl⟩
def laidL : List (String × DataW Unit) := [("unicode/utf8.acceptRanges", Rows.laid_unicode_utf8_acceptRanges), ("unicode/utf8.first", Rows.laid_unicode_utf8_first)]
section
variable {H : Type} {enc : TypeId × Value → H} {w : World} {base : Nat} {sp : Nat → Bool} {held : Bool}
theorem field_trod {t n : Nat} {fs : Array Field} {cs : List Value} {y : DataW H × List MemPlace} (ht : Tryz.prog.underlying t = some (.struct fs)) (h : DataW.trod enc Tryz.prog w base sp held n t cs = some y) (i : Nat) {f : Field} {ty off c : Nat} (hi : fs[i]? = some f) (h1 : f.type = ty) (h2 : f.offset = off) (h3 : Tryz.prog.cellsOf ty = c) :
    ∃ m z, DataW.trod enc Tryz.prog w base sp held m ty ((cs.drop off).take c) = some z := by
  subst h1 h2 h3
  obtain ⟨xs, n2, -, -, -, hlen, hxx⟩ := DataW.trod_struct ht h
  have h1 := hxx i f hi
  have hl : i < xs.length := by rw [hlen]; exact (Array.getElem?_eq_some_iff.1 hi).1
  rw [List.getElem?_eq_getElem hl] at h1
  exact ⟨n2, _, h1⟩
theorem entries_of {fuel : Nat} {x : Value} {y : DataW H × List MemPlace} (h : DataW.trod enc Tryz.prog w base sp held fuel 29 [x] = some y) : ∃ (s : Sl) (l : List En), x = .slice s.p s.n s.c ∧ Recs eE (wholeH w) s l := by
  obtain ⟨s, e, h1, h2, h3⟩ := structs_of_trod (c := 3) u29 Tryz.underlying51 (by kernel_rfl) (by kernel_rfl) rfl (by decide) h
  obtain ⟨l, h4, -⟩ := recs_of (enc := eE) eElen (fun _ => True) h1 h2 fun j hj => by
    obtain ⟨b, o, e1, cs, hl, hc, hfs⟩ := h3 j hj
    obtain ⟨v0, v1, v2, rfl⟩ := list3 hl
    obtain ⟨_, _, t0⟩ := hfs 0 _ rfl v0 rfl
    obtain ⟨_, _, t1⟩ := hfs 1 _ rfl v1 rfl
    obtain ⟨_, _, t2⟩ := hfs 2 _ rfl v2 rfl
    obtain ⟨n0, rfl, r0⟩ := int_of_trod u3 t0
    obtain ⟨n1, rfl, r1⟩ := int_of_trod u3 t1
    obtain ⟨s2, rfl, r2⟩ := str_of_trod u9 t2
    exact ⟨b, o, e1, (n0, n1, s2), trivial, hc⟩
  exact ⟨s, l, e, h4⟩
theorem msg_of {n : Nat} {v0 v1 v2 v3 v4 v5 v6 v7 v8 v9 v10 v11 v12 v13 v14 v15 v16 v17 v18 v19 v20 : Value} {y : DataW H × List MemPlace} (h : DataW.trod enc Tryz.prog w base sp held n 33 [v0, v1, v2, v3, v4, v5, v6, v7, v8, v9, v10, v11, v12, v13, v14, v15, v16, v17, v18, v19, v20] = some y) :
    ∃ (m : Mw) (l : List En), [v0, v1, v2, v3, v4, v5, v6, v7, v8, v9, v10, v11, v12, v13, v14, v15, v16, v17, v18, v19, v20] = m.arr.toList ∧ MwOk m ∧ Recs eE (wholeH w) m.ent l := by
  obtain ⟨_, _, t0⟩ := field_trod Tryz.underlying33 h 0 rfl (show _ = 3 from rfl) (show _ = 0 from rfl) (show Tryz.prog.cellsOf 3 = 1 by kernel_rfl)
  obtain ⟨_, _, t1⟩ := field_trod Tryz.underlying33 h 1 rfl (show _ = 3 from rfl) (show _ = 1 from rfl) (show Tryz.prog.cellsOf 3 = 1 by kernel_rfl)
  obtain ⟨_, _, t2⟩ := field_trod Tryz.underlying33 h 2 rfl (show _ = 3 from rfl) (show _ = 2 from rfl) (show Tryz.prog.cellsOf 3 = 1 by kernel_rfl)
  obtain ⟨_, _, t3⟩ := field_trod Tryz.underlying33 h 3 rfl (show _ = 3 from rfl) (show _ = 3 from rfl) (show Tryz.prog.cellsOf 3 = 1 by kernel_rfl)
  obtain ⟨_, _, t4⟩ := field_trod Tryz.underlying33 h 4 rfl (show _ = 3 from rfl) (show _ = 4 from rfl) (show Tryz.prog.cellsOf 3 = 1 by kernel_rfl)
  obtain ⟨_, _, t5⟩ := field_trod Tryz.underlying33 h 5 rfl (show _ = 3 from rfl) (show _ = 5 from rfl) (show Tryz.prog.cellsOf 3 = 1 by kernel_rfl)
  obtain ⟨_, _, t6⟩ := field_trod Tryz.underlying33 h 6 rfl (show _ = 3 from rfl) (show _ = 6 from rfl) (show Tryz.prog.cellsOf 3 = 1 by kernel_rfl)
  obtain ⟨_, _, t7⟩ := field_trod Tryz.underlying33 h 7 rfl (show _ = 3 from rfl) (show _ = 7 from rfl) (show Tryz.prog.cellsOf 3 = 1 by kernel_rfl)
  obtain ⟨_, _, t8⟩ := field_trod Tryz.underlying33 h 8 rfl (show _ = 3 from rfl) (show _ = 8 from rfl) (show Tryz.prog.cellsOf 3 = 1 by kernel_rfl)
  obtain ⟨_, _, t9⟩ := field_trod Tryz.underlying33 h 9 rfl (show _ = 3 from rfl) (show _ = 9 from rfl) (show Tryz.prog.cellsOf 3 = 1 by kernel_rfl)
  obtain ⟨_, _, t10⟩ := field_trod Tryz.underlying33 h 10 rfl (show _ = 3 from rfl) (show _ = 10 from rfl) (show Tryz.prog.cellsOf 3 = 1 by kernel_rfl)
  obtain ⟨_, _, t11⟩ := field_trod Tryz.underlying33 h 11 rfl (show _ = 3 from rfl) (show _ = 11 from rfl) (show Tryz.prog.cellsOf 3 = 1 by kernel_rfl)
  obtain ⟨_, _, t12⟩ := field_trod Tryz.underlying33 h 12 rfl (show _ = 3 from rfl) (show _ = 12 from rfl) (show Tryz.prog.cellsOf 3 = 1 by kernel_rfl)
  obtain ⟨_, _, t13⟩ := field_trod Tryz.underlying33 h 13 rfl (show _ = 3 from rfl) (show _ = 13 from rfl) (show Tryz.prog.cellsOf 3 = 1 by kernel_rfl)
  obtain ⟨_, _, t14⟩ := field_trod Tryz.underlying33 h 14 rfl (show _ = 3 from rfl) (show _ = 14 from rfl) (show Tryz.prog.cellsOf 3 = 1 by kernel_rfl)
  obtain ⟨_, _, t15⟩ := field_trod Tryz.underlying33 h 15 rfl (show _ = 30 from rfl) (show _ = 15 from rfl) (show Tryz.prog.cellsOf 30 = 1 by kernel_rfl)
  obtain ⟨_, _, t16⟩ := field_trod Tryz.underlying33 h 16 rfl (show _ = 9 from rfl) (show _ = 16 from rfl) (show Tryz.prog.cellsOf 9 = 1 by kernel_rfl)
  obtain ⟨_, _, t17⟩ := field_trod Tryz.underlying33 h 17 rfl (show _ = 9 from rfl) (show _ = 17 from rfl) (show Tryz.prog.cellsOf 9 = 1 by kernel_rfl)
  obtain ⟨_, _, t18⟩ := field_trod Tryz.underlying33 h 18 rfl (show _ = 31 from rfl) (show _ = 18 from rfl) (show Tryz.prog.cellsOf 31 = 1 by kernel_rfl)
  obtain ⟨_, _, t19⟩ := field_trod Tryz.underlying33 h 19 rfl (show _ = 29 from rfl) (show _ = 19 from rfl) (show Tryz.prog.cellsOf 29 = 1 by kernel_rfl)
  obtain ⟨_, _, t20⟩ := field_trod Tryz.underlying33 h 20 rfl (show _ = 28 from rfl) (show _ = 20 from rfl) (show Tryz.prog.cellsOf 28 = 1 by kernel_rfl)
  obtain ⟨n0, rfl, r0⟩ := int_of_trod u3 (v := v0) t0
  obtain ⟨n1, rfl, r1⟩ := int_of_trod u3 (v := v1) t1
  obtain ⟨n2, rfl, r2⟩ := int_of_trod u3 (v := v2) t2
  obtain ⟨n3, rfl, r3⟩ := int_of_trod u3 (v := v3) t3
  obtain ⟨n4, rfl, r4⟩ := int_of_trod u3 (v := v4) t4
  obtain ⟨n5, rfl, r5⟩ := int_of_trod u3 (v := v5) t5
  obtain ⟨n6, rfl, r6⟩ := int_of_trod u3 (v := v6) t6
  obtain ⟨n7, rfl, r7⟩ := int_of_trod u3 (v := v7) t7
  obtain ⟨n8, rfl, r8⟩ := int_of_trod u3 (v := v8) t8
  obtain ⟨n9, rfl, r9⟩ := int_of_trod u3 (v := v9) t9
  obtain ⟨n10, rfl, r10⟩ := int_of_trod u3 (v := v10) t10
  obtain ⟨n11, rfl, r11⟩ := int_of_trod u3 (v := v11) t11
  obtain ⟨n12, rfl, r12⟩ := int_of_trod u3 (v := v12) t12
  obtain ⟨n13, rfl, r13⟩ := int_of_trod u3 (v := v13) t13
  obtain ⟨n14, rfl, r14⟩ := int_of_trod u3 (v := v14) t14
  obtain ⟨n15, rfl, r15⟩ := int_of_trod u30 (v := v15) t15
  obtain ⟨s16, rfl, -⟩ := str_of_trod u9 (v := v16) t16
  obtain ⟨s17, rfl, -⟩ := str_of_trod u9 (v := v17) t17
  obtain ⟨l18, rfl, -⟩ := elems_of_trod (v := v18) u31 c242 (by decide) t18
  obtain ⟨l19, es, rfl, r19⟩ := entries_of (x := v19) t19
  obtain ⟨l20, _, rfl, -⟩ := ints_of_trod (v := v20) u28 u3 (by kernel_rfl) t20
  exact ⟨⟨n0, n1, n2, n3, n4, n5, n6, n7, n8, n9, n10, n11, n12, n13, n14, n15, s16, s17, l18, l19, l20⟩, es, rfl, ⟨r0, r1, r7, r9, r10, r11, r15⟩, r19⟩
theorem ops_came {r : Reach} {b0 : Nat} {x : Value} {d : DataW H} {ps : List MemPlace}
    (hv : Value.okWide Tryz.prog w r b0 22 x) (h : DataW.Trod enc Tryz.prog w base sp held 22 x d ps) : ∃ (s : Sl) (l : List Op), x = .slice s.p s.n s.c ∧ Recs eOp (wholeH w) s l ∧ ∀ o ∈ l, OpOk (wholeH w) o := by
  obtain ⟨a, len, cap, rfl⟩ := okWide_slice u22 hv
  obtain ⟨fuel, hf⟩ := h
  obtain ⟨s, e, h1, h2, h3⟩ := elems_of_trod (c := 26) u22 c35 (by decide) hf
  obtain ⟨l, h4, h5⟩ := recs_of (enc := eOp) eOplen (OpOk (wholeH w)) h1 h2 fun j hj => by
    obtain ⟨b, o, e1, cs, hl, hc, n, y, ht⟩ := h3 j hj
    obtain ⟨v0, v1, v2, v3, v4, v5, v6, v7, v8, v9, v10, v11, v12, v13, v14, v15, v16, v17, v18, v19, v20, v21, v22, v23, v24, v25, rfl⟩ := list26 hl
    obtain ⟨_, _, t0⟩ := field_trod Tryz.underlying35 ht 0 rfl (show _ = 3 from rfl) (show _ = 0 from rfl) (show Tryz.prog.cellsOf 3 = 1 by kernel_rfl)
    obtain ⟨_, _, t1⟩ := field_trod Tryz.underlying35 ht 1 rfl (show _ = 3 from rfl) (show _ = 1 from rfl) (show Tryz.prog.cellsOf 3 = 1 by kernel_rfl)
    obtain ⟨_, _, t2⟩ := field_trod Tryz.underlying35 ht 2 rfl (show _ = 3 from rfl) (show _ = 2 from rfl) (show Tryz.prog.cellsOf 3 = 1 by kernel_rfl)
    obtain ⟨_, _, t3⟩ := field_trod Tryz.underlying35 ht 3 rfl (show _ = 33 from rfl) (show _ = 3 from rfl) (show Tryz.prog.cellsOf 33 = 21 by kernel_rfl)
    obtain ⟨_, _, t4⟩ := field_trod Tryz.underlying35 ht 4 rfl (show _ = 4 from rfl) (show _ = 24 from rfl) (show Tryz.prog.cellsOf 4 = 1 by kernel_rfl)
    obtain ⟨_, _, t5⟩ := field_trod Tryz.underlying35 ht 5 rfl (show _ = 9 from rfl) (show _ = 25 from rfl) (show Tryz.prog.cellsOf 9 = 1 by kernel_rfl)
    obtain ⟨n0, rfl, r0⟩ := int_of_trod u3 (v := v0) t0
    obtain ⟨n1, rfl, r1⟩ := int_of_trod u3 (v := v1) t1
    obtain ⟨n2, rfl, r2⟩ := int_of_trod u3 (v := v2) t2
    obtain ⟨m, es, em, hm, hes⟩ := msg_of (v0 := v3) (v1 := v4) (v2 := v5) (v3 := v6) (v4 := v7) (v5 := v8) (v6 := v9) (v7 := v10) (v8 := v11) (v9 := v12) (v10 := v13) (v11 := v14) (v12 := v15) (v13 := v16) (v14 := v17) (v15 := v18) (v16 := v19) (v17 := v20) (v18 := v21) (v19 := v22) (v20 := v23) t3
    obtain ⟨b4, e4, -⟩ := DataW.trod_bool (cs := [v24]) u4 t4
    obtain rfl : v24 = .bool b4 := by simpa using e4
    obtain ⟨s5, rfl, -⟩ := str_of_trod u9 (v := v25) t5
    simp only [List.cons.injEq, and_true] at em
    obtain ⟨rfl, rfl, rfl, rfl, rfl, rfl, rfl, rfl, rfl, rfl, rfl, rfl, rfl, rfl, rfl, rfl, rfl, rfl, rfl, rfl, rfl⟩ := em
    exact ⟨b, o, e1, ⟨n0, n1, n2, m, es, b4, s5⟩, ⟨r0, r1, r2, hm, hes⟩, hc⟩
  exact ⟨s, l, e, h4, h5⟩
end
theorem laid_met (os : Os) (args : Array Value) : laidMetH Tryz.prog laidL ((World.laidAll Tryz.prog os laidL).forCall (fun _ _ => 0) ⟨#[], args, []⟩).memory := by
  rw [MakeChecks.laidMetH_plain _ _ _ (by kernel_rfl)]
  exact laidMet_laidAll _ (by kernel_rfl) (by kernel_rfl)
end Go.Proofs.YthldclmeojkboaaGreatDoor
