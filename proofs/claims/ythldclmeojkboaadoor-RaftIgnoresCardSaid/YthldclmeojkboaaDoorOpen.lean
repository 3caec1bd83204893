import Derived.Test.YthldclmeojkboaaDoorRows
import Derived.Test.YthldclmeojkboaaDoorL1
import Derived.Test.YthldclmeojkboaaDoorHlRow
import Derived.LaidMore
import Derived.OpenShut
import Derived.Lay
import Derived.SevenTiedAt
import Derived.Test.YthldclmeojkboaaDoorTie
import Derived.Test.YthldclmeojkboaaDoorCards
import Derived.Stop.Joined
namespace Go.Proofs.YthldclmeojkboaaDoor
open Go Go.HL Go.RowKit Go.ChangeShapes Go.WideShapes Go.ChangeAt
set_option maxRecDepth 100000
theorem Tryd.own : ownKnob Tryd.prog.godebug = none := by kernel_rfl
theorem Tryd.laidOut : laidOutB Tryd.prog = true := by kernel_rfl
theorem u3 : Tryd.prog.underlying 3 = some (.int .i64) := by kernel_rfl
theorem uEr : Tryd.prog.underlying 22 = some (.int .i64) := by kernel_rfl
theorem u9 : Tryd.prog.underlying 9 = some .string := by kernel_rfl
theorem uIs : Tryd.prog.underlying 25 = some (.slice 3) := by kernel_rfl
theorem uEs : Tryd.prog.underlying 24 = some (.slice 86) := by kernel_rfl
theorem uBs : Tryd.prog.underlying 23 = some (.slice 157) := by kernel_rfl
theorem cB : Tryd.prog.cellsOf 157 = 6 := by kernel_rfl
theorem cM : Tryd.prog.cellsOf 27 = 21 := by kernel_rfl
theorem list3 {cs : List Value} (h : cs.length = 3) : ∃ a b c, cs = [a, b, c] := by
  match cs, h with
  | [a, b, c], _ => exact ⟨a, b, c, rfl⟩
theorem list21 {cs : List Value} (h : cs.length = 21) : ∃ a0 a1 a2 a3 a4 a5 a6 a7 a8 a9 a10 a11 a12 a13 a14 a15 a16 a17 a18 a19 a20, cs = [a0, a1, a2, a3, a4, a5, a6, a7, a8, a9, a10, a11, a12, a13, a14, a15, a16, a17, a18, a19, a20] := by
  match cs, h with
  | [a0, a1, a2, a3, a4, a5, a6, a7, a8, a9, a10, a11, a12, a13, a14, a15, a16, a17, a18, a19, a20], _ => exact ⟨a0, a1, a2, a3, a4, a5, a6, a7, a8, a9, a10, a11, a12, a13, a14, a15, a16, a17, a18, a19, a20, rfl⟩
def laidL : List (String × DataW Unit) := [("unicode/utf8.acceptRanges", Rows.laid_unicode_utf8_acceptRanges), ("unicode/utf8.first", Rows.laid_unicode_utf8_first)]
section
variable {H : Type} {enc : TypeId × Value → H} {w : World} {base : Nat} {sp : Nat → Bool} {held : Bool}
theorem entries_of {fuel : Nat} {x : Value} {y : DataW H × List MemPlace} (h : DataW.trod enc Tryd.prog w base sp held fuel 24 [x] = some y) : ∃ (s : Sl) (l : List En), x = .slice s.p s.n s.c ∧ Recs eE (wholeH w) s l := by
  obtain ⟨s, e, h1, h2, h3⟩ := structs_of_trod (c := 3) uEs Tryd.underlying86 (by kernel_rfl) (by kernel_rfl) rfl (by decide) h
  obtain ⟨l, h4, -⟩ := recs_of (enc := eE) eElen (fun _ => True) h1 h2 fun j hj => by
    obtain ⟨b, o, e1, cs, hl, hc, hfs⟩ := h3 j hj
    obtain ⟨v0, v1, v2, rfl⟩ := list3 hl
    obtain ⟨_, _, t0⟩ := hfs 0 _ rfl v0 rfl
    obtain ⟨_, _, t1⟩ := hfs 1 _ rfl v1 rfl
    obtain ⟨_, _, t2⟩ := hfs 2 _ rfl v2 rfl
    obtain ⟨n0, rfl, r0⟩ := int_of_trod u3 t0
    obtain ⟨n1, rfl, r1⟩ := int_of_trod u3 t1
    obtain ⟨s2, rfl, r2⟩ := str_of_trod u9 t2
    exact ⟨b, o, e1, (n0, n1, s2), trivial, hc⟩
  exact ⟨s, l, e, h4⟩
theorem msg_came {r : Reach} {b0 : Nat} {x : Value} {d : DataW H} {ps : List MemPlace}
    (hv : Value.okWide Tryd.prog w r b0 27 x) (h : DataW.Trod enc Tryd.prog w base sp held 27 x d ps) : ∃ (m : Mw) (l : List En), x = m.val ∧ MwOk m ∧ Recs eE (wholeH w) m.ent l := by
  obtain ⟨cs, rfl, hsz, hf⟩ := open_agg Tryd.underlying27 (by kernel_rfl) hv h
  obtain ⟨v0, v1, v2, v3, v4, v5, v6, v7, v8, v9, v10, v11, v12, v13, v14, v15, v16, v17, v18, v19, v20, hcs⟩ := list21 (cs := cs.toList) (by rw [Array.length_toList, hsz, cM])
  have hcs : cs = #[v0, v1, v2, v3, v4, v5, v6, v7, v8, v9, v10, v11, v12, v13, v14, v15, v16, v17, v18, v19, v20] := by rw [← Array.toArray_toList (xs := cs), hcs]
  subst hcs
  obtain ⟨_, _, t0⟩ := hf 0 _ rfl v0 rfl
  obtain ⟨_, _, t1⟩ := hf 1 _ rfl v1 rfl
  obtain ⟨_, _, t2⟩ := hf 2 _ rfl v2 rfl
  obtain ⟨_, _, t3⟩ := hf 3 _ rfl v3 rfl
  obtain ⟨_, _, t4⟩ := hf 4 _ rfl v4 rfl
  obtain ⟨_, _, t5⟩ := hf 5 _ rfl v5 rfl
  obtain ⟨_, _, t6⟩ := hf 6 _ rfl v6 rfl
  obtain ⟨_, _, t7⟩ := hf 7 _ rfl v7 rfl
  obtain ⟨_, _, t8⟩ := hf 8 _ rfl v8 rfl
  obtain ⟨_, _, t9⟩ := hf 9 _ rfl v9 rfl
  obtain ⟨_, _, t10⟩ := hf 10 _ rfl v10 rfl
  obtain ⟨_, _, t11⟩ := hf 11 _ rfl v11 rfl
  obtain ⟨_, _, t12⟩ := hf 12 _ rfl v12 rfl
  obtain ⟨_, _, t13⟩ := hf 13 _ rfl v13 rfl
  obtain ⟨_, _, t14⟩ := hf 14 _ rfl v14 rfl
  obtain ⟨_, _, t15⟩ := hf 15 _ rfl v15 rfl
  obtain ⟨_, _, t16⟩ := hf 16 _ rfl v16 rfl
  obtain ⟨_, _, t17⟩ := hf 17 _ rfl v17 rfl
  obtain ⟨_, _, t18⟩ := hf 18 _ rfl v18 rfl
  obtain ⟨_, _, t19⟩ := hf 19 _ rfl v19 rfl
  obtain ⟨_, _, t20⟩ := hf 20 _ rfl v20 rfl
  obtain ⟨n0, rfl, r0⟩ := int_of_trod u3 t0
  obtain ⟨n1, rfl, r1⟩ := int_of_trod u3 t1
  obtain ⟨n2, rfl, r2⟩ := int_of_trod u3 t2
  obtain ⟨n3, rfl, r3⟩ := int_of_trod u3 t3
  obtain ⟨n4, rfl, r4⟩ := int_of_trod u3 t4
  obtain ⟨n5, rfl, r5⟩ := int_of_trod u3 t5
  obtain ⟨n6, rfl, r6⟩ := int_of_trod u3 t6
  obtain ⟨n7, rfl, r7⟩ := int_of_trod u3 t7
  obtain ⟨n8, rfl, r8⟩ := int_of_trod u3 t8
  obtain ⟨n9, rfl, r9⟩ := int_of_trod u3 t9
  obtain ⟨n10, rfl, r10⟩ := int_of_trod u3 t10
  obtain ⟨n11, rfl, r11⟩ := int_of_trod u3 t11
  obtain ⟨n12, rfl, r12⟩ := int_of_trod u3 t12
  obtain ⟨n13, rfl, r13⟩ := int_of_trod u3 t13
  obtain ⟨n14, rfl, r14⟩ := int_of_trod u3 t14
  obtain ⟨n15, rfl, r15⟩ := int_of_trod uEr t15
  obtain ⟨s16, rfl, -⟩ := str_of_trod u9 t16
  obtain ⟨s17, rfl, -⟩ := str_of_trod u9 t17
  obtain ⟨l18, rfl, -⟩ := elems_of_trod uBs cB (by decide) t18
  obtain ⟨l19, es, rfl, r19⟩ := entries_of t19
  obtain ⟨l20, _, rfl, -⟩ := ints_of_trod uIs u3 (by kernel_rfl) t20
  exact ⟨⟨n0, n1, n2, n3, n4, n5, n6, n7, n8, n9, n10, n11, n12, n13, n14, n15, s16, s17, l18, l19, l20⟩, es, rfl, ⟨r0, r1, r7, r9, r10, r11, r15⟩, r19⟩
end
theorem laid_met (os : Os) (args : Array Value) : laidMetH Tryd.prog laidL ((World.laidAll Tryd.prog os laidL).forCall (fun _ _ => 0) ⟨#[], args, []⟩).memory := by
  rw [MakeChecks.laidMetH_plain _ _ _ (by kernel_rfl)]
  exact laidMet_laidAll _ (by kernel_rfl) (by kernel_rfl)
end Go.Proofs.YthldclmeojkboaaDoor
