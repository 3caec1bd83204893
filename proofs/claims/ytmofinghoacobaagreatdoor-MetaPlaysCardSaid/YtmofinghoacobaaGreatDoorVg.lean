import Derived.Test.YtmofinghoacobaaGreatDoorProg
import Derived.KernelRfl
import Derived.Test.YtmofinghoacobaaGreatDoorHlFn
import Derived.Test.YtmofinghoacobaaGreatDoorVf
namespace Go.Proofs.YtmofinghoacobaaGreatDoor
open Go.HL
set_option maxRecDepth 100000
def logboomlaw12_MetaPlays_ann : Anns := { hid := [23, 11], loops := [(0, { slots := [(8, .ptr), (10, .int .i64)], kept := [0, 1, 2, 9], locs := [(0, [.int .i64, .slice, .slice, .slice, .slice])], keptL := [] })], joins := [((11, 12), { slots := [], kept := [0, 1, 2, 8, 9, 10, 11], locs := [(0, [.int .i64, .slice, .slice, .slice, .slice]), (1, [.int .i64, .int .i64, .int .i64, .int .i64, .int .i64, .str, .str, .slice])], keptL := [] })], mix := [] }
def logboomlaw12_MetaPlays_vc (script fit : Sl) (keep : Int) (H : Heap) (K : Value → Heap → Prop) : Prop :=
FnH Tryz.prog 9 #[] H fun r1 H1 =>
∃ b1 : Bool,
r1 = .bool b1 ∧
FnH Tryz.prog 10 #[] H1 fun r2 H2 =>
∃ p1 : Option Addr,
r2 = .pointer p1 ∧
br (!b1) (
K (.bool false) H2)
 (
br (Option.isNone p1) (
K (.bool false) H2)
 (
∃ I1 : Option Addr → Int → Int → Sl → Sl → Sl → Sl → Heap → Prop,
∃ M1 : Option Addr → Int → Int → Sl → Sl → Sl → Sl → Heap → Nat,
I1 p1 0 0 ⟨none, 0, 0⟩ ⟨none, 0, 0⟩ ⟨none, 0, 0⟩ ⟨none, 0, 0⟩ H2 ∧
∀ m_1 : Option Addr,
∀ i_1 n1 : Int,
∀ l1 l2 l3 l4 : Sl,
∀ H3 : Heap,
I1 m_1 i_1 n1 l1 l2 l3 l4 H3 →
br (decide ((i_1 : Int) < (script.n : Nat))) (
br (decide ((i_1 : Int) < 120)) (
∃ q1 o1 : Nat,
 (script.p : Option Addr) = some ⟨q1, o1, none⟩ ∧
0 ≤ (i_1 : Int) ∧
 (i_1 : Int) < (script.n : Nat) ∧
∃ n2 : Int,
cellH H3 ⟨q1, o1 + Int.toNat i_1 * 8, none⟩ = some (.int .i64 n2) ∧
∃ n3 : Int,
cellH H3 ⟨q1, o1 + Int.toNat i_1 * 8 + 1, none⟩ = some (.int .i64 n3) ∧
∃ n4 : Int,
cellH H3 ⟨q1, o1 + Int.toNat i_1 * 8 + 2, none⟩ = some (.int .i64 n4) ∧
∃ n5 : Int,
cellH H3 ⟨q1, o1 + Int.toNat i_1 * 8 + 3, none⟩ = some (.int .i64 n5) ∧
∃ n6 : Int,
cellH H3 ⟨q1, o1 + Int.toNat i_1 * 8 + 4, none⟩ = some (.int .i64 n6) ∧
∃ s1 : ByteArray,
cellH H3 ⟨q1, o1 + Int.toNat i_1 * 8 + 5, none⟩ = some (.string s1) ∧
∃ s2 : ByteArray,
cellH H3 ⟨q1, o1 + Int.toNat i_1 * 8 + 6, none⟩ = some (.string s2) ∧
∃ l5 : Sl,
cellH H3 ⟨q1, o1 + Int.toNat i_1 * 8 + 7, none⟩ = some (.slice l5.p l5.n l5.c) ∧
br (decide (((l5.n : Nat) : Int) > 50)) (
SelfEq ([.v (.slice script.p script.n script.c), .v (.slice fit.p fit.n fit.c), .v (.int .i64 keep), .loc 0 0], [], [56]) ∧
I1 m_1 (IntKind.wrap .i64 (i_1 + 1)) n1 l1 l2 l3 l4 H3 ∧
M1 m_1 (IntKind.wrap .i64 (i_1 + 1)) n1 l1 l2 l3 l4 H3 < M1 m_1 i_1 n1 l1 l2 l3 l4 H3)
 (
br (decide (((s1.size : Nat) : Int) > 100)) (
SelfEq ([.v (.slice script.p script.n script.c), .v (.slice fit.p fit.n fit.c), .v (.int .i64 keep), .loc 0 0], [], [56]) ∧
I1 m_1 (IntKind.wrap .i64 (i_1 + 1)) n1 l1 l2 l3 l4 H3 ∧
M1 m_1 (IntKind.wrap .i64 (i_1 + 1)) n1 l1 l2 l3 l4 H3 < M1 m_1 i_1 n1 l1 l2 l3 l4 H3)
 (
∃ J1 : Int → Sl → Sl → Sl → Sl → Int → Int → Int → Int → Int → ByteArray → ByteArray → Sl → Heap → Prop,
 (br (decide ((i_1 : Int) < (fit.n : Nat))) (
∃ q2 o2 : Nat,
 (fit.p : Option Addr) = some ⟨q2, o2, none⟩ ∧
0 ≤ (i_1 : Int) ∧
 (i_1 : Int) < (fit.n : Nat) ∧
∃ n7 : Int,
cellH H3 ⟨q2, o2 + Int.toNat i_1, none⟩ = some (.int .i64 n7) ∧
 (4 : Int) ≠ 0 ∧
br (((Int.tmod n7 4) : Int) != 0) (
∀ q3 : Nat,
H3 q3 = none →
FnH Tryz.prog 24 #[.pointer (some ⟨q3, 0, none⟩), .agg #[.int .i64 n2, .int .i64 n3, .int .i64 n4, .int .i64 n5, .int .i64 n6, .string s1, .string s2, .slice l5.p l5.n l5.c]] (Heap.upd H3 q3 (.cells #[.int .i64 n1, .slice l1.p l1.n l1.c, .slice l2.p l2.n l2.c, .slice l3.p l3.n l3.c, .slice l4.p l4.n l4.c] 56 (0, 0))) fun r3 H4 =>
∃ n8 n9 n10 n11 n12 : Int,
∃ s3 s4 : ByteArray,
∃ l6 : Sl,
r3 = .agg #[.int .i64 n8, .int .i64 n9, .int .i64 n10, .int .i64 n11, .int .i64 n12, .string s3, .string s4, .slice l6.p l6.n l6.c] ∧
∃ n13 : Int,
∃ l7 l8 l9 l10 : Sl,
H4 q3 = some (.cells #[.int .i64 n13, .slice l7.p l7.n l7.c, .slice l8.p l8.n l8.c, .slice l9.p l9.n l9.c, .slice l10.p l10.n l10.c] 56 (0, 0)) ∧
letH (Heap.del H4 q3) fun H5 =>
SelfEq ([.v (.slice script.p script.n script.c), .v (.slice fit.p fit.n fit.c), .v (.int .i64 keep), .v (.pointer m_1), .loc 0 0, .v (.int .i64 i_1), .loc 1 0], [], [56, 31]) ∧
J1 n13 l7 l8 l9 l10 n8 n9 n10 n11 n12 s3 s4 l6 H5)
 (
SelfEq ([.v (.slice script.p script.n script.c), .v (.slice fit.p fit.n fit.c), .v (.int .i64 keep), .v (.pointer m_1), .loc 0 0, .v (.int .i64 i_1), .loc 1 0], [], [56, 31]) ∧
J1 n1 l1 l2 l3 l4 n2 n3 n4 n5 n6 s1 s2 l5 H3))
 (
SelfEq ([.v (.slice script.p script.n script.c), .v (.slice fit.p fit.n fit.c), .v (.int .i64 keep), .v (.pointer m_1), .loc 0 0, .v (.int .i64 i_1), .loc 1 0], [], [56, 31]) ∧
J1 n1 l1 l2 l3 l4 n2 n3 n4 n5 n6 s1 s2 l5 H3)) ∧
∀ n14 : Int,
∀ l11 l12 l13 l14 : Sl,
∀ n15 n16 n17 n18 n19 : Int,
∀ s5 s6 : ByteArray,
∀ l15 : Sl,
∀ H6 : Heap,
J1 n14 l11 l12 l13 l14 n15 n16 n17 n18 n19 s5 s6 l15 H6 →
FnH Tryz.prog 12 #[.pointer m_1, .agg #[.int .i64 n15, .int .i64 n16, .int .i64 n17, .int .i64 n18, .int .i64 n19, .string s5, .string s6, .slice l15.p l15.n l15.c]] H6 fun r4 H7 =>
∃ n20 n21 : Int,
r4 = .tuple #[.int .i64 n20, .int .i64 n21] ∧
∀ q4 : Nat,
H7 q4 = none →
FnH Tryz.prog 23 #[.pointer (some ⟨q4, 0, none⟩), .agg #[.int .i64 n15, .int .i64 n16, .int .i64 n17, .int .i64 n18, .int .i64 n19, .string s5, .string s6, .slice l15.p l15.n l15.c]] (Heap.upd H7 q4 (.cells #[.int .i64 n14, .slice l11.p l11.n l11.c, .slice l12.p l12.n l12.c, .slice l13.p l13.n l13.c, .slice l14.p l14.n l14.c] 56 (0, 0))) fun r5 H8 =>
∃ n22 n23 : Int,
r5 = .tuple #[.int .i64 n22, .int .i64 n23] ∧
∃ n24 : Int,
∃ l16 l17 l18 l19 : Sl,
H8 q4 = some (.cells #[.int .i64 n24, .slice l16.p l16.n l16.c, .slice l17.p l17.n l17.c, .slice l18.p l18.n l18.c, .slice l19.p l19.n l19.c] 56 (0, 0)) ∧
letH (Heap.del H8 q4) fun H9 =>
∀ q5 : Nat,
H9 q5 = none →
FnH Tryz.prog 28 #[.pointer m_1, .pointer (some ⟨q5, 0, none⟩)] (Heap.upd H9 q5 (.cells #[.int .i64 n24, .slice l16.p l16.n l16.c, .slice l17.p l17.n l17.c, .slice l18.p l18.n l18.c, .slice l19.p l19.n l19.c] 56 (0, 0))) fun r6 H10 =>
∃ b2 : Bool,
r6 = .bool b2 ∧
∃ n25 : Int,
∃ l20 l21 l22 l23 : Sl,
H10 q5 = some (.cells #[.int .i64 n25, .slice l20.p l20.n l20.c, .slice l21.p l21.n l21.c, .slice l22.p l22.n l22.c, .slice l23.p l23.n l23.c] 56 (0, 0)) ∧
letH (Heap.del H10 q5) fun H11 =>
br ((n20 : Int) != n22) (
K (.bool false) H11)
 (
br ((n21 : Int) != n23) (
K (.bool false) H11)
 (
br (!b2) (
K (.bool false) H11)
 (
FnH Tryz.prog 11 #[.int .i64 keep, .int .i64 40] H11 fun r7 H12 =>
∃ n26 : Int,
r7 = .int .i64 n26 ∧
br ((i_1 : Int) == n26) (
FnH Tryz.prog 18 #[.pointer m_1] H12 fun r8 H13 =>
∃ s7 : ByteArray,
r8 = .string s7 ∧
FnH Tryz.prog 21 #[.string s7] H13 fun r9 H14 =>
∃ p2 : Option Addr,
∃ n27 : Int,
r9 = .tuple #[.pointer p2, .int .i64 n27] ∧
FnH Tryz.prog 29 #[.pointer m_1] H14 fun r10 H15 =>
∃ p3 : Option Addr,
r10 = .pointer p3 ∧
br (Option.isNone p2) (
K (.bool false) H15)
 (
br ((n27 : Int) != 0) (
K (.bool false) H15)
 (
br (Option.isNone p3) (
K (.bool false) H15)
 (
FnH Tryz.prog 13 #[.int .i64 4, .int .i64 1, .int .i64 1, .int .i64 1] H15 fun r11 H16 =>
∃ n28 n29 n30 n31 n32 : Int,
∃ s8 s9 : ByteArray,
∃ l24 : Sl,
r11 = .agg #[.int .i64 n28, .int .i64 n29, .int .i64 n30, .int .i64 n31, .int .i64 n32, .string s8, .string s9, .slice l24.p l24.n l24.c] ∧
FnH Tryz.prog 12 #[.pointer p3, .agg #[.int .i64 n28, .int .i64 n29, .int .i64 n30, .int .i64 n31, .int .i64 n32, .string s8, .string s9, .slice l24.p l24.n l24.c]] H16 fun r12 H17 =>
∃ n33 n34 : Int,
r12 = .tuple #[.int .i64 n33, .int .i64 n34] ∧
∀ q6 : Nat,
H17 q6 = none →
FnH Tryz.prog 28 #[.pointer m_1, .pointer (some ⟨q6, 0, none⟩)] (Heap.upd H17 q6 (.cells #[.int .i64 n25, .slice l20.p l20.n l20.c, .slice l21.p l21.n l21.c, .slice l22.p l22.n l22.c, .slice l23.p l23.n l23.c] 56 (0, 0))) fun r13 H18 =>
∃ b3 : Bool,
r13 = .bool b3 ∧
∃ n35 : Int,
∃ l25 l26 l27 l28 : Sl,
H18 q6 = some (.cells #[.int .i64 n35, .slice l25.p l25.n l25.c, .slice l26.p l26.n l26.c, .slice l27.p l27.n l27.c, .slice l28.p l28.n l28.c] 56 (0, 0)) ∧
letH (Heap.del H18 q6) fun H19 =>
br (!b3) (
K (.bool false) H19)
 (
SelfEq ([.v (.slice script.p script.n script.c), .v (.slice fit.p fit.n fit.c), .v (.int .i64 keep), .loc 0 0], [], [56]) ∧
I1 p2 (IntKind.wrap .i64 (i_1 + 1)) n35 l25 l26 l27 l28 H19 ∧
M1 p2 (IntKind.wrap .i64 (i_1 + 1)) n35 l25 l26 l27 l28 H19 < M1 m_1 i_1 n1 l1 l2 l3 l4 H3)))))
 (
SelfEq ([.v (.slice script.p script.n script.c), .v (.slice fit.p fit.n fit.c), .v (.int .i64 keep), .loc 0 0], [], [56]) ∧
I1 m_1 (IntKind.wrap .i64 (i_1 + 1)) n25 l20 l21 l22 l23 H12 ∧
M1 m_1 (IntKind.wrap .i64 (i_1 + 1)) n25 l20 l21 l22 l23 H12 < M1 m_1 i_1 n1 l1 l2 l3 l4 H3)))))))
 (
K (.bool true) H3))
 (
K (.bool true) H3)))
theorem logboomlaw12_MetaPlays_fn (script fit : Sl) (keep : Int) {H : Heap} {K : Value → Heap → Prop} (h : logboomlaw12_MetaPlays_vc script fit keep H K) : FnH Tryz.prog 8 #[.slice script.p script.n script.c, .slice fit.p fit.n fit.c, .int .i64 keep] H K :=
  denFn_fn Tryz.mixed logboomlaw12_MetaPlays_ann Tryz.func8 (bodyOf_spec (by kernel_rfl)) (by kernel_rfl) h
end Go.Proofs.YtmofinghoacobaaGreatDoor
