/- Formulas of functions, printed by this session's vc.py; each is tied to the program by the kernel. -/
import Derived.Test.YtmofinghoacobaaGreatDoorProg
import Derived.KernelRfl
import Derived.Test.YtmofinghoacobaaGreatDoorHlFn
import Derived.Test.YtmofinghoacobaaGreatDoorVe
namespace Go.Proofs.YtmofinghoacobaaGreatDoor
open Go.HL
set_option maxRecDepth 100000
/-! function 7: logboom/logboomlaw12.MetaLoads -/
def logboomlaw12_MetaLoads_ann : Anns := { hid := [22], loops := [(0, { slots := [(11, .int .i64)], kept := [0, 1, 2, 3, 9, 10], locs := [(0, [.int .i64, .slice, .slice, .slice, .slice])], keptL := [] }), (2, { slots := [(13, .int .i64)], kept := [0, 2, 3, 9, 12], locs := [], keptL := [0] })], joins := [((0, 8), { slots := [(48, .bool)], kept := [0, 1, 2, 3, 9, 10, 11], locs := [], keptL := [0] })], mix := [(14, [17])] }
def logboomlaw12_MetaLoads_vc (s : ByteArray) (script at0 to : Sl) (H : Heap) (K : Value → Heap → Prop) : Prop :=
FnH Tryz.prog 9 #[] H fun r1 H1 =>
∃ b1 : Bool,
r1 = .bool b1 ∧
br (decide (((s.size : Nat) : Int) > 20000)) (
K (.bool b1) H1)
 (
∃ I1 : Int → Int → Sl → Sl → Sl → Sl → Heap → Prop,
∃ M1 : Int → Int → Sl → Sl → Sl → Sl → Heap → Nat,
I1 0 0 ⟨none, 0, 0⟩ ⟨none, 0, 0⟩ ⟨none, 0, 0⟩ ⟨none, 0, 0⟩ H1 ∧
∀ i_1 n1 : Int,
∀ l1 l2 l3 l4 : Sl,
∀ H2 : Heap,
I1 i_1 n1 l1 l2 l3 l4 H2 →
br (decide ((i_1 : Int) < (script.n : Nat))) (
br (decide ((i_1 : Int) < 40)) (
∃ J1 : Bool → Heap → Prop,
 (∃ q1 : Nat,
∃ o1 : Nat,
 (script.p : Option Addr) = some ⟨q1, o1, none⟩ ∧
0 ≤ (i_1 : Int) ∧
 (i_1 : Int) < (script.n : Nat) ∧
∃ l5 : Sl,
cellH H2 ⟨q1, o1 + Int.toNat i_1 * 8 + 7, none⟩ = some (.slice l5.p l5.n l5.c) ∧
br (decide (((l5.n : Nat) : Int) < 50)) (
∃ q2 o2 : Nat,
 (script.p : Option Addr) = some ⟨q2, o2, none⟩ ∧
0 ≤ (i_1 : Int) ∧
 (i_1 : Int) < (script.n : Nat) ∧
∃ s1 : ByteArray,
cellH H2 ⟨q2, o2 + Int.toNat i_1 * 8 + 5, none⟩ = some (.string s1) ∧
SelfEq ([.v (.string s), .v (.slice script.p script.n script.c), .v (.slice at0.p at0.n at0.c), .v (.slice to.p to.n to.c), .v (.bool b1), .loc 0 0, .v (.int .i64 i_1)], [some (56, [.int .i64 n1, .slice l1.p l1.n l1.c, .slice l2.p l2.n l2.c, .slice l3.p l3.n l3.c, .slice l4.p l4.n l4.c])], []) ∧
J1 (decide (((s1.size : Nat) : Int) < 100)) H2)
 (
SelfEq ([.v (.string s), .v (.slice script.p script.n script.c), .v (.slice at0.p at0.n at0.c), .v (.slice to.p to.n to.c), .v (.bool b1), .loc 0 0, .v (.int .i64 i_1)], [some (56, [.int .i64 n1, .slice l1.p l1.n l1.c, .slice l2.p l2.n l2.c, .slice l3.p l3.n l3.c, .slice l4.p l4.n l4.c])], []) ∧
J1 false H2)) ∧
∀ b_1 : Bool,
∀ H3 : Heap,
J1 b_1 H3 →
br (b_1) (
∃ q3 o3 : Nat,
 (script.p : Option Addr) = some ⟨q3, o3, none⟩ ∧
0 ≤ (i_1 : Int) ∧
 (i_1 : Int) < (script.n : Nat) ∧
∃ n2 : Int,
cellH H3 ⟨q3, o3 + Int.toNat i_1 * 8, none⟩ = some (.int .i64 n2) ∧
∃ n3 : Int,
cellH H3 ⟨q3, o3 + Int.toNat i_1 * 8 + 1, none⟩ = some (.int .i64 n3) ∧
∃ n4 : Int,
cellH H3 ⟨q3, o3 + Int.toNat i_1 * 8 + 2, none⟩ = some (.int .i64 n4) ∧
∃ n5 : Int,
cellH H3 ⟨q3, o3 + Int.toNat i_1 * 8 + 3, none⟩ = some (.int .i64 n5) ∧
∃ n6 : Int,
cellH H3 ⟨q3, o3 + Int.toNat i_1 * 8 + 4, none⟩ = some (.int .i64 n6) ∧
∃ s2 : ByteArray,
cellH H3 ⟨q3, o3 + Int.toNat i_1 * 8 + 5, none⟩ = some (.string s2) ∧
∃ s3 : ByteArray,
cellH H3 ⟨q3, o3 + Int.toNat i_1 * 8 + 6, none⟩ = some (.string s3) ∧
∃ l6 : Sl,
cellH H3 ⟨q3, o3 + Int.toNat i_1 * 8 + 7, none⟩ = some (.slice l6.p l6.n l6.c) ∧
∀ q4 : Nat,
H3 q4 = none →
FnH Tryz.prog 24 #[.pointer (some ⟨q4, 0, none⟩), .agg #[.int .i64 n2, .int .i64 n3, .int .i64 n4, .int .i64 n5, .int .i64 n6, .string s2, .string s3, .slice l6.p l6.n l6.c]] (Heap.upd H3 q4 (.cells #[.int .i64 n1, .slice l1.p l1.n l1.c, .slice l2.p l2.n l2.c, .slice l3.p l3.n l3.c, .slice l4.p l4.n l4.c] 56 (0, 0))) fun r2 H4 =>
∃ n7 n8 n9 n10 n11 : Int,
∃ s4 s5 : ByteArray,
∃ l7 : Sl,
r2 = .agg #[.int .i64 n7, .int .i64 n8, .int .i64 n9, .int .i64 n10, .int .i64 n11, .string s4, .string s5, .slice l7.p l7.n l7.c] ∧
∃ n12 : Int,
∃ l8 l9 l10 l11 : Sl,
H4 q4 = some (.cells #[.int .i64 n12, .slice l8.p l8.n l8.c, .slice l9.p l9.n l9.c, .slice l10.p l10.n l10.c, .slice l11.p l11.n l11.c] 56 (0, 0)) ∧
letH (Heap.del H4 q4) fun H5 =>
∀ q5 : Nat,
H5 q5 = none →
FnH Tryz.prog 23 #[.pointer (some ⟨q5, 0, none⟩), .agg #[.int .i64 n7, .int .i64 n8, .int .i64 n9, .int .i64 n10, .int .i64 n11, .string s4, .string s5, .slice l7.p l7.n l7.c]] (Heap.upd H5 q5 (.cells #[.int .i64 n12, .slice l8.p l8.n l8.c, .slice l9.p l9.n l9.c, .slice l10.p l10.n l10.c, .slice l11.p l11.n l11.c] 56 (0, 0))) fun r3 H6 =>
∃ n13 n14 : Int,
r3 = .tuple #[.int .i64 n13, .int .i64 n14] ∧
∃ n15 : Int,
∃ l12 l13 l14 l15 : Sl,
H6 q5 = some (.cells #[.int .i64 n15, .slice l12.p l12.n l12.c, .slice l13.p l13.n l13.c, .slice l14.p l14.n l14.c, .slice l15.p l15.n l15.c] 56 (0, 0)) ∧
letH (Heap.del H6 q5) fun H7 =>
SelfEq ([.v (.string s), .v (.slice script.p script.n script.c), .v (.slice at0.p at0.n at0.c), .v (.slice to.p to.n to.c), .v (.bool b1), .loc 0 0], [], [56]) ∧
I1 (IntKind.wrap .i64 (i_1 + 1)) n15 l12 l13 l14 l15 H7 ∧
M1 (IntKind.wrap .i64 (i_1 + 1)) n15 l12 l13 l14 l15 H7 < M1 i_1 n1 l1 l2 l3 l4 H2)
 (
SelfEq ([.v (.string s), .v (.slice script.p script.n script.c), .v (.slice at0.p at0.n at0.c), .v (.slice to.p to.n to.c), .v (.bool b1), .loc 0 0], [], [56]) ∧
I1 (IntKind.wrap .i64 (i_1 + 1)) n1 l1 l2 l3 l4 H3 ∧
M1 (IntKind.wrap .i64 (i_1 + 1)) n1 l1 l2 l3 l4 H3 < M1 i_1 n1 l1 l2 l3 l4 H2))
 (
∀ q6 : Nat,
H2 q6 = none →
FnH Tryz.prog 25 #[.pointer (some ⟨q6, 0, none⟩)] (Heap.upd H2 q6 (.cells #[.int .i64 n1, .slice l1.p l1.n l1.c, .slice l2.p l2.n l2.c, .slice l3.p l3.n l3.c, .slice l4.p l4.n l4.c] 56 (0, 0))) fun r4 H8 =>
∃ s6 : ByteArray,
r4 = .string s6 ∧
∃ n16 : Int,
∃ l16 l17 l18 l19 : Sl,
H8 q6 = some (.cells #[.int .i64 n16, .slice l16.p l16.n l16.c, .slice l17.p l17.n l17.c, .slice l18.p l18.n l18.c, .slice l19.p l19.n l19.c] 56 (0, 0)) ∧
letH (Heap.del H8 q6) fun H9 =>
runH Tryz.prog (convert 9 58 (.string s6)) H9 fun r5 H10 =>
∃ l20 : Sl,
r5 = .slice l20.p l20.n l20.c ∧
∃ I2 : Int → Heap → Prop,
∃ M2 : Int → Heap → Nat,
I2 0 H10 ∧
∀ i_2 : Int,
∀ H11 : Heap,
I2 i_2 H11 →
br (decide ((i_2 : Int) < (at0.n : Nat))) (
br (decide ((i_2 : Int) < (to.n : Nat))) (
br (decide ((i_2 : Int) < 3)) (
br (decide (((l20.n : Nat) : Int) > 4)) (
∃ q7 o4 : Nat,
 (at0.p : Option Addr) = some ⟨q7, o4, none⟩ ∧
0 ≤ (i_2 : Int) ∧
 (i_2 : Int) < (at0.n : Nat) ∧
∃ n17 : Int,
cellH H11 ⟨q7, o4 + Int.toNat i_2, none⟩ = some (.int .i64 n17) ∧
∃ q8 o5 : Nat,
 (to.p : Option Addr) = some ⟨q8, o5, none⟩ ∧
0 ≤ (i_2 : Int) ∧
 (i_2 : Int) < (to.n : Nat) ∧
∃ n18 : Int,
cellH H11 ⟨q8, o5 + Int.toNat i_2, none⟩ = some (.int .i64 n18) ∧
FnH Tryz.prog 11 #[.int .i64 n17, .int .i64 (IntKind.wrap .i64 ((l20.n : Nat) - 4))] H11 fun r6 H12 =>
∃ n19 : Int,
r6 = .int .i64 n19 ∧
Sub H11 H12 ∧
FnH Tryz.prog 11 #[.int .i64 n18, .int .i64 256] H12 fun r7 H13 =>
∃ n20 : Int,
r7 = .int .i64 n20 ∧
Sub H11 H13 ∧
∃ q9 o6 : Nat,
 (l20.p : Option Addr) = some ⟨q9, o6, none⟩ ∧
0 ≤ ((IntKind.wrap .i64 (4 + n19)) : Int) ∧
 ((IntKind.wrap .i64 (4 + n19)) : Int) < (l20.n : Nat) ∧
 (∃ u, cellH H13 ⟨q9, o6 + Int.toNat (IntKind.wrap .i64 (4 + n19)), none⟩ = some u) ∧
frozenH H13 ⟨q9, o6 + Int.toNat (IntKind.wrap .i64 (4 + n19)), none⟩ = false ∧
letH (Heap.set H13 ⟨q9, o6 + Int.toNat (IntKind.wrap .i64 (4 + n19)), none⟩ (.int .u8 (IntKind.wrap .u8 n20))) fun H14 =>
SelfEq ([.v (.string s), .v (.slice at0.p at0.n at0.c), .v (.slice to.p to.n to.c), .v (.bool b1), .v (.slice l20.p l20.n l20.c)], [some (56, [.int .i64 n16, .slice l16.p l16.n l16.c, .slice l17.p l17.n l17.c, .slice l18.p l18.n l18.c, .slice l19.p l19.n l19.c])], []) ∧
I2 (IntKind.wrap .i64 (i_2 + 1)) H14 ∧
M2 (IntKind.wrap .i64 (i_2 + 1)) H14 < M2 i_2 H11)
 (
FnH Tryz.prog 26 #[.string s] H11 fun r8 H15 =>
∃ b2 : Bool,
r8 = .bool b2 ∧
0 ≤ (4 : Int) ∧
 (4 : Int) ≤ (l20.n : Nat) ∧
runH Tryz.prog (convert 58 9 (.slice (slP l20.p l20.c 4 1) (Int.toNat ((l20.n : Nat) - 4)) (Int.toNat ((l20.c : Nat) - 4)))) H15 fun r9 H16 =>
∃ s7 : ByteArray,
r9 = .string s7 ∧
FnH Tryz.prog 27 #[.string s7] H16 fun r10 H17 =>
∃ s8 : ByteArray,
r10 = .string s8 ∧
FnH Tryz.prog 26 #[.string s8] H17 fun r11 H18 =>
∃ b3 : Bool,
r11 = .bool b3 ∧
br (b1) (
br (b2) (
K (.bool b3) H18)
 (
K (.bool false) H18))
 (
K (.bool false) H18)))
 (
FnH Tryz.prog 26 #[.string s] H11 fun r12 H19 =>
∃ b4 : Bool,
r12 = .bool b4 ∧
0 ≤ (4 : Int) ∧
 (4 : Int) ≤ (l20.n : Nat) ∧
runH Tryz.prog (convert 58 9 (.slice (slP l20.p l20.c 4 1) (Int.toNat ((l20.n : Nat) - 4)) (Int.toNat ((l20.c : Nat) - 4)))) H19 fun r13 H20 =>
∃ s9 : ByteArray,
r13 = .string s9 ∧
FnH Tryz.prog 27 #[.string s9] H20 fun r14 H21 =>
∃ s10 : ByteArray,
r14 = .string s10 ∧
FnH Tryz.prog 26 #[.string s10] H21 fun r15 H22 =>
∃ b5 : Bool,
r15 = .bool b5 ∧
br (b1) (
br (b4) (
K (.bool b5) H22)
 (
K (.bool false) H22))
 (
K (.bool false) H22)))
 (
FnH Tryz.prog 26 #[.string s] H11 fun r16 H23 =>
∃ b6 : Bool,
r16 = .bool b6 ∧
0 ≤ (4 : Int) ∧
 (4 : Int) ≤ (l20.n : Nat) ∧
runH Tryz.prog (convert 58 9 (.slice (slP l20.p l20.c 4 1) (Int.toNat ((l20.n : Nat) - 4)) (Int.toNat ((l20.c : Nat) - 4)))) H23 fun r17 H24 =>
∃ s11 : ByteArray,
r17 = .string s11 ∧
FnH Tryz.prog 27 #[.string s11] H24 fun r18 H25 =>
∃ s12 : ByteArray,
r18 = .string s12 ∧
FnH Tryz.prog 26 #[.string s12] H25 fun r19 H26 =>
∃ b7 : Bool,
r19 = .bool b7 ∧
br (b1) (
br (b6) (
K (.bool b7) H26)
 (
K (.bool false) H26))
 (
K (.bool false) H26)))
 (
FnH Tryz.prog 26 #[.string s] H11 fun r20 H27 =>
∃ b8 : Bool,
r20 = .bool b8 ∧
0 ≤ (4 : Int) ∧
 (4 : Int) ≤ (l20.n : Nat) ∧
runH Tryz.prog (convert 58 9 (.slice (slP l20.p l20.c 4 1) (Int.toNat ((l20.n : Nat) - 4)) (Int.toNat ((l20.c : Nat) - 4)))) H27 fun r21 H28 =>
∃ s13 : ByteArray,
r21 = .string s13 ∧
FnH Tryz.prog 27 #[.string s13] H28 fun r22 H29 =>
∃ s14 : ByteArray,
r22 = .string s14 ∧
FnH Tryz.prog 26 #[.string s14] H29 fun r23 H30 =>
∃ b9 : Bool,
r23 = .bool b9 ∧
br (b1) (
br (b8) (
K (.bool b9) H30)
 (
K (.bool false) H30))
 (
K (.bool false) H30))))
 (
∀ q10 : Nat,
H2 q10 = none →
FnH Tryz.prog 25 #[.pointer (some ⟨q10, 0, none⟩)] (Heap.upd H2 q10 (.cells #[.int .i64 n1, .slice l1.p l1.n l1.c, .slice l2.p l2.n l2.c, .slice l3.p l3.n l3.c, .slice l4.p l4.n l4.c] 56 (0, 0))) fun r24 H31 =>
∃ s15 : ByteArray,
r24 = .string s15 ∧
∃ n21 : Int,
∃ l21 l22 l23 l24 : Sl,
H31 q10 = some (.cells #[.int .i64 n21, .slice l21.p l21.n l21.c, .slice l22.p l22.n l22.c, .slice l23.p l23.n l23.c, .slice l24.p l24.n l24.c] 56 (0, 0)) ∧
letH (Heap.del H31 q10) fun H32 =>
runH Tryz.prog (convert 9 58 (.string s15)) H32 fun r25 H33 =>
∃ l25 : Sl,
r25 = .slice l25.p l25.n l25.c ∧
∃ I3 : Int → Heap → Prop,
∃ M3 : Int → Heap → Nat,
I3 0 H33 ∧
∀ i_3 : Int,
∀ H34 : Heap,
I3 i_3 H34 →
br (decide ((i_3 : Int) < (at0.n : Nat))) (
br (decide ((i_3 : Int) < (to.n : Nat))) (
br (decide ((i_3 : Int) < 3)) (
br (decide (((l25.n : Nat) : Int) > 4)) (
∃ q11 o7 : Nat,
 (at0.p : Option Addr) = some ⟨q11, o7, none⟩ ∧
0 ≤ (i_3 : Int) ∧
 (i_3 : Int) < (at0.n : Nat) ∧
∃ n22 : Int,
cellH H34 ⟨q11, o7 + Int.toNat i_3, none⟩ = some (.int .i64 n22) ∧
∃ q12 o8 : Nat,
 (to.p : Option Addr) = some ⟨q12, o8, none⟩ ∧
0 ≤ (i_3 : Int) ∧
 (i_3 : Int) < (to.n : Nat) ∧
∃ n23 : Int,
cellH H34 ⟨q12, o8 + Int.toNat i_3, none⟩ = some (.int .i64 n23) ∧
FnH Tryz.prog 11 #[.int .i64 n22, .int .i64 (IntKind.wrap .i64 ((l25.n : Nat) - 4))] H34 fun r26 H35 =>
∃ n24 : Int,
r26 = .int .i64 n24 ∧
Sub H34 H35 ∧
FnH Tryz.prog 11 #[.int .i64 n23, .int .i64 256] H35 fun r27 H36 =>
∃ n25 : Int,
r27 = .int .i64 n25 ∧
Sub H34 H36 ∧
∃ q13 o9 : Nat,
 (l25.p : Option Addr) = some ⟨q13, o9, none⟩ ∧
0 ≤ ((IntKind.wrap .i64 (4 + n24)) : Int) ∧
 ((IntKind.wrap .i64 (4 + n24)) : Int) < (l25.n : Nat) ∧
 (∃ u, cellH H36 ⟨q13, o9 + Int.toNat (IntKind.wrap .i64 (4 + n24)), none⟩ = some u) ∧
frozenH H36 ⟨q13, o9 + Int.toNat (IntKind.wrap .i64 (4 + n24)), none⟩ = false ∧
letH (Heap.set H36 ⟨q13, o9 + Int.toNat (IntKind.wrap .i64 (4 + n24)), none⟩ (.int .u8 (IntKind.wrap .u8 n25))) fun H37 =>
SelfEq ([.v (.string s), .v (.slice at0.p at0.n at0.c), .v (.slice to.p to.n to.c), .v (.bool b1), .v (.slice l25.p l25.n l25.c)], [some (56, [.int .i64 n21, .slice l21.p l21.n l21.c, .slice l22.p l22.n l22.c, .slice l23.p l23.n l23.c, .slice l24.p l24.n l24.c])], []) ∧
I3 (IntKind.wrap .i64 (i_3 + 1)) H37 ∧
M3 (IntKind.wrap .i64 (i_3 + 1)) H37 < M3 i_3 H34)
 (
FnH Tryz.prog 26 #[.string s] H34 fun r28 H38 =>
∃ b10 : Bool,
r28 = .bool b10 ∧
0 ≤ (4 : Int) ∧
 (4 : Int) ≤ (l25.n : Nat) ∧
runH Tryz.prog (convert 58 9 (.slice (slP l25.p l25.c 4 1) (Int.toNat ((l25.n : Nat) - 4)) (Int.toNat ((l25.c : Nat) - 4)))) H38 fun r29 H39 =>
∃ s16 : ByteArray,
r29 = .string s16 ∧
FnH Tryz.prog 27 #[.string s16] H39 fun r30 H40 =>
∃ s17 : ByteArray,
r30 = .string s17 ∧
FnH Tryz.prog 26 #[.string s17] H40 fun r31 H41 =>
∃ b11 : Bool,
r31 = .bool b11 ∧
br (b1) (
br (b10) (
K (.bool b11) H41)
 (
K (.bool false) H41))
 (
K (.bool false) H41)))
 (
FnH Tryz.prog 26 #[.string s] H34 fun r32 H42 =>
∃ b12 : Bool,
r32 = .bool b12 ∧
0 ≤ (4 : Int) ∧
 (4 : Int) ≤ (l25.n : Nat) ∧
runH Tryz.prog (convert 58 9 (.slice (slP l25.p l25.c 4 1) (Int.toNat ((l25.n : Nat) - 4)) (Int.toNat ((l25.c : Nat) - 4)))) H42 fun r33 H43 =>
∃ s18 : ByteArray,
r33 = .string s18 ∧
FnH Tryz.prog 27 #[.string s18] H43 fun r34 H44 =>
∃ s19 : ByteArray,
r34 = .string s19 ∧
FnH Tryz.prog 26 #[.string s19] H44 fun r35 H45 =>
∃ b13 : Bool,
r35 = .bool b13 ∧
br (b1) (
br (b12) (
K (.bool b13) H45)
 (
K (.bool false) H45))
 (
K (.bool false) H45)))
 (
FnH Tryz.prog 26 #[.string s] H34 fun r36 H46 =>
∃ b14 : Bool,
r36 = .bool b14 ∧
0 ≤ (4 : Int) ∧
 (4 : Int) ≤ (l25.n : Nat) ∧
runH Tryz.prog (convert 58 9 (.slice (slP l25.p l25.c 4 1) (Int.toNat ((l25.n : Nat) - 4)) (Int.toNat ((l25.c : Nat) - 4)))) H46 fun r37 H47 =>
∃ s20 : ByteArray,
r37 = .string s20 ∧
FnH Tryz.prog 27 #[.string s20] H47 fun r38 H48 =>
∃ s21 : ByteArray,
r38 = .string s21 ∧
FnH Tryz.prog 26 #[.string s21] H48 fun r39 H49 =>
∃ b15 : Bool,
r39 = .bool b15 ∧
br (b1) (
br (b14) (
K (.bool b15) H49)
 (
K (.bool false) H49))
 (
K (.bool false) H49)))
 (
FnH Tryz.prog 26 #[.string s] H34 fun r40 H50 =>
∃ b16 : Bool,
r40 = .bool b16 ∧
0 ≤ (4 : Int) ∧
 (4 : Int) ≤ (l25.n : Nat) ∧
runH Tryz.prog (convert 58 9 (.slice (slP l25.p l25.c 4 1) (Int.toNat ((l25.n : Nat) - 4)) (Int.toNat ((l25.c : Nat) - 4)))) H50 fun r41 H51 =>
∃ s22 : ByteArray,
r41 = .string s22 ∧
FnH Tryz.prog 27 #[.string s22] H51 fun r42 H52 =>
∃ s23 : ByteArray,
r42 = .string s23 ∧
FnH Tryz.prog 26 #[.string s23] H52 fun r43 H53 =>
∃ b17 : Bool,
r43 = .bool b17 ∧
br (b1) (
br (b16) (
K (.bool b17) H53)
 (
K (.bool false) H53))
 (
K (.bool false) H53))))
theorem logboomlaw12_MetaLoads_fn (s : ByteArray) (script at0 to : Sl) {H : Heap} {K : Value → Heap → Prop} (h : logboomlaw12_MetaLoads_vc s script at0 to H K) : FnH Tryz.prog 7 #[.string s, .slice script.p script.n script.c, .slice at0.p at0.n at0.c, .slice to.p to.n to.c] H K :=
  denFn_fn Tryz.mixed logboomlaw12_MetaLoads_ann Tryz.func7 (bodyOf_spec (by kernel_rfl)) (by kernel_rfl) h

end Go.Proofs.YtmofinghoacobaaGreatDoor
