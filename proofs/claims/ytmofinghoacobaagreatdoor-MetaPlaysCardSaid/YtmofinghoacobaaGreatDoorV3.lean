import Derived.Test.YtmofinghoacobaaGreatDoorProg
import Derived.KernelRfl
import Derived.Test.YtmofinghoacobaaGreatDoorHlFn
import Derived.Test.YtmofinghoacobaaGreatDoorV2
namespace Go.Proofs.YtmofinghoacobaaGreatDoor
open Go.HL
set_option maxRecDepth 100000
def reassign_Right_ann : Anns := { hid := [1], loops := [], joins := [], mix := [] }
def reassign_Right_vc (p_0 p_1 p_2 p_3 : Int) (p_4 p_5 p_6 p_7 : Sl) (p_8 : Int) (H : Heap) (K : Value → Heap → Prop) : Prop :=
FnH Tryz.prog 85 #[.int .i64 p_0, .int .i64 16] H fun r1 H1 =>
∃ b1 : Bool,
r1 = .bool b1 ∧
br (b1) (
FnH Tryz.prog 85 #[.int .i64 p_8, .int .i64 5] H1 fun r2 H2 =>
∃ b2 : Bool,
r2 = .bool b2 ∧
br (b2) (
FnH Tryz.prog 85 #[.int .i64 p_2, .int .i64 1000000000] H2 fun r3 H3 =>
∃ b3 : Bool,
r3 = .bool b3 ∧
br (b3) (
FnH Tryz.prog 85 #[.int .i64 p_3, .int .i64 1000000000] H3 fun r4 H4 =>
∃ b4 : Bool,
r4 = .bool b4 ∧
br (b4) (
FnH Tryz.prog 86 #[.slice p_5.p p_5.n p_5.c] H4 fun r5 H5 =>
∃ b5 : Bool,
r5 = .bool b5 ∧
br (b5) (
FnH Tryz.prog 86 #[.slice p_4.p p_4.n p_4.c] H5 fun r6 H6 =>
∃ b6 : Bool,
r6 = .bool b6 ∧
br (b6) (
FnH Tryz.prog 86 #[.slice p_6.p p_6.n p_6.c] H6 fun r7 H7 =>
∃ b7 : Bool,
r7 = .bool b7 ∧
br (b7) (
FnH Tryz.prog 86 #[.slice p_7.p p_7.n p_7.c] H7 fun r8 H8 =>
∃ b8 : Bool,
r8 = .bool b8 ∧
br (b8) (
br (decide (((p_4.n : Nat) : Int) > 0)) (
FnH Tryz.prog 87 #[.slice p_4.p p_4.n p_4.c, .slice p_5.p p_5.n p_5.c] H8 fun r9 H9 =>
∃ b9 : Bool,
r9 = .bool b9 ∧
br (b9) (
FnH Tryz.prog 87 #[.slice p_6.p p_6.n p_6.c, .slice p_5.p p_5.n p_5.c] H9 fun r10 H10 =>
∃ b10 : Bool,
r10 = .bool b10 ∧
br (b10) (
FnH Tryz.prog 87 #[.slice p_7.p p_7.n p_7.c, .slice p_5.p p_5.n p_5.c] H10 fun r11 H11 =>
∃ b11 : Bool,
r11 = .bool b11 ∧
br (b11) (
FnH Tryz.prog 88 #[.slice p_6.p p_6.n p_6.c, .slice p_7.p p_7.n p_7.c] H11 fun r12 H12 =>
∃ l1 : Sl,
r12 = .slice l1.p l1.n l1.c ∧
br (((l1.n : Nat) : Int) == 0) (
br (decide (((p_7.n : Nat) : Int) < (p_5.n : Nat))) (
br ((p_1 : Int) == 0) (
K (.bool true) H12)
 (
FnH Tryz.prog 76 #[.slice p_4.p p_4.n p_4.c, .int .i64 p_1] H12 fun r13 H13 =>
∃ b12 : Bool,
r13 = .bool b12 ∧
K (.bool b12) H13))
 (
K (.bool false) H12))
 (
K (.bool false) H12))
 (
K (.bool false) H11))
 (
K (.bool false) H10))
 (
K (.bool false) H9))
 (
K (.bool false) H8))
 (
K (.bool false) H8))
 (
K (.bool false) H7))
 (
K (.bool false) H6))
 (
K (.bool false) H5))
 (
K (.bool false) H4))
 (
K (.bool false) H3))
 (
K (.bool false) H2))
 (
K (.bool false) H1)
theorem reassign_Right_fn (p_0 p_1 p_2 p_3 : Int) (p_4 p_5 p_6 p_7 : Sl) (p_8 : Int) {H : Heap} {K : Value → Heap → Prop} (h : reassign_Right_vc p_0 p_1 p_2 p_3 p_4 p_5 p_6 p_7 p_8 H K) : FnH Tryz.prog 51 #[.agg #[.int .i64 p_0, .int .i64 p_1, .int .i64 p_2, .int .i64 p_3, .slice p_4.p p_4.n p_4.c, .slice p_5.p p_5.n p_5.c, .slice p_6.p p_6.n p_6.c, .slice p_7.p p_7.n p_7.c, .int .i64 p_8]] H K :=
  denFn_fn Tryz.mixed reassign_Right_ann Tryz.func51 (bodyOf_spec (by kernel_rfl)) (by kernel_rfl) h
def reassign_Fence_ann : Anns := { hid := [3, 6], loops := [], joins := [((0, 4), { slots := [(8, .bool)], kept := [1, 2, 3, 6], locs := [], keptL := [0, 1] })], mix := [] }
def reassign_Fence_vc (p_0 p_1 p_2 p_3 : Int) (p_4 p_5 p_6 p_7 : Sl) (p_8 id : Int) (up : Sl) (H : Heap) (K : Value → Heap → Prop) : Prop :=
FnH Tryz.prog 51 #[.agg #[.int .i64 p_0, .int .i64 p_1, .int .i64 p_2, .int .i64 p_3, .slice p_4.p p_4.n p_4.c, .slice p_5.p p_5.n p_5.c, .slice p_6.p p_6.n p_6.c, .slice p_7.p p_7.n p_7.c, .int .i64 p_8]] H fun r1 H1 =>
∃ b1 : Bool,
r1 = .bool b1 ∧
br (!b1) (
K (.tuple #[.agg #[.int .i64 0, .int .i64 0, .int .i64 0, .int .i64 0, .slice none 0 0, .slice none 0 0, .slice none 0 0, .slice none 0 0, .int .i64 0], .int .i64 1]) H1)
 (
FnH Tryz.prog 108 #[.int .i64 id] H1 fun r2 H2 =>
∃ b2 : Bool,
r2 = .bool b2 ∧
br (!b2) (
K (.tuple #[.agg #[.int .i64 0, .int .i64 0, .int .i64 0, .int .i64 0, .slice none 0 0, .slice none 0 0, .slice none 0 0, .slice none 0 0, .int .i64 0], .int .i64 1]) H2)
 (
FnH Tryz.prog 37 #[.agg #[.int .i64 p_0, .int .i64 p_1, .int .i64 p_2, .int .i64 p_3, .slice p_4.p p_4.n p_4.c, .slice p_5.p p_5.n p_5.c, .slice p_6.p p_6.n p_6.c, .slice p_7.p p_7.n p_7.c, .int .i64 p_8]] H2 fun r3 H3 =>
∃ n1 n2 n3 n4 : Int,
∃ l1 l2 l3 l4 : Sl,
∃ n5 : Int,
r3 = .agg #[.int .i64 n1, .int .i64 n2, .int .i64 n3, .int .i64 n4, .slice l1.p l1.n l1.c, .slice l2.p l2.n l2.c, .slice l3.p l3.n l3.c, .slice l4.p l4.n l4.c, .int .i64 n5] ∧
∃ J1 : Bool → Heap → Prop,
 (FnH Tryz.prog 76 #[.slice l1.p l1.n l1.c, .int .i64 id] H3 fun r4 H4 =>
∃ b3 : Bool,
r4 = .bool b3 ∧
br (b3) (
SelfEq ([.v (.int .i64 id), .v (.slice up.p up.n up.c), .loc 0 0, .loc 1 0], [some (41, [.int .i64 n1, .int .i64 n2, .int .i64 n3, .int .i64 n4, .slice l1.p l1.n l1.c, .slice l2.p l2.n l2.c, .slice l3.p l3.n l3.c, .slice l4.p l4.n l4.c, .int .i64 n5]), some (41, [.int .i64 0, .int .i64 0, .int .i64 0, .int .i64 0, .slice none 0 0, .slice none 0 0, .slice none 0 0, .slice none 0 0, .int .i64 0])], []) ∧
J1 (decide (((l1.n : Nat) : Int) > 1)) H4)
 (
SelfEq ([.v (.int .i64 id), .v (.slice up.p up.n up.c), .loc 0 0, .loc 1 0], [some (41, [.int .i64 n1, .int .i64 n2, .int .i64 n3, .int .i64 n4, .slice l1.p l1.n l1.c, .slice l2.p l2.n l2.c, .slice l3.p l3.n l3.c, .slice l4.p l4.n l4.c, .int .i64 n5]), some (41, [.int .i64 0, .int .i64 0, .int .i64 0, .int .i64 0, .slice none 0 0, .slice none 0 0, .slice none 0 0, .slice none 0 0, .int .i64 0])], []) ∧
J1 false H4)) ∧
∀ in_1 : Bool,
∀ H5 : Heap,
J1 in_1 H5 →
br (!in_1) (
br ((n2 : Int) != id) (
K (.tuple #[.agg #[.int .i64 n1, .int .i64 n2, .int .i64 n3, .int .i64 n4, .slice l1.p l1.n l1.c, .slice l2.p l2.n l2.c, .slice l3.p l3.n l3.c, .slice l4.p l4.n l4.c, .int .i64 n5], .int .i64 0]) H5)
 (
br (in_1) (
∀ q1 : Nat,
H5 q1 = none →
letH (Heap.upd H5 q1 (.cells #[.int .i64 id] 3 (0, 0))) fun H6 =>
FnH Tryz.prog 112 #[.slice l1.p l1.n l1.c, .slice (some ⟨q1, 0, none⟩) 1 1] H6 fun r5 H7 =>
∃ l5 : Sl,
r5 = .slice l5.p l5.n l5.c ∧
br ((n2 : Int) == id) (
FnH Tryz.prog 115 #[.slice l2.p l2.n l2.c, .slice l5.p l5.n l5.c, .slice up.p up.n up.c, .int .i64 id] H7 fun r6 H8 =>
∃ n6 : Int,
r6 = .int .i64 n6 ∧
∀ q2 : Nat,
H8 q2 = none →
FnH Tryz.prog 109 #[.pointer (some ⟨q2, 0, none⟩), .int .i64 n6] (Heap.upd H8 q2 (.cells #[.int .i64 n1, .int .i64 n2, .int .i64 n3, .int .i64 n4, .slice l5.p l5.n l5.c, .slice l2.p l2.n l2.c, .slice l3.p l3.n l3.c, .slice l4.p l4.n l4.c, .int .i64 n5] 41 (0, 0))) fun r7 H9 =>
r7 = .tuple #[] ∧
∃ n7 n8 n9 n10 : Int,
∃ l6 l7 l8 l9 : Sl,
∃ n11 : Int,
H9 q2 = some (.cells #[.int .i64 n7, .int .i64 n8, .int .i64 n9, .int .i64 n10, .slice l6.p l6.n l6.c, .slice l7.p l7.n l7.c, .slice l8.p l8.n l8.c, .slice l9.p l9.n l9.c, .int .i64 n11] 41 (0, 0)) ∧
letH (Heap.del H9 q2) fun H10 =>
FnH Tryz.prog 110 #[.agg #[.int .i64 n7, .int .i64 n8, .int .i64 n9, .int .i64 n10, .slice l6.p l6.n l6.c, .slice l7.p l7.n l7.c, .slice l8.p l8.n l8.c, .slice l9.p l9.n l9.c, .int .i64 n11]] H10 fun r8 H11 =>
∃ n12 n13 n14 n15 : Int,
∃ l10 l11 l12 l13 : Sl,
∃ n16 n17 : Int,
r8 = .tuple #[.agg #[.int .i64 n12, .int .i64 n13, .int .i64 n14, .int .i64 n15, .slice l10.p l10.n l10.c, .slice l11.p l11.n l11.c, .slice l12.p l12.n l12.c, .slice l13.p l13.n l13.c, .int .i64 n16], .int .i64 n17] ∧
K (.tuple #[.agg #[.int .i64 n12, .int .i64 n13, .int .i64 n14, .int .i64 n15, .slice l10.p l10.n l10.c, .slice l11.p l11.n l11.c, .slice l12.p l12.n l12.c, .slice l13.p l13.n l13.c, .int .i64 n16], .int .i64 n17]) H11)
 (
FnH Tryz.prog 110 #[.agg #[.int .i64 n1, .int .i64 n2, .int .i64 n3, .int .i64 n4, .slice l5.p l5.n l5.c, .slice l2.p l2.n l2.c, .slice l3.p l3.n l3.c, .slice l4.p l4.n l4.c, .int .i64 n5]] H7 fun r9 H12 =>
∃ n18 n19 n20 n21 : Int,
∃ l14 l15 l16 l17 : Sl,
∃ n22 n23 : Int,
r9 = .tuple #[.agg #[.int .i64 n18, .int .i64 n19, .int .i64 n20, .int .i64 n21, .slice l14.p l14.n l14.c, .slice l15.p l15.n l15.c, .slice l16.p l16.n l16.c, .slice l17.p l17.n l17.c, .int .i64 n22], .int .i64 n23] ∧
K (.tuple #[.agg #[.int .i64 n18, .int .i64 n19, .int .i64 n20, .int .i64 n21, .slice l14.p l14.n l14.c, .slice l15.p l15.n l15.c, .slice l16.p l16.n l16.c, .slice l17.p l17.n l17.c, .int .i64 n22], .int .i64 n23]) H12))
 (
br ((n2 : Int) == id) (
FnH Tryz.prog 115 #[.slice l2.p l2.n l2.c, .slice l1.p l1.n l1.c, .slice up.p up.n up.c, .int .i64 id] H5 fun r10 H13 =>
∃ n24 : Int,
r10 = .int .i64 n24 ∧
∀ q3 : Nat,
H13 q3 = none →
FnH Tryz.prog 109 #[.pointer (some ⟨q3, 0, none⟩), .int .i64 n24] (Heap.upd H13 q3 (.cells #[.int .i64 n1, .int .i64 n2, .int .i64 n3, .int .i64 n4, .slice l1.p l1.n l1.c, .slice l2.p l2.n l2.c, .slice l3.p l3.n l3.c, .slice l4.p l4.n l4.c, .int .i64 n5] 41 (0, 0))) fun r11 H14 =>
r11 = .tuple #[] ∧
∃ n25 n26 n27 n28 : Int,
∃ l18 l19 l20 l21 : Sl,
∃ n29 : Int,
H14 q3 = some (.cells #[.int .i64 n25, .int .i64 n26, .int .i64 n27, .int .i64 n28, .slice l18.p l18.n l18.c, .slice l19.p l19.n l19.c, .slice l20.p l20.n l20.c, .slice l21.p l21.n l21.c, .int .i64 n29] 41 (0, 0)) ∧
letH (Heap.del H14 q3) fun H15 =>
FnH Tryz.prog 110 #[.agg #[.int .i64 n25, .int .i64 n26, .int .i64 n27, .int .i64 n28, .slice l18.p l18.n l18.c, .slice l19.p l19.n l19.c, .slice l20.p l20.n l20.c, .slice l21.p l21.n l21.c, .int .i64 n29]] H15 fun r12 H16 =>
∃ n30 n31 n32 n33 : Int,
∃ l22 l23 l24 l25 : Sl,
∃ n34 n35 : Int,
r12 = .tuple #[.agg #[.int .i64 n30, .int .i64 n31, .int .i64 n32, .int .i64 n33, .slice l22.p l22.n l22.c, .slice l23.p l23.n l23.c, .slice l24.p l24.n l24.c, .slice l25.p l25.n l25.c, .int .i64 n34], .int .i64 n35] ∧
K (.tuple #[.agg #[.int .i64 n30, .int .i64 n31, .int .i64 n32, .int .i64 n33, .slice l22.p l22.n l22.c, .slice l23.p l23.n l23.c, .slice l24.p l24.n l24.c, .slice l25.p l25.n l25.c, .int .i64 n34], .int .i64 n35]) H16)
 (
FnH Tryz.prog 110 #[.agg #[.int .i64 n1, .int .i64 n2, .int .i64 n3, .int .i64 n4, .slice l1.p l1.n l1.c, .slice l2.p l2.n l2.c, .slice l3.p l3.n l3.c, .slice l4.p l4.n l4.c, .int .i64 n5]] H5 fun r13 H17 =>
∃ n36 n37 n38 n39 : Int,
∃ l26 l27 l28 l29 : Sl,
∃ n40 n41 : Int,
r13 = .tuple #[.agg #[.int .i64 n36, .int .i64 n37, .int .i64 n38, .int .i64 n39, .slice l26.p l26.n l26.c, .slice l27.p l27.n l27.c, .slice l28.p l28.n l28.c, .slice l29.p l29.n l29.c, .int .i64 n40], .int .i64 n41] ∧
K (.tuple #[.agg #[.int .i64 n36, .int .i64 n37, .int .i64 n38, .int .i64 n39, .slice l26.p l26.n l26.c, .slice l27.p l27.n l27.c, .slice l28.p l28.n l28.c, .slice l29.p l29.n l29.c, .int .i64 n40], .int .i64 n41]) H17))))
 (
br (in_1) (
∀ q4 : Nat,
H5 q4 = none →
letH (Heap.upd H5 q4 (.cells #[.int .i64 id] 3 (0, 0))) fun H18 =>
FnH Tryz.prog 112 #[.slice l1.p l1.n l1.c, .slice (some ⟨q4, 0, none⟩) 1 1] H18 fun r14 H19 =>
∃ l30 : Sl,
r14 = .slice l30.p l30.n l30.c ∧
br ((n2 : Int) == id) (
FnH Tryz.prog 115 #[.slice l2.p l2.n l2.c, .slice l30.p l30.n l30.c, .slice up.p up.n up.c, .int .i64 id] H19 fun r15 H20 =>
∃ n42 : Int,
r15 = .int .i64 n42 ∧
∀ q5 : Nat,
H20 q5 = none →
FnH Tryz.prog 109 #[.pointer (some ⟨q5, 0, none⟩), .int .i64 n42] (Heap.upd H20 q5 (.cells #[.int .i64 n1, .int .i64 n2, .int .i64 n3, .int .i64 n4, .slice l30.p l30.n l30.c, .slice l2.p l2.n l2.c, .slice l3.p l3.n l3.c, .slice l4.p l4.n l4.c, .int .i64 n5] 41 (0, 0))) fun r16 H21 =>
r16 = .tuple #[] ∧
∃ n43 n44 n45 n46 : Int,
∃ l31 l32 l33 l34 : Sl,
∃ n47 : Int,
H21 q5 = some (.cells #[.int .i64 n43, .int .i64 n44, .int .i64 n45, .int .i64 n46, .slice l31.p l31.n l31.c, .slice l32.p l32.n l32.c, .slice l33.p l33.n l33.c, .slice l34.p l34.n l34.c, .int .i64 n47] 41 (0, 0)) ∧
letH (Heap.del H21 q5) fun H22 =>
FnH Tryz.prog 110 #[.agg #[.int .i64 n43, .int .i64 n44, .int .i64 n45, .int .i64 n46, .slice l31.p l31.n l31.c, .slice l32.p l32.n l32.c, .slice l33.p l33.n l33.c, .slice l34.p l34.n l34.c, .int .i64 n47]] H22 fun r17 H23 =>
∃ n48 n49 n50 n51 : Int,
∃ l35 l36 l37 l38 : Sl,
∃ n52 n53 : Int,
r17 = .tuple #[.agg #[.int .i64 n48, .int .i64 n49, .int .i64 n50, .int .i64 n51, .slice l35.p l35.n l35.c, .slice l36.p l36.n l36.c, .slice l37.p l37.n l37.c, .slice l38.p l38.n l38.c, .int .i64 n52], .int .i64 n53] ∧
K (.tuple #[.agg #[.int .i64 n48, .int .i64 n49, .int .i64 n50, .int .i64 n51, .slice l35.p l35.n l35.c, .slice l36.p l36.n l36.c, .slice l37.p l37.n l37.c, .slice l38.p l38.n l38.c, .int .i64 n52], .int .i64 n53]) H23)
 (
FnH Tryz.prog 110 #[.agg #[.int .i64 n1, .int .i64 n2, .int .i64 n3, .int .i64 n4, .slice l30.p l30.n l30.c, .slice l2.p l2.n l2.c, .slice l3.p l3.n l3.c, .slice l4.p l4.n l4.c, .int .i64 n5]] H19 fun r18 H24 =>
∃ n54 n55 n56 n57 : Int,
∃ l39 l40 l41 l42 : Sl,
∃ n58 n59 : Int,
r18 = .tuple #[.agg #[.int .i64 n54, .int .i64 n55, .int .i64 n56, .int .i64 n57, .slice l39.p l39.n l39.c, .slice l40.p l40.n l40.c, .slice l41.p l41.n l41.c, .slice l42.p l42.n l42.c, .int .i64 n58], .int .i64 n59] ∧
K (.tuple #[.agg #[.int .i64 n54, .int .i64 n55, .int .i64 n56, .int .i64 n57, .slice l39.p l39.n l39.c, .slice l40.p l40.n l40.c, .slice l41.p l41.n l41.c, .slice l42.p l42.n l42.c, .int .i64 n58], .int .i64 n59]) H24))
 (
br ((n2 : Int) == id) (
FnH Tryz.prog 115 #[.slice l2.p l2.n l2.c, .slice l1.p l1.n l1.c, .slice up.p up.n up.c, .int .i64 id] H5 fun r19 H25 =>
∃ n60 : Int,
r19 = .int .i64 n60 ∧
∀ q6 : Nat,
H25 q6 = none →
FnH Tryz.prog 109 #[.pointer (some ⟨q6, 0, none⟩), .int .i64 n60] (Heap.upd H25 q6 (.cells #[.int .i64 n1, .int .i64 n2, .int .i64 n3, .int .i64 n4, .slice l1.p l1.n l1.c, .slice l2.p l2.n l2.c, .slice l3.p l3.n l3.c, .slice l4.p l4.n l4.c, .int .i64 n5] 41 (0, 0))) fun r20 H26 =>
r20 = .tuple #[] ∧
∃ n61 n62 n63 n64 : Int,
∃ l43 l44 l45 l46 : Sl,
∃ n65 : Int,
H26 q6 = some (.cells #[.int .i64 n61, .int .i64 n62, .int .i64 n63, .int .i64 n64, .slice l43.p l43.n l43.c, .slice l44.p l44.n l44.c, .slice l45.p l45.n l45.c, .slice l46.p l46.n l46.c, .int .i64 n65] 41 (0, 0)) ∧
letH (Heap.del H26 q6) fun H27 =>
FnH Tryz.prog 110 #[.agg #[.int .i64 n61, .int .i64 n62, .int .i64 n63, .int .i64 n64, .slice l43.p l43.n l43.c, .slice l44.p l44.n l44.c, .slice l45.p l45.n l45.c, .slice l46.p l46.n l46.c, .int .i64 n65]] H27 fun r21 H28 =>
∃ n66 n67 n68 n69 : Int,
∃ l47 l48 l49 l50 : Sl,
∃ n70 n71 : Int,
r21 = .tuple #[.agg #[.int .i64 n66, .int .i64 n67, .int .i64 n68, .int .i64 n69, .slice l47.p l47.n l47.c, .slice l48.p l48.n l48.c, .slice l49.p l49.n l49.c, .slice l50.p l50.n l50.c, .int .i64 n70], .int .i64 n71] ∧
K (.tuple #[.agg #[.int .i64 n66, .int .i64 n67, .int .i64 n68, .int .i64 n69, .slice l47.p l47.n l47.c, .slice l48.p l48.n l48.c, .slice l49.p l49.n l49.c, .slice l50.p l50.n l50.c, .int .i64 n70], .int .i64 n71]) H28)
 (
FnH Tryz.prog 110 #[.agg #[.int .i64 n1, .int .i64 n2, .int .i64 n3, .int .i64 n4, .slice l1.p l1.n l1.c, .slice l2.p l2.n l2.c, .slice l3.p l3.n l3.c, .slice l4.p l4.n l4.c, .int .i64 n5]] H5 fun r22 H29 =>
∃ n72 n73 n74 n75 : Int,
∃ l51 l52 l53 l54 : Sl,
∃ n76 n77 : Int,
r22 = .tuple #[.agg #[.int .i64 n72, .int .i64 n73, .int .i64 n74, .int .i64 n75, .slice l51.p l51.n l51.c, .slice l52.p l52.n l52.c, .slice l53.p l53.n l53.c, .slice l54.p l54.n l54.c, .int .i64 n76], .int .i64 n77] ∧
K (.tuple #[.agg #[.int .i64 n72, .int .i64 n73, .int .i64 n74, .int .i64 n75, .slice l51.p l51.n l51.c, .slice l52.p l52.n l52.c, .slice l53.p l53.n l53.c, .slice l54.p l54.n l54.c, .int .i64 n76], .int .i64 n77]) H29)))))
theorem reassign_Fence_fn (p_0 p_1 p_2 p_3 : Int) (p_4 p_5 p_6 p_7 : Sl) (p_8 id : Int) (up : Sl) {H : Heap} {K : Value → Heap → Prop} (h : reassign_Fence_vc p_0 p_1 p_2 p_3 p_4 p_5 p_6 p_7 p_8 id up H K) : FnH Tryz.prog 107 #[.agg #[.int .i64 p_0, .int .i64 p_1, .int .i64 p_2, .int .i64 p_3, .slice p_4.p p_4.n p_4.c, .slice p_5.p p_5.n p_5.c, .slice p_6.p p_6.n p_6.c, .slice p_7.p p_7.n p_7.c, .int .i64 p_8], .int .i64 id, .slice up.p up.n up.c] H K :=
  denFn_fn Tryz.mixed reassign_Fence_ann Tryz.func107 (bodyOf_spec (by kernel_rfl)) (by kernel_rfl) h
def reassign_Back_ann : Anns := { hid := [2, 4], loops := [], joins := [], mix := [] }
def reassign_Back_vc (p_0 p_1 p_2 p_3 : Int) (p_4 p_5 p_6 p_7 : Sl) (p_8 id : Int) (H : Heap) (K : Value → Heap → Prop) : Prop :=
FnH Tryz.prog 51 #[.agg #[.int .i64 p_0, .int .i64 p_1, .int .i64 p_2, .int .i64 p_3, .slice p_4.p p_4.n p_4.c, .slice p_5.p p_5.n p_5.c, .slice p_6.p p_6.n p_6.c, .slice p_7.p p_7.n p_7.c, .int .i64 p_8]] H fun r1 H1 =>
∃ b1 : Bool,
r1 = .bool b1 ∧
br (!b1) (
K (.tuple #[.agg #[.int .i64 0, .int .i64 0, .int .i64 0, .int .i64 0, .slice none 0 0, .slice none 0 0, .slice none 0 0, .slice none 0 0, .int .i64 0], .int .i64 1]) H1)
 (
FnH Tryz.prog 108 #[.int .i64 id] H1 fun r2 H2 =>
∃ b2 : Bool,
r2 = .bool b2 ∧
br (!b2) (
K (.tuple #[.agg #[.int .i64 0, .int .i64 0, .int .i64 0, .int .i64 0, .slice none 0 0, .slice none 0 0, .slice none 0 0, .slice none 0 0, .int .i64 0], .int .i64 1]) H2)
 (
FnH Tryz.prog 37 #[.agg #[.int .i64 p_0, .int .i64 p_1, .int .i64 p_2, .int .i64 p_3, .slice p_4.p p_4.n p_4.c, .slice p_5.p p_5.n p_5.c, .slice p_6.p p_6.n p_6.c, .slice p_7.p p_7.n p_7.c, .int .i64 p_8]] H2 fun r3 H3 =>
∃ n1 n2 n3 n4 : Int,
∃ l1 l2 l3 l4 : Sl,
∃ n5 : Int,
r3 = .agg #[.int .i64 n1, .int .i64 n2, .int .i64 n3, .int .i64 n4, .slice l1.p l1.n l1.c, .slice l2.p l2.n l2.c, .slice l3.p l3.n l3.c, .slice l4.p l4.n l4.c, .int .i64 n5] ∧
br ((n2 : Int) != 0) (
K (.tuple #[.agg #[.int .i64 n1, .int .i64 n2, .int .i64 n3, .int .i64 n4, .slice l1.p l1.n l1.c, .slice l2.p l2.n l2.c, .slice l3.p l3.n l3.c, .slice l4.p l4.n l4.c, .int .i64 n5], .int .i64 0]) H3)
 (
FnH Tryz.prog 76 #[.slice l1.p l1.n l1.c, .int .i64 id] H3 fun r4 H4 =>
∃ b3 : Bool,
r4 = .bool b3 ∧
br (!b3) (
K (.tuple #[.agg #[.int .i64 n1, .int .i64 n2, .int .i64 n3, .int .i64 n4, .slice l1.p l1.n l1.c, .slice l2.p l2.n l2.c, .slice l3.p l3.n l3.c, .slice l4.p l4.n l4.c, .int .i64 n5], .int .i64 0]) H4)
 (
∀ q1 : Nat,
H4 q1 = none →
FnH Tryz.prog 109 #[.pointer (some ⟨q1, 0, none⟩), .int .i64 id] (Heap.upd H4 q1 (.cells #[.int .i64 n1, .int .i64 n2, .int .i64 n3, .int .i64 n4, .slice l1.p l1.n l1.c, .slice l2.p l2.n l2.c, .slice l3.p l3.n l3.c, .slice l4.p l4.n l4.c, .int .i64 n5] 41 (0, 0))) fun r5 H5 =>
r5 = .tuple #[] ∧
∃ n6 n7 n8 n9 : Int,
∃ l5 l6 l7 l8 : Sl,
∃ n10 : Int,
H5 q1 = some (.cells #[.int .i64 n6, .int .i64 n7, .int .i64 n8, .int .i64 n9, .slice l5.p l5.n l5.c, .slice l6.p l6.n l6.c, .slice l7.p l7.n l7.c, .slice l8.p l8.n l8.c, .int .i64 n10] 41 (0, 0)) ∧
letH (Heap.del H5 q1) fun H6 =>
FnH Tryz.prog 110 #[.agg #[.int .i64 n6, .int .i64 n7, .int .i64 n8, .int .i64 n9, .slice l5.p l5.n l5.c, .slice l6.p l6.n l6.c, .slice l7.p l7.n l7.c, .slice l8.p l8.n l8.c, .int .i64 n10]] H6 fun r6 H7 =>
∃ n11 n12 n13 n14 : Int,
∃ l9 l10 l11 l12 : Sl,
∃ n15 n16 : Int,
r6 = .tuple #[.agg #[.int .i64 n11, .int .i64 n12, .int .i64 n13, .int .i64 n14, .slice l9.p l9.n l9.c, .slice l10.p l10.n l10.c, .slice l11.p l11.n l11.c, .slice l12.p l12.n l12.c, .int .i64 n15], .int .i64 n16] ∧
K (.tuple #[.agg #[.int .i64 n11, .int .i64 n12, .int .i64 n13, .int .i64 n14, .slice l9.p l9.n l9.c, .slice l10.p l10.n l10.c, .slice l11.p l11.n l11.c, .slice l12.p l12.n l12.c, .int .i64 n15], .int .i64 n16]) H7))))
theorem reassign_Back_fn (p_0 p_1 p_2 p_3 : Int) (p_4 p_5 p_6 p_7 : Sl) (p_8 id : Int) {H : Heap} {K : Value → Heap → Prop} (h : reassign_Back_vc p_0 p_1 p_2 p_3 p_4 p_5 p_6 p_7 p_8 id H K) : FnH Tryz.prog 70 #[.agg #[.int .i64 p_0, .int .i64 p_1, .int .i64 p_2, .int .i64 p_3, .slice p_4.p p_4.n p_4.c, .slice p_5.p p_5.n p_5.c, .slice p_6.p p_6.n p_6.c, .slice p_7.p p_7.n p_7.c, .int .i64 p_8], .int .i64 id] H K :=
  denFn_fn Tryz.mixed reassign_Back_ann Tryz.func70 (bodyOf_spec (by kernel_rfl)) (by kernel_rfl) h
def reassign_Alter_ann : Anns := { hid := [6, 12], loops := [], joins := [((0, 3), { slots := [(19, .bool)], kept := [1, 2, 3, 4, 5, 6, 12], locs := [], keptL := [0, 1] }), ((0, 5), { slots := [(37, .bool)], kept := [1, 4, 5, 6, 12], locs := [], keptL := [0, 1] }), ((0, 7), { slots := [(49, .bool)], kept := [1, 4, 5, 6, 12], locs := [], keptL := [0, 1] })], mix := [] }
def reassign_Alter_vc (p_0 p_1 p_2 p_3 : Int) (p_4 p_5 p_6 p_7 : Sl) (p_8 leader epoch version : Int) (isr up : Sl) (H : Heap) (K : Value → Heap → Prop) : Prop :=
FnH Tryz.prog 51 #[.agg #[.int .i64 p_0, .int .i64 p_1, .int .i64 p_2, .int .i64 p_3, .slice p_4.p p_4.n p_4.c, .slice p_5.p p_5.n p_5.c, .slice p_6.p p_6.n p_6.c, .slice p_7.p p_7.n p_7.c, .int .i64 p_8]] H fun r1 H1 =>
∃ b1 : Bool,
r1 = .bool b1 ∧
br (!b1) (
K (.tuple #[.agg #[.int .i64 0, .int .i64 0, .int .i64 0, .int .i64 0, .slice none 0 0, .slice none 0 0, .slice none 0 0, .slice none 0 0, .int .i64 0], .int .i64 1]) H1)
 (
∃ J1 : Bool → Heap → Prop,
 (br (decide ((epoch : Int) < p_2)) (
SelfEq ([.v (.int .i64 leader), .v (.int .i64 epoch), .v (.int .i64 version), .v (.slice isr.p isr.n isr.c), .v (.slice up.p up.n up.c), .loc 0 0, .loc 1 0], [some (41, [.int .i64 p_0, .int .i64 p_1, .int .i64 p_2, .int .i64 p_3, .slice p_4.p p_4.n p_4.c, .slice p_5.p p_5.n p_5.c, .slice p_6.p p_6.n p_6.c, .slice p_7.p p_7.n p_7.c, .int .i64 p_8]), some (41, [.int .i64 0, .int .i64 0, .int .i64 0, .int .i64 0, .slice none 0 0, .slice none 0 0, .slice none 0 0, .slice none 0 0, .int .i64 0])], []) ∧
J1 true H1)
 (
br ((epoch : Int) == p_2) (
SelfEq ([.v (.int .i64 leader), .v (.int .i64 epoch), .v (.int .i64 version), .v (.slice isr.p isr.n isr.c), .v (.slice up.p up.n up.c), .loc 0 0, .loc 1 0], [some (41, [.int .i64 p_0, .int .i64 p_1, .int .i64 p_2, .int .i64 p_3, .slice p_4.p p_4.n p_4.c, .slice p_5.p p_5.n p_5.c, .slice p_6.p p_6.n p_6.c, .slice p_7.p p_7.n p_7.c, .int .i64 p_8]), some (41, [.int .i64 0, .int .i64 0, .int .i64 0, .int .i64 0, .slice none 0 0, .slice none 0 0, .slice none 0 0, .slice none 0 0, .int .i64 0])], []) ∧
J1 (decide ((version : Int) < p_3)) H1)
 (
SelfEq ([.v (.int .i64 leader), .v (.int .i64 epoch), .v (.int .i64 version), .v (.slice isr.p isr.n isr.c), .v (.slice up.p up.n up.c), .loc 0 0, .loc 1 0], [some (41, [.int .i64 p_0, .int .i64 p_1, .int .i64 p_2, .int .i64 p_3, .slice p_4.p p_4.n p_4.c, .slice p_5.p p_5.n p_5.c, .slice p_6.p p_6.n p_6.c, .slice p_7.p p_7.n p_7.c, .int .i64 p_8]), some (41, [.int .i64 0, .int .i64 0, .int .i64 0, .int .i64 0, .slice none 0 0, .slice none 0 0, .slice none 0 0, .slice none 0 0, .int .i64 0])], []) ∧
J1 false H1))) ∧
∀ b_1 : Bool,
∀ H2 : Heap,
J1 b_1 H2 →
br (b_1) (
K (.tuple #[.agg #[.int .i64 0, .int .i64 0, .int .i64 0, .int .i64 0, .slice none 0 0, .slice none 0 0, .slice none 0 0, .slice none 0 0, .int .i64 0], .int .i64 13]) H2)
 (
∃ J2 : Bool → Heap → Prop,
 (br (decide ((epoch : Int) > p_2)) (
SelfEq ([.v (.int .i64 leader), .v (.slice isr.p isr.n isr.c), .v (.slice up.p up.n up.c), .loc 0 0, .loc 1 0], [some (41, [.int .i64 p_0, .int .i64 p_1, .int .i64 p_2, .int .i64 p_3, .slice p_4.p p_4.n p_4.c, .slice p_5.p p_5.n p_5.c, .slice p_6.p p_6.n p_6.c, .slice p_7.p p_7.n p_7.c, .int .i64 p_8]), some (41, [.int .i64 0, .int .i64 0, .int .i64 0, .int .i64 0, .slice none 0 0, .slice none 0 0, .slice none 0 0, .slice none 0 0, .int .i64 0])], []) ∧
J2 true H2)
 (
SelfEq ([.v (.int .i64 leader), .v (.slice isr.p isr.n isr.c), .v (.slice up.p up.n up.c), .loc 0 0, .loc 1 0], [some (41, [.int .i64 p_0, .int .i64 p_1, .int .i64 p_2, .int .i64 p_3, .slice p_4.p p_4.n p_4.c, .slice p_5.p p_5.n p_5.c, .slice p_6.p p_6.n p_6.c, .slice p_7.p p_7.n p_7.c, .int .i64 p_8]), some (41, [.int .i64 0, .int .i64 0, .int .i64 0, .int .i64 0, .slice none 0 0, .slice none 0 0, .slice none 0 0, .slice none 0 0, .int .i64 0])], []) ∧
J2 (decide ((version : Int) > p_3)) H2)) ∧
∀ b_2 : Bool,
∀ H3 : Heap,
J2 b_2 H3 →
br (b_2) (
K (.tuple #[.agg #[.int .i64 0, .int .i64 0, .int .i64 0, .int .i64 0, .slice none 0 0, .slice none 0 0, .slice none 0 0, .slice none 0 0, .int .i64 0], .int .i64 14]) H3)
 (
∃ J3 : Bool → Heap → Prop,
 (br ((leader : Int) == 0) (
SelfEq ([.v (.int .i64 leader), .v (.slice isr.p isr.n isr.c), .v (.slice up.p up.n up.c), .loc 0 0, .loc 1 0], [some (41, [.int .i64 p_0, .int .i64 p_1, .int .i64 p_2, .int .i64 p_3, .slice p_4.p p_4.n p_4.c, .slice p_5.p p_5.n p_5.c, .slice p_6.p p_6.n p_6.c, .slice p_7.p p_7.n p_7.c, .int .i64 p_8]), some (41, [.int .i64 0, .int .i64 0, .int .i64 0, .int .i64 0, .slice none 0 0, .slice none 0 0, .slice none 0 0, .slice none 0 0, .int .i64 0])], []) ∧
J3 true H3)
 (
SelfEq ([.v (.int .i64 leader), .v (.slice isr.p isr.n isr.c), .v (.slice up.p up.n up.c), .loc 0 0, .loc 1 0], [some (41, [.int .i64 p_0, .int .i64 p_1, .int .i64 p_2, .int .i64 p_3, .slice p_4.p p_4.n p_4.c, .slice p_5.p p_5.n p_5.c, .slice p_6.p p_6.n p_6.c, .slice p_7.p p_7.n p_7.c, .int .i64 p_8]), some (41, [.int .i64 0, .int .i64 0, .int .i64 0, .int .i64 0, .slice none 0 0, .slice none 0 0, .slice none 0 0, .slice none 0 0, .int .i64 0])], []) ∧
J3 ((leader : Int) != p_1) H3)) ∧
∀ b_3 : Bool,
∀ H4 : Heap,
J3 b_3 H4 →
br (b_3) (
K (.tuple #[.agg #[.int .i64 0, .int .i64 0, .int .i64 0, .int .i64 0, .slice none 0 0, .slice none 0 0, .slice none 0 0, .slice none 0 0, .int .i64 0], .int .i64 19]) H4)
 (
FnH Tryz.prog 86 #[.slice isr.p isr.n isr.c] H4 fun r2 H5 =>
∃ b2 : Bool,
r2 = .bool b2 ∧
br (!b2) (
K (.tuple #[.agg #[.int .i64 0, .int .i64 0, .int .i64 0, .int .i64 0, .slice none 0 0, .slice none 0 0, .slice none 0 0, .slice none 0 0, .int .i64 0], .int .i64 1]) H5)
 (
FnH Tryz.prog 76 #[.slice isr.p isr.n isr.c, .int .i64 leader] H5 fun r3 H6 =>
∃ b3 : Bool,
r3 = .bool b3 ∧
br (!b3) (
K (.tuple #[.agg #[.int .i64 0, .int .i64 0, .int .i64 0, .int .i64 0, .slice none 0 0, .slice none 0 0, .slice none 0 0, .slice none 0 0, .int .i64 0], .int .i64 1]) H6)
 (
FnH Tryz.prog 87 #[.slice isr.p isr.n isr.c, .slice p_5.p p_5.n p_5.c] H6 fun r4 H7 =>
∃ b4 : Bool,
r4 = .bool b4 ∧
br (!b4) (
K (.tuple #[.agg #[.int .i64 0, .int .i64 0, .int .i64 0, .int .i64 0, .slice none 0 0, .slice none 0 0, .slice none 0 0, .slice none 0 0, .int .i64 0], .int .i64 1]) H7)
 (
FnH Tryz.prog 112 #[.slice isr.p isr.n isr.c, .slice p_4.p p_4.n p_4.c] H7 fun r5 H8 =>
∃ l1 : Sl,
r5 = .slice l1.p l1.n l1.c ∧
FnH Tryz.prog 87 #[.slice l1.p l1.n l1.c, .slice up.p up.n up.c] H8 fun r6 H9 =>
∃ b5 : Bool,
r6 = .bool b5 ∧
br (!b5) (
K (.tuple #[.agg #[.int .i64 0, .int .i64 0, .int .i64 0, .int .i64 0, .slice none 0 0, .slice none 0 0, .slice none 0 0, .slice none 0 0, .int .i64 0], .int .i64 1]) H9)
 (
FnH Tryz.prog 37 #[.agg #[.int .i64 p_0, .int .i64 p_1, .int .i64 p_2, .int .i64 p_3, .slice p_4.p p_4.n p_4.c, .slice p_5.p p_5.n p_5.c, .slice p_6.p p_6.n p_6.c, .slice p_7.p p_7.n p_7.c, .int .i64 p_8]] H9 fun r7 H10 =>
∃ n1 n2 n3 n4 : Int,
∃ l2 l3 l4 l5 : Sl,
∃ n5 : Int,
r7 = .agg #[.int .i64 n1, .int .i64 n2, .int .i64 n3, .int .i64 n4, .slice l2.p l2.n l2.c, .slice l3.p l3.n l3.c, .slice l4.p l4.n l4.c, .slice l5.p l5.n l5.c, .int .i64 n5] ∧
FnH Tryz.prog 88 #[.slice l3.p l3.n l3.c, .slice isr.p isr.n isr.c] H10 fun r8 H11 =>
∃ l6 : Sl,
r8 = .slice l6.p l6.n l6.c ∧
FnH Tryz.prog 110 #[.agg #[.int .i64 n1, .int .i64 n2, .int .i64 n3, .int .i64 n4, .slice l6.p l6.n l6.c, .slice l3.p l3.n l3.c, .slice l4.p l4.n l4.c, .slice l5.p l5.n l5.c, .int .i64 n5]] H11 fun r9 H12 =>
∃ n6 n7 n8 n9 : Int,
∃ l7 l8 l9 l10 : Sl,
∃ n10 n11 : Int,
r9 = .tuple #[.agg #[.int .i64 n6, .int .i64 n7, .int .i64 n8, .int .i64 n9, .slice l7.p l7.n l7.c, .slice l8.p l8.n l8.c, .slice l9.p l9.n l9.c, .slice l10.p l10.n l10.c, .int .i64 n10], .int .i64 n11] ∧
K (.tuple #[.agg #[.int .i64 n6, .int .i64 n7, .int .i64 n8, .int .i64 n9, .slice l7.p l7.n l7.c, .slice l8.p l8.n l8.c, .slice l9.p l9.n l9.c, .slice l10.p l10.n l10.c, .int .i64 n10], .int .i64 n11]) H12))))))))
theorem reassign_Alter_fn (p_0 p_1 p_2 p_3 : Int) (p_4 p_5 p_6 p_7 : Sl) (p_8 leader epoch version : Int) (isr up : Sl) {H : Heap} {K : Value → Heap → Prop} (h : reassign_Alter_vc p_0 p_1 p_2 p_3 p_4 p_5 p_6 p_7 p_8 leader epoch version isr up H K) : FnH Tryz.prog 72 #[.agg #[.int .i64 p_0, .int .i64 p_1, .int .i64 p_2, .int .i64 p_3, .slice p_4.p p_4.n p_4.c, .slice p_5.p p_5.n p_5.c, .slice p_6.p p_6.n p_6.c, .slice p_7.p p_7.n p_7.c, .int .i64 p_8], .int .i64 leader, .int .i64 epoch, .int .i64 version, .slice isr.p isr.n isr.c, .slice up.p up.n up.c] H K :=
  denFn_fn Tryz.mixed reassign_Alter_ann Tryz.func72 (bodyOf_spec (by kernel_rfl)) (by kernel_rfl) h
def reassign_Finish_ann : Anns := { hid := [2, 4], loops := [], joins := [], mix := [] }
def reassign_Finish_vc (p_0 p_1 p_2 p_3 : Int) (p_4 p_5 p_6 p_7 : Sl) (p_8 : Int) (up : Sl) (H : Heap) (K : Value → Heap → Prop) : Prop :=
FnH Tryz.prog 112 #[.slice p_5.p p_5.n p_5.c, .slice p_7.p p_7.n p_7.c] H fun r1 H1 =>
∃ l1 : Sl,
r1 = .slice l1.p l1.n l1.c ∧
FnH Tryz.prog 51 #[.agg #[.int .i64 p_0, .int .i64 p_1, .int .i64 p_2, .int .i64 p_3, .slice p_4.p p_4.n p_4.c, .slice p_5.p p_5.n p_5.c, .slice p_6.p p_6.n p_6.c, .slice p_7.p p_7.n p_7.c, .int .i64 p_8]] H1 fun r2 H2 =>
∃ b1 : Bool,
r2 = .bool b1 ∧
br (!b1) (
K (.tuple #[.agg #[.int .i64 0, .int .i64 0, .int .i64 0, .int .i64 0, .slice none 0 0, .slice none 0 0, .slice none 0 0, .slice none 0 0, .int .i64 0], .int .i64 1]) H2)
 (
FnH Tryz.prog 113 #[.agg #[.int .i64 p_0, .int .i64 p_1, .int .i64 p_2, .int .i64 p_3, .slice p_4.p p_4.n p_4.c, .slice p_5.p p_5.n p_5.c, .slice p_6.p p_6.n p_6.c, .slice p_7.p p_7.n p_7.c, .int .i64 p_8]] H2 fun r3 H3 =>
∃ b2 : Bool,
r3 = .bool b2 ∧
br (!b2) (
K (.tuple #[.agg #[.int .i64 0, .int .i64 0, .int .i64 0, .int .i64 0, .slice none 0 0, .slice none 0 0, .slice none 0 0, .slice none 0 0, .int .i64 0], .int .i64 19]) H3)
 (
FnH Tryz.prog 87 #[.slice l1.p l1.n l1.c, .slice p_4.p p_4.n p_4.c] H3 fun r4 H4 =>
∃ b3 : Bool,
r4 = .bool b3 ∧
br (!b3) (
K (.tuple #[.agg #[.int .i64 0, .int .i64 0, .int .i64 0, .int .i64 0, .slice none 0 0, .slice none 0 0, .slice none 0 0, .slice none 0 0, .int .i64 0], .int .i64 19]) H4)
 (
FnH Tryz.prog 37 #[.agg #[.int .i64 p_0, .int .i64 p_1, .int .i64 p_2, .int .i64 p_3, .slice p_4.p p_4.n p_4.c, .slice p_5.p p_5.n p_5.c, .slice p_6.p p_6.n p_6.c, .slice p_7.p p_7.n p_7.c, .int .i64 p_8]] H4 fun r5 H5 =>
∃ n1 n2 n3 n4 : Int,
∃ l2 l3 l4 l5 : Sl,
∃ n5 : Int,
r5 = .agg #[.int .i64 n1, .int .i64 n2, .int .i64 n3, .int .i64 n4, .slice l2.p l2.n l2.c, .slice l3.p l3.n l3.c, .slice l4.p l4.n l4.c, .slice l5.p l5.n l5.c, .int .i64 n5] ∧
FnH Tryz.prog 88 #[.slice l2.p l2.n l2.c, .slice l1.p l1.n l1.c] H5 fun r6 H6 =>
∃ l6 : Sl,
r6 = .slice l6.p l6.n l6.c ∧
br ((n2 : Int) != 0) (
FnH Tryz.prog 76 #[.slice l1.p l1.n l1.c, .int .i64 n2] H6 fun r7 H7 =>
∃ b4 : Bool,
r7 = .bool b4 ∧
br (!b4) (
FnH Tryz.prog 115 #[.slice l1.p l1.n l1.c, .slice l6.p l6.n l6.c, .slice up.p up.n up.c, .int .i64 0] H7 fun r8 H8 =>
∃ n6 : Int,
r8 = .int .i64 n6 ∧
∀ q1 : Nat,
H8 q1 = none →
FnH Tryz.prog 109 #[.pointer (some ⟨q1, 0, none⟩), .int .i64 n6] (Heap.upd H8 q1 (.cells #[.int .i64 n1, .int .i64 n2, .int .i64 n3, .int .i64 n4, .slice l6.p l6.n l6.c, .slice l1.p l1.n l1.c, .slice none 0 0, .slice none 0 0, .int .i64 n5] 41 (0, 0))) fun r9 H9 =>
r9 = .tuple #[] ∧
∃ n7 n8 n9 n10 : Int,
∃ l7 l8 l9 l10 : Sl,
∃ n11 : Int,
H9 q1 = some (.cells #[.int .i64 n7, .int .i64 n8, .int .i64 n9, .int .i64 n10, .slice l7.p l7.n l7.c, .slice l8.p l8.n l8.c, .slice l9.p l9.n l9.c, .slice l10.p l10.n l10.c, .int .i64 n11] 41 (0, 0)) ∧
letH (Heap.del H9 q1) fun H10 =>
FnH Tryz.prog 110 #[.agg #[.int .i64 n7, .int .i64 n8, .int .i64 n9, .int .i64 n10, .slice l7.p l7.n l7.c, .slice l8.p l8.n l8.c, .slice l9.p l9.n l9.c, .slice l10.p l10.n l10.c, .int .i64 n11]] H10 fun r10 H11 =>
∃ n12 n13 n14 n15 : Int,
∃ l11 l12 l13 l14 : Sl,
∃ n16 n17 : Int,
r10 = .tuple #[.agg #[.int .i64 n12, .int .i64 n13, .int .i64 n14, .int .i64 n15, .slice l11.p l11.n l11.c, .slice l12.p l12.n l12.c, .slice l13.p l13.n l13.c, .slice l14.p l14.n l14.c, .int .i64 n16], .int .i64 n17] ∧
K (.tuple #[.agg #[.int .i64 n12, .int .i64 n13, .int .i64 n14, .int .i64 n15, .slice l11.p l11.n l11.c, .slice l12.p l12.n l12.c, .slice l13.p l13.n l13.c, .slice l14.p l14.n l14.c, .int .i64 n16], .int .i64 n17]) H11)
 (
FnH Tryz.prog 110 #[.agg #[.int .i64 n1, .int .i64 n2, .int .i64 n3, .int .i64 n4, .slice l6.p l6.n l6.c, .slice l1.p l1.n l1.c, .slice none 0 0, .slice none 0 0, .int .i64 n5]] H7 fun r11 H12 =>
∃ n18 n19 n20 n21 : Int,
∃ l15 l16 l17 l18 : Sl,
∃ n22 n23 : Int,
r11 = .tuple #[.agg #[.int .i64 n18, .int .i64 n19, .int .i64 n20, .int .i64 n21, .slice l15.p l15.n l15.c, .slice l16.p l16.n l16.c, .slice l17.p l17.n l17.c, .slice l18.p l18.n l18.c, .int .i64 n22], .int .i64 n23] ∧
K (.tuple #[.agg #[.int .i64 n18, .int .i64 n19, .int .i64 n20, .int .i64 n21, .slice l15.p l15.n l15.c, .slice l16.p l16.n l16.c, .slice l17.p l17.n l17.c, .slice l18.p l18.n l18.c, .int .i64 n22], .int .i64 n23]) H12))
 (
FnH Tryz.prog 110 #[.agg #[.int .i64 n1, .int .i64 n2, .int .i64 n3, .int .i64 n4, .slice l6.p l6.n l6.c, .slice l1.p l1.n l1.c, .slice none 0 0, .slice none 0 0, .int .i64 n5]] H6 fun r12 H13 =>
∃ n24 n25 n26 n27 : Int,
∃ l19 l20 l21 l22 : Sl,
∃ n28 n29 : Int,
r12 = .tuple #[.agg #[.int .i64 n24, .int .i64 n25, .int .i64 n26, .int .i64 n27, .slice l19.p l19.n l19.c, .slice l20.p l20.n l20.c, .slice l21.p l21.n l21.c, .slice l22.p l22.n l22.c, .int .i64 n28], .int .i64 n29] ∧
K (.tuple #[.agg #[.int .i64 n24, .int .i64 n25, .int .i64 n26, .int .i64 n27, .slice l19.p l19.n l19.c, .slice l20.p l20.n l20.c, .slice l21.p l21.n l21.c, .slice l22.p l22.n l22.c, .int .i64 n28], .int .i64 n29]) H13))))
theorem reassign_Finish_fn (p_0 p_1 p_2 p_3 : Int) (p_4 p_5 p_6 p_7 : Sl) (p_8 : Int) (up : Sl) {H : Heap} {K : Value → Heap → Prop} (h : reassign_Finish_vc p_0 p_1 p_2 p_3 p_4 p_5 p_6 p_7 p_8 up H K) : FnH Tryz.prog 75 #[.agg #[.int .i64 p_0, .int .i64 p_1, .int .i64 p_2, .int .i64 p_3, .slice p_4.p p_4.n p_4.c, .slice p_5.p p_5.n p_5.c, .slice p_6.p p_6.n p_6.c, .slice p_7.p p_7.n p_7.c, .int .i64 p_8], .slice up.p up.n up.c] H K :=
  denFn_fn Tryz.mixed reassign_Finish_ann Tryz.func75 (bodyOf_spec (by kernel_rfl)) (by kernel_rfl) h
def reassign_Elect_ann : Anns := { hid := [2, 4], loops := [], joins := [((0, 1), { slots := [(6, .bool)], kept := [1, 2, 4], locs := [], keptL := [0, 1] }), ((0, 3), { slots := [(20, .bool)], kept := [1, 2, 4], locs := [], keptL := [0, 1] })], mix := [] }
def reassign_Elect_vc (p_0 p_1 p_2 p_3 : Int) (p_4 p_5 p_6 p_7 : Sl) (p_8 leader : Int) (H : Heap) (K : Value → Heap → Prop) : Prop :=
∃ J1 : Bool → Heap → Prop,
 (FnH Tryz.prog 51 #[.agg #[.int .i64 p_0, .int .i64 p_1, .int .i64 p_2, .int .i64 p_3, .slice p_4.p p_4.n p_4.c, .slice p_5.p p_5.n p_5.c, .slice p_6.p p_6.n p_6.c, .slice p_7.p p_7.n p_7.c, .int .i64 p_8]] H fun r1 H1 =>
∃ b1 : Bool,
r1 = .bool b1 ∧
br (!b1) (
SelfEq ([.v (.int .i64 leader), .loc 0 0, .loc 1 0], [some (41, [.int .i64 p_0, .int .i64 p_1, .int .i64 p_2, .int .i64 p_3, .slice p_4.p p_4.n p_4.c, .slice p_5.p p_5.n p_5.c, .slice p_6.p p_6.n p_6.c, .slice p_7.p p_7.n p_7.c, .int .i64 p_8]), some (41, [.int .i64 0, .int .i64 0, .int .i64 0, .int .i64 0, .slice none 0 0, .slice none 0 0, .slice none 0 0, .slice none 0 0, .int .i64 0])], []) ∧
J1 true H1)
 (
br ((leader : Int) != 0) (
FnH Tryz.prog 108 #[.int .i64 leader] H1 fun r2 H2 =>
∃ b2 : Bool,
r2 = .bool b2 ∧
SelfEq ([.v (.int .i64 leader), .loc 0 0, .loc 1 0], [some (41, [.int .i64 p_0, .int .i64 p_1, .int .i64 p_2, .int .i64 p_3, .slice p_4.p p_4.n p_4.c, .slice p_5.p p_5.n p_5.c, .slice p_6.p p_6.n p_6.c, .slice p_7.p p_7.n p_7.c, .int .i64 p_8]), some (41, [.int .i64 0, .int .i64 0, .int .i64 0, .int .i64 0, .slice none 0 0, .slice none 0 0, .slice none 0 0, .slice none 0 0, .int .i64 0])], []) ∧
J1 (!b2) H2)
 (
SelfEq ([.v (.int .i64 leader), .loc 0 0, .loc 1 0], [some (41, [.int .i64 p_0, .int .i64 p_1, .int .i64 p_2, .int .i64 p_3, .slice p_4.p p_4.n p_4.c, .slice p_5.p p_5.n p_5.c, .slice p_6.p p_6.n p_6.c, .slice p_7.p p_7.n p_7.c, .int .i64 p_8]), some (41, [.int .i64 0, .int .i64 0, .int .i64 0, .int .i64 0, .slice none 0 0, .slice none 0 0, .slice none 0 0, .slice none 0 0, .int .i64 0])], []) ∧
J1 false H1))) ∧
∀ b_1 : Bool,
∀ H3 : Heap,
J1 b_1 H3 →
br (b_1) (
K (.tuple #[.agg #[.int .i64 0, .int .i64 0, .int .i64 0, .int .i64 0, .slice none 0 0, .slice none 0 0, .slice none 0 0, .slice none 0 0, .int .i64 0], .int .i64 1]) H3)
 (
∃ J2 : Bool → Heap → Prop,
 (br ((leader : Int) != 0) (
FnH Tryz.prog 76 #[.slice p_4.p p_4.n p_4.c, .int .i64 leader] H3 fun r3 H4 =>
∃ b3 : Bool,
r3 = .bool b3 ∧
SelfEq ([.v (.int .i64 leader), .loc 0 0, .loc 1 0], [some (41, [.int .i64 p_0, .int .i64 p_1, .int .i64 p_2, .int .i64 p_3, .slice p_4.p p_4.n p_4.c, .slice p_5.p p_5.n p_5.c, .slice p_6.p p_6.n p_6.c, .slice p_7.p p_7.n p_7.c, .int .i64 p_8]), some (41, [.int .i64 0, .int .i64 0, .int .i64 0, .int .i64 0, .slice none 0 0, .slice none 0 0, .slice none 0 0, .slice none 0 0, .int .i64 0])], []) ∧
J2 (!b3) H4)
 (
SelfEq ([.v (.int .i64 leader), .loc 0 0, .loc 1 0], [some (41, [.int .i64 p_0, .int .i64 p_1, .int .i64 p_2, .int .i64 p_3, .slice p_4.p p_4.n p_4.c, .slice p_5.p p_5.n p_5.c, .slice p_6.p p_6.n p_6.c, .slice p_7.p p_7.n p_7.c, .int .i64 p_8]), some (41, [.int .i64 0, .int .i64 0, .int .i64 0, .int .i64 0, .slice none 0 0, .slice none 0 0, .slice none 0 0, .slice none 0 0, .int .i64 0])], []) ∧
J2 false H3)) ∧
∀ b_2 : Bool,
∀ H5 : Heap,
J2 b_2 H5 →
br (b_2) (
K (.tuple #[.agg #[.int .i64 0, .int .i64 0, .int .i64 0, .int .i64 0, .slice none 0 0, .slice none 0 0, .slice none 0 0, .slice none 0 0, .int .i64 0], .int .i64 19]) H5)
 (
br ((leader : Int) == p_1) (
FnH Tryz.prog 37 #[.agg #[.int .i64 p_0, .int .i64 p_1, .int .i64 p_2, .int .i64 p_3, .slice p_4.p p_4.n p_4.c, .slice p_5.p p_5.n p_5.c, .slice p_6.p p_6.n p_6.c, .slice p_7.p p_7.n p_7.c, .int .i64 p_8]] H5 fun r4 H6 =>
∃ n1 n2 n3 n4 : Int,
∃ l1 l2 l3 l4 : Sl,
∃ n5 : Int,
r4 = .agg #[.int .i64 n1, .int .i64 n2, .int .i64 n3, .int .i64 n4, .slice l1.p l1.n l1.c, .slice l2.p l2.n l2.c, .slice l3.p l3.n l3.c, .slice l4.p l4.n l4.c, .int .i64 n5] ∧
K (.tuple #[.agg #[.int .i64 n1, .int .i64 n2, .int .i64 n3, .int .i64 n4, .slice l1.p l1.n l1.c, .slice l2.p l2.n l2.c, .slice l3.p l3.n l3.c, .slice l4.p l4.n l4.c, .int .i64 n5], .int .i64 0]) H6)
 (
FnH Tryz.prog 37 #[.agg #[.int .i64 p_0, .int .i64 p_1, .int .i64 p_2, .int .i64 p_3, .slice p_4.p p_4.n p_4.c, .slice p_5.p p_5.n p_5.c, .slice p_6.p p_6.n p_6.c, .slice p_7.p p_7.n p_7.c, .int .i64 p_8]] H5 fun r5 H7 =>
∃ n6 n7 n8 n9 : Int,
∃ l5 l6 l7 l8 : Sl,
∃ n10 : Int,
r5 = .agg #[.int .i64 n6, .int .i64 n7, .int .i64 n8, .int .i64 n9, .slice l5.p l5.n l5.c, .slice l6.p l6.n l6.c, .slice l7.p l7.n l7.c, .slice l8.p l8.n l8.c, .int .i64 n10] ∧
∀ q1 : Nat,
H7 q1 = none →
FnH Tryz.prog 109 #[.pointer (some ⟨q1, 0, none⟩), .int .i64 leader] (Heap.upd H7 q1 (.cells #[.int .i64 n6, .int .i64 n7, .int .i64 n8, .int .i64 n9, .slice l5.p l5.n l5.c, .slice l6.p l6.n l6.c, .slice l7.p l7.n l7.c, .slice l8.p l8.n l8.c, .int .i64 n10] 41 (0, 0))) fun r6 H8 =>
r6 = .tuple #[] ∧
∃ n11 n12 n13 n14 : Int,
∃ l9 l10 l11 l12 : Sl,
∃ n15 : Int,
H8 q1 = some (.cells #[.int .i64 n11, .int .i64 n12, .int .i64 n13, .int .i64 n14, .slice l9.p l9.n l9.c, .slice l10.p l10.n l10.c, .slice l11.p l11.n l11.c, .slice l12.p l12.n l12.c, .int .i64 n15] 41 (0, 0)) ∧
letH (Heap.del H8 q1) fun H9 =>
FnH Tryz.prog 110 #[.agg #[.int .i64 n11, .int .i64 n12, .int .i64 n13, .int .i64 n14, .slice l9.p l9.n l9.c, .slice l10.p l10.n l10.c, .slice l11.p l11.n l11.c, .slice l12.p l12.n l12.c, .int .i64 n15]] H9 fun r7 H10 =>
∃ n16 n17 n18 n19 : Int,
∃ l13 l14 l15 l16 : Sl,
∃ n20 n21 : Int,
r7 = .tuple #[.agg #[.int .i64 n16, .int .i64 n17, .int .i64 n18, .int .i64 n19, .slice l13.p l13.n l13.c, .slice l14.p l14.n l14.c, .slice l15.p l15.n l15.c, .slice l16.p l16.n l16.c, .int .i64 n20], .int .i64 n21] ∧
K (.tuple #[.agg #[.int .i64 n16, .int .i64 n17, .int .i64 n18, .int .i64 n19, .slice l13.p l13.n l13.c, .slice l14.p l14.n l14.c, .slice l15.p l15.n l15.c, .slice l16.p l16.n l16.c, .int .i64 n20], .int .i64 n21]) H10)))
theorem reassign_Elect_fn (p_0 p_1 p_2 p_3 : Int) (p_4 p_5 p_6 p_7 : Sl) (p_8 leader : Int) {H : Heap} {K : Value → Heap → Prop} (h : reassign_Elect_vc p_0 p_1 p_2 p_3 p_4 p_5 p_6 p_7 p_8 leader H K) : FnH Tryz.prog 77 #[.agg #[.int .i64 p_0, .int .i64 p_1, .int .i64 p_2, .int .i64 p_3, .slice p_4.p p_4.n p_4.c, .slice p_5.p p_5.n p_5.c, .slice p_6.p p_6.n p_6.c, .slice p_7.p p_7.n p_7.c, .int .i64 p_8], .int .i64 leader] H K :=
  denFn_fn Tryz.mixed reassign_Elect_ann Tryz.func77 (bodyOf_spec (by kernel_rfl)) (by kernel_rfl) h
def reassign_Begin_ann : Anns := { hid := [3, 6], loops := [], joins := [((0, 1), { slots := [(8, .bool)], kept := [1, 2, 3, 6], locs := [], keptL := [0, 1] })], mix := [(10, [9, 11]), (11, [4, 6])] }
def reassign_Begin_vc (p_0 p_1 p_2 p_3 : Int) (p_4 p_5 p_6 p_7 : Sl) (p_8 : Int) (targets up : Sl) (H : Heap) (K : Value → Heap → Prop) : Prop :=
∃ J1 : Bool → Heap → Prop,
 (FnH Tryz.prog 51 #[.agg #[.int .i64 p_0, .int .i64 p_1, .int .i64 p_2, .int .i64 p_3, .slice p_4.p p_4.n p_4.c, .slice p_5.p p_5.n p_5.c, .slice p_6.p p_6.n p_6.c, .slice p_7.p p_7.n p_7.c, .int .i64 p_8]] H fun r1 H1 =>
∃ b1 : Bool,
r1 = .bool b1 ∧
br (!b1) (
SelfEq ([.v (.slice targets.p targets.n targets.c), .v (.slice up.p up.n up.c), .loc 0 0, .loc 1 0], [some (41, [.int .i64 p_0, .int .i64 p_1, .int .i64 p_2, .int .i64 p_3, .slice p_4.p p_4.n p_4.c, .slice p_5.p p_5.n p_5.c, .slice p_6.p p_6.n p_6.c, .slice p_7.p p_7.n p_7.c, .int .i64 p_8]), some (41, [.int .i64 0, .int .i64 0, .int .i64 0, .int .i64 0, .slice none 0 0, .slice none 0 0, .slice none 0 0, .slice none 0 0, .int .i64 0])], []) ∧
J1 true H1)
 (
FnH Tryz.prog 86 #[.slice targets.p targets.n targets.c] H1 fun r2 H2 =>
∃ b2 : Bool,
r2 = .bool b2 ∧
br (!b2) (
SelfEq ([.v (.slice targets.p targets.n targets.c), .v (.slice up.p up.n up.c), .loc 0 0, .loc 1 0], [some (41, [.int .i64 p_0, .int .i64 p_1, .int .i64 p_2, .int .i64 p_3, .slice p_4.p p_4.n p_4.c, .slice p_5.p p_5.n p_5.c, .slice p_6.p p_6.n p_6.c, .slice p_7.p p_7.n p_7.c, .int .i64 p_8]), some (41, [.int .i64 0, .int .i64 0, .int .i64 0, .int .i64 0, .slice none 0 0, .slice none 0 0, .slice none 0 0, .slice none 0 0, .int .i64 0])], []) ∧
J1 true H2)
 (
br (((targets.n : Nat) : Int) == 0) (
SelfEq ([.v (.slice targets.p targets.n targets.c), .v (.slice up.p up.n up.c), .loc 0 0, .loc 1 0], [some (41, [.int .i64 p_0, .int .i64 p_1, .int .i64 p_2, .int .i64 p_3, .slice p_4.p p_4.n p_4.c, .slice p_5.p p_5.n p_5.c, .slice p_6.p p_6.n p_6.c, .slice p_7.p p_7.n p_7.c, .int .i64 p_8]), some (41, [.int .i64 0, .int .i64 0, .int .i64 0, .int .i64 0, .slice none 0 0, .slice none 0 0, .slice none 0 0, .slice none 0 0, .int .i64 0])], []) ∧
J1 true H2)
 (
SelfEq ([.v (.slice targets.p targets.n targets.c), .v (.slice up.p up.n up.c), .loc 0 0, .loc 1 0], [some (41, [.int .i64 p_0, .int .i64 p_1, .int .i64 p_2, .int .i64 p_3, .slice p_4.p p_4.n p_4.c, .slice p_5.p p_5.n p_5.c, .slice p_6.p p_6.n p_6.c, .slice p_7.p p_7.n p_7.c, .int .i64 p_8]), some (41, [.int .i64 0, .int .i64 0, .int .i64 0, .int .i64 0, .slice none 0 0, .slice none 0 0, .slice none 0 0, .slice none 0 0, .int .i64 0])], []) ∧
J1 (decide (((targets.n : Nat) : Int) > 5)) H2)))) ∧
∀ b_1 : Bool,
∀ H3 : Heap,
J1 b_1 H3 →
br (b_1) (
K (.tuple #[.agg #[.int .i64 0, .int .i64 0, .int .i64 0, .int .i64 0, .slice none 0 0, .slice none 0 0, .slice none 0 0, .slice none 0 0, .int .i64 0], .int .i64 1]) H3)
 (
FnH Tryz.prog 113 #[.agg #[.int .i64 p_0, .int .i64 p_1, .int .i64 p_2, .int .i64 p_3, .slice p_4.p p_4.n p_4.c, .slice p_5.p p_5.n p_5.c, .slice p_6.p p_6.n p_6.c, .slice p_7.p p_7.n p_7.c, .int .i64 p_8]] H3 fun r3 H4 =>
∃ b3 : Bool,
r3 = .bool b3 ∧
br (b3) (
K (.tuple #[.agg #[.int .i64 0, .int .i64 0, .int .i64 0, .int .i64 0, .slice none 0 0, .slice none 0 0, .slice none 0 0, .slice none 0 0, .int .i64 0], .int .i64 19]) H4)
 (
FnH Tryz.prog 112 #[.slice targets.p targets.n targets.c, .slice p_5.p p_5.n p_5.c] H4 fun r4 H5 =>
∃ l1 : Sl,
r4 = .slice l1.p l1.n l1.c ∧
FnH Tryz.prog 87 #[.slice l1.p l1.n l1.c, .slice up.p up.n up.c] H5 fun r5 H6 =>
∃ b4 : Bool,
r5 = .bool b4 ∧
br (!b4) (
K (.tuple #[.agg #[.int .i64 0, .int .i64 0, .int .i64 0, .int .i64 0, .slice none 0 0, .slice none 0 0, .slice none 0 0, .slice none 0 0, .int .i64 0], .int .i64 8]) H6)
 (
FnH Tryz.prog 37 #[.agg #[.int .i64 p_0, .int .i64 p_1, .int .i64 p_2, .int .i64 p_3, .slice p_4.p p_4.n p_4.c, .slice p_5.p p_5.n p_5.c, .slice p_6.p p_6.n p_6.c, .slice p_7.p p_7.n p_7.c, .int .i64 p_8]] H6 fun r6 H7 =>
∃ n1 n2 n3 n4 : Int,
∃ l2 l3 l4 l5 : Sl,
∃ n5 : Int,
r6 = .agg #[.int .i64 n1, .int .i64 n2, .int .i64 n3, .int .i64 n4, .slice l2.p l2.n l2.c, .slice l3.p l3.n l3.c, .slice l4.p l4.n l4.c, .slice l5.p l5.n l5.c, .int .i64 n5] ∧
FnH Tryz.prog 114 #[.slice targets.p targets.n targets.c, .slice l3.p l3.n l3.c] H7 fun r7 H8 =>
∃ b5 : Bool,
r7 = .bool b5 ∧
br (b5) (
K (.tuple #[.agg #[.int .i64 n1, .int .i64 n2, .int .i64 n3, .int .i64 n4, .slice l2.p l2.n l2.c, .slice l3.p l3.n l3.c, .slice l4.p l4.n l4.c, .slice l5.p l5.n l5.c, .int .i64 n5], .int .i64 0]) H8)
 (
FnH Tryz.prog 112 #[.slice targets.p targets.n targets.c, .slice l3.p l3.n l3.c] H8 fun r8 H9 =>
∃ l6 : Sl,
r8 = .slice l6.p l6.n l6.c ∧
Sub H8 H9 ∧
FnH Tryz.prog 112 #[.slice l3.p l3.n l3.c, .slice targets.p targets.n targets.c] H9 fun r9 H10 =>
∃ l7 : Sl,
r9 = .slice l7.p l7.n l7.c ∧
Sub H8 H10 ∧
FnH Tryz.prog 66 #[.slice targets.p targets.n targets.c] H10 fun r10 H11 =>
∃ l8 : Sl,
r10 = .slice l8.p l8.n l8.c ∧
Sub H10 H11 ∧
runH Tryz.prog (Builtin.append_ #[22, 22] 22 #[.slice l8.p l8.n l8.c, .slice l7.p l7.n l7.c]) H11 fun r11 H12 =>
∃ l9 : Sl,
r11 = .slice l9.p l9.n l9.c ∧
FnH Tryz.prog 110 #[.agg #[.int .i64 n1, .int .i64 n2, .int .i64 n3, .int .i64 n4, .slice l2.p l2.n l2.c, .slice l9.p l9.n l9.c, .slice l6.p l6.n l6.c, .slice l7.p l7.n l7.c, .int .i64 n5]] H12 fun r12 H13 =>
∃ n6 n7 n8 n9 : Int,
∃ l10 l11 l12 l13 : Sl,
∃ n10 n11 : Int,
r12 = .tuple #[.agg #[.int .i64 n6, .int .i64 n7, .int .i64 n8, .int .i64 n9, .slice l10.p l10.n l10.c, .slice l11.p l11.n l11.c, .slice l12.p l12.n l12.c, .slice l13.p l13.n l13.c, .int .i64 n10], .int .i64 n11] ∧
K (.tuple #[.agg #[.int .i64 n6, .int .i64 n7, .int .i64 n8, .int .i64 n9, .slice l10.p l10.n l10.c, .slice l11.p l11.n l11.c, .slice l12.p l12.n l12.c, .slice l13.p l13.n l13.c, .int .i64 n10], .int .i64 n11]) H13))))
theorem reassign_Begin_fn (p_0 p_1 p_2 p_3 : Int) (p_4 p_5 p_6 p_7 : Sl) (p_8 : Int) (targets up : Sl) {H : Heap} {K : Value → Heap → Prop} (h : reassign_Begin_vc p_0 p_1 p_2 p_3 p_4 p_5 p_6 p_7 p_8 targets up H K) : FnH Tryz.prog 73 #[.agg #[.int .i64 p_0, .int .i64 p_1, .int .i64 p_2, .int .i64 p_3, .slice p_4.p p_4.n p_4.c, .slice p_5.p p_5.n p_5.c, .slice p_6.p p_6.n p_6.c, .slice p_7.p p_7.n p_7.c, .int .i64 p_8], .slice targets.p targets.n targets.c, .slice up.p up.n up.c] H K :=
  denFn_fn Tryz.mixed reassign_Begin_ann Tryz.func73 (bodyOf_spec (by kernel_rfl)) (by kernel_rfl) h
def reassign_Cancel_ann : Anns := { hid := [2, 4], loops := [], joins := [], mix := [(7, [11, 13, 15, 17])] }
def reassign_Cancel_vc (p_0 p_1 p_2 p_3 : Int) (p_4 p_5 p_6 p_7 : Sl) (p_8 : Int) (up : Sl) (H : Heap) (K : Value → Heap → Prop) : Prop :=
FnH Tryz.prog 51 #[.agg #[.int .i64 p_0, .int .i64 p_1, .int .i64 p_2, .int .i64 p_3, .slice p_4.p p_4.n p_4.c, .slice p_5.p p_5.n p_5.c, .slice p_6.p p_6.n p_6.c, .slice p_7.p p_7.n p_7.c, .int .i64 p_8]] H fun r1 H1 =>
∃ b1 : Bool,
r1 = .bool b1 ∧
br (!b1) (
K (.tuple #[.agg #[.int .i64 0, .int .i64 0, .int .i64 0, .int .i64 0, .slice none 0 0, .slice none 0 0, .slice none 0 0, .slice none 0 0, .int .i64 0], .int .i64 1]) H1)
 (
FnH Tryz.prog 113 #[.agg #[.int .i64 p_0, .int .i64 p_1, .int .i64 p_2, .int .i64 p_3, .slice p_4.p p_4.n p_4.c, .slice p_5.p p_5.n p_5.c, .slice p_6.p p_6.n p_6.c, .slice p_7.p p_7.n p_7.c, .int .i64 p_8]] H1 fun r2 H2 =>
∃ b2 : Bool,
r2 = .bool b2 ∧
br (!b2) (
K (.tuple #[.agg #[.int .i64 0, .int .i64 0, .int .i64 0, .int .i64 0, .slice none 0 0, .slice none 0 0, .slice none 0 0, .slice none 0 0, .int .i64 0], .int .i64 19]) H2)
 (
FnH Tryz.prog 87 #[.slice p_4.p p_4.n p_4.c, .slice p_6.p p_6.n p_6.c] H2 fun r3 H3 =>
∃ b3 : Bool,
r3 = .bool b3 ∧
br (b3) (
K (.tuple #[.agg #[.int .i64 0, .int .i64 0, .int .i64 0, .int .i64 0, .slice none 0 0, .slice none 0 0, .slice none 0 0, .slice none 0 0, .int .i64 0], .int .i64 19]) H3)
 (
FnH Tryz.prog 37 #[.agg #[.int .i64 p_0, .int .i64 p_1, .int .i64 p_2, .int .i64 p_3, .slice p_4.p p_4.n p_4.c, .slice p_5.p p_5.n p_5.c, .slice p_6.p p_6.n p_6.c, .slice p_7.p p_7.n p_7.c, .int .i64 p_8]] H3 fun r4 H4 =>
∃ n1 n2 n3 n4 : Int,
∃ l1 l2 l3 l4 : Sl,
∃ n5 : Int,
r4 = .agg #[.int .i64 n1, .int .i64 n2, .int .i64 n3, .int .i64 n4, .slice l1.p l1.n l1.c, .slice l2.p l2.n l2.c, .slice l3.p l3.n l3.c, .slice l4.p l4.n l4.c, .int .i64 n5] ∧
FnH Tryz.prog 76 #[.slice l3.p l3.n l3.c, .int .i64 n2] H4 fun r5 H5 =>
∃ b4 : Bool,
r5 = .bool b4 ∧
FnH Tryz.prog 112 #[.slice l2.p l2.n l2.c, .slice l3.p l3.n l3.c] H5 fun r6 H6 =>
∃ l5 : Sl,
r6 = .slice l5.p l5.n l5.c ∧
Sub H5 H6 ∧
FnH Tryz.prog 112 #[.slice l1.p l1.n l1.c, .slice l3.p l3.n l3.c] H6 fun r7 H7 =>
∃ l6 : Sl,
r7 = .slice l6.p l6.n l6.c ∧
Sub H5 H7 ∧
br (b4) (
FnH Tryz.prog 115 #[.slice l5.p l5.n l5.c, .slice l6.p l6.n l6.c, .slice up.p up.n up.c, .int .i64 0] H7 fun r8 H8 =>
∃ n6 : Int,
r8 = .int .i64 n6 ∧
∀ q1 : Nat,
H8 q1 = none →
FnH Tryz.prog 109 #[.pointer (some ⟨q1, 0, none⟩), .int .i64 n6] (Heap.upd H8 q1 (.cells #[.int .i64 n1, .int .i64 n2, .int .i64 n3, .int .i64 n4, .slice l6.p l6.n l6.c, .slice l5.p l5.n l5.c, .slice none 0 0, .slice none 0 0, .int .i64 n5] 41 (0, 0))) fun r9 H9 =>
r9 = .tuple #[] ∧
∃ n7 n8 n9 n10 : Int,
∃ l7 l8 l9 l10 : Sl,
∃ n11 : Int,
H9 q1 = some (.cells #[.int .i64 n7, .int .i64 n8, .int .i64 n9, .int .i64 n10, .slice l7.p l7.n l7.c, .slice l8.p l8.n l8.c, .slice l9.p l9.n l9.c, .slice l10.p l10.n l10.c, .int .i64 n11] 41 (0, 0)) ∧
letH (Heap.del H9 q1) fun H10 =>
FnH Tryz.prog 110 #[.agg #[.int .i64 n7, .int .i64 n8, .int .i64 n9, .int .i64 n10, .slice l7.p l7.n l7.c, .slice l8.p l8.n l8.c, .slice l9.p l9.n l9.c, .slice l10.p l10.n l10.c, .int .i64 n11]] H10 fun r10 H11 =>
∃ n12 n13 n14 n15 : Int,
∃ l11 l12 l13 l14 : Sl,
∃ n16 n17 : Int,
r10 = .tuple #[.agg #[.int .i64 n12, .int .i64 n13, .int .i64 n14, .int .i64 n15, .slice l11.p l11.n l11.c, .slice l12.p l12.n l12.c, .slice l13.p l13.n l13.c, .slice l14.p l14.n l14.c, .int .i64 n16], .int .i64 n17] ∧
K (.tuple #[.agg #[.int .i64 n12, .int .i64 n13, .int .i64 n14, .int .i64 n15, .slice l11.p l11.n l11.c, .slice l12.p l12.n l12.c, .slice l13.p l13.n l13.c, .slice l14.p l14.n l14.c, .int .i64 n16], .int .i64 n17]) H11)
 (
FnH Tryz.prog 110 #[.agg #[.int .i64 n1, .int .i64 n2, .int .i64 n3, .int .i64 n4, .slice l6.p l6.n l6.c, .slice l5.p l5.n l5.c, .slice none 0 0, .slice none 0 0, .int .i64 n5]] H7 fun r11 H12 =>
∃ n18 n19 n20 n21 : Int,
∃ l15 l16 l17 l18 : Sl,
∃ n22 n23 : Int,
r11 = .tuple #[.agg #[.int .i64 n18, .int .i64 n19, .int .i64 n20, .int .i64 n21, .slice l15.p l15.n l15.c, .slice l16.p l16.n l16.c, .slice l17.p l17.n l17.c, .slice l18.p l18.n l18.c, .int .i64 n22], .int .i64 n23] ∧
K (.tuple #[.agg #[.int .i64 n18, .int .i64 n19, .int .i64 n20, .int .i64 n21, .slice l15.p l15.n l15.c, .slice l16.p l16.n l16.c, .slice l17.p l17.n l17.c, .slice l18.p l18.n l18.c, .int .i64 n22], .int .i64 n23]) H12))))
theorem reassign_Cancel_fn (p_0 p_1 p_2 p_3 : Int) (p_4 p_5 p_6 p_7 : Sl) (p_8 : Int) (up : Sl) {H : Heap} {K : Value → Heap → Prop} (h : reassign_Cancel_vc p_0 p_1 p_2 p_3 p_4 p_5 p_6 p_7 p_8 up H K) : FnH Tryz.prog 74 #[.agg #[.int .i64 p_0, .int .i64 p_1, .int .i64 p_2, .int .i64 p_3, .slice p_4.p p_4.n p_4.c, .slice p_5.p p_5.n p_5.c, .slice p_6.p p_6.n p_6.c, .slice p_7.p p_7.n p_7.c, .int .i64 p_8], .slice up.p up.n up.c] H K :=
  denFn_fn Tryz.mixed reassign_Cancel_ann Tryz.func74 (bodyOf_spec (by kernel_rfl)) (by kernel_rfl) h
end Go.Proofs.YtmofinghoacobaaGreatDoor
