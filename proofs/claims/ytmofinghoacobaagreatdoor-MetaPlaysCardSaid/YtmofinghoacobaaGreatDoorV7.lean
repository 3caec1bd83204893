import Derived.Test.YtmofinghoacobaaGreatDoorProg
import Derived.KernelRfl
import Derived.Test.YtmofinghoacobaaGreatDoorHlFn
import Derived.Test.YtmofinghoacobaaGreatDoorV6
namespace Go.Proofs.YtmofinghoacobaaGreatDoor
open Go.HL
set_option maxRecDepth 100000
def logboomlaw12_shown_ann : Anns := { hid := [9], loops := [(0, { slots := [(2, .int .i64)], kept := [1], locs := [], keptL := [] })], joins := [], mix := [] }
def logboomlaw12_shown_vc  (H : Heap) (K : Value → Heap → Prop) : Prop :=
FnH Tryz.prog 10 #[] H fun r1 H1 =>
∃ p1 : Option Addr,
r1 = .pointer p1 ∧
br (Option.isNone p1) (
K (.bool false) H1)
 (
∃ I1 : Int → Heap → Prop,
∃ M1 : Int → Heap → Nat,
I1 1 H1 ∧
∀ id_1 : Int,
∀ H2 : Heap,
I1 id_1 H2 →
br (decide ((id_1 : Int) ≤ 3)) (
FnH Tryz.prog 13 #[.int .i64 1, .int .i64 id_1, .int .i64 1, .int .i64 0] H2 fun r2 H3 =>
∃ n1 n2 n3 n4 n5 : Int,
∃ s1 s2 : ByteArray,
∃ l1 : Sl,
r2 = .agg #[.int .i64 n1, .int .i64 n2, .int .i64 n3, .int .i64 n4, .int .i64 n5, .string s1, .string s2, .slice l1.p l1.n l1.c] ∧
FnH Tryz.prog 12 #[.pointer p1, .agg #[.int .i64 n1, .int .i64 n2, .int .i64 n3, .int .i64 n4, .int .i64 n5, .string s1, .string s2, .slice l1.p l1.n l1.c]] H3 fun r3 H4 =>
∃ n6 n7 : Int,
r3 = .tuple #[.int .i64 n6, .int .i64 n7] ∧
FnH Tryz.prog 13 #[.int .i64 3, .int .i64 id_1, .int .i64 1, .int .i64 0] H4 fun r4 H5 =>
∃ n8 n9 n10 n11 n12 : Int,
∃ s3 s4 : ByteArray,
∃ l2 : Sl,
r4 = .agg #[.int .i64 n8, .int .i64 n9, .int .i64 n10, .int .i64 n11, .int .i64 n12, .string s3, .string s4, .slice l2.p l2.n l2.c] ∧
FnH Tryz.prog 12 #[.pointer p1, .agg #[.int .i64 n8, .int .i64 n9, .int .i64 n10, .int .i64 n11, .int .i64 n12, .string s3, .string s4, .slice l2.p l2.n l2.c]] H5 fun r5 H6 =>
∃ n13 n14 : Int,
r5 = .tuple #[.int .i64 n13, .int .i64 n14] ∧
br ((n7 : Int) != 0) (
K (.bool false) H6)
 (
br ((n14 : Int) != 0) (
K (.bool false) H6)
 (
SelfEq ([.v (.pointer p1)], [], []) ∧
I1 (IntKind.wrap .i64 (id_1 + 1)) H6 ∧
M1 (IntKind.wrap .i64 (id_1 + 1)) H6 < M1 id_1 H2)))
 (
FnH Tryz.prog 13 #[.int .i64 4, .int .i64 2, .int .i64 2, .int .i64 1] H2 fun r6 H7 =>
∃ n15 n16 n17 n18 n19 : Int,
∃ s5 s6 : ByteArray,
∃ l3 : Sl,
r6 = .agg #[.int .i64 n15, .int .i64 n16, .int .i64 n17, .int .i64 n18, .int .i64 n19, .string s5, .string s6, .slice l3.p l3.n l3.c] ∧
FnH Tryz.prog 12 #[.pointer p1, .agg #[.int .i64 n15, .int .i64 n16, .int .i64 n17, .int .i64 n18, .int .i64 n19, .string s5, .string s6, .slice l3.p l3.n l3.c]] H7 fun r7 H8 =>
∃ n20 n21 : Int,
r7 = .tuple #[.int .i64 n20, .int .i64 n21] ∧
FnH Tryz.prog 30 #[.pointer p1, .int .i64 2] H8 fun r8 H9 =>
∃ n22 n23 n24 n25 : Int,
∃ l4 l5 l6 l7 : Sl,
∃ n26 : Int,
∃ b1 : Bool,
r8 = .tuple #[.agg #[.int .i64 n22, .int .i64 n23, .int .i64 n24, .int .i64 n25, .slice l4.p l4.n l4.c, .slice l5.p l5.n l5.c, .slice l6.p l6.n l6.c, .slice l7.p l7.n l7.c, .int .i64 n26], .bool b1] ∧
∀ q1 : Nat,
H9 q1 = none →
letH (Heap.upd H9 q1 (.cells #[.int .i64 2, .int .i64 3] 3 (0, 0))) fun H10 =>
FnH Tryz.prog 31 #[.slice l5.p l5.n l5.c, .slice (some ⟨q1, 0, none⟩) 2 2] H10 fun r9 H11 =>
∃ b2 : Bool,
r9 = .bool b2 ∧
br ((n20 : Int) != 1) (
K (.bool false) H11)
 (
br ((n21 : Int) != 0) (
K (.bool false) H11)
 (
br (!b1) (
K (.bool false) H11)
 (
br (!b2) (
K (.bool false) H11)
 (
br ((n23 : Int) != 2) (
K (.bool false) H11)
 (
FnH Tryz.prog 13 #[.int .i64 2, .int .i64 1, .int .i64 1, .int .i64 0] H11 fun r10 H12 =>
∃ n27 n28 n29 n30 n31 : Int,
∃ s7 s8 : ByteArray,
∃ l8 : Sl,
r10 = .agg #[.int .i64 n27, .int .i64 n28, .int .i64 n29, .int .i64 n30, .int .i64 n31, .string s7, .string s8, .slice l8.p l8.n l8.c] ∧
FnH Tryz.prog 12 #[.pointer p1, .agg #[.int .i64 n27, .int .i64 n28, .int .i64 n29, .int .i64 n30, .int .i64 n31, .string s7, .string s8, .slice l8.p l8.n l8.c]] H12 fun r11 H13 =>
∃ n32 n33 : Int,
r11 = .tuple #[.int .i64 n32, .int .i64 n33] ∧
FnH Tryz.prog 30 #[.pointer p1, .int .i64 1] H13 fun r12 H14 =>
∃ n34 n35 n36 n37 : Int,
∃ l9 l10 l11 l12 : Sl,
∃ n38 : Int,
∃ b3 : Bool,
r12 = .tuple #[.agg #[.int .i64 n34, .int .i64 n35, .int .i64 n36, .int .i64 n37, .slice l9.p l9.n l9.c, .slice l10.p l10.n l10.c, .slice l11.p l11.n l11.c, .slice l12.p l12.n l12.c, .int .i64 n38], .bool b3] ∧
∀ q2 : Nat,
H14 q2 = none →
letH (Heap.upd H14 q2 (.cells #[.int .i64 2] 3 (0, 0))) fun H15 =>
FnH Tryz.prog 31 #[.slice l9.p l9.n l9.c, .slice (some ⟨q2, 0, none⟩) 1 1] H15 fun r13 H16 =>
∃ b4 : Bool,
r13 = .bool b4 ∧
FnH Tryz.prog 13 #[.int .i64 1, .int .i64 1, .int .i64 1, .int .i64 0] H16 fun r14 H17 =>
∃ n39 n40 n41 n42 n43 : Int,
∃ s9 s10 : ByteArray,
∃ l13 : Sl,
r14 = .agg #[.int .i64 n39, .int .i64 n40, .int .i64 n41, .int .i64 n42, .int .i64 n43, .string s9, .string s10, .slice l13.p l13.n l13.c] ∧
FnH Tryz.prog 12 #[.pointer p1, .agg #[.int .i64 n39, .int .i64 n40, .int .i64 n41, .int .i64 n42, .int .i64 n43, .string s9, .string s10, .slice l13.p l13.n l13.c]] H17 fun r15 H18 =>
∃ n44 n45 : Int,
r15 = .tuple #[.int .i64 n44, .int .i64 n45] ∧
FnH Tryz.prog 13 #[.int .i64 4, .int .i64 1, .int .i64 1, .int .i64 1] H18 fun r16 H19 =>
∃ n46 n47 n48 n49 n50 : Int,
∃ s11 s12 : ByteArray,
∃ l14 : Sl,
r16 = .agg #[.int .i64 n46, .int .i64 n47, .int .i64 n48, .int .i64 n49, .int .i64 n50, .string s11, .string s12, .slice l14.p l14.n l14.c] ∧
FnH Tryz.prog 12 #[.pointer p1, .agg #[.int .i64 n46, .int .i64 n47, .int .i64 n48, .int .i64 n49, .int .i64 n50, .string s11, .string s12, .slice l14.p l14.n l14.c]] H19 fun r17 H20 =>
∃ n51 n52 : Int,
r17 = .tuple #[.int .i64 n51, .int .i64 n52] ∧
FnH Tryz.prog 13 #[.int .i64 8, .int .i64 0, .int .i64 0, .int .i64 0] H20 fun r18 H21 =>
∃ n53 n54 n55 n56 n57 : Int,
∃ s13 s14 : ByteArray,
∃ l15 : Sl,
r18 = .agg #[.int .i64 n53, .int .i64 n54, .int .i64 n55, .int .i64 n56, .int .i64 n57, .string s13, .string s14, .slice l15.p l15.n l15.c] ∧
FnH Tryz.prog 12 #[.pointer p1, .agg #[.int .i64 n53, .int .i64 n54, .int .i64 n55, .int .i64 n56, .int .i64 n57, .string s13, .string s14, .slice l15.p l15.n l15.c]] H21 fun r19 H22 =>
∃ n58 n59 : Int,
r19 = .tuple #[.int .i64 n58, .int .i64 n59] ∧
FnH Tryz.prog 13 #[.int .i64 8, .int .i64 1, .int .i64 0, .int .i64 0] H22 fun r20 H23 =>
∃ n60 n61 n62 n63 n64 : Int,
∃ s15 s16 : ByteArray,
∃ l16 : Sl,
r20 = .agg #[.int .i64 n60, .int .i64 n61, .int .i64 n62, .int .i64 n63, .int .i64 n64, .string s15, .string s16, .slice l16.p l16.n l16.c] ∧
FnH Tryz.prog 12 #[.pointer p1, .agg #[.int .i64 n60, .int .i64 n61, .int .i64 n62, .int .i64 n63, .int .i64 n64, .string s15, .string s16, .slice l16.p l16.n l16.c]] H23 fun r21 H24 =>
∃ n65 n66 : Int,
r21 = .tuple #[.int .i64 n65, .int .i64 n66] ∧
br ((n33 : Int) == 0) (
br (b3) (
br ((n35 : Int) == 2) (
br ((n36 : Int) == 2) (
br ((n37 : Int) == 2) (
br (b4) (
br ((n45 : Int) == 13) (
br ((n52 : Int) == 9) (
br ((n58 : Int) == 1) (
br ((n59 : Int) == 0) (
br ((n65 : Int) == 1) (
br ((n66 : Int) == 0) (
FnH Tryz.prog 22 #[.pointer p1] H24 fun r22 H25 =>
∃ n67 : Int,
r22 = .int .i64 n67 ∧
K (.bool ((n67 : Int) == 12)) H25)
 (
K (.bool false) H24))
 (
K (.bool false) H24))
 (
K (.bool false) H24))
 (
K (.bool false) H24))
 (
K (.bool false) H24))
 (
K (.bool false) H24))
 (
K (.bool false) H24))
 (
K (.bool false) H24))
 (
K (.bool false) H24))
 (
K (.bool false) H24))
 (
K (.bool false) H24))
 (
K (.bool false) H24))))))))
theorem logboomlaw12_shown_fn  {H : Heap} {K : Value → Heap → Prop} (h : logboomlaw12_shown_vc  H K) : FnH Tryz.prog 9 #[] H K :=
  denFn_fn Tryz.mixed logboomlaw12_shown_ann Tryz.func9 (bodyOf_spec (by kernel_rfl)) (by kernel_rfl) h
end Go.Proofs.YtmofinghoacobaaGreatDoor
