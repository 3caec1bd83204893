/- Formulas of functions, printed by this session's vc.py; each is tied to the program by the kernel. -/
import Derived.Test.YtmofinghoacobaaGreatDoorProg
import Derived.KernelRfl
import Derived.Test.YtmofinghoacobaaGreatDoorHlFn
import Derived.Test.YtmofinghoacobaaGreatDoorV9
namespace Go.Proofs.YtmofinghoacobaaGreatDoor
open Go.HL
set_option maxRecDepth 100000
/-! function 6: logboom/logboomlaw12.MetaBack -/
def logboomlaw12_MetaBack_ann : Anns := { hid := [], loops := [(0, { slots := [(7, .int .i64)], kept := [0, 1, 6], locs := [], keptL := [] }), (2, { slots := [(10, .int .i64)], kept := [1, 6, 8], locs := [], keptL := [] })], joins := [], mix := [] }
def logboomlaw12_MetaBack_vc (ahead : Sl) (behind : Sl) (H : Heap) (K : Value → Heap → Prop) : Prop :=
  FnH Tryz.prog 9 #[] H fun r1 H1 =>
   ∃ b1 : Bool,
   r1 = .bool b1 ∧
   FnH Tryz.prog 10 #[] H1 fun r2 H2 =>
   ∃ p1 : Option Addr,
   r2 = .pointer p1 ∧
   br (!b1) (
   K (.bool false) H2)
   (
   br (Option.isNone p1) (
   K (.bool false) H2)
   (
   ∃ I1 : Int → Heap → Prop,
   ∃ M1 : Int → Heap → Nat,
   I1 0 H2 ∧
   ∀ i_1 : Int,
   ∀ H3 : Heap,
   I1 i_1 H3 →
   br (decide ((i_1 : Int) < (ahead.n : Nat))) (
   br (decide ((i_1 : Int) < 60)) (
   ∃ q1 : Nat,
   ∃ o1 : Nat,
   (ahead.p : Option Addr) = some ⟨q1, o1, none⟩ ∧
   0 ≤ (i_1 : Int) ∧
   (i_1 : Int) < (ahead.n : Nat) ∧
   ∃ n1 : Int,
   cellH H3 ⟨q1, o1 + Int.toNat i_1 * 8, none⟩ = some (.int .i64 n1) ∧
   ∃ n2 : Int,
   cellH H3 ⟨q1, o1 + Int.toNat i_1 * 8 + 1, none⟩ = some (.int .i64 n2) ∧
   ∃ n3 : Int,
   cellH H3 ⟨q1, o1 + Int.toNat i_1 * 8 + 2, none⟩ = some (.int .i64 n3) ∧
   ∃ n4 : Int,
   cellH H3 ⟨q1, o1 + Int.toNat i_1 * 8 + 3, none⟩ = some (.int .i64 n4) ∧
   ∃ n5 : Int,
   cellH H3 ⟨q1, o1 + Int.toNat i_1 * 8 + 4, none⟩ = some (.int .i64 n5) ∧
   ∃ s1 : ByteArray,
   cellH H3 ⟨q1, o1 + Int.toNat i_1 * 8 + 5, none⟩ = some (.string s1) ∧
   ∃ s2 : ByteArray,
   cellH H3 ⟨q1, o1 + Int.toNat i_1 * 8 + 6, none⟩ = some (.string s2) ∧
   ∃ l1 : Sl,
   cellH H3 ⟨q1, o1 + Int.toNat i_1 * 8 + 7, none⟩ = some (.slice l1.p l1.n l1.c) ∧
   FnH Tryz.prog 12 #[.pointer p1, .agg #[.int .i64 n1, .int .i64 n2, .int .i64 n3, .int .i64 n4, .int .i64 n5, .string s1, .string s2, .slice l1.p l1.n l1.c]] H3 fun r3 H4 =>
   ∃ n6 : Int,
   ∃ n7 : Int,
   r3 = .tuple #[.int .i64 n6, .int .i64 n7] ∧
   SelfEq ([.v (.slice ahead.p ahead.n ahead.c), .v (.slice behind.p behind.n behind.c), .v (.pointer p1)], [], []) ∧
   I1 (IntKind.wrap .i64 (i_1 + 1)) H4 ∧
   M1 (IntKind.wrap .i64 (i_1 + 1)) H4 < M1 i_1 H3)
   (
   FnH Tryz.prog 18 #[.pointer p1] H3 fun r4 H5 =>
   ∃ s3 : ByteArray,
   r4 = .string s3 ∧
   FnH Tryz.prog 21 #[.string s3] H5 fun r5 H6 =>
   ∃ p2 : Option Addr,
   ∃ n8 : Int,
   r5 = .tuple #[.pointer p2, .int .i64 n8] ∧
   br (Option.isNone p2) (
   K (.bool false) H6)
   (
   br ((n8 : Int) != 0) (
   K (.bool false) H6)
   (
   ∃ I2 : Int → Heap → Prop,
   ∃ M2 : Int → Heap → Nat,
   I2 0 H6 ∧
   ∀ i_2 : Int,
   ∀ H7 : Heap,
   I2 i_2 H7 →
   br (decide ((i_2 : Int) < (behind.n : Nat))) (
   br (decide ((i_2 : Int) < 40)) (
   ∃ q2 : Nat,
   ∃ o2 : Nat,
   (behind.p : Option Addr) = some ⟨q2, o2, none⟩ ∧
   0 ≤ (i_2 : Int) ∧
   (i_2 : Int) < (behind.n : Nat) ∧
   ∃ n9 : Int,
   cellH H7 ⟨q2, o2 + Int.toNat i_2 * 8, none⟩ = some (.int .i64 n9) ∧
   ∃ n10 : Int,
   cellH H7 ⟨q2, o2 + Int.toNat i_2 * 8 + 1, none⟩ = some (.int .i64 n10) ∧
   ∃ n11 : Int,
   cellH H7 ⟨q2, o2 + Int.toNat i_2 * 8 + 2, none⟩ = some (.int .i64 n11) ∧
   ∃ n12 : Int,
   cellH H7 ⟨q2, o2 + Int.toNat i_2 * 8 + 3, none⟩ = some (.int .i64 n12) ∧
   ∃ n13 : Int,
   cellH H7 ⟨q2, o2 + Int.toNat i_2 * 8 + 4, none⟩ = some (.int .i64 n13) ∧
   ∃ s4 : ByteArray,
   cellH H7 ⟨q2, o2 + Int.toNat i_2 * 8 + 5, none⟩ = some (.string s4) ∧
   ∃ s5 : ByteArray,
   cellH H7 ⟨q2, o2 + Int.toNat i_2 * 8 + 6, none⟩ = some (.string s5) ∧
   ∃ l2 : Sl,
   cellH H7 ⟨q2, o2 + Int.toNat i_2 * 8 + 7, none⟩ = some (.slice l2.p l2.n l2.c) ∧
   FnH Tryz.prog 12 #[.pointer p1, .agg #[.int .i64 n9, .int .i64 n10, .int .i64 n11, .int .i64 n12, .int .i64 n13, .string s4, .string s5, .slice l2.p l2.n l2.c]] H7 fun r6 H8 =>
   ∃ n14 : Int,
   ∃ n15 : Int,
   r6 = .tuple #[.int .i64 n14, .int .i64 n15] ∧
   ∃ q3 : Nat,
   ∃ o3 : Nat,
   (behind.p : Option Addr) = some ⟨q3, o3, none⟩ ∧
   0 ≤ (i_2 : Int) ∧
   (i_2 : Int) < (behind.n : Nat) ∧
   ∃ n16 : Int,
   cellH H8 ⟨q3, o3 + Int.toNat i_2 * 8, none⟩ = some (.int .i64 n16) ∧
   ∃ n17 : Int,
   cellH H8 ⟨q3, o3 + Int.toNat i_2 * 8 + 1, none⟩ = some (.int .i64 n17) ∧
   ∃ n18 : Int,
   cellH H8 ⟨q3, o3 + Int.toNat i_2 * 8 + 2, none⟩ = some (.int .i64 n18) ∧
   ∃ n19 : Int,
   cellH H8 ⟨q3, o3 + Int.toNat i_2 * 8 + 3, none⟩ = some (.int .i64 n19) ∧
   ∃ n20 : Int,
   cellH H8 ⟨q3, o3 + Int.toNat i_2 * 8 + 4, none⟩ = some (.int .i64 n20) ∧
   ∃ s6 : ByteArray,
   cellH H8 ⟨q3, o3 + Int.toNat i_2 * 8 + 5, none⟩ = some (.string s6) ∧
   ∃ s7 : ByteArray,
   cellH H8 ⟨q3, o3 + Int.toNat i_2 * 8 + 6, none⟩ = some (.string s7) ∧
   ∃ l3 : Sl,
   cellH H8 ⟨q3, o3 + Int.toNat i_2 * 8 + 7, none⟩ = some (.slice l3.p l3.n l3.c) ∧
   FnH Tryz.prog 12 #[.pointer p2, .agg #[.int .i64 n16, .int .i64 n17, .int .i64 n18, .int .i64 n19, .int .i64 n20, .string s6, .string s7, .slice l3.p l3.n l3.c]] H8 fun r7 H9 =>
   ∃ n21 : Int,
   ∃ n22 : Int,
   r7 = .tuple #[.int .i64 n21, .int .i64 n22] ∧
   br ((n14 : Int) != n21) (
   K (.bool false) H9)
   (
   br ((n15 : Int) != n22) (
   K (.bool false) H9)
   (
   FnH Tryz.prog 18 #[.pointer p1] H9 fun r8 H10 =>
   ∃ s8 : ByteArray,
   r8 = .string s8 ∧
   FnH Tryz.prog 18 #[.pointer p2] H10 fun r9 H11 =>
   ∃ s9 : ByteArray,
   r9 = .string s9 ∧
   br (!(s8.toList == s9.toList)) (
   K (.bool false) H11)
   (
   SelfEq ([.v (.slice behind.p behind.n behind.c), .v (.pointer p1), .v (.pointer p2)], [], []) ∧
   I2 (IntKind.wrap .i64 (i_2 + 1)) H11 ∧
   M2 (IntKind.wrap .i64 (i_2 + 1)) H11 < M2 i_2 H7))))
   (
   FnH Tryz.prog 22 #[.pointer p1] H7 fun r10 H12 =>
   ∃ n23 : Int,
   r10 = .int .i64 n23 ∧
   FnH Tryz.prog 22 #[.pointer p2] H12 fun r11 H13 =>
   ∃ n24 : Int,
   r11 = .int .i64 n24 ∧
   K (.bool ((n23 : Int) == n24)) H13))
   (
   FnH Tryz.prog 22 #[.pointer p1] H7 fun r12 H14 =>
   ∃ n25 : Int,
   r12 = .int .i64 n25 ∧
   FnH Tryz.prog 22 #[.pointer p2] H14 fun r13 H15 =>
   ∃ n26 : Int,
   r13 = .int .i64 n26 ∧
   K (.bool ((n25 : Int) == n26)) H15)))))
   (
   FnH Tryz.prog 18 #[.pointer p1] H3 fun r14 H16 =>
   ∃ s10 : ByteArray,
   r14 = .string s10 ∧
   FnH Tryz.prog 21 #[.string s10] H16 fun r15 H17 =>
   ∃ p3 : Option Addr,
   ∃ n27 : Int,
   r15 = .tuple #[.pointer p3, .int .i64 n27] ∧
   br (Option.isNone p3) (
   K (.bool false) H17)
   (
   br ((n27 : Int) != 0) (
   K (.bool false) H17)
   (
   ∃ I3 : Int → Heap → Prop,
   ∃ M3 : Int → Heap → Nat,
   I3 0 H17 ∧
   ∀ i_3 : Int,
   ∀ H18 : Heap,
   I3 i_3 H18 →
   br (decide ((i_3 : Int) < (behind.n : Nat))) (
   br (decide ((i_3 : Int) < 40)) (
   ∃ q4 : Nat,
   ∃ o4 : Nat,
   (behind.p : Option Addr) = some ⟨q4, o4, none⟩ ∧
   0 ≤ (i_3 : Int) ∧
   (i_3 : Int) < (behind.n : Nat) ∧
   ∃ n28 : Int,
   cellH H18 ⟨q4, o4 + Int.toNat i_3 * 8, none⟩ = some (.int .i64 n28) ∧
   ∃ n29 : Int,
   cellH H18 ⟨q4, o4 + Int.toNat i_3 * 8 + 1, none⟩ = some (.int .i64 n29) ∧
   ∃ n30 : Int,
   cellH H18 ⟨q4, o4 + Int.toNat i_3 * 8 + 2, none⟩ = some (.int .i64 n30) ∧
   ∃ n31 : Int,
   cellH H18 ⟨q4, o4 + Int.toNat i_3 * 8 + 3, none⟩ = some (.int .i64 n31) ∧
   ∃ n32 : Int,
   cellH H18 ⟨q4, o4 + Int.toNat i_3 * 8 + 4, none⟩ = some (.int .i64 n32) ∧
   ∃ s11 : ByteArray,
   cellH H18 ⟨q4, o4 + Int.toNat i_3 * 8 + 5, none⟩ = some (.string s11) ∧
   ∃ s12 : ByteArray,
   cellH H18 ⟨q4, o4 + Int.toNat i_3 * 8 + 6, none⟩ = some (.string s12) ∧
   ∃ l4 : Sl,
   cellH H18 ⟨q4, o4 + Int.toNat i_3 * 8 + 7, none⟩ = some (.slice l4.p l4.n l4.c) ∧
   FnH Tryz.prog 12 #[.pointer p1, .agg #[.int .i64 n28, .int .i64 n29, .int .i64 n30, .int .i64 n31, .int .i64 n32, .string s11, .string s12, .slice l4.p l4.n l4.c]] H18 fun r16 H19 =>
   ∃ n33 : Int,
   ∃ n34 : Int,
   r16 = .tuple #[.int .i64 n33, .int .i64 n34] ∧
   ∃ q5 : Nat,
   ∃ o5 : Nat,
   (behind.p : Option Addr) = some ⟨q5, o5, none⟩ ∧
   0 ≤ (i_3 : Int) ∧
   (i_3 : Int) < (behind.n : Nat) ∧
   ∃ n35 : Int,
   cellH H19 ⟨q5, o5 + Int.toNat i_3 * 8, none⟩ = some (.int .i64 n35) ∧
   ∃ n36 : Int,
   cellH H19 ⟨q5, o5 + Int.toNat i_3 * 8 + 1, none⟩ = some (.int .i64 n36) ∧
   ∃ n37 : Int,
   cellH H19 ⟨q5, o5 + Int.toNat i_3 * 8 + 2, none⟩ = some (.int .i64 n37) ∧
   ∃ n38 : Int,
   cellH H19 ⟨q5, o5 + Int.toNat i_3 * 8 + 3, none⟩ = some (.int .i64 n38) ∧
   ∃ n39 : Int,
   cellH H19 ⟨q5, o5 + Int.toNat i_3 * 8 + 4, none⟩ = some (.int .i64 n39) ∧
   ∃ s13 : ByteArray,
   cellH H19 ⟨q5, o5 + Int.toNat i_3 * 8 + 5, none⟩ = some (.string s13) ∧
   ∃ s14 : ByteArray,
   cellH H19 ⟨q5, o5 + Int.toNat i_3 * 8 + 6, none⟩ = some (.string s14) ∧
   ∃ l5 : Sl,
   cellH H19 ⟨q5, o5 + Int.toNat i_3 * 8 + 7, none⟩ = some (.slice l5.p l5.n l5.c) ∧
   FnH Tryz.prog 12 #[.pointer p3, .agg #[.int .i64 n35, .int .i64 n36, .int .i64 n37, .int .i64 n38, .int .i64 n39, .string s13, .string s14, .slice l5.p l5.n l5.c]] H19 fun r17 H20 =>
   ∃ n40 : Int,
   ∃ n41 : Int,
   r17 = .tuple #[.int .i64 n40, .int .i64 n41] ∧
   br ((n33 : Int) != n40) (
   K (.bool false) H20)
   (
   br ((n34 : Int) != n41) (
   K (.bool false) H20)
   (
   FnH Tryz.prog 18 #[.pointer p1] H20 fun r18 H21 =>
   ∃ s15 : ByteArray,
   r18 = .string s15 ∧
   FnH Tryz.prog 18 #[.pointer p3] H21 fun r19 H22 =>
   ∃ s16 : ByteArray,
   r19 = .string s16 ∧
   br (!(s15.toList == s16.toList)) (
   K (.bool false) H22)
   (
   SelfEq ([.v (.slice behind.p behind.n behind.c), .v (.pointer p1), .v (.pointer p3)], [], []) ∧
   I3 (IntKind.wrap .i64 (i_3 + 1)) H22 ∧
   M3 (IntKind.wrap .i64 (i_3 + 1)) H22 < M3 i_3 H18))))
   (
   FnH Tryz.prog 22 #[.pointer p1] H18 fun r20 H23 =>
   ∃ n42 : Int,
   r20 = .int .i64 n42 ∧
   FnH Tryz.prog 22 #[.pointer p3] H23 fun r21 H24 =>
   ∃ n43 : Int,
   r21 = .int .i64 n43 ∧
   K (.bool ((n42 : Int) == n43)) H24))
   (
   FnH Tryz.prog 22 #[.pointer p1] H18 fun r22 H25 =>
   ∃ n44 : Int,
   r22 = .int .i64 n44 ∧
   FnH Tryz.prog 22 #[.pointer p3] H25 fun r23 H26 =>
   ∃ n45 : Int,
   r23 = .int .i64 n45 ∧
   K (.bool ((n44 : Int) == n45)) H26))))))
theorem logboomlaw12_MetaBack_eq (ahead : Sl) (behind : Sl) (H : Heap) (K : Value → Heap → Prop) : logboomlaw12_MetaBack_vc ahead behind H K = denFn Tryz.prog logboomlaw12_MetaBack_ann Tryz.f6 (bodyOf Tryz.f6) [.slice ahead.p ahead.n ahead.c, .slice behind.p behind.n behind.c] H K := by kernel_rfl
theorem logboomlaw12_MetaBack_fn (ahead : Sl) (behind : Sl) {H : Heap} {K : Value → Heap → Prop} (h : logboomlaw12_MetaBack_vc ahead behind H K) : FnH Tryz.prog 6 #[.slice ahead.p ahead.n ahead.c, .slice behind.p behind.n behind.c] H K :=
  denFn_fn Tryz.mixed logboomlaw12_MetaBack_ann Tryz.func6 (bodyOf_spec (by kernel_rfl)) (logboomlaw12_MetaBack_eq ahead behind H K) h

end Go.Proofs.YtmofinghoacobaaGreatDoor
