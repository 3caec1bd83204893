import Derived.Test.YthldclmeojkboaaDoorProg
import Derived.KernelRfl
import Derived.Test.YthldclmeojkboaaDoorHlFn
import Derived.Test.YthldclmeojkboaaDoorV4
namespace Go.Proofs.YthldclmeojkboaaDoor
open Go.HL
set_option maxRecDepth 100000
def logboomlaw10_RaftIgnores_ann : Anns := { hid := [2], loops := [(0, { slots := [(11, .int .i64)], kept := [1, 2, 10], locs := [], keptL := [0] })], joins := [], mix := [] }
def logboomlaw10_RaftIgnores_vc (m_0 m_1 m_2 m_3 m_4 m_5 m_6 m_7 m_8 m_9 m_10 m_11 m_12 m_13 m_14 m_15 : Int) (m_16 m_17 : ByteArray) (m_18 m_19 m_20 : Sl) (ticks : Int) (H : Heap) (K : Value → Heap → Prop) : Prop :=
FnH Tryd.prog 4 #[] H fun r1 H1 =>
∃ b1 : Bool,
r1 = .bool b1 ∧
FnH Tryd.prog 5 #[.int .i64 100000] H1 fun r2 H2 =>
∃ p1 : Option Addr,
∃ n1 : Int,
r2 = .tuple #[.pointer p1, .int .i64 n1] ∧
br (!b1) (
K (.bool false) H2)
 (
br (Option.isNone p1) (
K (.bool false) H2)
 (
br ((n1 : Int) != 0) (
K (.bool false) H2)
 (
FnH Tryd.prog 6 #[.pointer p1, .string (⟨#[114]⟩ : ByteArray)] H2 fun r3 H3 =>
∃ p2 : Option Addr,
∃ n2 : Int,
r3 = .tuple #[.pointer p2, .int .i64 n2] ∧
∀ q1 : Nat,
H3 q1 = none →
letH (Heap.upd H3 q1 (.cells #[.int .i64 1, .int .i64 2, .int .i64 3] 3 (0, 0))) fun H4 =>
FnH Tryd.prog 7 #[.pointer p1, .int .i64 1, .slice (some ⟨q1, 0, none⟩) 3 3, .int .i64 10] H4 fun r4 H5 =>
∃ p3 : Option Addr,
r4 = .pointer p3 ∧
br (Option.isNone p2) (
K (.bool false) H5)
 (
br ((n2 : Int) != 0) (
K (.bool false) H5)
 (
br (Option.isNone p3) (
K (.bool false) H5)
 (
∃ I1 : Int → Heap → Prop,
∃ M1 : Int → Heap → Nat,
I1 0 H5 ∧
∀ i_1 : Int,
∀ H6 : Heap,
I1 i_1 H6 →
FnH Tryd.prog 8 #[.int .i64 ticks, .int .i64 25] H6 fun r5 H7 =>
∃ n3 : Int,
r5 = .int .i64 n3 ∧
br (decide ((i_1 : Int) < n3)) (
FnH Tryd.prog 9 #[.pointer p3, .int .i64 i_1, .int .i64 0] H7 fun r6 H8 =>
∃ l1 : Sl,
r6 = .slice l1.p l1.n l1.c ∧
SelfEq ([.v (.int .i64 ticks), .loc 0 0, .v (.pointer p3)], [some (27, [.int .i64 m_0, .int .i64 m_1, .int .i64 m_2, .int .i64 m_3, .int .i64 m_4, .int .i64 m_5, .int .i64 m_6, .int .i64 m_7, .int .i64 m_8, .int .i64 m_9, .int .i64 m_10, .int .i64 m_11, .int .i64 m_12, .int .i64 m_13, .int .i64 m_14, .int .i64 m_15, .string m_16, .string m_17, .slice m_18.p m_18.n m_18.c, .slice m_19.p m_19.n m_19.c, .slice m_20.p m_20.n m_20.c])], []) ∧
I1 (IntKind.wrap .i64 (i_1 + 1)) H8 ∧
M1 (IntKind.wrap .i64 (i_1 + 1)) H8 < M1 i_1 H6)
 (
br ((m_2 : Int) == 1) (
br (decide ((m_1 : Int) ≥ 2)) (
br (decide ((m_1 : Int) ≤ 3)) (
br (decide ((m_0 : Int) ≥ 1)) (
br (decide ((m_0 : Int) ≤ 6)) (
FnH Tryd.prog 10 #[.pointer p3] H7 fun r7 H9 =>
∃ n4 : Int,
r7 = .int .i64 n4 ∧
FnH Tryd.prog 11 #[.pointer p3] H9 fun r8 H10 =>
∃ b2 : Bool,
r8 = .bool b2 ∧
FnH Tryd.prog 12 #[.pointer p3] H10 fun r9 H11 =>
∃ n5 : Int,
r9 = .int .i64 n5 ∧
FnH Tryd.prog 13 #[.pointer p3, .int .i64 30, .agg #[.int .i64 m_0, .int .i64 4, .int .i64 m_2, .int .i64 m_3, .int .i64 m_4, .int .i64 m_5, .int .i64 m_6, .int .i64 m_7, .int .i64 m_8, .int .i64 m_9, .int .i64 m_10, .int .i64 m_11, .int .i64 m_12, .int .i64 m_13, .int .i64 m_14, .int .i64 m_15, .string m_16, .string m_17, .slice m_18.p m_18.n m_18.c, .slice m_19.p m_19.n m_19.c, .slice m_20.p m_20.n m_20.c]] H11 fun r10 H12 =>
∃ l2 : Sl,
r10 = .slice l2.p l2.n l2.c ∧
br (((l2.n : Nat) : Int) == 0) (
FnH Tryd.prog 10 #[.pointer p3] H12 fun r11 H13 =>
∃ n6 : Int,
r11 = .int .i64 n6 ∧
br ((n6 : Int) == n4) (
FnH Tryd.prog 11 #[.pointer p3] H13 fun r12 H14 =>
∃ b3 : Bool,
r12 = .bool b3 ∧
br ((b3 == b2)) (
FnH Tryd.prog 12 #[.pointer p3] H14 fun r13 H15 =>
∃ n7 : Int,
r13 = .int .i64 n7 ∧
K (.bool ((n7 : Int) == n5)) H15)
 (
K (.bool false) H14))
 (
K (.bool false) H13))
 (
K (.bool false) H12))
 (
FnH Tryd.prog 10 #[.pointer p3] H7 fun r14 H16 =>
∃ n8 : Int,
r14 = .int .i64 n8 ∧
FnH Tryd.prog 11 #[.pointer p3] H16 fun r15 H17 =>
∃ b4 : Bool,
r15 = .bool b4 ∧
FnH Tryd.prog 12 #[.pointer p3] H17 fun r16 H18 =>
∃ n9 : Int,
r16 = .int .i64 n9 ∧
FnH Tryd.prog 13 #[.pointer p3, .int .i64 30, .agg #[.int .i64 m_0, .int .i64 m_1, .int .i64 m_2, .int .i64 m_3, .int .i64 m_4, .int .i64 m_5, .int .i64 m_6, .int .i64 m_7, .int .i64 m_8, .int .i64 m_9, .int .i64 m_10, .int .i64 m_11, .int .i64 m_12, .int .i64 m_13, .int .i64 m_14, .int .i64 m_15, .string m_16, .string m_17, .slice m_18.p m_18.n m_18.c, .slice m_19.p m_19.n m_19.c, .slice m_20.p m_20.n m_20.c]] H18 fun r17 H19 =>
∃ l3 : Sl,
r17 = .slice l3.p l3.n l3.c ∧
br (((l3.n : Nat) : Int) == 0) (
FnH Tryd.prog 10 #[.pointer p3] H19 fun r18 H20 =>
∃ n10 : Int,
r18 = .int .i64 n10 ∧
br ((n10 : Int) == n8) (
FnH Tryd.prog 11 #[.pointer p3] H20 fun r19 H21 =>
∃ b5 : Bool,
r19 = .bool b5 ∧
br ((b5 == b4)) (
FnH Tryd.prog 12 #[.pointer p3] H21 fun r20 H22 =>
∃ n11 : Int,
r20 = .int .i64 n11 ∧
K (.bool ((n11 : Int) == n9)) H22)
 (
K (.bool false) H21))
 (
K (.bool false) H20))
 (
K (.bool false) H19)))
 (
FnH Tryd.prog 10 #[.pointer p3] H7 fun r21 H23 =>
∃ n12 : Int,
r21 = .int .i64 n12 ∧
FnH Tryd.prog 11 #[.pointer p3] H23 fun r22 H24 =>
∃ b6 : Bool,
r22 = .bool b6 ∧
FnH Tryd.prog 12 #[.pointer p3] H24 fun r23 H25 =>
∃ n13 : Int,
r23 = .int .i64 n13 ∧
FnH Tryd.prog 13 #[.pointer p3, .int .i64 30, .agg #[.int .i64 m_0, .int .i64 m_1, .int .i64 m_2, .int .i64 m_3, .int .i64 m_4, .int .i64 m_5, .int .i64 m_6, .int .i64 m_7, .int .i64 m_8, .int .i64 m_9, .int .i64 m_10, .int .i64 m_11, .int .i64 m_12, .int .i64 m_13, .int .i64 m_14, .int .i64 m_15, .string m_16, .string m_17, .slice m_18.p m_18.n m_18.c, .slice m_19.p m_19.n m_19.c, .slice m_20.p m_20.n m_20.c]] H25 fun r24 H26 =>
∃ l4 : Sl,
r24 = .slice l4.p l4.n l4.c ∧
br (((l4.n : Nat) : Int) == 0) (
FnH Tryd.prog 10 #[.pointer p3] H26 fun r25 H27 =>
∃ n14 : Int,
r25 = .int .i64 n14 ∧
br ((n14 : Int) == n12) (
FnH Tryd.prog 11 #[.pointer p3] H27 fun r26 H28 =>
∃ b7 : Bool,
r26 = .bool b7 ∧
br ((b7 == b6)) (
FnH Tryd.prog 12 #[.pointer p3] H28 fun r27 H29 =>
∃ n15 : Int,
r27 = .int .i64 n15 ∧
K (.bool ((n15 : Int) == n13)) H29)
 (
K (.bool false) H28))
 (
K (.bool false) H27))
 (
K (.bool false) H26)))
 (
FnH Tryd.prog 10 #[.pointer p3] H7 fun r28 H30 =>
∃ n16 : Int,
r28 = .int .i64 n16 ∧
FnH Tryd.prog 11 #[.pointer p3] H30 fun r29 H31 =>
∃ b8 : Bool,
r29 = .bool b8 ∧
FnH Tryd.prog 12 #[.pointer p3] H31 fun r30 H32 =>
∃ n17 : Int,
r30 = .int .i64 n17 ∧
FnH Tryd.prog 13 #[.pointer p3, .int .i64 30, .agg #[.int .i64 m_0, .int .i64 m_1, .int .i64 m_2, .int .i64 m_3, .int .i64 m_4, .int .i64 m_5, .int .i64 m_6, .int .i64 m_7, .int .i64 m_8, .int .i64 m_9, .int .i64 m_10, .int .i64 m_11, .int .i64 m_12, .int .i64 m_13, .int .i64 m_14, .int .i64 m_15, .string m_16, .string m_17, .slice m_18.p m_18.n m_18.c, .slice m_19.p m_19.n m_19.c, .slice m_20.p m_20.n m_20.c]] H32 fun r31 H33 =>
∃ l5 : Sl,
r31 = .slice l5.p l5.n l5.c ∧
br (((l5.n : Nat) : Int) == 0) (
FnH Tryd.prog 10 #[.pointer p3] H33 fun r32 H34 =>
∃ n18 : Int,
r32 = .int .i64 n18 ∧
br ((n18 : Int) == n16) (
FnH Tryd.prog 11 #[.pointer p3] H34 fun r33 H35 =>
∃ b9 : Bool,
r33 = .bool b9 ∧
br ((b9 == b8)) (
FnH Tryd.prog 12 #[.pointer p3] H35 fun r34 H36 =>
∃ n19 : Int,
r34 = .int .i64 n19 ∧
K (.bool ((n19 : Int) == n17)) H36)
 (
K (.bool false) H35))
 (
K (.bool false) H34))
 (
K (.bool false) H33)))
 (
FnH Tryd.prog 10 #[.pointer p3] H7 fun r35 H37 =>
∃ n20 : Int,
r35 = .int .i64 n20 ∧
FnH Tryd.prog 11 #[.pointer p3] H37 fun r36 H38 =>
∃ b10 : Bool,
r36 = .bool b10 ∧
FnH Tryd.prog 12 #[.pointer p3] H38 fun r37 H39 =>
∃ n21 : Int,
r37 = .int .i64 n21 ∧
FnH Tryd.prog 13 #[.pointer p3, .int .i64 30, .agg #[.int .i64 m_0, .int .i64 m_1, .int .i64 m_2, .int .i64 m_3, .int .i64 m_4, .int .i64 m_5, .int .i64 m_6, .int .i64 m_7, .int .i64 m_8, .int .i64 m_9, .int .i64 m_10, .int .i64 m_11, .int .i64 m_12, .int .i64 m_13, .int .i64 m_14, .int .i64 m_15, .string m_16, .string m_17, .slice m_18.p m_18.n m_18.c, .slice m_19.p m_19.n m_19.c, .slice m_20.p m_20.n m_20.c]] H39 fun r38 H40 =>
∃ l6 : Sl,
r38 = .slice l6.p l6.n l6.c ∧
br (((l6.n : Nat) : Int) == 0) (
FnH Tryd.prog 10 #[.pointer p3] H40 fun r39 H41 =>
∃ n22 : Int,
r39 = .int .i64 n22 ∧
br ((n22 : Int) == n20) (
FnH Tryd.prog 11 #[.pointer p3] H41 fun r40 H42 =>
∃ b11 : Bool,
r40 = .bool b11 ∧
br ((b11 == b10)) (
FnH Tryd.prog 12 #[.pointer p3] H42 fun r41 H43 =>
∃ n23 : Int,
r41 = .int .i64 n23 ∧
K (.bool ((n23 : Int) == n21)) H43)
 (
K (.bool false) H42))
 (
K (.bool false) H41))
 (
K (.bool false) H40)))
 (
FnH Tryd.prog 10 #[.pointer p3] H7 fun r42 H44 =>
∃ n24 : Int,
r42 = .int .i64 n24 ∧
FnH Tryd.prog 11 #[.pointer p3] H44 fun r43 H45 =>
∃ b12 : Bool,
r43 = .bool b12 ∧
FnH Tryd.prog 12 #[.pointer p3] H45 fun r44 H46 =>
∃ n25 : Int,
r44 = .int .i64 n25 ∧
FnH Tryd.prog 13 #[.pointer p3, .int .i64 30, .agg #[.int .i64 m_0, .int .i64 m_1, .int .i64 m_2, .int .i64 m_3, .int .i64 m_4, .int .i64 m_5, .int .i64 m_6, .int .i64 m_7, .int .i64 m_8, .int .i64 m_9, .int .i64 m_10, .int .i64 m_11, .int .i64 m_12, .int .i64 m_13, .int .i64 m_14, .int .i64 m_15, .string m_16, .string m_17, .slice m_18.p m_18.n m_18.c, .slice m_19.p m_19.n m_19.c, .slice m_20.p m_20.n m_20.c]] H46 fun r45 H47 =>
∃ l7 : Sl,
r45 = .slice l7.p l7.n l7.c ∧
br (((l7.n : Nat) : Int) == 0) (
FnH Tryd.prog 10 #[.pointer p3] H47 fun r46 H48 =>
∃ n26 : Int,
r46 = .int .i64 n26 ∧
br ((n26 : Int) == n24) (
FnH Tryd.prog 11 #[.pointer p3] H48 fun r47 H49 =>
∃ b13 : Bool,
r47 = .bool b13 ∧
br ((b13 == b12)) (
FnH Tryd.prog 12 #[.pointer p3] H49 fun r48 H50 =>
∃ n27 : Int,
r48 = .int .i64 n27 ∧
K (.bool ((n27 : Int) == n25)) H50)
 (
K (.bool false) H49))
 (
K (.bool false) H48))
 (
K (.bool false) H47)))))))))
theorem logboomlaw10_RaftIgnores_fn (m_0 m_1 m_2 m_3 m_4 m_5 m_6 m_7 m_8 m_9 m_10 m_11 m_12 m_13 m_14 m_15 : Int) (m_16 m_17 : ByteArray) (m_18 m_19 m_20 : Sl) (ticks : Int) {H : Heap} {K : Value → Heap → Prop} (h : logboomlaw10_RaftIgnores_vc m_0 m_1 m_2 m_3 m_4 m_5 m_6 m_7 m_8 m_9 m_10 m_11 m_12 m_13 m_14 m_15 m_16 m_17 m_18 m_19 m_20 ticks H K) : FnH Tryd.prog 3 #[.agg #[.int .i64 m_0, .int .i64 m_1, .int .i64 m_2, .int .i64 m_3, .int .i64 m_4, .int .i64 m_5, .int .i64 m_6, .int .i64 m_7, .int .i64 m_8, .int .i64 m_9, .int .i64 m_10, .int .i64 m_11, .int .i64 m_12, .int .i64 m_13, .int .i64 m_14, .int .i64 m_15, .string m_16, .string m_17, .slice m_18.p m_18.n m_18.c, .slice m_19.p m_19.n m_19.c, .slice m_20.p m_20.n m_20.c], .int .i64 ticks] H K :=
  denFn_fn Tryd.mixed logboomlaw10_RaftIgnores_ann Tryd.func3 (bodyOf_spec (by kernel_rfl)) (by kernel_rfl) h
end Go.Proofs.YthldclmeojkboaaDoor
