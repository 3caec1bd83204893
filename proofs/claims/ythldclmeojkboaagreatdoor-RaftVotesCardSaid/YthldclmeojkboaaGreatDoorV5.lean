import Derived.Test.YthldclmeojkboaaGreatDoorProg
import Derived.KernelRfl
import Derived.Test.YthldclmeojkboaaGreatDoorHlFn
import Derived.Test.YthldclmeojkboaaGreatDoorV4
namespace Go.Proofs.YthldclmeojkboaaGreatDoor
open Go.HL
set_option maxRecDepth 100000
def logboomlaw10_promised_ann : Anns := { hid := [7], loops := [(0, { slots := [(0, .slice), (6, .int .i64)], kept := [1], locs := [], keptL := [] }), (3, { slots := [(8, .int .i64)], kept := [0, 1, 6, 7], locs := [], keptL := [0] })], joins := [], mix := [(4, [12])] }
def logboomlaw10_promised_vc (given l : Sl) (H : Heap) (K : Value → Heap → Prop) : Prop :=
∃ I1 : Sl → Int → Heap → Prop,
∃ M1 : Sl → Int → Heap → Nat,
I1 given 0 H ∧
∀ given_1 : Sl,
∀ i_1 : Int,
∀ H1 : Heap,
I1 given_1 i_1 H1 →
br (decide ((i_1 : Int) < (l.n : Nat))) (
∃ q1 o1 : Nat,
 (l.p : Option Addr) = some ⟨q1, o1, none⟩ ∧
0 ≤ (i_1 : Int) ∧
 (i_1 : Int) < (l.n : Nat) ∧
∃ n1 : Int,
cellH H1 ⟨q1, o1 + Int.toNat i_1 * 21 + 10, none⟩ = some (.int .i64 n1) ∧
∃ q2 o2 : Nat,
 (l.p : Option Addr) = some ⟨q2, o2, none⟩ ∧
0 ≤ (i_1 : Int) ∧
 (i_1 : Int) < (l.n : Nat) ∧
∃ n2 : Int,
cellH H1 ⟨q2, o2 + Int.toNat i_1 * 21 + 2, none⟩ = some (.int .i64 n2) ∧
Sub H1 H1 ∧
∃ q3 o3 : Nat,
 (l.p : Option Addr) = some ⟨q3, o3, none⟩ ∧
0 ≤ (i_1 : Int) ∧
 (i_1 : Int) < (l.n : Nat) ∧
∃ n3 : Int,
cellH H1 ⟨q3, o3 + Int.toNat i_1 * 21, none⟩ = some (.int .i64 n3) ∧
br ((n3 : Int) == 1) (
∃ I2 : Int → Heap → Prop,
∃ M2 : Int → Heap → Nat,
I2 0 H1 ∧
∀ k_1 : Int,
∀ H2 : Heap,
I2 k_1 H2 →
br (decide ((k_1 : Int) < (given_1.n : Nat))) (
∃ q4 o4 : Nat,
 (given_1.p : Option Addr) = some ⟨q4, o4, none⟩ ∧
0 ≤ (k_1 : Int) ∧
 (k_1 : Int) < (given_1.n : Nat) ∧
∃ n4 : Int,
cellH H2 ⟨q4, o4 + Int.toNat k_1 * 3, none⟩ = some (.int .i64 n4) ∧
br ((n4 : Int) == n1) (
∃ q5 o5 : Nat,
 (given_1.p : Option Addr) = some ⟨q5, o5, none⟩ ∧
0 ≤ (k_1 : Int) ∧
 (k_1 : Int) < (given_1.n : Nat) ∧
∃ n5 : Int,
cellH H2 ⟨q5, o5 + Int.toNat k_1 * 3 + 1, none⟩ = some (.int .i64 n5) ∧
br ((n5 : Int) != 1) (
K (.tuple #[.slice given_1.p given_1.n given_1.c, .bool false]) H2)
 (
SelfEq ([.v (.slice given_1.p given_1.n given_1.c), .v (.slice l.p l.n l.c), .v (.int .i64 i_1), .loc 0 0], [some (51, [.int .i64 n1, .int .i64 1, .string (⟨#[]⟩ : ByteArray)])], []) ∧
I2 (IntKind.wrap .i64 (k_1 + 1)) H2 ∧
M2 (IntKind.wrap .i64 (k_1 + 1)) H2 < M2 k_1 H2))
 (
SelfEq ([.v (.slice given_1.p given_1.n given_1.c), .v (.slice l.p l.n l.c), .v (.int .i64 i_1), .loc 0 0], [some (51, [.int .i64 n1, .int .i64 1, .string (⟨#[]⟩ : ByteArray)])], []) ∧
I2 (IntKind.wrap .i64 (k_1 + 1)) H2 ∧
M2 (IntKind.wrap .i64 (k_1 + 1)) H2 < M2 k_1 H2))
 (
∀ q6 : Nat,
H2 q6 = none →
letH (Heap.upd H2 q6 (.cells #[.int .i64 n1, .int .i64 1, .string (⟨#[]⟩ : ByteArray)] 51 (0, 0))) fun H3 =>
runH Tryz.prog (Builtin.append_ #[29, 29] 29 #[.slice given_1.p given_1.n given_1.c, .slice (some ⟨q6, 0, none⟩) 1 1]) H3 fun r1 H4 =>
∃ l1 : Sl,
r1 = .slice l1.p l1.n l1.c ∧
SelfEq ([.v (.slice l.p l.n l.c)], [], []) ∧
I1 l1 (IntKind.wrap .i64 (i_1 + 1)) H4 ∧
M1 l1 (IntKind.wrap .i64 (i_1 + 1)) H4 < M1 given_1 i_1 H1))
 (
∃ q7 o6 : Nat,
 (l.p : Option Addr) = some ⟨q7, o6, none⟩ ∧
0 ≤ (i_1 : Int) ∧
 (i_1 : Int) < (l.n : Nat) ∧
∃ n6 : Int,
cellH H1 ⟨q7, o6 + Int.toNat i_1 * 21, none⟩ = some (.int .i64 n6) ∧
br ((n6 : Int) != 2) (
SelfEq ([.v (.slice l.p l.n l.c)], [], []) ∧
I1 given_1 (IntKind.wrap .i64 (i_1 + 1)) H1 ∧
M1 given_1 (IntKind.wrap .i64 (i_1 + 1)) H1 < M1 given_1 i_1 H1)
 (
∃ q8 o7 : Nat,
 (l.p : Option Addr) = some ⟨q8, o7, none⟩ ∧
0 ≤ (i_1 : Int) ∧
 (i_1 : Int) < (l.n : Nat) ∧
∃ n7 : Int,
cellH H1 ⟨q8, o7 + Int.toNat i_1 * 21 + 15, none⟩ = some (.int .i64 n7) ∧
br ((n7 : Int) != 0) (
SelfEq ([.v (.slice l.p l.n l.c)], [], []) ∧
I1 given_1 (IntKind.wrap .i64 (i_1 + 1)) H1 ∧
M1 given_1 (IntKind.wrap .i64 (i_1 + 1)) H1 < M1 given_1 i_1 H1)
 (
∃ I3 : Int → Heap → Prop,
∃ M3 : Int → Heap → Nat,
I3 0 H1 ∧
∀ k_2 : Int,
∀ H5 : Heap,
I3 k_2 H5 →
br (decide ((k_2 : Int) < (given_1.n : Nat))) (
∃ q9 o8 : Nat,
 (given_1.p : Option Addr) = some ⟨q9, o8, none⟩ ∧
0 ≤ (k_2 : Int) ∧
 (k_2 : Int) < (given_1.n : Nat) ∧
∃ n8 : Int,
cellH H5 ⟨q9, o8 + Int.toNat k_2 * 3, none⟩ = some (.int .i64 n8) ∧
br ((n8 : Int) == n1) (
∃ q10 o9 : Nat,
 (given_1.p : Option Addr) = some ⟨q10, o9, none⟩ ∧
0 ≤ (k_2 : Int) ∧
 (k_2 : Int) < (given_1.n : Nat) ∧
∃ n9 : Int,
cellH H5 ⟨q10, o9 + Int.toNat k_2 * 3 + 1, none⟩ = some (.int .i64 n9) ∧
br ((n9 : Int) != n2) (
K (.tuple #[.slice given_1.p given_1.n given_1.c, .bool false]) H5)
 (
SelfEq ([.v (.slice given_1.p given_1.n given_1.c), .v (.slice l.p l.n l.c), .v (.int .i64 i_1), .loc 0 0], [some (51, [.int .i64 n1, .int .i64 n2, .string (⟨#[]⟩ : ByteArray)])], []) ∧
I3 (IntKind.wrap .i64 (k_2 + 1)) H5 ∧
M3 (IntKind.wrap .i64 (k_2 + 1)) H5 < M3 k_2 H5))
 (
SelfEq ([.v (.slice given_1.p given_1.n given_1.c), .v (.slice l.p l.n l.c), .v (.int .i64 i_1), .loc 0 0], [some (51, [.int .i64 n1, .int .i64 n2, .string (⟨#[]⟩ : ByteArray)])], []) ∧
I3 (IntKind.wrap .i64 (k_2 + 1)) H5 ∧
M3 (IntKind.wrap .i64 (k_2 + 1)) H5 < M3 k_2 H5))
 (
∀ q11 : Nat,
H5 q11 = none →
letH (Heap.upd H5 q11 (.cells #[.int .i64 n1, .int .i64 n2, .string (⟨#[]⟩ : ByteArray)] 51 (0, 0))) fun H6 =>
runH Tryz.prog (Builtin.append_ #[29, 29] 29 #[.slice given_1.p given_1.n given_1.c, .slice (some ⟨q11, 0, none⟩) 1 1]) H6 fun r2 H7 =>
∃ l2 : Sl,
r2 = .slice l2.p l2.n l2.c ∧
SelfEq ([.v (.slice l.p l.n l.c)], [], []) ∧
I1 l2 (IntKind.wrap .i64 (i_1 + 1)) H7 ∧
M1 l2 (IntKind.wrap .i64 (i_1 + 1)) H7 < M1 given_1 i_1 H1)))))
 (
K (.tuple #[.slice given_1.p given_1.n given_1.c, .bool true]) H1)
theorem logboomlaw10_promised_fn (given l : Sl) {H : Heap} {K : Value → Heap → Prop} (h : logboomlaw10_promised_vc given l H K) : FnH Tryz.prog 16 #[.slice given.p given.n given.c, .slice l.p l.n l.c] H K :=
  denFn_fn Tryz.mixed logboomlaw10_promised_ann Tryz.func16 (bodyOf_spec (by kernel_rfl)) (by kernel_rfl) h
def logboomlaw10_RaftVotes_ann : Anns := { hid := [10, 12], loops := [(0, { slots := [(4, .ptr), (6, .slice), (7, .int .i64), (8, .int .i64), (9, .int .i64)], kept := [0, 5], locs := [], keptL := [] })], joins := [((12, 2), { slots := [(4, .ptr), (8, .int .i64), (11, .slice)], kept := [0, 5, 6, 7, 9], locs := [], keptL := [0] })], mix := [(19, [7])] }
def logboomlaw10_RaftVotes_vc (script : Sl) (H : Heap) (K : Value → Heap → Prop) : Prop :=
FnH Tryz.prog 8 #[] H fun r1 H1 =>
∃ b1 : Bool,
r1 = .bool b1 ∧
∀ q1 : Nat,
H1 q1 = none →
letH (Heap.upd H1 q1 (.cells #[.int .i64 1, .int .i64 2, .int .i64 3] 3 (0, 0))) fun H2 =>
FnH Tryz.prog 9 #[.int .i64 1, .slice (some ⟨q1, 0, none⟩) 3 3, .int .i64 10] H2 fun r2 H3 =>
∃ p1 p2 : Option Addr,
r2 = .tuple #[.pointer p1, .pointer p2] ∧
br (!b1) (
K (.bool false) H3)
 (
br (Option.isNone p1) (
K (.bool false) H3)
 (
∃ I1 : Option Addr → Sl → Int → Int → Int → Heap → Prop,
∃ M1 : Option Addr → Sl → Int → Int → Int → Heap → Nat,
I1 p1 ⟨none, 0, 0⟩ 0 0 0 H3 ∧
∀ n_1 : Option Addr,
∀ given_1 : Sl,
∀ term_1 now_1 i_1 : Int,
∀ H4 : Heap,
I1 n_1 given_1 term_1 now_1 i_1 H4 →
br (decide ((i_1 : Int) < (script.n : Nat))) (
br (decide ((i_1 : Int) < 100)) (
∃ q2 o1 : Nat,
 (script.p : Option Addr) = some ⟨q2, o1, none⟩ ∧
0 ≤ (i_1 : Int) ∧
 (i_1 : Int) < (script.n : Nat) ∧
∃ n1 : Int,
cellH H4 ⟨q2, o1 + Int.toNat i_1 * 26, none⟩ = some (.int .i64 n1) ∧
∃ n2 : Int,
cellH H4 ⟨q2, o1 + Int.toNat i_1 * 26 + 1, none⟩ = some (.int .i64 n2) ∧
∃ n3 : Int,
cellH H4 ⟨q2, o1 + Int.toNat i_1 * 26 + 2, none⟩ = some (.int .i64 n3) ∧
∃ n4 : Int,
cellH H4 ⟨q2, o1 + Int.toNat i_1 * 26 + 3, none⟩ = some (.int .i64 n4) ∧
∃ n5 : Int,
cellH H4 ⟨q2, o1 + Int.toNat i_1 * 26 + 4, none⟩ = some (.int .i64 n5) ∧
∃ n6 : Int,
cellH H4 ⟨q2, o1 + Int.toNat i_1 * 26 + 5, none⟩ = some (.int .i64 n6) ∧
∃ n7 : Int,
cellH H4 ⟨q2, o1 + Int.toNat i_1 * 26 + 6, none⟩ = some (.int .i64 n7) ∧
∃ n8 : Int,
cellH H4 ⟨q2, o1 + Int.toNat i_1 * 26 + 7, none⟩ = some (.int .i64 n8) ∧
∃ n9 : Int,
cellH H4 ⟨q2, o1 + Int.toNat i_1 * 26 + 8, none⟩ = some (.int .i64 n9) ∧
∃ n10 : Int,
cellH H4 ⟨q2, o1 + Int.toNat i_1 * 26 + 9, none⟩ = some (.int .i64 n10) ∧
∃ n11 : Int,
cellH H4 ⟨q2, o1 + Int.toNat i_1 * 26 + 10, none⟩ = some (.int .i64 n11) ∧
∃ n12 : Int,
cellH H4 ⟨q2, o1 + Int.toNat i_1 * 26 + 11, none⟩ = some (.int .i64 n12) ∧
∃ n13 : Int,
cellH H4 ⟨q2, o1 + Int.toNat i_1 * 26 + 12, none⟩ = some (.int .i64 n13) ∧
∃ n14 : Int,
cellH H4 ⟨q2, o1 + Int.toNat i_1 * 26 + 13, none⟩ = some (.int .i64 n14) ∧
∃ n15 : Int,
cellH H4 ⟨q2, o1 + Int.toNat i_1 * 26 + 14, none⟩ = some (.int .i64 n15) ∧
∃ n16 : Int,
cellH H4 ⟨q2, o1 + Int.toNat i_1 * 26 + 15, none⟩ = some (.int .i64 n16) ∧
∃ n17 : Int,
cellH H4 ⟨q2, o1 + Int.toNat i_1 * 26 + 16, none⟩ = some (.int .i64 n17) ∧
∃ n18 : Int,
cellH H4 ⟨q2, o1 + Int.toNat i_1 * 26 + 17, none⟩ = some (.int .i64 n18) ∧
∃ n19 : Int,
cellH H4 ⟨q2, o1 + Int.toNat i_1 * 26 + 18, none⟩ = some (.int .i64 n19) ∧
∃ s1 : ByteArray,
cellH H4 ⟨q2, o1 + Int.toNat i_1 * 26 + 19, none⟩ = some (.string s1) ∧
∃ s2 : ByteArray,
cellH H4 ⟨q2, o1 + Int.toNat i_1 * 26 + 20, none⟩ = some (.string s2) ∧
∃ l1 : Sl,
cellH H4 ⟨q2, o1 + Int.toNat i_1 * 26 + 21, none⟩ = some (.slice l1.p l1.n l1.c) ∧
∃ l2 : Sl,
cellH H4 ⟨q2, o1 + Int.toNat i_1 * 26 + 22, none⟩ = some (.slice l2.p l2.n l2.c) ∧
∃ l3 : Sl,
cellH H4 ⟨q2, o1 + Int.toNat i_1 * 26 + 23, none⟩ = some (.slice l3.p l3.n l3.c) ∧
∃ b2 : Bool,
cellH H4 ⟨q2, o1 + Int.toNat i_1 * 26 + 24, none⟩ = some (.bool b2) ∧
∃ s3 : ByteArray,
cellH H4 ⟨q2, o1 + Int.toNat i_1 * 26 + 25, none⟩ = some (.string s3) ∧
br (decide (((l2.n : Nat) : Int) > 70)) (
SelfEq ([.v (.slice script.p script.n script.c), .v (.pointer p2)], [], []) ∧
I1 n_1 given_1 term_1 now_1 (IntKind.wrap .i64 (i_1 + 1)) H4 ∧
M1 n_1 given_1 term_1 now_1 (IntKind.wrap .i64 (i_1 + 1)) H4 < M1 n_1 given_1 term_1 now_1 i_1 H4)
 (
br (decide (((s2.size : Nat) : Int) > 3000)) (
SelfEq ([.v (.slice script.p script.n script.c), .v (.pointer p2)], [], []) ∧
I1 n_1 given_1 term_1 now_1 (IntKind.wrap .i64 (i_1 + 1)) H4 ∧
M1 n_1 given_1 term_1 now_1 (IntKind.wrap .i64 (i_1 + 1)) H4 < M1 n_1 given_1 term_1 now_1 i_1 H4)
 (
∃ J1 : Option Addr → Int → Sl → Heap → Prop,
 (FnH Tryz.prog 10 #[.int .i64 n1, .int .i64 4] H4 fun r3 H5 =>
∃ n20 : Int,
r3 = .int .i64 n20 ∧
br ((n20 : Int) == 0) (
FnH Tryz.prog 10 #[.int .i64 n3, .int .i64 9] H5 fun r4 H6 =>
∃ n21 : Int,
r4 = .int .i64 n21 ∧
FnH Tryz.prog 11 #[.pointer n_1, .int .i64 (IntKind.wrap .i64 (now_1 + n21)), .int .i64 n2] H6 fun r5 H7 =>
∃ l4 : Sl,
r5 = .slice l4.p l4.n l4.c ∧
SelfEq ([.v (.slice script.p script.n script.c), .v (.pointer p2), .v (.slice given_1.p given_1.n given_1.c), .v (.int .i64 term_1), .v (.int .i64 i_1)], [some (35, [.int .i64 n1, .int .i64 n2, .int .i64 n3, .int .i64 n4, .int .i64 n5, .int .i64 n6, .int .i64 n7, .int .i64 n8, .int .i64 n9, .int .i64 n10, .int .i64 n11, .int .i64 n12, .int .i64 n13, .int .i64 n14, .int .i64 n15, .int .i64 n16, .int .i64 n17, .int .i64 n18, .int .i64 n19, .string s1, .string s2, .slice l1.p l1.n l1.c, .slice l2.p l2.n l2.c, .slice l3.p l3.n l3.c, .bool b2, .string s3])], []) ∧
J1 n_1 (IntKind.wrap .i64 (now_1 + n21)) l4 H7)
 (
br ((n20 : Int) == 1) (
FnH Tryz.prog 12 #[.pointer p2, .slice none 0 0] H5 fun r6 H8 =>
r6 = .tuple #[] ∧
∀ q3 : Nat,
H8 q3 = none →
letH (Heap.upd H8 q3 (.cells #[.int .i64 1, .int .i64 2, .int .i64 3] 3 (0, 0))) fun H9 =>
FnH Tryz.prog 13 #[.pointer p2, .int .i64 1, .slice (some ⟨q3, 0, none⟩) 3 3, .int .i64 10] H9 fun r7 H10 =>
∃ p3 : Option Addr,
r7 = .pointer p3 ∧
br (Option.isNone p3) (
K (.bool false) H10)
 (
SelfEq ([.v (.slice script.p script.n script.c), .v (.pointer p2), .v (.slice given_1.p given_1.n given_1.c), .v (.int .i64 term_1), .v (.int .i64 i_1)], [some (35, [.int .i64 n1, .int .i64 n2, .int .i64 n3, .int .i64 n4, .int .i64 n5, .int .i64 n6, .int .i64 n7, .int .i64 n8, .int .i64 n9, .int .i64 n10, .int .i64 n11, .int .i64 n12, .int .i64 n13, .int .i64 n14, .int .i64 n15, .int .i64 n16, .int .i64 n17, .int .i64 n18, .int .i64 n19, .string s1, .string s2, .slice l1.p l1.n l1.c, .slice l2.p l2.n l2.c, .slice l3.p l3.n l3.c, .bool b2, .string s3])], []) ∧
J1 p3 now_1 ⟨none, 0, 0⟩ H10))
 (
br (b2) (
FnH Tryz.prog 10 #[.int .i64 n2, .int .i64 2] H5 fun r8 H11 =>
∃ n22 : Int,
r8 = .int .i64 n22 ∧
FnH Tryz.prog 14 #[.pointer n_1] H11 fun r9 H12 =>
∃ n23 : Int,
r9 = .int .i64 n23 ∧
Sub H11 H12 ∧
FnH Tryz.prog 10 #[.int .i64 n14, .int .i64 2] H12 fun r10 H13 =>
∃ n24 : Int,
r10 = .int .i64 n24 ∧
Sub H11 H13 ∧
FnH Tryz.prog 15 #[.pointer n_1, .int .i64 now_1, .agg #[.int .i64 n4, .int .i64 (IntKind.wrap .i64 (2 + n22)), .int .i64 1, .int .i64 n7, .int .i64 n8, .int .i64 n9, .int .i64 n10, .int .i64 n11, .int .i64 n12, .int .i64 n13, .int .i64 (IntKind.wrap .i64 (n23 + n24)), .int .i64 n15, .int .i64 n16, .int .i64 n17, .int .i64 n18, .int .i64 n19, .string s1, .string s2, .slice l1.p l1.n l1.c, .slice l2.p l2.n l2.c, .slice l3.p l3.n l3.c]] H13 fun r11 H14 =>
∃ l5 : Sl,
r11 = .slice l5.p l5.n l5.c ∧
SelfEq ([.v (.slice script.p script.n script.c), .v (.pointer p2), .v (.slice given_1.p given_1.n given_1.c), .v (.int .i64 term_1), .v (.int .i64 i_1)], [some (35, [.int .i64 n1, .int .i64 n2, .int .i64 n3, .int .i64 n4, .int .i64 n5, .int .i64 n6, .int .i64 n7, .int .i64 n8, .int .i64 n9, .int .i64 n10, .int .i64 n11, .int .i64 n12, .int .i64 n13, .int .i64 n14, .int .i64 n15, .int .i64 n16, .int .i64 n17, .int .i64 n18, .int .i64 n19, .string s1, .string s2, .slice l1.p l1.n l1.c, .slice l2.p l2.n l2.c, .slice l3.p l3.n l3.c, .bool b2, .string s3])], []) ∧
J1 n_1 now_1 l5 H14)
 (
FnH Tryz.prog 15 #[.pointer n_1, .int .i64 now_1, .agg #[.int .i64 n4, .int .i64 n5, .int .i64 n6, .int .i64 n7, .int .i64 n8, .int .i64 n9, .int .i64 n10, .int .i64 n11, .int .i64 n12, .int .i64 n13, .int .i64 n14, .int .i64 n15, .int .i64 n16, .int .i64 n17, .int .i64 n18, .int .i64 n19, .string s1, .string s2, .slice l1.p l1.n l1.c, .slice l2.p l2.n l2.c, .slice l3.p l3.n l3.c]] H5 fun r12 H15 =>
∃ l6 : Sl,
r12 = .slice l6.p l6.n l6.c ∧
SelfEq ([.v (.slice script.p script.n script.c), .v (.pointer p2), .v (.slice given_1.p given_1.n given_1.c), .v (.int .i64 term_1), .v (.int .i64 i_1)], [some (35, [.int .i64 n1, .int .i64 n2, .int .i64 n3, .int .i64 n4, .int .i64 n5, .int .i64 n6, .int .i64 n7, .int .i64 n8, .int .i64 n9, .int .i64 n10, .int .i64 n11, .int .i64 n12, .int .i64 n13, .int .i64 n14, .int .i64 n15, .int .i64 n16, .int .i64 n17, .int .i64 n18, .int .i64 n19, .string s1, .string s2, .slice l1.p l1.n l1.c, .slice l2.p l2.n l2.c, .slice l3.p l3.n l3.c, .bool b2, .string s3])], []) ∧
J1 n_1 now_1 l6 H15)))) ∧
∀ n_2 : Option Addr,
∀ now_2 : Int,
∀ l_1 : Sl,
∀ H16 : Heap,
J1 n_2 now_2 l_1 H16 →
FnH Tryz.prog 14 #[.pointer n_2] H16 fun r13 H17 =>
∃ n25 : Int,
r13 = .int .i64 n25 ∧
br (decide ((n25 : Int) < term_1)) (
K (.bool false) H17)
 (
FnH Tryz.prog 14 #[.pointer n_2] H17 fun r14 H18 =>
∃ n26 : Int,
r14 = .int .i64 n26 ∧
FnH Tryz.prog 16 #[.slice given_1.p given_1.n given_1.c, .slice l_1.p l_1.n l_1.c] H18 fun r15 H19 =>
∃ l7 : Sl,
∃ b3 : Bool,
r15 = .tuple #[.slice l7.p l7.n l7.c, .bool b3] ∧
br (!b3) (
K (.bool false) H19)
 (
SelfEq ([.v (.slice script.p script.n script.c), .v (.pointer p2)], [], []) ∧
I1 n_2 l7 n26 now_2 (IntKind.wrap .i64 (i_1 + 1)) H19 ∧
M1 n_2 l7 n26 now_2 (IntKind.wrap .i64 (i_1 + 1)) H19 < M1 n_1 given_1 term_1 now_1 i_1 H4)))))
 (
K (.bool true) H4))
 (
K (.bool true) H4)))
theorem logboomlaw10_RaftVotes_fn (script : Sl) {H : Heap} {K : Value → Heap → Prop} (h : logboomlaw10_RaftVotes_vc script H K) : FnH Tryz.prog 3 #[.slice script.p script.n script.c] H K :=
  denFn_fn Tryz.mixed logboomlaw10_RaftVotes_ann Tryz.func3 (bodyOf_spec (by kernel_rfl)) (by kernel_rfl) h
end Go.Proofs.YthldclmeojkboaaGreatDoor
