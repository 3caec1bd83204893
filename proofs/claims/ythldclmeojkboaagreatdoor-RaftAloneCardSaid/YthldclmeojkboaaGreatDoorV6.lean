import Derived.Test.YthldclmeojkboaaGreatDoorProg
import Derived.KernelRfl
import Derived.Test.YthldclmeojkboaaGreatDoorHlFn
import Derived.Test.YthldclmeojkboaaGreatDoorV5
namespace Go.Proofs.YthldclmeojkboaaGreatDoor
open Go.HL
set_option maxRecDepth 100000
def logboomlaw10_RaftAlone_ann : Anns := { hid := [], loops := [(0, { slots := [(8, .slice), (9, .int .i64)], kept := [0, 1, 6, 7], locs := [], keptL := [] }), (2, { slots := [(15, .int .i64)], kept := [8, 13], locs := [], keptL := [] })], joins := [((12, 0), { slots := [(8, .slice)], kept := [1, 6, 7], locs := [], keptL := [] }), ((11, 19), { slots := [(6, .ptr)], kept := [8], locs := [], keptL := [] })], mix := [] }
def logboomlaw10_RaftAlone_vc (data : Sl) (cut : Int) (H : Heap) (K : Value → Heap → Prop) : Prop :=
FnH Tryz.prog 8 #[] H fun r1 H1 =>
∃ b1 : Bool,
r1 = .bool b1 ∧
∀ q1 : Nat,
H1 q1 = none →
letH (Heap.upd H1 q1 (.cells #[.int .i64 3] 3 (0, 0))) fun H2 =>
FnH Tryz.prog 9 #[.int .i64 3, .slice (some ⟨q1, 0, none⟩) 1 1, .int .i64 10] H2 fun r2 H3 =>
∃ p1 p2 : Option Addr,
r2 = .tuple #[.pointer p1, .pointer p2] ∧
br (!b1) (
K (.bool false) H3)
 (
br (Option.isNone p1) (
K (.bool false) H3)
 (
FnH Tryz.prog 11 #[.pointer p1, .int .i64 0, .int .i64 0] H3 fun r3 H4 =>
∃ l1 : Sl,
r3 = .slice l1.p l1.n l1.c ∧
FnH Tryz.prog 11 #[.pointer p1, .int .i64 10, .int .i64 0] H4 fun r4 H5 =>
∃ l2 : Sl,
r4 = .slice l2.p l2.n l2.c ∧
∃ J1 : Sl → Heap → Prop,
 (∃ I1 : Sl → Int → Heap → Prop,
∃ M1 : Sl → Int → Heap → Nat,
I1 ⟨none, 0, 0⟩ 0 H5 ∧
∀ want_1 : Sl,
∀ i_1 : Int,
∀ H6 : Heap,
I1 want_1 i_1 H6 →
br (decide ((i_1 : Int) < (data.n : Nat))) (
br (decide ((i_1 : Int) < 30)) (
∃ q2 o1 : Nat,
 (data.p : Option Addr) = some ⟨q2, o1, none⟩ ∧
0 ≤ (i_1 : Int) ∧
 (i_1 : Int) < (data.n : Nat) ∧
∃ s1 : ByteArray,
cellH H6 ⟨q2, o1 + Int.toNat i_1, none⟩ = some (.string s1) ∧
FnH Tryz.prog 17 #[.pointer p1, .int .i64 11, .string s1] H6 fun r5 H7 =>
∃ n1 : Int,
∃ l3 : Sl,
∃ n2 : Int,
r5 = .tuple #[.int .i64 n1, .slice l3.p l3.n l3.c, .int .i64 n2] ∧
∃ q3 o2 : Nat,
 (data.p : Option Addr) = some ⟨q3, o2, none⟩ ∧
0 ≤ (i_1 : Int) ∧
 (i_1 : Int) < (data.n : Nat) ∧
∃ s2 : ByteArray,
cellH H7 ⟨q3, o2 + Int.toNat i_1, none⟩ = some (.string s2) ∧
br (decide (((s2.size : Nat) : Int) > 2048)) (
br ((n2 : Int) != 2) (
K (.bool false) H7)
 (
SelfEq ([.v (.slice data.p data.n data.c), .v (.int .i64 cut), .v (.pointer p1), .v (.pointer p2)], [], []) ∧
I1 want_1 (IntKind.wrap .i64 (i_1 + 1)) H7 ∧
M1 want_1 (IntKind.wrap .i64 (i_1 + 1)) H7 < M1 want_1 i_1 H6))
 (
br ((n2 : Int) != 0) (
K (.bool false) H7)
 (
br ((n1 : Int) != (IntKind.wrap .i64 ((want_1.n : Nat) + 2))) (
K (.bool false) H7)
 (
br (((l3.n : Nat) : Int) != 0) (
K (.bool false) H7)
 (
FnH Tryz.prog 18 #[.pointer p1] H7 fun r6 H8 =>
∃ n3 : Int,
r6 = .int .i64 n3 ∧
br ((n3 : Int) != n1) (
K (.bool false) H8)
 (
∃ q4 o3 : Nat,
 (data.p : Option Addr) = some ⟨q4, o3, none⟩ ∧
0 ≤ (i_1 : Int) ∧
 (i_1 : Int) < (data.n : Nat) ∧
∃ s3 : ByteArray,
cellH H8 ⟨q4, o3 + Int.toNat i_1, none⟩ = some (.string s3) ∧
∀ q5 : Nat,
H8 q5 = none →
letH (Heap.upd H8 q5 (.cells #[.string s3] 9 (0, 0))) fun H9 =>
runH Tryz.prog (Builtin.append_ #[46, 46] 46 #[.slice want_1.p want_1.n want_1.c, .slice (some ⟨q5, 0, none⟩) 1 1]) H9 fun r7 H10 =>
∃ l4 : Sl,
r7 = .slice l4.p l4.n l4.c ∧
SelfEq ([.v (.slice data.p data.n data.c), .v (.int .i64 cut), .v (.pointer p1), .v (.pointer p2)], [], []) ∧
I1 l4 (IntKind.wrap .i64 (i_1 + 1)) H10 ∧
M1 l4 (IntKind.wrap .i64 (i_1 + 1)) H10 < M1 want_1 i_1 H6))))))
 (
SelfEq ([.v (.int .i64 cut), .v (.pointer p1), .v (.pointer p2)], [], []) ∧
J1 want_1 H6))
 (
SelfEq ([.v (.int .i64 cut), .v (.pointer p1), .v (.pointer p2)], [], []) ∧
J1 want_1 H6)) ∧
∀ want_2 : Sl,
∀ H11 : Heap,
J1 want_2 H11 →
∃ J2 : Option Addr → Heap → Prop,
 (FnH Tryz.prog 10 #[.int .i64 cut, .int .i64 2] H11 fun r8 H12 =>
∃ n4 : Int,
r8 = .int .i64 n4 ∧
br ((n4 : Int) == 1) (
FnH Tryz.prog 12 #[.pointer p2, .slice none 0 0] H12 fun r9 H13 =>
r9 = .tuple #[] ∧
∀ q6 : Nat,
H13 q6 = none →
letH (Heap.upd H13 q6 (.cells #[.int .i64 3] 3 (0, 0))) fun H14 =>
FnH Tryz.prog 13 #[.pointer p2, .int .i64 3, .slice (some ⟨q6, 0, none⟩) 1 1, .int .i64 10] H14 fun r10 H15 =>
∃ p3 : Option Addr,
r10 = .pointer p3 ∧
br (Option.isNone p3) (
K (.bool false) H15)
 (
FnH Tryz.prog 11 #[.pointer p3, .int .i64 20, .int .i64 0] H15 fun r11 H16 =>
∃ l5 : Sl,
r11 = .slice l5.p l5.n l5.c ∧
FnH Tryz.prog 11 #[.pointer p3, .int .i64 30, .int .i64 0] H16 fun r12 H17 =>
∃ l6 : Sl,
r12 = .slice l6.p l6.n l6.c ∧
SelfEq ([.v (.slice want_2.p want_2.n want_2.c)], [], []) ∧
J2 p3 H17))
 (
SelfEq ([.v (.slice want_2.p want_2.n want_2.c)], [], []) ∧
J2 p1 H12)) ∧
∀ n_1 : Option Addr,
∀ H18 : Heap,
J2 n_1 H18 →
FnH Tryz.prog 19 #[.pointer n_1] H18 fun r13 H19 =>
∃ l7 : Sl,
∃ b2 : Bool,
r13 = .tuple #[.slice l7.p l7.n l7.c, .bool b2] ∧
br (b2) (
K (.bool false) H19)
 (
FnH Tryz.prog 20 #[.pointer n_1] H19 fun r14 H20 =>
∃ b3 : Bool,
r14 = .bool b3 ∧
br (!b3) (
K (.bool false) H20)
 (
br (decide (((l7.n : Nat) : Int) < (IntKind.wrap .i64 ((want_2.n : Nat) + 1)))) (
K (.bool false) H20)
 (
∃ I2 : Int → Heap → Prop,
∃ M2 : Int → Heap → Nat,
I2 0 H20 ∧
∀ i_2 : Int,
∀ H21 : Heap,
I2 i_2 H21 →
br (decide ((i_2 : Int) < (want_2.n : Nat))) (
∃ q7 o4 : Nat,
 (l7.p : Option Addr) = some ⟨q7, o4, none⟩ ∧
0 ≤ ((IntKind.wrap .i64 (i_2 + 1)) : Int) ∧
 ((IntKind.wrap .i64 (i_2 + 1)) : Int) < (l7.n : Nat) ∧
∃ s4 : ByteArray,
cellH H21 ⟨q7, o4 + Int.toNat (IntKind.wrap .i64 (i_2 + 1)) * 3 + 2, none⟩ = some (.string s4) ∧
∃ q8 o5 : Nat,
 (want_2.p : Option Addr) = some ⟨q8, o5, none⟩ ∧
0 ≤ (i_2 : Int) ∧
 (i_2 : Int) < (want_2.n : Nat) ∧
∃ s5 : ByteArray,
cellH H21 ⟨q8, o5 + Int.toNat i_2, none⟩ = some (.string s5) ∧
br (!(s4.toList == s5.toList)) (
K (.bool false) H21)
 (
∃ q9 o6 : Nat,
 (l7.p : Option Addr) = some ⟨q9, o6, none⟩ ∧
0 ≤ ((IntKind.wrap .i64 (i_2 + 1)) : Int) ∧
 ((IntKind.wrap .i64 (i_2 + 1)) : Int) < (l7.n : Nat) ∧
∃ n5 : Int,
cellH H21 ⟨q9, o6 + Int.toNat (IntKind.wrap .i64 (i_2 + 1)) * 3 + 1, none⟩ = some (.int .i64 n5) ∧
br ((n5 : Int) != (IntKind.wrap .i64 (i_2 + 2))) (
K (.bool false) H21)
 (
SelfEq ([.v (.slice want_2.p want_2.n want_2.c), .v (.slice l7.p l7.n l7.c)], [], []) ∧
I2 (IntKind.wrap .i64 (i_2 + 1)) H21 ∧
M2 (IntKind.wrap .i64 (i_2 + 1)) H21 < M2 i_2 H21)))
 (
K (.bool true) H21))))))
theorem logboomlaw10_RaftAlone_fn (data : Sl) (cut : Int) {H : Heap} {K : Value → Heap → Prop} (h : logboomlaw10_RaftAlone_vc data cut H K) : FnH Tryz.prog 4 #[.slice data.p data.n data.c, .int .i64 cut] H K :=
  denFn_fn Tryz.mixed logboomlaw10_RaftAlone_ann Tryz.func4 (bodyOf_spec (by kernel_rfl)) (by kernel_rfl) h
end Go.Proofs.YthldclmeojkboaaGreatDoor
