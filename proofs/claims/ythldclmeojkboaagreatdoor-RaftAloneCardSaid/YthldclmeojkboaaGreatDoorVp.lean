import Derived.Test.YthldclmeojkboaaGreatDoorProg
import Derived.KernelRfl
import Derived.Test.YthldclmeojkboaaGreatDoorHlFn
import Derived.Test.YthldclmeojkboaaGreatDoorV1
namespace Go.Proofs.YthldclmeojkboaaGreatDoor
open Go.HL
set_option maxRecDepth 100000
def raftlog_Log_Put_ann : Anns := { hid := [10, 11], loops := [(0, { slots := [(2, .slice)], kept := [0], locs := [], keptL := [] })], joins := [((2, 0), { slots := [(2, .slice)], kept := [0], locs := [], keptL := [] }), ((0, 10), { slots := [(72, .bool)], kept := [0, 2], locs := [], keptL := [0, 1] }), ((11, 17), { slots := [(14, .int .i64)], kept := [0, 2, 13], locs := [], keptL := [] }), ((11, 25), { slots := [], kept := [0, 2, 13, 15, 16], locs := [], keptL := [] })], mix := [(9, [10]), (21, []), (25, [13])] }
def raftlog_Log_Put_vc (l lo : Nat) (after : Int) (ll2 : Sl) (H : Heap) (K : Value → Heap → Prop) : Prop :=
FnH Tryz.prog 33 #[.pointer (some ⟨l, lo, none⟩)] H fun r1 H1 =>
∃ n1 n2 : Int,
r1 = .tuple #[.int .i64 n1, .int .i64 n2] ∧
br (decide ((after : Int) < 0)) (
K (.int .i64 10) H1)
 (
br (decide ((after : Int) > n1)) (
K (.int .i64 10) H1)
 (
FnH Tryz.prog 142 #[.int .i64 after, .slice ll2.p ll2.n ll2.c] H1 fun r2 H2 =>
∃ n3 : Int,
r2 = .int .i64 n3 ∧
br ((n3 : Int) != 0) (
K (.int .i64 n3) H2)
 (
∃ J1 : Sl → Heap → Prop,
 (∃ I1 : Sl → Heap → Prop,
∃ M1 : Sl → Heap → Nat,
I1 ll2 H2 ∧
∀ l2_1 : Sl,
∀ H3 : Heap,
I1 l2_1 H3 →
br (decide (((l2_1.n : Nat) : Int) > 0)) (
∃ q1 o1 : Nat,
 (l2_1.p : Option Addr) = some ⟨q1, o1, none⟩ ∧
0 ≤ (0 : Int) ∧
 (0 : Int) < (l2_1.n : Nat) ∧
∃ n4 : Int,
cellH H3 ⟨q1, o1 + Int.toNat 0 * 3, none⟩ = some (.int .i64 n4) ∧
∃ n5 : Int,
cellH H3 ⟨q1, o1 + Int.toNat 0 * 3 + 1, none⟩ = some (.int .i64 n5) ∧
∃ s1 : ByteArray,
cellH H3 ⟨q1, o1 + Int.toNat 0 * 3 + 2, none⟩ = some (.string s1) ∧
 (FnH Tryz.prog 94 #[.pointer (some ⟨l, lo, none⟩), .int .i64 n5] H3 fun r3 H4 =>
∃ n6 n7 : Int,
∃ s2 : ByteArray,
∃ b1 : Bool,
r3 = .tuple #[.agg #[.int .i64 n6, .int .i64 n7, .string s2], .bool b1] ∧
Sub H3 H4 ∧
Sub H3 H4 ∧
∃ J2 : Bool → Heap → Prop,
 (∃ n8 : Int,
cellH H4 ⟨l, lo + 2, none⟩ = some (.int .i64 n8) ∧
br (decide ((n5 : Int) > n8)) (
br (!b1) (
SelfEq ([.v (.pointer (some ⟨l, lo, none⟩)), .v (.slice l2_1.p l2_1.n l2_1.c)], [some (51, [.int .i64 n4, .int .i64 n5, .string s1]), some (51, [.int .i64 n6, .int .i64 n7, .string s2])], []) ∧
J2 true H4)
 (
SelfEq ([.v (.pointer (some ⟨l, lo, none⟩)), .v (.slice l2_1.p l2_1.n l2_1.c)], [some (51, [.int .i64 n4, .int .i64 n5, .string s1]), some (51, [.int .i64 n6, .int .i64 n7, .string s2])], []) ∧
J2 ((n6 : Int) != n4) H4))
 (
SelfEq ([.v (.pointer (some ⟨l, lo, none⟩)), .v (.slice l2_1.p l2_1.n l2_1.c)], [some (51, [.int .i64 n4, .int .i64 n5, .string s1]), some (51, [.int .i64 n6, .int .i64 n7, .string s2])], []) ∧
J2 false H4)) ∧
∀ b_1 : Bool,
∀ H5 : Heap,
J2 b_1 H5 →
br (b_1) (
SelfEq ([.v (.pointer (some ⟨l, lo, none⟩))], [], []) ∧
J1 l2_1 H5)
 (
0 ≤ (1 : Int) ∧
 (1 : Int) ≤ (l2_1.n : Nat) ∧
SelfEq ([.v (.pointer (some ⟨l, lo, none⟩))], [], []) ∧
I1 ⟨(slP l2_1.p l2_1.c 1 3), Int.toNat ((l2_1.n : Nat) - 1), Int.toNat ((l2_1.c : Nat) - 1)⟩ H5 ∧
M1 ⟨(slP l2_1.p l2_1.c 1 3), Int.toNat ((l2_1.n : Nat) - 1), Int.toNat ((l2_1.c : Nat) - 1)⟩ H5 < M1 l2_1 H3)) ∧
Sub H3 H3 ∧
FnH Tryz.prog 94 #[.pointer (some ⟨l, lo, none⟩), .int .i64 n5] H3 fun r4 H6 =>
∃ n9 n10 : Int,
∃ s3 : ByteArray,
∃ b2 : Bool,
r4 = .tuple #[.agg #[.int .i64 n9, .int .i64 n10, .string s3], .bool b2] ∧
Sub H3 H6 ∧
∃ J3 : Bool → Heap → Prop,
 (∃ n11 : Int,
cellH H6 ⟨l, lo + 2, none⟩ = some (.int .i64 n11) ∧
br (decide ((n5 : Int) > n11)) (
br (!b2) (
SelfEq ([.v (.pointer (some ⟨l, lo, none⟩)), .v (.slice l2_1.p l2_1.n l2_1.c)], [some (51, [.int .i64 n4, .int .i64 n5, .string s1]), some (51, [.int .i64 n9, .int .i64 n10, .string s3])], []) ∧
J3 true H6)
 (
SelfEq ([.v (.pointer (some ⟨l, lo, none⟩)), .v (.slice l2_1.p l2_1.n l2_1.c)], [some (51, [.int .i64 n4, .int .i64 n5, .string s1]), some (51, [.int .i64 n9, .int .i64 n10, .string s3])], []) ∧
J3 ((n9 : Int) != n4) H6))
 (
SelfEq ([.v (.pointer (some ⟨l, lo, none⟩)), .v (.slice l2_1.p l2_1.n l2_1.c)], [some (51, [.int .i64 n4, .int .i64 n5, .string s1]), some (51, [.int .i64 n9, .int .i64 n10, .string s3])], []) ∧
J3 false H6)) ∧
∀ b_2 : Bool,
∀ H7 : Heap,
J3 b_2 H7 →
br (b_2) (
SelfEq ([.v (.pointer (some ⟨l, lo, none⟩))], [], []) ∧
J1 l2_1 H7)
 (
0 ≤ (1 : Int) ∧
 (1 : Int) ≤ (l2_1.n : Nat) ∧
SelfEq ([.v (.pointer (some ⟨l, lo, none⟩))], [], []) ∧
I1 ⟨(slP l2_1.p l2_1.c 1 3), Int.toNat ((l2_1.n : Nat) - 1), Int.toNat ((l2_1.c : Nat) - 1)⟩ H7 ∧
M1 ⟨(slP l2_1.p l2_1.c 1 3), Int.toNat ((l2_1.n : Nat) - 1), Int.toNat ((l2_1.c : Nat) - 1)⟩ H7 < M1 l2_1 H3))
 (
SelfEq ([.v (.pointer (some ⟨l, lo, none⟩))], [], []) ∧
J1 l2_1 H3)) ∧
∀ l2_2 : Sl,
∀ H8 : Heap,
J1 l2_2 H8 →
br (((l2_2.n : Nat) : Int) == 0) (
K (.int .i64 0) H8)
 (
∃ q2 o2 : Nat,
 (l2_2.p : Option Addr) = some ⟨q2, o2, none⟩ ∧
0 ≤ (0 : Int) ∧
 (0 : Int) < (l2_2.n : Nat) ∧
∃ n12 : Int,
cellH H8 ⟨q2, o2 + Int.toNat 0 * 3 + 1, none⟩ = some (.int .i64 n12) ∧
∃ n13 : Int,
cellH H8 ⟨l, lo + 2, none⟩ = some (.int .i64 n13) ∧
∃ n14 : Int,
cellH H8 ⟨l, lo + 3, none⟩ = some (.int .i64 n14) ∧
∃ J4 : Int → Heap → Prop,
 (br (decide (((IntKind.wrap .i64 ((IntKind.wrap .i64 (n12 - n13)) - 1)) : Int) > 0)) (
∃ l1 : Sl,
cellH H8 ⟨l, lo + 5, none⟩ = some (.slice l1.p l1.n l1.c) ∧
∃ q3 o3 : Nat,
 (l1.p : Option Addr) = some ⟨q3, o3, none⟩ ∧
0 ≤ ((IntKind.wrap .i64 ((IntKind.wrap .i64 ((IntKind.wrap .i64 (n12 - n13)) - 1)) - 1)) : Int) ∧
 ((IntKind.wrap .i64 ((IntKind.wrap .i64 ((IntKind.wrap .i64 (n12 - n13)) - 1)) - 1)) : Int) < (l1.n : Nat) ∧
∃ n15 : Int,
cellH H8 ⟨q3, o3 + Int.toNat (IntKind.wrap .i64 ((IntKind.wrap .i64 ((IntKind.wrap .i64 (n12 - n13)) - 1)) - 1)) * 3, none⟩ = some (.int .i64 n15) ∧
SelfEq ([.v (.pointer (some ⟨l, lo, none⟩)), .v (.slice l2_2.p l2_2.n l2_2.c), .v (.int .i64 (IntKind.wrap .i64 ((IntKind.wrap .i64 (n12 - n13)) - 1)))], [], []) ∧
J4 n15 H8)
 (
SelfEq ([.v (.pointer (some ⟨l, lo, none⟩)), .v (.slice l2_2.p l2_2.n l2_2.c), .v (.int .i64 (IntKind.wrap .i64 ((IntKind.wrap .i64 (n12 - n13)) - 1)))], [], []) ∧
J4 n14 H8)) ∧
∀ ahead_1 : Int,
∀ H9 : Heap,
J4 ahead_1 H9 →
∃ q4 o4 : Nat,
 (l2_2.p : Option Addr) = some ⟨q4, o4, none⟩ ∧
0 ≤ (0 : Int) ∧
 (0 : Int) < (l2_2.n : Nat) ∧
∃ n16 : Int,
cellH H9 ⟨q4, o4 + Int.toNat 0 * 3, none⟩ = some (.int .i64 n16) ∧
br (decide ((n16 : Int) < ahead_1)) (
K (.int .i64 1) H9)
 (
∃ s4 : ByteArray,
cellH H9 ⟨l, lo + 7, none⟩ = some (.string s4) ∧
s4.size + (⟨#[46, 108, 111, 103]⟩ : ByteArray).size < 9223372036854775808 ∧
∃ l2 : Sl,
cellH H9 ⟨l, lo + 5, none⟩ = some (.slice l2.p l2.n l2.c) ∧
0 ≤ (IntKind.wrap .i64 ((IntKind.wrap .i64 (n12 - n13)) - 1) : Int) ∧
 (IntKind.wrap .i64 ((IntKind.wrap .i64 (n12 - n13)) - 1) : Int) ≤ (l2.n : Nat) ∧
FnH Tryz.prog 103 #[.slice l2_2.p l2_2.n l2_2.c] H9 fun r5 H10 =>
∃ s5 : ByteArray,
r5 = .string s5 ∧
Sub H9 H10 ∧
FnH Tryz.prog 103 #[.slice (slP l2.p l2.c (IntKind.wrap .i64 ((IntKind.wrap .i64 (n12 - n13)) - 1)) 3) (Int.toNat ((l2.n : Nat) - (IntKind.wrap .i64 ((IntKind.wrap .i64 (n12 - n13)) - 1)))) (Int.toNat ((l2.c : Nat) - (IntKind.wrap .i64 ((IntKind.wrap .i64 (n12 - n13)) - 1))))] H10 fun r6 H11 =>
∃ s6 : ByteArray,
r6 = .string s6 ∧
Sub H9 H11 ∧
∃ p1 : Option Addr,
cellH H11 ⟨l, lo + 6, none⟩ = some (.pointer p1) ∧
FnH Tryz.prog 138 #[.pointer p1] H11 fun r7 H12 =>
∃ n17 : Int,
r7 = .int .i64 n17 ∧
br (decide (((s5.size : Nat) : Int) > (IntKind.wrap .i64 (n17 + (s6.size : Nat))))) (
K (.int .i64 7) H12)
 (
∃ J5 : Heap → Prop,
 (br (decide (((s6.size : Nat) : Int) > 0)) (
∃ p2 : Option Addr,
cellH H12 ⟨l, lo + 6, none⟩ = some (.pointer p2) ∧
∃ p3 : Option Addr,
cellH H12 ⟨l, lo + 6, none⟩ = some (.pointer p3) ∧
FnH Tryz.prog 139 #[.pointer p3, .string (s4 ++ (⟨#[46, 108, 111, 103]⟩ : ByteArray))] H12 fun r8 H13 =>
∃ n18 : Int,
r8 = .int .i64 n18 ∧
Sub H12 H13 ∧
FnH Tryz.prog 102 #[.pointer p2, .string (s4 ++ (⟨#[46, 108, 111, 103]⟩ : ByteArray)), .int .i64 (IntKind.wrap .i64 (n18 - (s6.size : Nat)))] H13 fun r9 H14 =>
∃ n19 : Int,
r9 = .int .i64 n19 ∧
SelfEq ([.v (.pointer (some ⟨l, lo, none⟩)), .v (.slice l2_2.p l2_2.n l2_2.c), .v (.int .i64 (IntKind.wrap .i64 ((IntKind.wrap .i64 (n12 - n13)) - 1))), .v (.string (s4 ++ (⟨#[46, 108, 111, 103]⟩ : ByteArray))), .v (.string s5)], [], []) ∧
J5 H14)
 (
SelfEq ([.v (.pointer (some ⟨l, lo, none⟩)), .v (.slice l2_2.p l2_2.n l2_2.c), .v (.int .i64 (IntKind.wrap .i64 ((IntKind.wrap .i64 (n12 - n13)) - 1))), .v (.string (s4 ++ (⟨#[46, 108, 111, 103]⟩ : ByteArray))), .v (.string s5)], [], []) ∧
J5 H12)) ∧
∀ H15 : Heap,
J5 H15 →
∃ p4 : Option Addr,
cellH H15 ⟨l, lo + 6, none⟩ = some (.pointer p4) ∧
FnH Tryz.prog 143 #[.pointer p4, .string (s4 ++ (⟨#[46, 108, 111, 103]⟩ : ByteArray)), .string s5] H15 fun r10 H16 =>
∃ n20 : Int,
r10 = .int .i64 n20 ∧
br ((n20 : Int) != 0) (
K (.int .i64 n20) H16)
 (
∃ p5 : Option Addr,
cellH H16 ⟨l, lo + 6, none⟩ = some (.pointer p5) ∧
FnH Tryz.prog 144 #[.pointer p5, .string (s4 ++ (⟨#[46, 108, 111, 103]⟩ : ByteArray))] H16 fun r11 H17 =>
∃ n21 : Int,
r11 = .int .i64 n21 ∧
∃ l3 : Sl,
cellH H17 ⟨l, lo + 5, none⟩ = some (.slice l3.p l3.n l3.c) ∧
0 ≤ (IntKind.wrap .i64 ((IntKind.wrap .i64 (n12 - n13)) - 1) : Int) ∧
 (IntKind.wrap .i64 ((IntKind.wrap .i64 (n12 - n13)) - 1) : Int) ≤ ((l3.c : Nat) : Int) ∧
0 ≤ (IntKind.wrap .i64 ((IntKind.wrap .i64 (n12 - n13)) - 1) : Int) ∧
 (IntKind.wrap .i64 ((IntKind.wrap .i64 (n12 - n13)) - 1) : Int) ≤ (IntKind.wrap .i64 ((IntKind.wrap .i64 (n12 - n13)) - 1)) ∧
runH Tryz.prog (Builtin.append_ #[29, 29] 29 #[.slice (slP l3.p (Int.toNat (IntKind.wrap .i64 ((IntKind.wrap .i64 (n12 - n13)) - 1))) (0 : Int) 3) (Int.toNat (IntKind.wrap .i64 ((IntKind.wrap .i64 (n12 - n13)) - 1))) (Int.toNat (IntKind.wrap .i64 ((IntKind.wrap .i64 (n12 - n13)) - 1))), .slice l2_2.p l2_2.n l2_2.c]) H17 fun r12 H18 =>
∃ l4 : Sl,
r12 = .slice l4.p l4.n l4.c ∧
 (∃ u, cellH H18 ⟨l, lo + 5, none⟩ = some u) ∧
frozenH H18 ⟨l, lo + 5, none⟩ = false ∧
letH (Heap.set H18 ⟨l, lo + 5, none⟩ (.slice l4.p l4.n l4.c)) fun H19 =>
K (.int .i64 0) H19)))))))
theorem raftlog_Log_Put_fn (l lo : Nat) (after : Int) (ll2 : Sl) {H : Heap} {K : Value → Heap → Prop} (h : raftlog_Log_Put_vc l lo after ll2 H K) : FnH Tryz.prog 91 #[.pointer (some ⟨l, lo, none⟩), .int .i64 after, .slice ll2.p ll2.n ll2.c] H K :=
  denFn_fn Tryz.mixed raftlog_Log_Put_ann Tryz.func91 (bodyOf_spec (by kernel_rfl)) (by kernel_rfl) h
end Go.Proofs.YthldclmeojkboaaGreatDoor
