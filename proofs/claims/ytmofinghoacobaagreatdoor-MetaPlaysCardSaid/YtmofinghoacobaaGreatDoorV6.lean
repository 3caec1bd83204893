import Derived.Test.YtmofinghoacobaaGreatDoorProg
import Derived.KernelRfl
import Derived.Test.YtmofinghoacobaaGreatDoorHlFn
import Derived.Test.YtmofinghoacobaaGreatDoorV5
namespace Go.Proofs.YtmofinghoacobaaGreatDoor
open Go.HL
set_option maxRecDepth 100000
def meta_Image_register_ann : Anns := { hid := [3, 6], loops := [], joins := [], mix := [(3, [11]), (8, [9])] }
def meta_Image_register_vc (m mo : Nat) (r_0 r_1 r_2 r_3 r_4 : Int) (r_5 r_6 : ByteArray) (r_7 : Sl) (H : Heap) (K : Value → Heap → Prop) : Prop :=
br (decide ((r_1 : Int) < 1)) (
K (.tuple #[.int .i64 0, .int .i64 1]) H)
 (
br (decide ((r_1 : Int) > 7)) (
K (.tuple #[.int .i64 0, .int .i64 1]) H)
 (
br (decide ((r_2 : Int) < 1)) (
K (.tuple #[.int .i64 0, .int .i64 1]) H)
 (
br (decide ((r_2 : Int) > 1000000000)) (
K (.tuple #[.int .i64 0, .int .i64 1]) H)
 (
∃ m1 : Option Nat,
cellH H ⟨m, mo + 1, none⟩ = some (.map m1) ∧
 (runH Tryz.prog (Instr.lookup 67 (.map m1) (.int .i64 r_1) true) H fun r1 H1 =>
∃ n1 : Int,
∃ b1 b2 : Bool,
r1 = .tuple #[.agg #[.int .i64 n1, .bool b1], .bool b2] ∧
Sub H H1 ∧
Sub H H1 ∧
br (b2) (
br (decide ((r_2 : Int) ≤ n1)) (
K (.tuple #[.int .i64 0, .int .i64 13]) H1)
 (
br (b1) (
FnH Tryz.prog 67 #[.pointer (some ⟨m, mo, none⟩), .int .i64 r_1] H1 fun r2 H2 =>
r2 = .tuple #[] ∧
∃ m2 : Option Nat,
cellH H2 ⟨m, mo + 1, none⟩ = some (.map m2) ∧
runH Tryz.prog (Instr.mapUpdate 67 (.map m2) (.int .i64 r_1) (.agg #[.int .i64 r_2, .bool false])) H2 fun _ H3 =>
K (.tuple #[.int .i64 r_1, .int .i64 0]) H3)
 (
∃ m3 : Option Nat,
cellH H1 ⟨m, mo + 1, none⟩ = some (.map m3) ∧
runH Tryz.prog (Instr.mapUpdate 67 (.map m3) (.int .i64 r_1) (.agg #[.int .i64 r_2, .bool false])) H1 fun _ H4 =>
K (.tuple #[.int .i64 r_1, .int .i64 0]) H4)))
 (
br (b1) (
FnH Tryz.prog 67 #[.pointer (some ⟨m, mo, none⟩), .int .i64 r_1] H1 fun r3 H5 =>
r3 = .tuple #[] ∧
∃ m4 : Option Nat,
cellH H5 ⟨m, mo + 1, none⟩ = some (.map m4) ∧
runH Tryz.prog (Instr.mapUpdate 67 (.map m4) (.int .i64 r_1) (.agg #[.int .i64 r_2, .bool false])) H5 fun _ H6 =>
K (.tuple #[.int .i64 r_1, .int .i64 0]) H6)
 (
∃ m5 : Option Nat,
cellH H1 ⟨m, mo + 1, none⟩ = some (.map m5) ∧
runH Tryz.prog (Instr.mapUpdate 67 (.map m5) (.int .i64 r_1) (.agg #[.int .i64 r_2, .bool false])) H1 fun _ H7 =>
K (.tuple #[.int .i64 r_1, .int .i64 0]) H7))) ∧
Sub H H ∧
runH Tryz.prog (Instr.lookup 67 (.map m1) (.int .i64 r_1) true) H fun r4 H8 =>
∃ n2 : Int,
∃ b3 b4 : Bool,
r4 = .tuple #[.agg #[.int .i64 n2, .bool b3], .bool b4] ∧
Sub H H8 ∧
br (b4) (
br (decide ((r_2 : Int) ≤ n2)) (
K (.tuple #[.int .i64 0, .int .i64 13]) H8)
 (
br (b3) (
FnH Tryz.prog 67 #[.pointer (some ⟨m, mo, none⟩), .int .i64 r_1] H8 fun r5 H9 =>
r5 = .tuple #[] ∧
∃ m6 : Option Nat,
cellH H9 ⟨m, mo + 1, none⟩ = some (.map m6) ∧
runH Tryz.prog (Instr.mapUpdate 67 (.map m6) (.int .i64 r_1) (.agg #[.int .i64 r_2, .bool false])) H9 fun _ H10 =>
K (.tuple #[.int .i64 r_1, .int .i64 0]) H10)
 (
∃ m7 : Option Nat,
cellH H8 ⟨m, mo + 1, none⟩ = some (.map m7) ∧
runH Tryz.prog (Instr.mapUpdate 67 (.map m7) (.int .i64 r_1) (.agg #[.int .i64 r_2, .bool false])) H8 fun _ H11 =>
K (.tuple #[.int .i64 r_1, .int .i64 0]) H11)))
 (
br (b3) (
FnH Tryz.prog 67 #[.pointer (some ⟨m, mo, none⟩), .int .i64 r_1] H8 fun r6 H12 =>
r6 = .tuple #[] ∧
∃ m8 : Option Nat,
cellH H12 ⟨m, mo + 1, none⟩ = some (.map m8) ∧
runH Tryz.prog (Instr.mapUpdate 67 (.map m8) (.int .i64 r_1) (.agg #[.int .i64 r_2, .bool false])) H12 fun _ H13 =>
K (.tuple #[.int .i64 r_1, .int .i64 0]) H13)
 (
∃ m9 : Option Nat,
cellH H8 ⟨m, mo + 1, none⟩ = some (.map m9) ∧
runH Tryz.prog (Instr.mapUpdate 67 (.map m9) (.int .i64 r_1) (.agg #[.int .i64 r_2, .bool false])) H8 fun _ H14 =>
K (.tuple #[.int .i64 r_1, .int .i64 0]) H14))))))
theorem meta_Image_register_fn (m mo : Nat) (r_0 r_1 r_2 r_3 r_4 : Int) (r_5 r_6 : ByteArray) (r_7 : Sl) {H : Heap} {K : Value → Heap → Prop} (h : meta_Image_register_vc m mo r_0 r_1 r_2 r_3 r_4 r_5 r_6 r_7 H K) : FnH Tryz.prog 32 #[.pointer (some ⟨m, mo, none⟩), .agg #[.int .i64 r_0, .int .i64 r_1, .int .i64 r_2, .int .i64 r_3, .int .i64 r_4, .string r_5, .string r_6, .slice r_7.p r_7.n r_7.c]] H K :=
  denFn_fn Tryz.mixed meta_Image_register_ann Tryz.func32 (bodyOf_spec (by kernel_rfl)) (by kernel_rfl) h
def meta_Image_turn_ann : Anns := { hid := [6], loops := [], joins := [((0, 3), { slots := [(22, .bool)], kept := [0, 3, 6, 7, 8], locs := [], keptL := [0] })], mix := [(1, [11]), (14, [9])] }
def meta_Image_turn_vc (m mo : Nat) (r_0 r_1 r_2 r_3 r_4 : Int) (r_5 r_6 : ByteArray) (r_7 : Sl) (H : Heap) (K : Value → Heap → Prop) : Prop :=
∀ q1 : Nat,
H q1 = none →
letH (Heap.upd H q1 (.cells #[.int .i64 r_0, .int .i64 r_1, .int .i64 r_2, .int .i64 r_3, .int .i64 r_4, .string r_5, .string r_6, .slice r_7.p r_7.n r_7.c] 31 (0, 0))) fun H1 =>
∃ m1 : Option Nat,
cellH H1 ⟨m, mo + 1, none⟩ = some (.map m1) ∧
∃ n1 : Int,
cellH H1 ⟨q1, 1, none⟩ = some (.int .i64 n1) ∧
 (runH Tryz.prog (Instr.lookup 67 (.map m1) (.int .i64 n1) true) H1 fun r1 H2 =>
∃ n2 : Int,
∃ b1 b2 : Bool,
r1 = .tuple #[.agg #[.int .i64 n2, .bool b1], .bool b2] ∧
Sub H1 H2 ∧
Sub H1 H2 ∧
∃ n3 : Int,
cellH H2 ⟨q1, 0, none⟩ = some (.int .i64 n3) ∧
∃ J1 : Bool → Heap → Prop,
 (∃ n4 : Int,
cellH H2 ⟨q1, 1, none⟩ = some (.int .i64 n4) ∧
br (decide ((n4 : Int) < 1)) (
SelfEq ([.v (.pointer (some ⟨m, mo, none⟩)), .v (.pointer (some ⟨q1, 0, none⟩)), .loc 0 0, .v (.bool b2), .v (.bool ((n3 : Int) == 3))], [some (78, [.int .i64 n2, .bool b1])], []) ∧
J1 true H2)
 (
∃ n5 : Int,
cellH H2 ⟨q1, 1, none⟩ = some (.int .i64 n5) ∧
SelfEq ([.v (.pointer (some ⟨m, mo, none⟩)), .v (.pointer (some ⟨q1, 0, none⟩)), .loc 0 0, .v (.bool b2), .v (.bool ((n3 : Int) == 3))], [some (78, [.int .i64 n2, .bool b1])], []) ∧
J1 (decide ((n5 : Int) > 7)) H2)) ∧
∀ b_1 : Bool,
∀ H3 : Heap,
J1 b_1 H3 →
br (b_1) (
K (.tuple #[.int .i64 0, .int .i64 1]) H3)
 (
br (!b2) (
K (.tuple #[.int .i64 0, .int .i64 8]) H3)
 (
∃ n6 : Int,
cellH H3 ⟨q1, 2, none⟩ = some (.int .i64 n6) ∧
br ((n2 : Int) != n6) (
K (.tuple #[.int .i64 0, .int .i64 13]) H3)
 (
br ((b1 == ((n3 : Int) == 3))) (
K (.tuple #[.int .i64 0, .int .i64 19]) H3)
 (
br (!((n3 : Int) == 3)) (
∃ n7 : Int,
cellH H3 ⟨q1, 1, none⟩ = some (.int .i64 n7) ∧
FnH Tryz.prog 67 #[.pointer (some ⟨m, mo, none⟩), .int .i64 n7] H3 fun r2 H4 =>
r2 = .tuple #[] ∧
∃ n8 : Int,
cellH H4 ⟨q1, 1, none⟩ = some (.int .i64 n8) ∧
K (.tuple #[.int .i64 n8, .int .i64 0]) H4)
 (
∃ m2 : Option Nat,
cellH H3 ⟨m, mo + 1, none⟩ = some (.map m2) ∧
∃ n9 : Int,
cellH H3 ⟨q1, 1, none⟩ = some (.int .i64 n9) ∧
runH Tryz.prog (Instr.mapUpdate 67 (.map m2) (.int .i64 n9) (.agg #[.int .i64 n2, .bool true])) H3 fun _ H5 =>
FnH Tryz.prog 68 #[.pointer (some ⟨m, mo, none⟩), .func (.func 69) #[] #[.pointer (some ⟨q1, 0, none⟩)]] H5 fun r3 H6 =>
r3 = .tuple #[] ∧
∃ n10 : Int,
cellH H6 ⟨q1, 1, none⟩ = some (.int .i64 n10) ∧
K (.tuple #[.int .i64 n10, .int .i64 0]) H6)))))) ∧
Sub H1 H1 ∧
runH Tryz.prog (Instr.lookup 67 (.map m1) (.int .i64 n1) true) H1 fun r4 H7 =>
∃ n11 : Int,
∃ b3 b4 : Bool,
r4 = .tuple #[.agg #[.int .i64 n11, .bool b3], .bool b4] ∧
Sub H1 H7 ∧
∃ n12 : Int,
cellH H7 ⟨q1, 0, none⟩ = some (.int .i64 n12) ∧
∃ J2 : Bool → Heap → Prop,
 (∃ n13 : Int,
cellH H7 ⟨q1, 1, none⟩ = some (.int .i64 n13) ∧
br (decide ((n13 : Int) < 1)) (
SelfEq ([.v (.pointer (some ⟨m, mo, none⟩)), .v (.pointer (some ⟨q1, 0, none⟩)), .loc 0 0, .v (.bool b4), .v (.bool ((n12 : Int) == 3))], [some (78, [.int .i64 n11, .bool b3])], []) ∧
J2 true H7)
 (
∃ n14 : Int,
cellH H7 ⟨q1, 1, none⟩ = some (.int .i64 n14) ∧
SelfEq ([.v (.pointer (some ⟨m, mo, none⟩)), .v (.pointer (some ⟨q1, 0, none⟩)), .loc 0 0, .v (.bool b4), .v (.bool ((n12 : Int) == 3))], [some (78, [.int .i64 n11, .bool b3])], []) ∧
J2 (decide ((n14 : Int) > 7)) H7)) ∧
∀ b_2 : Bool,
∀ H8 : Heap,
J2 b_2 H8 →
br (b_2) (
K (.tuple #[.int .i64 0, .int .i64 1]) H8)
 (
br (!b4) (
K (.tuple #[.int .i64 0, .int .i64 8]) H8)
 (
∃ n15 : Int,
cellH H8 ⟨q1, 2, none⟩ = some (.int .i64 n15) ∧
br ((n11 : Int) != n15) (
K (.tuple #[.int .i64 0, .int .i64 13]) H8)
 (
br ((b3 == ((n12 : Int) == 3))) (
K (.tuple #[.int .i64 0, .int .i64 19]) H8)
 (
br (!((n12 : Int) == 3)) (
∃ n16 : Int,
cellH H8 ⟨q1, 1, none⟩ = some (.int .i64 n16) ∧
FnH Tryz.prog 67 #[.pointer (some ⟨m, mo, none⟩), .int .i64 n16] H8 fun r5 H9 =>
r5 = .tuple #[] ∧
∃ n17 : Int,
cellH H9 ⟨q1, 1, none⟩ = some (.int .i64 n17) ∧
K (.tuple #[.int .i64 n17, .int .i64 0]) H9)
 (
∃ m3 : Option Nat,
cellH H8 ⟨m, mo + 1, none⟩ = some (.map m3) ∧
∃ n18 : Int,
cellH H8 ⟨q1, 1, none⟩ = some (.int .i64 n18) ∧
runH Tryz.prog (Instr.mapUpdate 67 (.map m3) (.int .i64 n18) (.agg #[.int .i64 n11, .bool true])) H8 fun _ H10 =>
FnH Tryz.prog 68 #[.pointer (some ⟨m, mo, none⟩), .func (.func 69) #[] #[.pointer (some ⟨q1, 0, none⟩)]] H10 fun r6 H11 =>
r6 = .tuple #[] ∧
∃ n19 : Int,
cellH H11 ⟨q1, 1, none⟩ = some (.int .i64 n19) ∧
K (.tuple #[.int .i64 n19, .int .i64 0]) H11)))))
theorem meta_Image_turn_fn (m mo : Nat) (r_0 r_1 r_2 r_3 r_4 : Int) (r_5 r_6 : ByteArray) (r_7 : Sl) {H : Heap} {K : Value → Heap → Prop} (h : meta_Image_turn_vc m mo r_0 r_1 r_2 r_3 r_4 r_5 r_6 r_7 H K) : FnH Tryz.prog 33 #[.pointer (some ⟨m, mo, none⟩), .agg #[.int .i64 r_0, .int .i64 r_1, .int .i64 r_2, .int .i64 r_3, .int .i64 r_4, .string r_5, .string r_6, .slice r_7.p r_7.n r_7.c]] H K :=
  denFn_fn Tryz.mixed meta_Image_turn_ann Tryz.func33 (bodyOf_spec (by kernel_rfl)) (by kernel_rfl) h
def meta_Image_topic_ann : Anns := { hid := [3], loops := [(1, { slots := [(81, .int .i64)], kept := [0, 3, 6, 7, 80], locs := [], keptL := [0] }), (3, { slots := [(9, .slice), (86, .int .i64)], kept := [0, 3, 6, 7, 8, 80, 81, 85], locs := [], keptL := [0] })], joins := [((0, 2), { slots := [(13, .bool)], kept := [0, 3, 6], locs := [], keptL := [0] })], mix := [(18, [18, 21]), (20, [12, 15])] }
def meta_Image_topic_vc (m mo : Nat) (r_0 r_1 r_2 r_3 r_4 : Int) (r_5 r_6 : ByteArray) (r_7 : Sl) (H : Heap) (K : Value → Heap → Prop) : Prop :=
FnH Tryz.prog 19 #[.pointer (some ⟨m, mo, none⟩)] H fun r1 H1 =>
∃ l1 : Sl,
r1 = .slice l1.p l1.n l1.c ∧
∃ J1 : Bool → Heap → Prop,
 (FnH Tryz.prog 71 #[.string r_5] H1 fun r2 H2 =>
∃ b1 : Bool,
r2 = .bool b1 ∧
br (!b1) (
SelfEq ([.v (.pointer (some ⟨m, mo, none⟩)), .loc 0 0, .v (.slice l1.p l1.n l1.c)], [some (31, [.int .i64 r_0, .int .i64 r_1, .int .i64 r_2, .int .i64 r_3, .int .i64 r_4, .string r_5, .string r_6, .slice r_7.p r_7.n r_7.c])], []) ∧
J1 true H2)
 (
br (decide ((r_1 : Int) < 1)) (
SelfEq ([.v (.pointer (some ⟨m, mo, none⟩)), .loc 0 0, .v (.slice l1.p l1.n l1.c)], [some (31, [.int .i64 r_0, .int .i64 r_1, .int .i64 r_2, .int .i64 r_3, .int .i64 r_4, .string r_5, .string r_6, .slice r_7.p r_7.n r_7.c])], []) ∧
J1 true H2)
 (
br (decide ((r_1 : Int) > 16)) (
SelfEq ([.v (.pointer (some ⟨m, mo, none⟩)), .loc 0 0, .v (.slice l1.p l1.n l1.c)], [some (31, [.int .i64 r_0, .int .i64 r_1, .int .i64 r_2, .int .i64 r_3, .int .i64 r_4, .string r_5, .string r_6, .slice r_7.p r_7.n r_7.c])], []) ∧
J1 true H2)
 (
br (decide ((r_2 : Int) < 1)) (
SelfEq ([.v (.pointer (some ⟨m, mo, none⟩)), .loc 0 0, .v (.slice l1.p l1.n l1.c)], [some (31, [.int .i64 r_0, .int .i64 r_1, .int .i64 r_2, .int .i64 r_3, .int .i64 r_4, .string r_5, .string r_6, .slice r_7.p r_7.n r_7.c])], []) ∧
J1 true H2)
 (
br (decide ((r_2 : Int) > 5)) (
SelfEq ([.v (.pointer (some ⟨m, mo, none⟩)), .loc 0 0, .v (.slice l1.p l1.n l1.c)], [some (31, [.int .i64 r_0, .int .i64 r_1, .int .i64 r_2, .int .i64 r_3, .int .i64 r_4, .string r_5, .string r_6, .slice r_7.p r_7.n r_7.c])], []) ∧
J1 true H2)
 (
br (decide ((r_3 : Int) < 1)) (
SelfEq ([.v (.pointer (some ⟨m, mo, none⟩)), .loc 0 0, .v (.slice l1.p l1.n l1.c)], [some (31, [.int .i64 r_0, .int .i64 r_1, .int .i64 r_2, .int .i64 r_3, .int .i64 r_4, .string r_5, .string r_6, .slice r_7.p r_7.n r_7.c])], []) ∧
J1 true H2)
 (
SelfEq ([.v (.pointer (some ⟨m, mo, none⟩)), .loc 0 0, .v (.slice l1.p l1.n l1.c)], [some (31, [.int .i64 r_0, .int .i64 r_1, .int .i64 r_2, .int .i64 r_3, .int .i64 r_4, .string r_5, .string r_6, .slice r_7.p r_7.n r_7.c])], []) ∧
J1 (decide ((r_3 : Int) > r_2)) H2))))))) ∧
∀ b_1 : Bool,
∀ H3 : Heap,
J1 b_1 H3 →
br (b_1) (
K (.tuple #[.int .i64 0, .int .i64 1]) H3)
 (
FnH Tryz.prog 16 #[.pointer (some ⟨m, mo, none⟩), .string r_5] H3 fun r3 H4 =>
∃ l2 : Sl,
r3 = .slice l2.p l2.n l2.c ∧
br (!(Option.isNone l2.p)) (
K (.tuple #[.int .i64 0, .int .i64 9]) H4)
 (
∃ l3 : Sl,
cellH H4 ⟨m, mo + 3, none⟩ = some (.slice l3.p l3.n l3.c) ∧
br (decide (((IntKind.wrap .i64 ((l3.n : Nat) + r_1)) : Int) > 16)) (
K (.tuple #[.int .i64 0, .int .i64 3]) H4)
 (
br (decide (((l1.n : Nat) : Int) < r_2)) (
K (.tuple #[.int .i64 0, .int .i64 3]) H4)
 (
∃ l4 : Sl,
cellH H4 ⟨m, mo + 3, none⟩ = some (.slice l4.p l4.n l4.c) ∧
∃ I1 : Int → Heap → Prop,
∃ M1 : Int → Heap → Nat,
I1 0 H4 ∧
∀ n_1 : Int,
∀ H5 : Heap,
I1 n_1 H5 →
br (decide ((n_1 : Int) < r_1)) (
∃ I2 : Sl → Int → Heap → Prop,
∃ M2 : Sl → Int → Heap → Nat,
I2 ⟨none, 0, 0⟩ 0 H5 ∧
∀ l_1 : Sl,
∀ n_2 : Int,
∀ H6 : Heap,
I2 l_1 n_2 H6 →
br (decide ((n_2 : Int) < r_2)) (
 ((l1.n : Nat) : Int) ≠ 0 ∧
∃ q1 o1 : Nat,
 (l1.p : Option Addr) = some ⟨q1, o1, none⟩ ∧
0 ≤ ((Int.tmod (IntKind.wrap .i64 (n_1 + n_2)) (l1.n : Nat)) : Int) ∧
 ((Int.tmod (IntKind.wrap .i64 (n_1 + n_2)) (l1.n : Nat)) : Int) < (l1.n : Nat) ∧
∃ n1 : Int,
cellH H6 ⟨q1, o1 + Int.toNat (Int.tmod (IntKind.wrap .i64 (n_1 + n_2)) (l1.n : Nat)), none⟩ = some (.int .i64 n1) ∧
∀ q2 : Nat,
H6 q2 = none →
letH (Heap.upd H6 q2 (.cells #[.int .i64 n1] 3 (0, 0))) fun H7 =>
runH Tryz.prog (Builtin.append_ #[22, 22] 22 #[.slice l_1.p l_1.n l_1.c, .slice (some ⟨q2, 0, none⟩) 1 1]) H7 fun r4 H8 =>
∃ l5 : Sl,
r4 = .slice l5.p l5.n l5.c ∧
SelfEq ([.v (.pointer (some ⟨m, mo, none⟩)), .loc 0 0, .v (.slice l1.p l1.n l1.c), .v (.int .i64 (IntKind.wrap .i64 ((l4.n : Nat) + 1))), .v (.int .i64 n_1), .v (.int .i64 r_1), .v (.int .i64 n_1), .v (.int .i64 r_2)], [some (31, [.int .i64 r_0, .int .i64 r_1, .int .i64 r_2, .int .i64 r_3, .int .i64 r_4, .string r_5, .string r_6, .slice r_7.p r_7.n r_7.c])], []) ∧
I2 l5 (IntKind.wrap .i64 (n_2 + 1)) H8 ∧
M2 l5 (IntKind.wrap .i64 (n_2 + 1)) H8 < M2 l_1 n_2 H6)
 (
∃ l6 : Sl,
cellH H6 ⟨m, mo + 3, none⟩ = some (.slice l6.p l6.n l6.c) ∧
∃ q3 o2 : Nat,
 (l_1.p : Option Addr) = some ⟨q3, o2, none⟩ ∧
0 ≤ (0 : Int) ∧
 (0 : Int) < (l_1.n : Nat) ∧
∃ n2 : Int,
cellH H6 ⟨q3, o2 + Int.toNat 0, none⟩ = some (.int .i64 n2) ∧
FnH Tryz.prog 66 #[.slice l_1.p l_1.n l_1.c] H6 fun r5 H9 =>
∃ l7 : Sl,
r5 = .slice l7.p l7.n l7.c ∧
Sub H6 H9 ∧
∀ q4 : Nat,
H9 q4 = none →
letH (Heap.upd H9 q4 (.cells #[.int .i64 (IntKind.wrap .i64 ((IntKind.wrap .i64 ((l4.n : Nat) + 1)) + n_1)), .int .i64 n2, .int .i64 1, .int .i64 1, .slice l7.p l7.n l7.c, .slice l_1.p l_1.n l_1.c, .slice none 0 0, .slice none 0 0, .int .i64 r_3] 41 (0, 0))) fun H10 =>
Sub H6 H10 ∧
runH Tryz.prog (Builtin.append_ #[35, 35] 35 #[.slice l6.p l6.n l6.c, .slice (some ⟨q4, 0, none⟩) 1 1]) H10 fun r6 H11 =>
∃ l8 : Sl,
r6 = .slice l8.p l8.n l8.c ∧
 (∃ u, cellH H11 ⟨m, mo + 3, none⟩ = some u) ∧
frozenH H11 ⟨m, mo + 3, none⟩ = false ∧
letH (Heap.set H11 ⟨m, mo + 3, none⟩ (.slice l8.p l8.n l8.c)) fun H12 =>
SelfEq ([.v (.pointer (some ⟨m, mo, none⟩)), .loc 0 0, .v (.slice l1.p l1.n l1.c), .v (.int .i64 (IntKind.wrap .i64 ((l4.n : Nat) + 1))), .v (.int .i64 r_1)], [some (31, [.int .i64 r_0, .int .i64 r_1, .int .i64 r_2, .int .i64 r_3, .int .i64 r_4, .string r_5, .string r_6, .slice r_7.p r_7.n r_7.c])], []) ∧
I1 (IntKind.wrap .i64 (n_1 + 1)) H12 ∧
M1 (IntKind.wrap .i64 (n_1 + 1)) H12 < M1 n_1 H5))
 (
∃ l9 : Sl,
cellH H5 ⟨m, mo + 2, none⟩ = some (.slice l9.p l9.n l9.c) ∧
∀ q5 : Nat,
H5 q5 = none →
letH (Heap.upd H5 q5 (.cells #[.string r_5, .int .i64 (IntKind.wrap .i64 ((l4.n : Nat) + 1)), .int .i64 r_1] 74 (0, 0))) fun H13 =>
Sub H5 H13 ∧
runH Tryz.prog (Builtin.append_ #[68, 68] 68 #[.slice l9.p l9.n l9.c, .slice (some ⟨q5, 0, none⟩) 1 1]) H13 fun r7 H14 =>
∃ l10 : Sl,
r7 = .slice l10.p l10.n l10.c ∧
 (∃ u, cellH H14 ⟨m, mo + 2, none⟩ = some u) ∧
frozenH H14 ⟨m, mo + 2, none⟩ = false ∧
letH (Heap.set H14 ⟨m, mo + 2, none⟩ (.slice l10.p l10.n l10.c)) fun H15 =>
K (.tuple #[.int .i64 (IntKind.wrap .i64 ((l4.n : Nat) + 1)), .int .i64 0]) H15)))))
theorem meta_Image_topic_fn (m mo : Nat) (r_0 r_1 r_2 r_3 r_4 : Int) (r_5 r_6 : ByteArray) (r_7 : Sl) {H : Heap} {K : Value → Heap → Prop} (h : meta_Image_topic_vc m mo r_0 r_1 r_2 r_3 r_4 r_5 r_6 r_7 H K) : FnH Tryz.prog 34 #[.pointer (some ⟨m, mo, none⟩), .agg #[.int .i64 r_0, .int .i64 r_1, .int .i64 r_2, .int .i64 r_3, .int .i64 r_4, .string r_5, .string r_6, .slice r_7.p r_7.n r_7.c]] H K :=
  denFn_fn Tryz.mixed meta_Image_topic_ann Tryz.func34 (bodyOf_spec (by kernel_rfl)) (by kernel_rfl) h
def meta_Image_part_ann : Anns := { hid := [3, 6], loops := [], joins := [], mix := [(3, [12]), (20, [9]), (17, [9])] }
def meta_Image_part_vc (m mo : Nat) (r_0 r_1 r_2 r_3 r_4 : Int) (r_5 r_6 : ByteArray) (r_7 : Sl) (H : Heap) (K : Value → Heap → Prop) : Prop :=
br (decide ((r_1 : Int) < 1)) (
K (.tuple #[.int .i64 0, .int .i64 8]) H)
 (
∃ l1 : Sl,
cellH H ⟨m, mo + 3, none⟩ = some (.slice l1.p l1.n l1.c) ∧
br (decide ((r_1 : Int) > (l1.n : Nat))) (
K (.tuple #[.int .i64 0, .int .i64 8]) H)
 (
∃ l2 : Sl,
cellH H ⟨m, mo + 3, none⟩ = some (.slice l2.p l2.n l2.c) ∧
∃ q1 o1 : Nat,
 (l2.p : Option Addr) = some ⟨q1, o1, none⟩ ∧
0 ≤ ((IntKind.wrap .i64 (r_1 - 1)) : Int) ∧
 ((IntKind.wrap .i64 (r_1 - 1)) : Int) < (l2.n : Nat) ∧
∃ n1 : Int,
cellH H ⟨q1, o1 + Int.toNat (IntKind.wrap .i64 (r_1 - 1)) * 9, none⟩ = some (.int .i64 n1) ∧
∃ n2 : Int,
cellH H ⟨q1, o1 + Int.toNat (IntKind.wrap .i64 (r_1 - 1)) * 9 + 1, none⟩ = some (.int .i64 n2) ∧
∃ n3 : Int,
cellH H ⟨q1, o1 + Int.toNat (IntKind.wrap .i64 (r_1 - 1)) * 9 + 2, none⟩ = some (.int .i64 n3) ∧
∃ n4 : Int,
cellH H ⟨q1, o1 + Int.toNat (IntKind.wrap .i64 (r_1 - 1)) * 9 + 3, none⟩ = some (.int .i64 n4) ∧
∃ l3 : Sl,
cellH H ⟨q1, o1 + Int.toNat (IntKind.wrap .i64 (r_1 - 1)) * 9 + 4, none⟩ = some (.slice l3.p l3.n l3.c) ∧
∃ l4 : Sl,
cellH H ⟨q1, o1 + Int.toNat (IntKind.wrap .i64 (r_1 - 1)) * 9 + 5, none⟩ = some (.slice l4.p l4.n l4.c) ∧
∃ l5 : Sl,
cellH H ⟨q1, o1 + Int.toNat (IntKind.wrap .i64 (r_1 - 1)) * 9 + 6, none⟩ = some (.slice l5.p l5.n l5.c) ∧
∃ l6 : Sl,
cellH H ⟨q1, o1 + Int.toNat (IntKind.wrap .i64 (r_1 - 1)) * 9 + 7, none⟩ = some (.slice l6.p l6.n l6.c) ∧
∃ n5 : Int,
cellH H ⟨q1, o1 + Int.toNat (IntKind.wrap .i64 (r_1 - 1)) * 9 + 8, none⟩ = some (.int .i64 n5) ∧
 (FnH Tryz.prog 19 #[.pointer (some ⟨m, mo, none⟩)] H fun r1 H1 =>
∃ l7 : Sl,
r1 = .slice l7.p l7.n l7.c ∧
Sub H H1 ∧
Sub H H1 ∧
br ((r_0 : Int) == 5) (
FnH Tryz.prog 72 #[.agg #[.int .i64 n1, .int .i64 n2, .int .i64 n3, .int .i64 n4, .slice l3.p l3.n l3.c, .slice l4.p l4.n l4.c, .slice l5.p l5.n l5.c, .slice l6.p l6.n l6.c, .int .i64 n5], .int .i64 r_2, .int .i64 r_3, .int .i64 r_4, .slice r_7.p r_7.n r_7.c, .slice l7.p l7.n l7.c] H1 fun r2 H2 =>
∃ n6 n7 n8 n9 : Int,
∃ l8 l9 l10 l11 : Sl,
∃ n10 n11 : Int,
r2 = .tuple #[.agg #[.int .i64 n6, .int .i64 n7, .int .i64 n8, .int .i64 n9, .slice l8.p l8.n l8.c, .slice l9.p l9.n l9.c, .slice l10.p l10.n l10.c, .slice l11.p l11.n l11.c, .int .i64 n10], .int .i64 n11] ∧
br ((n11 : Int) != 0) (
K (.tuple #[.int .i64 0, .int .i64 n11]) H2)
 (
∃ l12 : Sl,
cellH H2 ⟨m, mo + 3, none⟩ = some (.slice l12.p l12.n l12.c) ∧
∃ q2 o2 : Nat,
 (l12.p : Option Addr) = some ⟨q2, o2, none⟩ ∧
0 ≤ ((IntKind.wrap .i64 (r_1 - 1)) : Int) ∧
 ((IntKind.wrap .i64 (r_1 - 1)) : Int) < (l12.n : Nat) ∧
put9 H2 q2 (o2 + Int.toNat (IntKind.wrap .i64 (r_1 - 1)) * 9) n6 n7 n8 n9 l8 l9 l10 l11 n10 fun H11 =>
K (.tuple #[.int .i64 n9, .int .i64 0]) H11))
 (
br ((r_0 : Int) == 6) (
FnH Tryz.prog 73 #[.agg #[.int .i64 n1, .int .i64 n2, .int .i64 n3, .int .i64 n4, .slice l3.p l3.n l3.c, .slice l4.p l4.n l4.c, .slice l5.p l5.n l5.c, .slice l6.p l6.n l6.c, .int .i64 n5], .slice r_7.p r_7.n r_7.c, .slice l7.p l7.n l7.c] H1 fun r3 H12 =>
∃ n12 n13 n14 n15 : Int,
∃ l13 l14 l15 l16 : Sl,
∃ n16 n17 : Int,
r3 = .tuple #[.agg #[.int .i64 n12, .int .i64 n13, .int .i64 n14, .int .i64 n15, .slice l13.p l13.n l13.c, .slice l14.p l14.n l14.c, .slice l15.p l15.n l15.c, .slice l16.p l16.n l16.c, .int .i64 n16], .int .i64 n17] ∧
br ((n17 : Int) != 0) (
K (.tuple #[.int .i64 0, .int .i64 n17]) H12)
 (
∃ l17 : Sl,
cellH H12 ⟨m, mo + 3, none⟩ = some (.slice l17.p l17.n l17.c) ∧
∃ q3 o3 : Nat,
 (l17.p : Option Addr) = some ⟨q3, o3, none⟩ ∧
0 ≤ ((IntKind.wrap .i64 (r_1 - 1)) : Int) ∧
 ((IntKind.wrap .i64 (r_1 - 1)) : Int) < (l17.n : Nat) ∧
put9 H12 q3 (o3 + Int.toNat (IntKind.wrap .i64 (r_1 - 1)) * 9) n12 n13 n14 n15 l13 l14 l15 l16 n16 fun H21 =>
K (.tuple #[.int .i64 n15, .int .i64 0]) H21))
 (
br ((r_0 : Int) == 7) (
FnH Tryz.prog 74 #[.agg #[.int .i64 n1, .int .i64 n2, .int .i64 n3, .int .i64 n4, .slice l3.p l3.n l3.c, .slice l4.p l4.n l4.c, .slice l5.p l5.n l5.c, .slice l6.p l6.n l6.c, .int .i64 n5], .slice l7.p l7.n l7.c] H1 fun r4 H22 =>
∃ n18 n19 n20 n21 : Int,
∃ l18 l19 l20 l21 : Sl,
∃ n22 n23 : Int,
r4 = .tuple #[.agg #[.int .i64 n18, .int .i64 n19, .int .i64 n20, .int .i64 n21, .slice l18.p l18.n l18.c, .slice l19.p l19.n l19.c, .slice l20.p l20.n l20.c, .slice l21.p l21.n l21.c, .int .i64 n22], .int .i64 n23] ∧
br ((n23 : Int) != 0) (
K (.tuple #[.int .i64 0, .int .i64 n23]) H22)
 (
∃ l22 : Sl,
cellH H22 ⟨m, mo + 3, none⟩ = some (.slice l22.p l22.n l22.c) ∧
∃ q4 o4 : Nat,
 (l22.p : Option Addr) = some ⟨q4, o4, none⟩ ∧
0 ≤ ((IntKind.wrap .i64 (r_1 - 1)) : Int) ∧
 ((IntKind.wrap .i64 (r_1 - 1)) : Int) < (l22.n : Nat) ∧
put9 H22 q4 (o4 + Int.toNat (IntKind.wrap .i64 (r_1 - 1)) * 9) n18 n19 n20 n21 l18 l19 l20 l21 n22 fun H31 =>
K (.tuple #[.int .i64 n21, .int .i64 0]) H31))
 (
br ((r_0 : Int) == 10) (
FnH Tryz.prog 75 #[.agg #[.int .i64 n1, .int .i64 n2, .int .i64 n3, .int .i64 n4, .slice l3.p l3.n l3.c, .slice l4.p l4.n l4.c, .slice l5.p l5.n l5.c, .slice l6.p l6.n l6.c, .int .i64 n5], .slice l7.p l7.n l7.c] H1 fun r5 H32 =>
∃ n24 n25 n26 n27 : Int,
∃ l23 l24 l25 l26 : Sl,
∃ n28 n29 : Int,
r5 = .tuple #[.agg #[.int .i64 n24, .int .i64 n25, .int .i64 n26, .int .i64 n27, .slice l23.p l23.n l23.c, .slice l24.p l24.n l24.c, .slice l25.p l25.n l25.c, .slice l26.p l26.n l26.c, .int .i64 n28], .int .i64 n29] ∧
br ((n29 : Int) != 0) (
K (.tuple #[.int .i64 0, .int .i64 n29]) H32)
 (
∃ l27 : Sl,
cellH H32 ⟨m, mo + 3, none⟩ = some (.slice l27.p l27.n l27.c) ∧
∃ q5 o5 : Nat,
 (l27.p : Option Addr) = some ⟨q5, o5, none⟩ ∧
0 ≤ ((IntKind.wrap .i64 (r_1 - 1)) : Int) ∧
 ((IntKind.wrap .i64 (r_1 - 1)) : Int) < (l27.n : Nat) ∧
put9 H32 q5 (o5 + Int.toNat (IntKind.wrap .i64 (r_1 - 1)) * 9) n24 n25 n26 n27 l23 l24 l25 l26 n28 fun H41 =>
K (.tuple #[.int .i64 n27, .int .i64 0]) H41))
 (
br ((r_0 : Int) == 9) (
∃ q6 o6 : Nat,
 (l4.p : Option Addr) = some ⟨q6, o6, none⟩ ∧
0 ≤ (0 : Int) ∧
 (0 : Int) < (l4.n : Nat) ∧
∃ n30 : Int,
cellH H1 ⟨q6, o6 + Int.toNat 0, none⟩ = some (.int .i64 n30) ∧
FnH Tryz.prog 76 #[.slice l7.p l7.n l7.c, .int .i64 n30] H1 fun r6 H42 =>
∃ b1 : Bool,
r6 = .bool b1 ∧
br (!b1) (
K (.tuple #[.int .i64 0, .int .i64 19]) H42)
 (
∃ q7 o7 : Nat,
 (l4.p : Option Addr) = some ⟨q7, o7, none⟩ ∧
0 ≤ (0 : Int) ∧
 (0 : Int) < (l4.n : Nat) ∧
∃ n31 : Int,
cellH H42 ⟨q7, o7 + Int.toNat 0, none⟩ = some (.int .i64 n31) ∧
FnH Tryz.prog 77 #[.agg #[.int .i64 n1, .int .i64 n2, .int .i64 n3, .int .i64 n4, .slice l3.p l3.n l3.c, .slice l4.p l4.n l4.c, .slice l5.p l5.n l5.c, .slice l6.p l6.n l6.c, .int .i64 n5], .int .i64 n31] H42 fun r7 H43 =>
∃ n32 n33 n34 n35 : Int,
∃ l28 l29 l30 l31 : Sl,
∃ n36 n37 : Int,
r7 = .tuple #[.agg #[.int .i64 n32, .int .i64 n33, .int .i64 n34, .int .i64 n35, .slice l28.p l28.n l28.c, .slice l29.p l29.n l29.c, .slice l30.p l30.n l30.c, .slice l31.p l31.n l31.c, .int .i64 n36], .int .i64 n37] ∧
Sub H42 H43 ∧
br ((n37 : Int) != 0) (
K (.tuple #[.int .i64 0, .int .i64 n37]) H43)
 (
∃ l32 : Sl,
cellH H43 ⟨m, mo + 3, none⟩ = some (.slice l32.p l32.n l32.c) ∧
∃ q8 o8 : Nat,
 (l32.p : Option Addr) = some ⟨q8, o8, none⟩ ∧
0 ≤ ((IntKind.wrap .i64 (r_1 - 1)) : Int) ∧
 ((IntKind.wrap .i64 (r_1 - 1)) : Int) < (l32.n : Nat) ∧
put9 H43 q8 (o8 + Int.toNat (IntKind.wrap .i64 (r_1 - 1)) * 9) n32 n33 n34 n35 l28 l29 l30 l31 n36 fun H52 =>
K (.tuple #[.int .i64 n35, .int .i64 0]) H52)))
 (
br ((0 : Int) != 0) (
K (.tuple #[.int .i64 0, .int .i64 0]) H1)
 (
∃ l33 : Sl,
cellH H1 ⟨m, mo + 3, none⟩ = some (.slice l33.p l33.n l33.c) ∧
∃ q9 o9 : Nat,
 (l33.p : Option Addr) = some ⟨q9, o9, none⟩ ∧
0 ≤ ((IntKind.wrap .i64 (r_1 - 1)) : Int) ∧
 ((IntKind.wrap .i64 (r_1 - 1)) : Int) < (l33.n : Nat) ∧
put9 H1 q9 (o9 + Int.toNat (IntKind.wrap .i64 (r_1 - 1)) * 9) n1 n2 n3 n4 l3 l4 l5 l6 n5 fun H61 =>
K (.tuple #[.int .i64 n4, .int .i64 0]) H61))))))) ∧
Sub H H ∧
FnH Tryz.prog 19 #[.pointer (some ⟨m, mo, none⟩)] H fun r8 H62 =>
∃ l34 : Sl,
r8 = .slice l34.p l34.n l34.c ∧
Sub H H62 ∧
br ((r_0 : Int) == 5) (
FnH Tryz.prog 72 #[.agg #[.int .i64 n1, .int .i64 n2, .int .i64 n3, .int .i64 n4, .slice l3.p l3.n l3.c, .slice l4.p l4.n l4.c, .slice l5.p l5.n l5.c, .slice l6.p l6.n l6.c, .int .i64 n5], .int .i64 r_2, .int .i64 r_3, .int .i64 r_4, .slice r_7.p r_7.n r_7.c, .slice l34.p l34.n l34.c] H62 fun r9 H63 =>
∃ n38 n39 n40 n41 : Int,
∃ l35 l36 l37 l38 : Sl,
∃ n42 n43 : Int,
r9 = .tuple #[.agg #[.int .i64 n38, .int .i64 n39, .int .i64 n40, .int .i64 n41, .slice l35.p l35.n l35.c, .slice l36.p l36.n l36.c, .slice l37.p l37.n l37.c, .slice l38.p l38.n l38.c, .int .i64 n42], .int .i64 n43] ∧
br ((n43 : Int) != 0) (
K (.tuple #[.int .i64 0, .int .i64 n43]) H63)
 (
∃ l39 : Sl,
cellH H63 ⟨m, mo + 3, none⟩ = some (.slice l39.p l39.n l39.c) ∧
∃ q10 o10 : Nat,
 (l39.p : Option Addr) = some ⟨q10, o10, none⟩ ∧
0 ≤ ((IntKind.wrap .i64 (r_1 - 1)) : Int) ∧
 ((IntKind.wrap .i64 (r_1 - 1)) : Int) < (l39.n : Nat) ∧
put9 H63 q10 (o10 + Int.toNat (IntKind.wrap .i64 (r_1 - 1)) * 9) n38 n39 n40 n41 l35 l36 l37 l38 n42 fun H72 =>
K (.tuple #[.int .i64 n41, .int .i64 0]) H72))
 (
br ((r_0 : Int) == 6) (
FnH Tryz.prog 73 #[.agg #[.int .i64 n1, .int .i64 n2, .int .i64 n3, .int .i64 n4, .slice l3.p l3.n l3.c, .slice l4.p l4.n l4.c, .slice l5.p l5.n l5.c, .slice l6.p l6.n l6.c, .int .i64 n5], .slice r_7.p r_7.n r_7.c, .slice l34.p l34.n l34.c] H62 fun r10 H73 =>
∃ n44 n45 n46 n47 : Int,
∃ l40 l41 l42 l43 : Sl,
∃ n48 n49 : Int,
r10 = .tuple #[.agg #[.int .i64 n44, .int .i64 n45, .int .i64 n46, .int .i64 n47, .slice l40.p l40.n l40.c, .slice l41.p l41.n l41.c, .slice l42.p l42.n l42.c, .slice l43.p l43.n l43.c, .int .i64 n48], .int .i64 n49] ∧
br ((n49 : Int) != 0) (
K (.tuple #[.int .i64 0, .int .i64 n49]) H73)
 (
∃ l44 : Sl,
cellH H73 ⟨m, mo + 3, none⟩ = some (.slice l44.p l44.n l44.c) ∧
∃ q11 o11 : Nat,
 (l44.p : Option Addr) = some ⟨q11, o11, none⟩ ∧
0 ≤ ((IntKind.wrap .i64 (r_1 - 1)) : Int) ∧
 ((IntKind.wrap .i64 (r_1 - 1)) : Int) < (l44.n : Nat) ∧
put9 H73 q11 (o11 + Int.toNat (IntKind.wrap .i64 (r_1 - 1)) * 9) n44 n45 n46 n47 l40 l41 l42 l43 n48 fun H82 =>
K (.tuple #[.int .i64 n47, .int .i64 0]) H82))
 (
br ((r_0 : Int) == 7) (
FnH Tryz.prog 74 #[.agg #[.int .i64 n1, .int .i64 n2, .int .i64 n3, .int .i64 n4, .slice l3.p l3.n l3.c, .slice l4.p l4.n l4.c, .slice l5.p l5.n l5.c, .slice l6.p l6.n l6.c, .int .i64 n5], .slice l34.p l34.n l34.c] H62 fun r11 H83 =>
∃ n50 n51 n52 n53 : Int,
∃ l45 l46 l47 l48 : Sl,
∃ n54 n55 : Int,
r11 = .tuple #[.agg #[.int .i64 n50, .int .i64 n51, .int .i64 n52, .int .i64 n53, .slice l45.p l45.n l45.c, .slice l46.p l46.n l46.c, .slice l47.p l47.n l47.c, .slice l48.p l48.n l48.c, .int .i64 n54], .int .i64 n55] ∧
br ((n55 : Int) != 0) (
K (.tuple #[.int .i64 0, .int .i64 n55]) H83)
 (
∃ l49 : Sl,
cellH H83 ⟨m, mo + 3, none⟩ = some (.slice l49.p l49.n l49.c) ∧
∃ q12 o12 : Nat,
 (l49.p : Option Addr) = some ⟨q12, o12, none⟩ ∧
0 ≤ ((IntKind.wrap .i64 (r_1 - 1)) : Int) ∧
 ((IntKind.wrap .i64 (r_1 - 1)) : Int) < (l49.n : Nat) ∧
put9 H83 q12 (o12 + Int.toNat (IntKind.wrap .i64 (r_1 - 1)) * 9) n50 n51 n52 n53 l45 l46 l47 l48 n54 fun H92 =>
K (.tuple #[.int .i64 n53, .int .i64 0]) H92))
 (
br ((r_0 : Int) == 10) (
FnH Tryz.prog 75 #[.agg #[.int .i64 n1, .int .i64 n2, .int .i64 n3, .int .i64 n4, .slice l3.p l3.n l3.c, .slice l4.p l4.n l4.c, .slice l5.p l5.n l5.c, .slice l6.p l6.n l6.c, .int .i64 n5], .slice l34.p l34.n l34.c] H62 fun r12 H93 =>
∃ n56 n57 n58 n59 : Int,
∃ l50 l51 l52 l53 : Sl,
∃ n60 n61 : Int,
r12 = .tuple #[.agg #[.int .i64 n56, .int .i64 n57, .int .i64 n58, .int .i64 n59, .slice l50.p l50.n l50.c, .slice l51.p l51.n l51.c, .slice l52.p l52.n l52.c, .slice l53.p l53.n l53.c, .int .i64 n60], .int .i64 n61] ∧
br ((n61 : Int) != 0) (
K (.tuple #[.int .i64 0, .int .i64 n61]) H93)
 (
∃ l54 : Sl,
cellH H93 ⟨m, mo + 3, none⟩ = some (.slice l54.p l54.n l54.c) ∧
∃ q13 o13 : Nat,
 (l54.p : Option Addr) = some ⟨q13, o13, none⟩ ∧
0 ≤ ((IntKind.wrap .i64 (r_1 - 1)) : Int) ∧
 ((IntKind.wrap .i64 (r_1 - 1)) : Int) < (l54.n : Nat) ∧
put9 H93 q13 (o13 + Int.toNat (IntKind.wrap .i64 (r_1 - 1)) * 9) n56 n57 n58 n59 l50 l51 l52 l53 n60 fun H102 =>
K (.tuple #[.int .i64 n59, .int .i64 0]) H102))
 (
br ((r_0 : Int) == 9) (
∃ q14 o14 : Nat,
 (l4.p : Option Addr) = some ⟨q14, o14, none⟩ ∧
0 ≤ (0 : Int) ∧
 (0 : Int) < (l4.n : Nat) ∧
∃ n62 : Int,
cellH H62 ⟨q14, o14 + Int.toNat 0, none⟩ = some (.int .i64 n62) ∧
FnH Tryz.prog 76 #[.slice l34.p l34.n l34.c, .int .i64 n62] H62 fun r13 H103 =>
∃ b2 : Bool,
r13 = .bool b2 ∧
br (!b2) (
K (.tuple #[.int .i64 0, .int .i64 19]) H103)
 (
∃ q15 o15 : Nat,
 (l4.p : Option Addr) = some ⟨q15, o15, none⟩ ∧
0 ≤ (0 : Int) ∧
 (0 : Int) < (l4.n : Nat) ∧
∃ n63 : Int,
cellH H103 ⟨q15, o15 + Int.toNat 0, none⟩ = some (.int .i64 n63) ∧
FnH Tryz.prog 77 #[.agg #[.int .i64 n1, .int .i64 n2, .int .i64 n3, .int .i64 n4, .slice l3.p l3.n l3.c, .slice l4.p l4.n l4.c, .slice l5.p l5.n l5.c, .slice l6.p l6.n l6.c, .int .i64 n5], .int .i64 n63] H103 fun r14 H104 =>
∃ n64 n65 n66 n67 : Int,
∃ l55 l56 l57 l58 : Sl,
∃ n68 n69 : Int,
r14 = .tuple #[.agg #[.int .i64 n64, .int .i64 n65, .int .i64 n66, .int .i64 n67, .slice l55.p l55.n l55.c, .slice l56.p l56.n l56.c, .slice l57.p l57.n l57.c, .slice l58.p l58.n l58.c, .int .i64 n68], .int .i64 n69] ∧
Sub H103 H104 ∧
br ((n69 : Int) != 0) (
K (.tuple #[.int .i64 0, .int .i64 n69]) H104)
 (
∃ l59 : Sl,
cellH H104 ⟨m, mo + 3, none⟩ = some (.slice l59.p l59.n l59.c) ∧
∃ q16 o16 : Nat,
 (l59.p : Option Addr) = some ⟨q16, o16, none⟩ ∧
0 ≤ ((IntKind.wrap .i64 (r_1 - 1)) : Int) ∧
 ((IntKind.wrap .i64 (r_1 - 1)) : Int) < (l59.n : Nat) ∧
put9 H104 q16 (o16 + Int.toNat (IntKind.wrap .i64 (r_1 - 1)) * 9) n64 n65 n66 n67 l55 l56 l57 l58 n68 fun H113 =>
K (.tuple #[.int .i64 n67, .int .i64 0]) H113)))
 (
br ((0 : Int) != 0) (
K (.tuple #[.int .i64 0, .int .i64 0]) H62)
 (
∃ l60 : Sl,
cellH H62 ⟨m, mo + 3, none⟩ = some (.slice l60.p l60.n l60.c) ∧
∃ q17 o17 : Nat,
 (l60.p : Option Addr) = some ⟨q17, o17, none⟩ ∧
0 ≤ ((IntKind.wrap .i64 (r_1 - 1)) : Int) ∧
 ((IntKind.wrap .i64 (r_1 - 1)) : Int) < (l60.n : Nat) ∧
put9 H62 q17 (o17 + Int.toNat (IntKind.wrap .i64 (r_1 - 1)) * 9) n1 n2 n3 n4 l3 l4 l5 l6 n5 fun H122 =>
K (.tuple #[.int .i64 n4, .int .i64 0]) H122))))))))
theorem meta_Image_part_fn (m mo : Nat) (r_0 r_1 r_2 r_3 r_4 : Int) (r_5 r_6 : ByteArray) (r_7 : Sl) {H : Heap} {K : Value → Heap → Prop} (h : meta_Image_part_vc m mo r_0 r_1 r_2 r_3 r_4 r_5 r_6 r_7 H K) : FnH Tryz.prog 35 #[.pointer (some ⟨m, mo, none⟩), .agg #[.int .i64 r_0, .int .i64 r_1, .int .i64 r_2, .int .i64 r_3, .int .i64 r_4, .string r_5, .string r_6, .slice r_7.p r_7.n r_7.c]] H K :=
  denFn_fn Tryz.mixed meta_Image_part_ann Tryz.func35 (bodyOf_spec (by kernel_rfl)) (by kernel_rfl) h
def meta_Image_Apply_ann : Anns := { hid := [3], loops := [], joins := [], mix := [] }
def meta_Image_Apply_vc (m mo : Nat) (r_0 r_1 r_2 r_3 r_4 : Int) (r_5 r_6 : ByteArray) (r_7 : Sl) (H : Heap) (K : Value → Heap → Prop) : Prop :=
∃ n1 : Int,
cellH H ⟨m, mo, none⟩ = some (.int .i64 n1) ∧
 (∃ u, cellH H ⟨m, mo, none⟩ = some u) ∧
frozenH H ⟨m, mo, none⟩ = false ∧
letH (Heap.set H ⟨m, mo, none⟩ (.int .i64 (IntKind.wrap .i64 (n1 + 1)))) fun H1 =>
br ((r_0 : Int) == 1) (
FnH Tryz.prog 32 #[.pointer (some ⟨m, mo, none⟩), .agg #[.int .i64 r_0, .int .i64 r_1, .int .i64 r_2, .int .i64 r_3, .int .i64 r_4, .string r_5, .string r_6, .slice r_7.p r_7.n r_7.c]] H1 fun r1 H2 =>
∃ n2 n3 : Int,
r1 = .tuple #[.int .i64 n2, .int .i64 n3] ∧
K (.tuple #[.int .i64 n2, .int .i64 n3]) H2)
 (
br ((r_0 : Int) == 2) (
br ((r_0 : Int) == 2) (
FnH Tryz.prog 33 #[.pointer (some ⟨m, mo, none⟩), .agg #[.int .i64 r_0, .int .i64 r_1, .int .i64 r_2, .int .i64 r_3, .int .i64 r_4, .string r_5, .string r_6, .slice r_7.p r_7.n r_7.c]] H1 fun r2 H3 =>
∃ n4 n5 : Int,
r2 = .tuple #[.int .i64 n4, .int .i64 n5] ∧
K (.tuple #[.int .i64 n4, .int .i64 n5]) H3)
 (
br ((r_0 : Int) == 4) (
FnH Tryz.prog 34 #[.pointer (some ⟨m, mo, none⟩), .agg #[.int .i64 r_0, .int .i64 r_1, .int .i64 r_2, .int .i64 r_3, .int .i64 r_4, .string r_5, .string r_6, .slice r_7.p r_7.n r_7.c]] H1 fun r3 H4 =>
∃ n6 n7 : Int,
r3 = .tuple #[.int .i64 n6, .int .i64 n7] ∧
K (.tuple #[.int .i64 n6, .int .i64 n7]) H4)
 (
br ((r_0 : Int) == 5) (
br ((r_0 : Int) == 5) (
FnH Tryz.prog 35 #[.pointer (some ⟨m, mo, none⟩), .agg #[.int .i64 r_0, .int .i64 r_1, .int .i64 r_2, .int .i64 r_3, .int .i64 r_4, .string r_5, .string r_6, .slice r_7.p r_7.n r_7.c]] H1 fun r4 H5 =>
∃ n8 n9 : Int,
r4 = .tuple #[.int .i64 n8, .int .i64 n9] ∧
K (.tuple #[.int .i64 n8, .int .i64 n9]) H5)
 (
br ((r_0 : Int) == 8) (
FnH Tryz.prog 36 #[.pointer (some ⟨m, mo, none⟩), .agg #[.int .i64 r_0, .int .i64 r_1, .int .i64 r_2, .int .i64 r_3, .int .i64 r_4, .string r_5, .string r_6, .slice r_7.p r_7.n r_7.c]] H1 fun r5 H6 =>
∃ n10 n11 : Int,
r5 = .tuple #[.int .i64 n10, .int .i64 n11] ∧
K (.tuple #[.int .i64 n10, .int .i64 n11]) H6)
 (
K (.tuple #[.int .i64 0, .int .i64 1]) H1)))
 (
br ((r_0 : Int) == 6) (
br ((r_0 : Int) == 6) (
FnH Tryz.prog 35 #[.pointer (some ⟨m, mo, none⟩), .agg #[.int .i64 r_0, .int .i64 r_1, .int .i64 r_2, .int .i64 r_3, .int .i64 r_4, .string r_5, .string r_6, .slice r_7.p r_7.n r_7.c]] H1 fun r6 H7 =>
∃ n12 n13 : Int,
r6 = .tuple #[.int .i64 n12, .int .i64 n13] ∧
K (.tuple #[.int .i64 n12, .int .i64 n13]) H7)
 (
br ((r_0 : Int) == 8) (
FnH Tryz.prog 36 #[.pointer (some ⟨m, mo, none⟩), .agg #[.int .i64 r_0, .int .i64 r_1, .int .i64 r_2, .int .i64 r_3, .int .i64 r_4, .string r_5, .string r_6, .slice r_7.p r_7.n r_7.c]] H1 fun r7 H8 =>
∃ n14 n15 : Int,
r7 = .tuple #[.int .i64 n14, .int .i64 n15] ∧
K (.tuple #[.int .i64 n14, .int .i64 n15]) H8)
 (
K (.tuple #[.int .i64 0, .int .i64 1]) H1)))
 (
br ((r_0 : Int) == 7) (
br ((r_0 : Int) == 7) (
FnH Tryz.prog 35 #[.pointer (some ⟨m, mo, none⟩), .agg #[.int .i64 r_0, .int .i64 r_1, .int .i64 r_2, .int .i64 r_3, .int .i64 r_4, .string r_5, .string r_6, .slice r_7.p r_7.n r_7.c]] H1 fun r8 H9 =>
∃ n16 n17 : Int,
r8 = .tuple #[.int .i64 n16, .int .i64 n17] ∧
K (.tuple #[.int .i64 n16, .int .i64 n17]) H9)
 (
br ((r_0 : Int) == 8) (
FnH Tryz.prog 36 #[.pointer (some ⟨m, mo, none⟩), .agg #[.int .i64 r_0, .int .i64 r_1, .int .i64 r_2, .int .i64 r_3, .int .i64 r_4, .string r_5, .string r_6, .slice r_7.p r_7.n r_7.c]] H1 fun r9 H10 =>
∃ n18 n19 : Int,
r9 = .tuple #[.int .i64 n18, .int .i64 n19] ∧
K (.tuple #[.int .i64 n18, .int .i64 n19]) H10)
 (
K (.tuple #[.int .i64 0, .int .i64 1]) H1)))
 (
br ((r_0 : Int) == 9) (
br ((r_0 : Int) == 9) (
FnH Tryz.prog 35 #[.pointer (some ⟨m, mo, none⟩), .agg #[.int .i64 r_0, .int .i64 r_1, .int .i64 r_2, .int .i64 r_3, .int .i64 r_4, .string r_5, .string r_6, .slice r_7.p r_7.n r_7.c]] H1 fun r10 H11 =>
∃ n20 n21 : Int,
r10 = .tuple #[.int .i64 n20, .int .i64 n21] ∧
K (.tuple #[.int .i64 n20, .int .i64 n21]) H11)
 (
br ((r_0 : Int) == 8) (
FnH Tryz.prog 36 #[.pointer (some ⟨m, mo, none⟩), .agg #[.int .i64 r_0, .int .i64 r_1, .int .i64 r_2, .int .i64 r_3, .int .i64 r_4, .string r_5, .string r_6, .slice r_7.p r_7.n r_7.c]] H1 fun r11 H12 =>
∃ n22 n23 : Int,
r11 = .tuple #[.int .i64 n22, .int .i64 n23] ∧
K (.tuple #[.int .i64 n22, .int .i64 n23]) H12)
 (
K (.tuple #[.int .i64 0, .int .i64 1]) H1)))
 (
br ((r_0 : Int) == 10) (
FnH Tryz.prog 35 #[.pointer (some ⟨m, mo, none⟩), .agg #[.int .i64 r_0, .int .i64 r_1, .int .i64 r_2, .int .i64 r_3, .int .i64 r_4, .string r_5, .string r_6, .slice r_7.p r_7.n r_7.c]] H1 fun r12 H13 =>
∃ n24 n25 : Int,
r12 = .tuple #[.int .i64 n24, .int .i64 n25] ∧
K (.tuple #[.int .i64 n24, .int .i64 n25]) H13)
 (
br ((r_0 : Int) == 8) (
FnH Tryz.prog 36 #[.pointer (some ⟨m, mo, none⟩), .agg #[.int .i64 r_0, .int .i64 r_1, .int .i64 r_2, .int .i64 r_3, .int .i64 r_4, .string r_5, .string r_6, .slice r_7.p r_7.n r_7.c]] H1 fun r13 H14 =>
∃ n26 n27 : Int,
r13 = .tuple #[.int .i64 n26, .int .i64 n27] ∧
K (.tuple #[.int .i64 n26, .int .i64 n27]) H14)
 (
K (.tuple #[.int .i64 0, .int .i64 1]) H1)))))))))
 (
br ((r_0 : Int) == 3) (
FnH Tryz.prog 33 #[.pointer (some ⟨m, mo, none⟩), .agg #[.int .i64 r_0, .int .i64 r_1, .int .i64 r_2, .int .i64 r_3, .int .i64 r_4, .string r_5, .string r_6, .slice r_7.p r_7.n r_7.c]] H1 fun r14 H15 =>
∃ n28 n29 : Int,
r14 = .tuple #[.int .i64 n28, .int .i64 n29] ∧
K (.tuple #[.int .i64 n28, .int .i64 n29]) H15)
 (
br ((r_0 : Int) == 4) (
FnH Tryz.prog 34 #[.pointer (some ⟨m, mo, none⟩), .agg #[.int .i64 r_0, .int .i64 r_1, .int .i64 r_2, .int .i64 r_3, .int .i64 r_4, .string r_5, .string r_6, .slice r_7.p r_7.n r_7.c]] H1 fun r15 H16 =>
∃ n30 n31 : Int,
r15 = .tuple #[.int .i64 n30, .int .i64 n31] ∧
K (.tuple #[.int .i64 n30, .int .i64 n31]) H16)
 (
br ((r_0 : Int) == 5) (
br ((r_0 : Int) == 5) (
FnH Tryz.prog 35 #[.pointer (some ⟨m, mo, none⟩), .agg #[.int .i64 r_0, .int .i64 r_1, .int .i64 r_2, .int .i64 r_3, .int .i64 r_4, .string r_5, .string r_6, .slice r_7.p r_7.n r_7.c]] H1 fun r16 H17 =>
∃ n32 n33 : Int,
r16 = .tuple #[.int .i64 n32, .int .i64 n33] ∧
K (.tuple #[.int .i64 n32, .int .i64 n33]) H17)
 (
br ((r_0 : Int) == 8) (
FnH Tryz.prog 36 #[.pointer (some ⟨m, mo, none⟩), .agg #[.int .i64 r_0, .int .i64 r_1, .int .i64 r_2, .int .i64 r_3, .int .i64 r_4, .string r_5, .string r_6, .slice r_7.p r_7.n r_7.c]] H1 fun r17 H18 =>
∃ n34 n35 : Int,
r17 = .tuple #[.int .i64 n34, .int .i64 n35] ∧
K (.tuple #[.int .i64 n34, .int .i64 n35]) H18)
 (
K (.tuple #[.int .i64 0, .int .i64 1]) H1)))
 (
br ((r_0 : Int) == 6) (
br ((r_0 : Int) == 6) (
FnH Tryz.prog 35 #[.pointer (some ⟨m, mo, none⟩), .agg #[.int .i64 r_0, .int .i64 r_1, .int .i64 r_2, .int .i64 r_3, .int .i64 r_4, .string r_5, .string r_6, .slice r_7.p r_7.n r_7.c]] H1 fun r18 H19 =>
∃ n36 n37 : Int,
r18 = .tuple #[.int .i64 n36, .int .i64 n37] ∧
K (.tuple #[.int .i64 n36, .int .i64 n37]) H19)
 (
br ((r_0 : Int) == 8) (
FnH Tryz.prog 36 #[.pointer (some ⟨m, mo, none⟩), .agg #[.int .i64 r_0, .int .i64 r_1, .int .i64 r_2, .int .i64 r_3, .int .i64 r_4, .string r_5, .string r_6, .slice r_7.p r_7.n r_7.c]] H1 fun r19 H20 =>
∃ n38 n39 : Int,
r19 = .tuple #[.int .i64 n38, .int .i64 n39] ∧
K (.tuple #[.int .i64 n38, .int .i64 n39]) H20)
 (
K (.tuple #[.int .i64 0, .int .i64 1]) H1)))
 (
br ((r_0 : Int) == 7) (
br ((r_0 : Int) == 7) (
FnH Tryz.prog 35 #[.pointer (some ⟨m, mo, none⟩), .agg #[.int .i64 r_0, .int .i64 r_1, .int .i64 r_2, .int .i64 r_3, .int .i64 r_4, .string r_5, .string r_6, .slice r_7.p r_7.n r_7.c]] H1 fun r20 H21 =>
∃ n40 n41 : Int,
r20 = .tuple #[.int .i64 n40, .int .i64 n41] ∧
K (.tuple #[.int .i64 n40, .int .i64 n41]) H21)
 (
br ((r_0 : Int) == 8) (
FnH Tryz.prog 36 #[.pointer (some ⟨m, mo, none⟩), .agg #[.int .i64 r_0, .int .i64 r_1, .int .i64 r_2, .int .i64 r_3, .int .i64 r_4, .string r_5, .string r_6, .slice r_7.p r_7.n r_7.c]] H1 fun r21 H22 =>
∃ n42 n43 : Int,
r21 = .tuple #[.int .i64 n42, .int .i64 n43] ∧
K (.tuple #[.int .i64 n42, .int .i64 n43]) H22)
 (
K (.tuple #[.int .i64 0, .int .i64 1]) H1)))
 (
br ((r_0 : Int) == 9) (
br ((r_0 : Int) == 9) (
FnH Tryz.prog 35 #[.pointer (some ⟨m, mo, none⟩), .agg #[.int .i64 r_0, .int .i64 r_1, .int .i64 r_2, .int .i64 r_3, .int .i64 r_4, .string r_5, .string r_6, .slice r_7.p r_7.n r_7.c]] H1 fun r22 H23 =>
∃ n44 n45 : Int,
r22 = .tuple #[.int .i64 n44, .int .i64 n45] ∧
K (.tuple #[.int .i64 n44, .int .i64 n45]) H23)
 (
br ((r_0 : Int) == 8) (
FnH Tryz.prog 36 #[.pointer (some ⟨m, mo, none⟩), .agg #[.int .i64 r_0, .int .i64 r_1, .int .i64 r_2, .int .i64 r_3, .int .i64 r_4, .string r_5, .string r_6, .slice r_7.p r_7.n r_7.c]] H1 fun r23 H24 =>
∃ n46 n47 : Int,
r23 = .tuple #[.int .i64 n46, .int .i64 n47] ∧
K (.tuple #[.int .i64 n46, .int .i64 n47]) H24)
 (
K (.tuple #[.int .i64 0, .int .i64 1]) H1)))
 (
br ((r_0 : Int) == 10) (
FnH Tryz.prog 35 #[.pointer (some ⟨m, mo, none⟩), .agg #[.int .i64 r_0, .int .i64 r_1, .int .i64 r_2, .int .i64 r_3, .int .i64 r_4, .string r_5, .string r_6, .slice r_7.p r_7.n r_7.c]] H1 fun r24 H25 =>
∃ n48 n49 : Int,
r24 = .tuple #[.int .i64 n48, .int .i64 n49] ∧
K (.tuple #[.int .i64 n48, .int .i64 n49]) H25)
 (
br ((r_0 : Int) == 8) (
FnH Tryz.prog 36 #[.pointer (some ⟨m, mo, none⟩), .agg #[.int .i64 r_0, .int .i64 r_1, .int .i64 r_2, .int .i64 r_3, .int .i64 r_4, .string r_5, .string r_6, .slice r_7.p r_7.n r_7.c]] H1 fun r25 H26 =>
∃ n50 n51 : Int,
r25 = .tuple #[.int .i64 n50, .int .i64 n51] ∧
K (.tuple #[.int .i64 n50, .int .i64 n51]) H26)
 (
K (.tuple #[.int .i64 0, .int .i64 1]) H1))))))))))
theorem meta_Image_Apply_fn (m mo : Nat) (r_0 r_1 r_2 r_3 r_4 : Int) (r_5 r_6 : ByteArray) (r_7 : Sl) {H : Heap} {K : Value → Heap → Prop} (h : meta_Image_Apply_vc m mo r_0 r_1 r_2 r_3 r_4 r_5 r_6 r_7 H K) : FnH Tryz.prog 12 #[.pointer (some ⟨m, mo, none⟩), .agg #[.int .i64 r_0, .int .i64 r_1, .int .i64 r_2, .int .i64 r_3, .int .i64 r_4, .string r_5, .string r_6, .slice r_7.p r_7.n r_7.c]] H K :=
  denFn_fn Tryz.mixed meta_Image_Apply_ann Tryz.func12 (bodyOf_spec (by kernel_rfl)) (by kernel_rfl) h
end Go.Proofs.YtmofinghoacobaaGreatDoor
