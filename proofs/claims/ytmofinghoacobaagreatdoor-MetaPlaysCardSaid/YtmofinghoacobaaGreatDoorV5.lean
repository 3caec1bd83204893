import Derived.Test.YtmofinghoacobaaGreatDoorProg
import Derived.KernelRfl
import Derived.Test.YtmofinghoacobaaGreatDoorHlFn
import Derived.Test.YtmofinghoacobaaGreatDoorV4
namespace Go.Proofs.YtmofinghoacobaaGreatDoor
open Go.HL
set_option maxRecDepth 100000
def meta_Image_Find_ann : Anns := { hid := [6], loops := [(0, { slots := [(14, .int .i64)], kept := [1, 12, 13], locs := [], keptL := [] }), (2, { slots := [(7, .slice), (24, .int .i64)], kept := [6, 23], locs := [], keptL := [0] })], joins := [], mix := [] }
def meta_Image_Find_vc (m mo : Nat) (name : ByteArray) (H : Heap) (K : Value → Heap → Prop) : Prop :=
∃ l1 : Sl,
cellH H ⟨m, mo + 2, none⟩ = some (.slice l1.p l1.n l1.c) ∧
∃ I1 : Int → Heap → Prop,
∃ M1 : Int → Heap → Nat,
I1 0 H ∧
∀ n_1 : Int,
∀ H1 : Heap,
I1 n_1 H1 →
br (decide ((n_1 : Int) < (l1.n : Nat))) (
∃ q1 o1 : Nat,
 (l1.p : Option Addr) = some ⟨q1, o1, none⟩ ∧
0 ≤ (n_1 : Int) ∧
 (n_1 : Int) < (l1.n : Nat) ∧
∃ s1 : ByteArray,
cellH H1 ⟨q1, o1 + Int.toNat n_1 * 3, none⟩ = some (.string s1) ∧
∃ n1 : Int,
cellH H1 ⟨q1, o1 + Int.toNat n_1 * 3 + 1, none⟩ = some (.int .i64 n1) ∧
∃ n2 : Int,
cellH H1 ⟨q1, o1 + Int.toNat n_1 * 3 + 2, none⟩ = some (.int .i64 n2) ∧
br (s1.toList == name.toList) (
∃ I2 : Sl → Int → Heap → Prop,
∃ M2 : Sl → Int → Heap → Nat,
I2 ⟨none, 0, 0⟩ 0 H1 ∧
∀ l_1 : Sl,
∀ n_2 : Int,
∀ H2 : Heap,
I2 l_1 n_2 H2 →
br (decide ((n_2 : Int) < n2)) (
∀ q2 : Nat,
H2 q2 = none →
letH (Heap.upd H2 q2 (.cells #[.int .i64 (IntKind.wrap .i64 (n1 + n_2))] 3 (0, 0))) fun H3 =>
runH Tryz.prog (Builtin.append_ #[22, 22] 22 #[.slice l_1.p l_1.n l_1.c, .slice (some ⟨q2, 0, none⟩) 1 1]) H3 fun r1 H4 =>
∃ l2 : Sl,
r1 = .slice l2.p l2.n l2.c ∧
SelfEq ([.loc 0 0, .v (.int .i64 n2)], [some (74, [.string s1, .int .i64 n1, .int .i64 n2])], []) ∧
I2 l2 (IntKind.wrap .i64 (n_2 + 1)) H4 ∧
M2 l2 (IntKind.wrap .i64 (n_2 + 1)) H4 < M2 l_1 n_2 H2)
 (
K (.slice l_1.p l_1.n l_1.c) H2))
 (
SelfEq ([.v (.string name), .v (.slice l1.p l1.n l1.c), .v (.int .i64 (l1.n : Nat))], [], []) ∧
I1 (IntKind.wrap .i64 (n_1 + 1)) H1 ∧
M1 (IntKind.wrap .i64 (n_1 + 1)) H1 < M1 n_1 H1))
 (
K (.slice none 0 0) H1)
theorem meta_Image_Find_fn (m mo : Nat) (name : ByteArray) {H : Heap} {K : Value → Heap → Prop} (h : meta_Image_Find_vc m mo name H K) : FnH Tryz.prog 16 #[.pointer (some ⟨m, mo, none⟩), .string name] H K :=
  denFn_fn Tryz.mixed meta_Image_Find_ann Tryz.func16 (bodyOf_spec (by kernel_rfl)) (by kernel_rfl) h
def meta_Image_Part_ann : Anns := { hid := [4], loops := [], joins := [], mix := [] }
def meta_Image_Part_vc (m mo : Nat) (id : Int) (H : Heap) (K : Value → Heap → Prop) : Prop :=
br (decide ((id : Int) < 1)) (
K (.tuple #[.agg #[.int .i64 0, .int .i64 0, .int .i64 0, .int .i64 0, .slice none 0 0, .slice none 0 0, .slice none 0 0, .slice none 0 0, .int .i64 0], .bool false]) H)
 (
∃ l1 : Sl,
cellH H ⟨m, mo + 3, none⟩ = some (.slice l1.p l1.n l1.c) ∧
br (decide ((id : Int) > (l1.n : Nat))) (
K (.tuple #[.agg #[.int .i64 0, .int .i64 0, .int .i64 0, .int .i64 0, .slice none 0 0, .slice none 0 0, .slice none 0 0, .slice none 0 0, .int .i64 0], .bool false]) H)
 (
∃ l2 : Sl,
cellH H ⟨m, mo + 3, none⟩ = some (.slice l2.p l2.n l2.c) ∧
∃ q1 o1 : Nat,
 (l2.p : Option Addr) = some ⟨q1, o1, none⟩ ∧
0 ≤ ((IntKind.wrap .i64 (id - 1)) : Int) ∧
 ((IntKind.wrap .i64 (id - 1)) : Int) < (l2.n : Nat) ∧
∃ n1 : Int,
cellH H ⟨q1, o1 + Int.toNat (IntKind.wrap .i64 (id - 1)) * 9, none⟩ = some (.int .i64 n1) ∧
∃ n2 : Int,
cellH H ⟨q1, o1 + Int.toNat (IntKind.wrap .i64 (id - 1)) * 9 + 1, none⟩ = some (.int .i64 n2) ∧
∃ n3 : Int,
cellH H ⟨q1, o1 + Int.toNat (IntKind.wrap .i64 (id - 1)) * 9 + 2, none⟩ = some (.int .i64 n3) ∧
∃ n4 : Int,
cellH H ⟨q1, o1 + Int.toNat (IntKind.wrap .i64 (id - 1)) * 9 + 3, none⟩ = some (.int .i64 n4) ∧
∃ l3 : Sl,
cellH H ⟨q1, o1 + Int.toNat (IntKind.wrap .i64 (id - 1)) * 9 + 4, none⟩ = some (.slice l3.p l3.n l3.c) ∧
∃ l4 : Sl,
cellH H ⟨q1, o1 + Int.toNat (IntKind.wrap .i64 (id - 1)) * 9 + 5, none⟩ = some (.slice l4.p l4.n l4.c) ∧
∃ l5 : Sl,
cellH H ⟨q1, o1 + Int.toNat (IntKind.wrap .i64 (id - 1)) * 9 + 6, none⟩ = some (.slice l5.p l5.n l5.c) ∧
∃ l6 : Sl,
cellH H ⟨q1, o1 + Int.toNat (IntKind.wrap .i64 (id - 1)) * 9 + 7, none⟩ = some (.slice l6.p l6.n l6.c) ∧
∃ n5 : Int,
cellH H ⟨q1, o1 + Int.toNat (IntKind.wrap .i64 (id - 1)) * 9 + 8, none⟩ = some (.int .i64 n5) ∧
FnH Tryz.prog 37 #[.agg #[.int .i64 n1, .int .i64 n2, .int .i64 n3, .int .i64 n4, .slice l3.p l3.n l3.c, .slice l4.p l4.n l4.c, .slice l5.p l5.n l5.c, .slice l6.p l6.n l6.c, .int .i64 n5]] H fun r1 H1 =>
∃ n6 n7 n8 n9 : Int,
∃ l7 l8 l9 l10 : Sl,
∃ n10 : Int,
r1 = .agg #[.int .i64 n6, .int .i64 n7, .int .i64 n8, .int .i64 n9, .slice l7.p l7.n l7.c, .slice l8.p l8.n l8.c, .slice l9.p l9.n l9.c, .slice l10.p l10.n l10.c, .int .i64 n10] ∧
K (.tuple #[.agg #[.int .i64 n6, .int .i64 n7, .int .i64 n8, .int .i64 n9, .slice l7.p l7.n l7.c, .slice l8.p l8.n l8.c, .slice l9.p l9.n l9.c, .slice l10.p l10.n l10.c, .int .i64 n10], .bool true]) H1))
theorem meta_Image_Part_fn (m mo : Nat) (id : Int) {H : Heap} {K : Value → Heap → Prop} (h : meta_Image_Part_vc m mo id H K) : FnH Tryz.prog 30 #[.pointer (some ⟨m, mo, none⟩), .int .i64 id] H K :=
  denFn_fn Tryz.mixed meta_Image_Part_ann Tryz.func30 (bodyOf_spec (by kernel_rfl)) (by kernel_rfl) h
def meta_Image_Parts_ann : Anns := { hid := [5], loops := [(0, { slots := [(3, .slice), (11, .int .i64)], kept := [9, 10], locs := [], keptL := [] })], joins := [], mix := [] }
def meta_Image_Parts_vc (m mo : Nat) (H : Heap) (K : Value → Heap → Prop) : Prop :=
∃ l1 : Sl,
cellH H ⟨m, mo + 3, none⟩ = some (.slice l1.p l1.n l1.c) ∧
∃ I1 : Sl → Int → Heap → Prop,
∃ M1 : Sl → Int → Heap → Nat,
I1 ⟨none, 0, 0⟩ 0 H ∧
∀ l_1 : Sl,
∀ n_1 : Int,
∀ H1 : Heap,
I1 l_1 n_1 H1 →
br (decide ((n_1 : Int) < (l1.n : Nat))) (
∃ q1 o1 : Nat,
 (l1.p : Option Addr) = some ⟨q1, o1, none⟩ ∧
0 ≤ (n_1 : Int) ∧
 (n_1 : Int) < (l1.n : Nat) ∧
∃ n1 : Int,
cellH H1 ⟨q1, o1 + Int.toNat n_1 * 9, none⟩ = some (.int .i64 n1) ∧
∃ n2 : Int,
cellH H1 ⟨q1, o1 + Int.toNat n_1 * 9 + 1, none⟩ = some (.int .i64 n2) ∧
∃ n3 : Int,
cellH H1 ⟨q1, o1 + Int.toNat n_1 * 9 + 2, none⟩ = some (.int .i64 n3) ∧
∃ n4 : Int,
cellH H1 ⟨q1, o1 + Int.toNat n_1 * 9 + 3, none⟩ = some (.int .i64 n4) ∧
∃ l2 : Sl,
cellH H1 ⟨q1, o1 + Int.toNat n_1 * 9 + 4, none⟩ = some (.slice l2.p l2.n l2.c) ∧
∃ l3 : Sl,
cellH H1 ⟨q1, o1 + Int.toNat n_1 * 9 + 5, none⟩ = some (.slice l3.p l3.n l3.c) ∧
∃ l4 : Sl,
cellH H1 ⟨q1, o1 + Int.toNat n_1 * 9 + 6, none⟩ = some (.slice l4.p l4.n l4.c) ∧
∃ l5 : Sl,
cellH H1 ⟨q1, o1 + Int.toNat n_1 * 9 + 7, none⟩ = some (.slice l5.p l5.n l5.c) ∧
∃ n5 : Int,
cellH H1 ⟨q1, o1 + Int.toNat n_1 * 9 + 8, none⟩ = some (.int .i64 n5) ∧
FnH Tryz.prog 37 #[.agg #[.int .i64 n1, .int .i64 n2, .int .i64 n3, .int .i64 n4, .slice l2.p l2.n l2.c, .slice l3.p l3.n l3.c, .slice l4.p l4.n l4.c, .slice l5.p l5.n l5.c, .int .i64 n5]] H1 fun r1 H2 =>
∃ n6 n7 n8 n9 : Int,
∃ l6 l7 l8 l9 : Sl,
∃ n10 : Int,
r1 = .agg #[.int .i64 n6, .int .i64 n7, .int .i64 n8, .int .i64 n9, .slice l6.p l6.n l6.c, .slice l7.p l7.n l7.c, .slice l8.p l8.n l8.c, .slice l9.p l9.n l9.c, .int .i64 n10] ∧
∀ q2 : Nat,
H2 q2 = none →
letH (Heap.upd H2 q2 (.cells #[.int .i64 n6, .int .i64 n7, .int .i64 n8, .int .i64 n9, .slice l6.p l6.n l6.c, .slice l7.p l7.n l7.c, .slice l8.p l8.n l8.c, .slice l9.p l9.n l9.c, .int .i64 n10] 41 (0, 0))) fun H3 =>
runH Tryz.prog (Builtin.append_ #[35, 35] 35 #[.slice l_1.p l_1.n l_1.c, .slice (some ⟨q2, 0, none⟩) 1 1]) H3 fun r2 H4 =>
∃ l10 : Sl,
r2 = .slice l10.p l10.n l10.c ∧
SelfEq ([.v (.slice l1.p l1.n l1.c), .v (.int .i64 (l1.n : Nat))], [], []) ∧
I1 l10 (IntKind.wrap .i64 (n_1 + 1)) H4 ∧
M1 l10 (IntKind.wrap .i64 (n_1 + 1)) H4 < M1 l_1 n_1 H1)
 (
K (.slice l_1.p l_1.n l_1.c) H1)
theorem meta_Image_Parts_fn (m mo : Nat) {H : Heap} {K : Value → Heap → Prop} (h : meta_Image_Parts_vc m mo H K) : FnH Tryz.prog 14 #[.pointer (some ⟨m, mo, none⟩)] H K :=
  denFn_fn Tryz.mixed meta_Image_Parts_ann Tryz.func14 (bodyOf_spec (by kernel_rfl)) (by kernel_rfl) h
def meta_Image_fencing_ann : Anns := { hid := [], loops := [], joins := [], mix := [(1, [13])] }
def meta_Image_fencing_vc (m mo : Nat) (id : Int) (H : Heap) (K : Value → Heap → Prop) : Prop :=
∀ q1 : Nat,
H q1 = none →
letH (Heap.upd H q1 (.cells #[.int .i64 id] 3 (0, 0))) fun H1 =>
∃ m1 : Option Nat,
cellH H1 ⟨m, mo + 1, none⟩ = some (.map m1) ∧
∃ n1 : Int,
cellH H1 ⟨q1, 0, none⟩ = some (.int .i64 n1) ∧
∃ m2 : Option Nat,
cellH H1 ⟨m, mo + 1, none⟩ = some (.map m2) ∧
∃ n2 : Int,
cellH H1 ⟨q1, 0, none⟩ = some (.int .i64 n2) ∧
runH Tryz.prog (Instr.lookup 67 (.map m2) (.int .i64 n2) false) H1 fun r1 H2 =>
∃ n3 : Int,
∃ b1 : Bool,
r1 = .agg #[.int .i64 n3, .bool b1] ∧
Sub H1 H2 ∧
runH Tryz.prog (Instr.mapUpdate 67 (.map m1) (.int .i64 n1) (.agg #[.int .i64 n3, .bool false])) H2 fun _ H3 =>
FnH Tryz.prog 19 #[.pointer (some ⟨m, mo, none⟩)] H3 fun r2 H4 =>
∃ l1 : Sl,
r2 = .slice l1.p l1.n l1.c ∧
∀ q2 : Nat,
H4 q2 = none →
letH (Heap.upd H4 q2 (.cells #[.slice none 0 0] 22 (0, 0))) fun H5 =>
 (∃ u, cellH H5 ⟨q2, 0, none⟩ = some u) ∧
frozenH H5 ⟨q2, 0, none⟩ = false ∧
letH (Heap.set H5 ⟨q2, 0, none⟩ (.slice l1.p l1.n l1.c)) fun H6 =>
FnH Tryz.prog 68 #[.pointer (some ⟨m, mo, none⟩), .func (.func 106) #[] #[.pointer (some ⟨q1, 0, none⟩), .pointer (some ⟨q2, 0, none⟩)]] H6 fun r3 H7 =>
r3 = .tuple #[] ∧
K (.tuple #[]) H7
theorem meta_Image_fencing_fn (m mo : Nat) (id : Int) {H : Heap} {K : Value → Heap → Prop} (h : meta_Image_fencing_vc m mo id H K) : FnH Tryz.prog 67 #[.pointer (some ⟨m, mo, none⟩), .int .i64 id] H K :=
  denFn_fn Tryz.mixed meta_Image_fencing_ann Tryz.func67 (bodyOf_spec (by kernel_rfl)) (by kernel_rfl) h
def meta_Image_pid_ann : Anns := { hid := [3], loops := [], joins := [((0, 6), { slots := [(21, .bool)], kept := [0, 3, 6], locs := [], keptL := [0] })], mix := [(13, [11])] }
def meta_Image_pid_vc (m mo : Nat) (r_0 r_1 r_2 r_3 r_4 : Int) (r_5 r_6 : ByteArray) (r_7 : Sl) (H : Heap) (K : Value → Heap → Prop) : Prop :=
∃ l1 : Sl,
cellH H ⟨m, mo + 4, none⟩ = some (.slice l1.p l1.n l1.c) ∧
br (decide ((r_1 : Int) < 0)) (
K (.tuple #[.int .i64 0, .int .i64 1]) H)
 (
br (decide ((r_1 : Int) > (l1.n : Nat))) (
K (.tuple #[.int .i64 0, .int .i64 8]) H)
 (
∃ J1 : Bool → Heap → Prop,
 (br ((r_1 : Int) == 0) (
SelfEq ([.v (.pointer (some ⟨m, mo, none⟩)), .loc 0 0, .v (.int .i64 (l1.n : Nat))], [some (31, [.int .i64 r_0, .int .i64 r_1, .int .i64 r_2, .int .i64 r_3, .int .i64 r_4, .string r_5, .string r_6, .slice r_7.p r_7.n r_7.c])], []) ∧
J1 (decide (((l1.n : Nat) : Int) ≥ 1000)) H)
 (
SelfEq ([.v (.pointer (some ⟨m, mo, none⟩)), .loc 0 0, .v (.int .i64 (l1.n : Nat))], [some (31, [.int .i64 r_0, .int .i64 r_1, .int .i64 r_2, .int .i64 r_3, .int .i64 r_4, .string r_5, .string r_6, .slice r_7.p r_7.n r_7.c])], []) ∧
J1 false H)) ∧
∀ b_1 : Bool,
∀ H1 : Heap,
J1 b_1 H1 →
br (b_1) (
K (.tuple #[.int .i64 0, .int .i64 3]) H1)
 (
br ((r_1 : Int) == 0) (
∃ l2 : Sl,
cellH H1 ⟨m, mo + 4, none⟩ = some (.slice l2.p l2.n l2.c) ∧
∀ q1 : Nat,
H1 q1 = none →
letH (Heap.upd H1 q1 (.cells #[.int .i64 0] 3 (0, 0))) fun H2 =>
runH Tryz.prog (Builtin.append_ #[22, 22] 22 #[.slice l2.p l2.n l2.c, .slice (some ⟨q1, 0, none⟩) 1 1]) H2 fun r1 H3 =>
∃ l3 : Sl,
r1 = .slice l3.p l3.n l3.c ∧
 (∃ u, cellH H3 ⟨m, mo + 4, none⟩ = some u) ∧
frozenH H3 ⟨m, mo + 4, none⟩ = false ∧
letH (Heap.set H3 ⟨m, mo + 4, none⟩ (.slice l3.p l3.n l3.c)) fun H4 =>
K (.tuple #[.int .i64 (IntKind.wrap .i64 ((l1.n : Nat) + 1)), .int .i64 0]) H4)
 (
∃ l4 : Sl,
cellH H1 ⟨m, mo + 4, none⟩ = some (.slice l4.p l4.n l4.c) ∧
∃ q2 o1 : Nat,
 (l4.p : Option Addr) = some ⟨q2, o1, none⟩ ∧
0 ≤ ((IntKind.wrap .i64 (r_1 - 1)) : Int) ∧
 ((IntKind.wrap .i64 (r_1 - 1)) : Int) < (l4.n : Nat) ∧
∃ n1 : Int,
cellH H1 ⟨q2, o1 + Int.toNat (IntKind.wrap .i64 (r_1 - 1)), none⟩ = some (.int .i64 n1) ∧
br (decide ((n1 : Int) ≥ 1000000000)) (
K (.tuple #[.int .i64 0, .int .i64 20]) H1)
 (
∃ l5 : Sl,
cellH H1 ⟨m, mo + 4, none⟩ = some (.slice l5.p l5.n l5.c) ∧
∃ q3 o2 : Nat,
 (l5.p : Option Addr) = some ⟨q3, o2, none⟩ ∧
0 ≤ ((IntKind.wrap .i64 (r_1 - 1)) : Int) ∧
 ((IntKind.wrap .i64 (r_1 - 1)) : Int) < (l5.n : Nat) ∧
∃ n2 : Int,
cellH H1 ⟨q3, o2 + Int.toNat (IntKind.wrap .i64 (r_1 - 1)), none⟩ = some (.int .i64 n2) ∧
∃ q4 o3 : Nat,
 (l5.p : Option Addr) = some ⟨q4, o3, none⟩ ∧
0 ≤ ((IntKind.wrap .i64 (r_1 - 1)) : Int) ∧
 ((IntKind.wrap .i64 (r_1 - 1)) : Int) < (l5.n : Nat) ∧
 (∃ u, cellH H1 ⟨q4, o3 + Int.toNat (IntKind.wrap .i64 (r_1 - 1)), none⟩ = some u) ∧
frozenH H1 ⟨q4, o3 + Int.toNat (IntKind.wrap .i64 (r_1 - 1)), none⟩ = false ∧
letH (Heap.set H1 ⟨q4, o3 + Int.toNat (IntKind.wrap .i64 (r_1 - 1)), none⟩ (.int .i64 (IntKind.wrap .i64 (n2 + 1)))) fun H5 =>
∃ l6 : Sl,
cellH H5 ⟨m, mo + 4, none⟩ = some (.slice l6.p l6.n l6.c) ∧
∃ q5 o4 : Nat,
 (l6.p : Option Addr) = some ⟨q5, o4, none⟩ ∧
0 ≤ ((IntKind.wrap .i64 (r_1 - 1)) : Int) ∧
 ((IntKind.wrap .i64 (r_1 - 1)) : Int) < (l6.n : Nat) ∧
∃ n3 : Int,
cellH H5 ⟨q5, o4 + Int.toNat (IntKind.wrap .i64 (r_1 - 1)), none⟩ = some (.int .i64 n3) ∧
K (.tuple #[.int .i64 n3, .int .i64 0]) H5)))))
theorem meta_Image_pid_fn (m mo : Nat) (r_0 r_1 r_2 r_3 r_4 : Int) (r_5 r_6 : ByteArray) (r_7 : Sl) {H : Heap} {K : Value → Heap → Prop} (h : meta_Image_pid_vc m mo r_0 r_1 r_2 r_3 r_4 r_5 r_6 r_7 H K) : FnH Tryz.prog 36 #[.pointer (some ⟨m, mo, none⟩), .agg #[.int .i64 r_0, .int .i64 r_1, .int .i64 r_2, .int .i64 r_3, .int .i64 r_4, .string r_5, .string r_6, .slice r_7.p r_7.n r_7.c]] H K :=
  denFn_fn Tryz.mixed meta_Image_pid_ann Tryz.func36 (bodyOf_spec (by kernel_rfl)) (by kernel_rfl) h
def meta_ints_ann : Anns := { hid := [], loops := [(0, { slots := [(3, .str), (8, .int .i64)], kept := [6, 7], locs := [], keptL := [] })], joins := [], mix := [] }
def meta_ints_vc (l : Sl) (H : Heap) (K : Value → Heap → Prop) : Prop :=
∃ I1 : ByteArray → Int → Heap → Prop,
∃ M1 : ByteArray → Int → Heap → Nat,
I1 (⟨#[]⟩ : ByteArray) 0 H ∧
∀ s_1 : ByteArray,
∀ n_1 : Int,
∀ H1 : Heap,
I1 s_1 n_1 H1 →
br (decide ((n_1 : Int) < (l.n : Nat))) (
∃ q1 o1 : Nat,
 (l.p : Option Addr) = some ⟨q1, o1, none⟩ ∧
0 ≤ (n_1 : Int) ∧
 (n_1 : Int) < (l.n : Nat) ∧
∃ n1 : Int,
cellH H1 ⟨q1, o1 + Int.toNat n_1, none⟩ = some (.int .i64 n1) ∧
FnH Tryz.prog 41 #[.int .i64 n1] H1 fun r1 H2 =>
∃ s1 : ByteArray,
r1 = .string s1 ∧
s_1.size + s1.size < 9223372036854775808 ∧
SelfEq ([.v (.slice l.p l.n l.c), .v (.int .i64 (l.n : Nat))], [], []) ∧
I1 (s_1 ++ s1) (IntKind.wrap .i64 (n_1 + 1)) H2 ∧
M1 (s_1 ++ s1) (IntKind.wrap .i64 (n_1 + 1)) H2 < M1 s_1 n_1 H1)
 (
K (.string s_1) H1)
theorem meta_ints_fn (l : Sl) {H : Heap} {K : Value → Heap → Prop} (h : meta_ints_vc l H K) : FnH Tryz.prog 39 #[.slice l.p l.n l.c] H K :=
  denFn_fn Tryz.mixed meta_ints_ann Tryz.func39 (bodyOf_spec (by kernel_rfl)) (by kernel_rfl) h
def meta_list_ann : Anns := { hid := [], loops := [], joins := [], mix := [] }
def meta_list_vc (l : Sl) (H : Heap) (K : Value → Heap → Prop) : Prop :=
FnH Tryz.prog 41 #[.int .i64 (l.n : Nat)] H fun r1 H1 =>
∃ s1 : ByteArray,
r1 = .string s1 ∧
FnH Tryz.prog 39 #[.slice l.p l.n l.c] H1 fun r2 H2 =>
∃ s2 : ByteArray,
r2 = .string s2 ∧
s1.size + s2.size < 9223372036854775808 ∧
K (.string (s1 ++ s2)) H2
theorem meta_list_fn (l : Sl) {H : Heap} {K : Value → Heap → Prop} (h : meta_list_vc l H K) : FnH Tryz.prog 42 #[.slice l.p l.n l.c] H K :=
  denFn_fn Tryz.mixed meta_list_ann Tryz.func42 (bodyOf_spec (by kernel_rfl)) (by kernel_rfl) h
def meta_four_ann : Anns := { hid := [], loops := [], joins := [], mix := [] }
def meta_four_vc (n : Int) (H : Heap) (K : Value → Heap → Prop) : Prop :=
∀ q1 : Nat,
H q1 = none →
letH (Heap.upd H q1 (.cells #[.int .u8 (IntKind.wrap .u8 (shrI .i64 n 24)), .int .u8 (IntKind.wrap .u8 (shrI .i64 n 16)), .int .u8 (IntKind.wrap .u8 (shrI .i64 n 8)), .int .u8 (IntKind.wrap .u8 n)] 5 (0, 0))) fun H1 =>
runH Tryz.prog (convert 58 9 (.slice (some ⟨q1, 0, none⟩) 4 4)) H1 fun r1 H2 =>
∃ s1 : ByteArray,
r1 = .string s1 ∧
K (.string s1) H2
theorem meta_four_fn (n : Int) {H : Heap} {K : Value → Heap → Prop} (h : meta_four_vc n H K) : FnH Tryz.prog 43 #[.int .i64 n] H K :=
  denFn_fn Tryz.mixed meta_four_ann Tryz.func43 (bodyOf_spec (by kernel_rfl)) (by kernel_rfl) h
def meta_Image_Keep_ann : Anns := { hid := [6, 9, 11], loops := [(0, { slots := [(3, .str), (26, .int .i64)], kept := [0, 24, 25], locs := [], keptL := [] }), (2, { slots := [(3, .str), (61, .int .i64)], kept := [0, 59, 60], locs := [], keptL := [] }), (4, { slots := [(3, .str), (96, .int .i64)], kept := [0, 94, 95], locs := [], keptL := [] })], joins := [], mix := [(1, []), (15, []), (21, [])] }
def meta_Image_Keep_vc (m mo : Nat) (H : Heap) (K : Value → Heap → Prop) : Prop :=
∃ n1 : Int,
cellH H ⟨m, mo, none⟩ = some (.int .i64 n1) ∧
∃ m1 : Option Nat,
cellH H ⟨m, mo + 1, none⟩ = some (.map m1) ∧
lenM H m1 fun n2 =>
∀ q1 : Nat,
H q1 = none →
letH (Heap.upd H q1 (.cells #[.int .i64 n1, .int .i64 (n2 : Nat)] 3 (0, 0))) fun H1 =>
Sub H H1 ∧
FnH Tryz.prog 39 #[.slice (some ⟨q1, 0, none⟩) 2 2] H1 fun r1 H2 =>
∃ s1 : ByteArray,
r1 = .string s1 ∧
Sub H H2 ∧
FnH Tryz.prog 40 #[.pointer (some ⟨m, mo, none⟩)] H2 fun r2 H3 =>
∃ l1 : Sl,
r2 = .slice l1.p l1.n l1.c ∧
∃ I1 : ByteArray → Int → Heap → Prop,
∃ M1 : ByteArray → Int → Heap → Nat,
I1 s1 0 H3 ∧
∀ s_1 : ByteArray,
∀ n_1 : Int,
∀ H4 : Heap,
I1 s_1 n_1 H4 →
br (decide ((n_1 : Int) < (l1.n : Nat))) (
∃ q2 o1 : Nat,
 (l1.p : Option Addr) = some ⟨q2, o1, none⟩ ∧
0 ≤ (n_1 : Int) ∧
 (n_1 : Int) < (l1.n : Nat) ∧
∃ n3 : Int,
cellH H4 ⟨q2, o1 + Int.toNat n_1, none⟩ = some (.int .i64 n3) ∧
∃ m2 : Option Nat,
cellH H4 ⟨m, mo + 1, none⟩ = some (.map m2) ∧
runH Tryz.prog (Instr.lookup 67 (.map m2) (.int .i64 n3) false) H4 fun r3 H5 =>
∃ n4 : Int,
∃ b1 : Bool,
r3 = .agg #[.int .i64 n4, .bool b1] ∧
br (b1) (
∀ q3 : Nat,
H5 q3 = none →
letH (Heap.upd H5 q3 (.cells #[.int .i64 n3, .int .i64 n4, .int .i64 1] 3 (0, 0))) fun H6 =>
FnH Tryz.prog 39 #[.slice (some ⟨q3, 0, none⟩) 3 3] H6 fun r4 H7 =>
∃ s2 : ByteArray,
r4 = .string s2 ∧
s_1.size + s2.size < 9223372036854775808 ∧
SelfEq ([.v (.pointer (some ⟨m, mo, none⟩)), .v (.slice l1.p l1.n l1.c), .v (.int .i64 (l1.n : Nat))], [], []) ∧
I1 (s_1 ++ s2) (IntKind.wrap .i64 (n_1 + 1)) H7 ∧
M1 (s_1 ++ s2) (IntKind.wrap .i64 (n_1 + 1)) H7 < M1 s_1 n_1 H4)
 (
∀ q4 : Nat,
H5 q4 = none →
letH (Heap.upd H5 q4 (.cells #[.int .i64 n3, .int .i64 n4, .int .i64 0] 3 (0, 0))) fun H8 =>
FnH Tryz.prog 39 #[.slice (some ⟨q4, 0, none⟩) 3 3] H8 fun r5 H9 =>
∃ s3 : ByteArray,
r5 = .string s3 ∧
s_1.size + s3.size < 9223372036854775808 ∧
SelfEq ([.v (.pointer (some ⟨m, mo, none⟩)), .v (.slice l1.p l1.n l1.c), .v (.int .i64 (l1.n : Nat))], [], []) ∧
I1 (s_1 ++ s3) (IntKind.wrap .i64 (n_1 + 1)) H9 ∧
M1 (s_1 ++ s3) (IntKind.wrap .i64 (n_1 + 1)) H9 < M1 s_1 n_1 H4))
 (
∃ l2 : Sl,
cellH H4 ⟨m, mo + 2, none⟩ = some (.slice l2.p l2.n l2.c) ∧
∀ q5 : Nat,
H4 q5 = none →
letH (Heap.upd H4 q5 (.cells #[.int .i64 (l2.n : Nat)] 3 (0, 0))) fun H10 =>
FnH Tryz.prog 39 #[.slice (some ⟨q5, 0, none⟩) 1 1] H10 fun r6 H11 =>
∃ s4 : ByteArray,
r6 = .string s4 ∧
s_1.size + s4.size < 9223372036854775808 ∧
∃ l3 : Sl,
cellH H11 ⟨m, mo + 2, none⟩ = some (.slice l3.p l3.n l3.c) ∧
∃ I2 : ByteArray → Int → Heap → Prop,
∃ M2 : ByteArray → Int → Heap → Nat,
I2 (s_1 ++ s4) 0 H11 ∧
∀ s_2 : ByteArray,
∀ n_2 : Int,
∀ H12 : Heap,
I2 s_2 n_2 H12 →
br (decide ((n_2 : Int) < (l3.n : Nat))) (
∃ q6 o2 : Nat,
 (l3.p : Option Addr) = some ⟨q6, o2, none⟩ ∧
0 ≤ (n_2 : Int) ∧
 (n_2 : Int) < (l3.n : Nat) ∧
∃ s5 : ByteArray,
cellH H12 ⟨q6, o2 + Int.toNat n_2 * 3, none⟩ = some (.string s5) ∧
∃ n5 : Int,
cellH H12 ⟨q6, o2 + Int.toNat n_2 * 3 + 1, none⟩ = some (.int .i64 n5) ∧
∃ n6 : Int,
cellH H12 ⟨q6, o2 + Int.toNat n_2 * 3 + 2, none⟩ = some (.int .i64 n6) ∧
 (FnH Tryz.prog 41 #[.int .i64 (s5.size : Nat)] H12 fun r7 H13 =>
∃ s6 : ByteArray,
r7 = .string s6 ∧
Sub H12 H13 ∧
s6.size + s5.size < 9223372036854775808 ∧
∀ q7 : Nat,
H13 q7 = none →
letH (Heap.upd H13 q7 (.cells #[.int .i64 n5, .int .i64 n6] 3 (0, 0))) fun H14 =>
Sub H12 H14 ∧
FnH Tryz.prog 39 #[.slice (some ⟨q7, 0, none⟩) 2 2] H14 fun r8 H15 =>
∃ s7 : ByteArray,
r8 = .string s7 ∧
Sub H12 H15 ∧
 (s6 ++ s5).size + s7.size < 9223372036854775808 ∧
s_2.size + ((s6 ++ s5) ++ s7).size < 9223372036854775808 ∧
SelfEq ([.v (.pointer (some ⟨m, mo, none⟩)), .v (.slice l3.p l3.n l3.c), .v (.int .i64 (l3.n : Nat))], [], []) ∧
I2 (s_2 ++ ((s6 ++ s5) ++ s7)) (IntKind.wrap .i64 (n_2 + 1)) H15 ∧
M2 (s_2 ++ ((s6 ++ s5) ++ s7)) (IntKind.wrap .i64 (n_2 + 1)) H15 < M2 s_2 n_2 H12) ∧
∀ q8 : Nat,
H12 q8 = none →
letH (Heap.upd H12 q8 (.cells #[.int .i64 n5, .int .i64 n6] 3 (0, 0))) fun H16 =>
Sub H12 H16 ∧
FnH Tryz.prog 41 #[.int .i64 (s5.size : Nat)] H16 fun r9 H17 =>
∃ s8 : ByteArray,
r9 = .string s8 ∧
Sub H12 H17 ∧
s8.size + s5.size < 9223372036854775808 ∧
FnH Tryz.prog 39 #[.slice (some ⟨q8, 0, none⟩) 2 2] H17 fun r10 H18 =>
∃ s9 : ByteArray,
r10 = .string s9 ∧
Sub H12 H18 ∧
 (s8 ++ s5).size + s9.size < 9223372036854775808 ∧
s_2.size + ((s8 ++ s5) ++ s9).size < 9223372036854775808 ∧
SelfEq ([.v (.pointer (some ⟨m, mo, none⟩)), .v (.slice l3.p l3.n l3.c), .v (.int .i64 (l3.n : Nat))], [], []) ∧
I2 (s_2 ++ ((s8 ++ s5) ++ s9)) (IntKind.wrap .i64 (n_2 + 1)) H18 ∧
M2 (s_2 ++ ((s8 ++ s5) ++ s9)) (IntKind.wrap .i64 (n_2 + 1)) H18 < M2 s_2 n_2 H12)
 (
∃ l4 : Sl,
cellH H12 ⟨m, mo + 3, none⟩ = some (.slice l4.p l4.n l4.c) ∧
∀ q9 : Nat,
H12 q9 = none →
letH (Heap.upd H12 q9 (.cells #[.int .i64 (l4.n : Nat)] 3 (0, 0))) fun H19 =>
FnH Tryz.prog 39 #[.slice (some ⟨q9, 0, none⟩) 1 1] H19 fun r11 H20 =>
∃ s10 : ByteArray,
r11 = .string s10 ∧
s_2.size + s10.size < 9223372036854775808 ∧
∃ l5 : Sl,
cellH H20 ⟨m, mo + 3, none⟩ = some (.slice l5.p l5.n l5.c) ∧
∃ I3 : ByteArray → Int → Heap → Prop,
∃ M3 : ByteArray → Int → Heap → Nat,
I3 (s_2 ++ s10) 0 H20 ∧
∀ s_3 : ByteArray,
∀ n_3 : Int,
∀ H21 : Heap,
I3 s_3 n_3 H21 →
br (decide ((n_3 : Int) < (l5.n : Nat))) (
∃ q10 o3 : Nat,
 (l5.p : Option Addr) = some ⟨q10, o3, none⟩ ∧
0 ≤ (n_3 : Int) ∧
 (n_3 : Int) < (l5.n : Nat) ∧
∃ n7 : Int,
cellH H21 ⟨q10, o3 + Int.toNat n_3 * 9, none⟩ = some (.int .i64 n7) ∧
∃ n8 : Int,
cellH H21 ⟨q10, o3 + Int.toNat n_3 * 9 + 1, none⟩ = some (.int .i64 n8) ∧
∃ n9 : Int,
cellH H21 ⟨q10, o3 + Int.toNat n_3 * 9 + 2, none⟩ = some (.int .i64 n9) ∧
∃ n10 : Int,
cellH H21 ⟨q10, o3 + Int.toNat n_3 * 9 + 3, none⟩ = some (.int .i64 n10) ∧
∃ l6 : Sl,
cellH H21 ⟨q10, o3 + Int.toNat n_3 * 9 + 4, none⟩ = some (.slice l6.p l6.n l6.c) ∧
∃ l7 : Sl,
cellH H21 ⟨q10, o3 + Int.toNat n_3 * 9 + 5, none⟩ = some (.slice l7.p l7.n l7.c) ∧
∃ l8 : Sl,
cellH H21 ⟨q10, o3 + Int.toNat n_3 * 9 + 6, none⟩ = some (.slice l8.p l8.n l8.c) ∧
∃ l9 : Sl,
cellH H21 ⟨q10, o3 + Int.toNat n_3 * 9 + 7, none⟩ = some (.slice l9.p l9.n l9.c) ∧
∃ n11 : Int,
cellH H21 ⟨q10, o3 + Int.toNat n_3 * 9 + 8, none⟩ = some (.int .i64 n11) ∧
∀ q11 : Nat,
H21 q11 = none →
letH (Heap.upd H21 q11 (.cells #[.int .i64 n8, .int .i64 n9, .int .i64 n10, .int .i64 n11] 3 (0, 0))) fun H22 =>
Sub H21 H22 ∧
FnH Tryz.prog 39 #[.slice (some ⟨q11, 0, none⟩) 4 4] H22 fun r12 H23 =>
∃ s11 : ByteArray,
r12 = .string s11 ∧
Sub H21 H23 ∧
FnH Tryz.prog 42 #[.slice l6.p l6.n l6.c] H23 fun r13 H24 =>
∃ s12 : ByteArray,
r13 = .string s12 ∧
Sub H21 H24 ∧
s11.size + s12.size < 9223372036854775808 ∧
FnH Tryz.prog 42 #[.slice l7.p l7.n l7.c] H24 fun r14 H25 =>
∃ s13 : ByteArray,
r14 = .string s13 ∧
Sub H21 H25 ∧
 (s11 ++ s12).size + s13.size < 9223372036854775808 ∧
FnH Tryz.prog 42 #[.slice l8.p l8.n l8.c] H25 fun r15 H26 =>
∃ s14 : ByteArray,
r15 = .string s14 ∧
Sub H21 H26 ∧
 ((s11 ++ s12) ++ s13).size + s14.size < 9223372036854775808 ∧
FnH Tryz.prog 42 #[.slice l9.p l9.n l9.c] H26 fun r16 H27 =>
∃ s15 : ByteArray,
r16 = .string s15 ∧
Sub H21 H27 ∧
 (((s11 ++ s12) ++ s13) ++ s14).size + s15.size < 9223372036854775808 ∧
s_3.size + ((((s11 ++ s12) ++ s13) ++ s14) ++ s15).size < 9223372036854775808 ∧
SelfEq ([.v (.pointer (some ⟨m, mo, none⟩)), .v (.slice l5.p l5.n l5.c), .v (.int .i64 (l5.n : Nat))], [], []) ∧
I3 (s_3 ++ ((((s11 ++ s12) ++ s13) ++ s14) ++ s15)) (IntKind.wrap .i64 (n_3 + 1)) H27 ∧
M3 (s_3 ++ ((((s11 ++ s12) ++ s13) ++ s14) ++ s15)) (IntKind.wrap .i64 (n_3 + 1)) H27 < M3 s_3 n_3 H21)
 (
∃ l10 : Sl,
cellH H21 ⟨m, mo + 4, none⟩ = some (.slice l10.p l10.n l10.c) ∧
FnH Tryz.prog 42 #[.slice l10.p l10.n l10.c] H21 fun r17 H28 =>
∃ s16 : ByteArray,
r17 = .string s16 ∧
s_3.size + s16.size < 9223372036854775808 ∧
FnH Tryz.prog 44 #[.string (s_3 ++ s16)] H28 fun r18 H29 =>
∃ n12 : Int,
r18 = .int .i64 n12 ∧
FnH Tryz.prog 43 #[.int .i64 n12] H29 fun r19 H30 =>
∃ s17 : ByteArray,
r19 = .string s17 ∧
s17.size + (s_3 ++ s16).size < 9223372036854775808 ∧
K (.string (s17 ++ (s_3 ++ s16))) H30)))
theorem meta_Image_Keep_fn (m mo : Nat) {H : Heap} {K : Value → Heap → Prop} (h : meta_Image_Keep_vc m mo H K) : FnH Tryz.prog 18 #[.pointer (some ⟨m, mo, none⟩)] H K :=
  denFn_fn Tryz.mixed meta_Image_Keep_ann Tryz.func18 (bodyOf_spec (by kernel_rfl)) (by kernel_rfl) h
end Go.Proofs.YtmofinghoacobaaGreatDoor
