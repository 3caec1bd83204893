import Derived.Test.YtmofinghoacobaaGreatDoorProg
import Derived.KernelRfl
import Derived.Test.YtmofinghoacobaaGreatDoorHlFn
import Derived.Test.YtmofinghoacobaaGreatDoorV9
namespace Go.Proofs.YtmofinghoacobaaGreatDoor
open Go.HL
set_option maxRecDepth 100000
def logboomref11_Has_ann : Anns := { hid := [], loops := [(0, { slots := [(5, .int .i64)], kept := [0, 1], locs := [], keptL := [] })], joins := [], mix := [] }
def logboomref11_Has_vc (l : Sl) (x : Int) (H : Heap) (K : Value → Heap → Prop) : Prop :=
∃ I1 : Int → Heap → Prop,
∃ M1 : Int → Heap → Nat,
I1 0 H ∧
∀ i_1 : Int,
∀ H1 : Heap,
I1 i_1 H1 →
br (decide ((i_1 : Int) < (l.n : Nat))) (
∃ q1 o1 : Nat,
 (l.p : Option Addr) = some ⟨q1, o1, none⟩ ∧
0 ≤ (i_1 : Int) ∧
 (i_1 : Int) < (l.n : Nat) ∧
∃ n1 : Int,
cellH H1 ⟨q1, o1 + Int.toNat i_1, none⟩ = some (.int .i64 n1) ∧
br ((n1 : Int) == x) (
K (.bool true) H1)
 (
SelfEq ([.v (.slice l.p l.n l.c), .v (.int .i64 x)], [], []) ∧
I1 (IntKind.wrap .i64 (i_1 + 1)) H1 ∧
M1 (IntKind.wrap .i64 (i_1 + 1)) H1 < M1 i_1 H1))
 (
K (.bool false) H1)
theorem logboomref11_Has_fn (l : Sl) (x : Int) {H : Heap} {K : Value → Heap → Prop} (h : logboomref11_Has_vc l x H K) : FnH Tryz.prog 97 #[.slice l.p l.n l.c, .int .i64 x] H K :=
  denFn_fn Tryz.mixed logboomref11_Has_ann Tryz.func97 (bodyOf_spec (by kernel_rfl)) (by kernel_rfl) h
def logboomref11_Without_ann : Anns := { hid := [], loops := [(0, { slots := [(5, .slice), (6, .int .i64)], kept := [0, 1], locs := [], keptL := [] })], joins := [], mix := [] }
def logboomref11_Without_vc (l m : Sl) (H : Heap) (K : Value → Heap → Prop) : Prop :=
∃ I1 : Sl → Int → Heap → Prop,
∃ M1 : Sl → Int → Heap → Nat,
I1 ⟨none, 0, 0⟩ 0 H ∧
∀ out_1 : Sl,
∀ i_1 : Int,
∀ H1 : Heap,
I1 out_1 i_1 H1 →
br (decide ((i_1 : Int) < (l.n : Nat))) (
∃ q1 o1 : Nat,
 (l.p : Option Addr) = some ⟨q1, o1, none⟩ ∧
0 ≤ (i_1 : Int) ∧
 (i_1 : Int) < (l.n : Nat) ∧
∃ n1 : Int,
cellH H1 ⟨q1, o1 + Int.toNat i_1, none⟩ = some (.int .i64 n1) ∧
FnH Tryz.prog 97 #[.slice m.p m.n m.c, .int .i64 n1] H1 fun r1 H2 =>
∃ b1 : Bool,
r1 = .bool b1 ∧
br (!b1) (
∃ q2 o2 : Nat,
 (l.p : Option Addr) = some ⟨q2, o2, none⟩ ∧
0 ≤ (i_1 : Int) ∧
 (i_1 : Int) < (l.n : Nat) ∧
∃ n2 : Int,
cellH H2 ⟨q2, o2 + Int.toNat i_1, none⟩ = some (.int .i64 n2) ∧
∀ q3 : Nat,
H2 q3 = none →
letH (Heap.upd H2 q3 (.cells #[.int .i64 n2] 3 (0, 0))) fun H3 =>
runH Tryz.prog (Builtin.append_ #[22, 22] 22 #[.slice out_1.p out_1.n out_1.c, .slice (some ⟨q3, 0, none⟩) 1 1]) H3 fun r2 H4 =>
∃ l1 : Sl,
r2 = .slice l1.p l1.n l1.c ∧
SelfEq ([.v (.slice l.p l.n l.c), .v (.slice m.p m.n m.c)], [], []) ∧
I1 l1 (IntKind.wrap .i64 (i_1 + 1)) H4 ∧
M1 l1 (IntKind.wrap .i64 (i_1 + 1)) H4 < M1 out_1 i_1 H1)
 (
SelfEq ([.v (.slice l.p l.n l.c), .v (.slice m.p m.n m.c)], [], []) ∧
I1 out_1 (IntKind.wrap .i64 (i_1 + 1)) H2 ∧
M1 out_1 (IntKind.wrap .i64 (i_1 + 1)) H2 < M1 out_1 i_1 H1))
 (
K (.slice out_1.p out_1.n out_1.c) H1)
theorem logboomref11_Without_fn (l m : Sl) {H : Heap} {K : Value → Heap → Prop} (h : logboomref11_Without_vc l m H K) : FnH Tryz.prog 139 #[.slice l.p l.n l.c, .slice m.p m.n m.c] H K :=
  denFn_fn Tryz.mixed logboomref11_Without_ann Tryz.func139 (bodyOf_spec (by kernel_rfl)) (by kernel_rfl) h
def logboomref11_With_ann : Anns := { hid := [], loops := [(0, { slots := [(5, .slice), (6, .int .i64)], kept := [0, 1], locs := [], keptL := [] })], joins := [], mix := [] }
def logboomref11_With_vc (l m : Sl) (H : Heap) (K : Value → Heap → Prop) : Prop :=
∃ I1 : Sl → Int → Heap → Prop,
∃ M1 : Sl → Int → Heap → Nat,
I1 ⟨none, 0, 0⟩ 0 H ∧
∀ out_1 : Sl,
∀ i_1 : Int,
∀ H1 : Heap,
I1 out_1 i_1 H1 →
br (decide ((i_1 : Int) < (l.n : Nat))) (
∃ q1 o1 : Nat,
 (l.p : Option Addr) = some ⟨q1, o1, none⟩ ∧
0 ≤ (i_1 : Int) ∧
 (i_1 : Int) < (l.n : Nat) ∧
∃ n1 : Int,
cellH H1 ⟨q1, o1 + Int.toNat i_1, none⟩ = some (.int .i64 n1) ∧
FnH Tryz.prog 97 #[.slice m.p m.n m.c, .int .i64 n1] H1 fun r1 H2 =>
∃ b1 : Bool,
r1 = .bool b1 ∧
br (b1) (
∃ q2 o2 : Nat,
 (l.p : Option Addr) = some ⟨q2, o2, none⟩ ∧
0 ≤ (i_1 : Int) ∧
 (i_1 : Int) < (l.n : Nat) ∧
∃ n2 : Int,
cellH H2 ⟨q2, o2 + Int.toNat i_1, none⟩ = some (.int .i64 n2) ∧
∀ q3 : Nat,
H2 q3 = none →
letH (Heap.upd H2 q3 (.cells #[.int .i64 n2] 3 (0, 0))) fun H3 =>
runH Tryz.prog (Builtin.append_ #[22, 22] 22 #[.slice out_1.p out_1.n out_1.c, .slice (some ⟨q3, 0, none⟩) 1 1]) H3 fun r2 H4 =>
∃ l1 : Sl,
r2 = .slice l1.p l1.n l1.c ∧
SelfEq ([.v (.slice l.p l.n l.c), .v (.slice m.p m.n m.c)], [], []) ∧
I1 l1 (IntKind.wrap .i64 (i_1 + 1)) H4 ∧
M1 l1 (IntKind.wrap .i64 (i_1 + 1)) H4 < M1 out_1 i_1 H1)
 (
SelfEq ([.v (.slice l.p l.n l.c), .v (.slice m.p m.n m.c)], [], []) ∧
I1 out_1 (IntKind.wrap .i64 (i_1 + 1)) H2 ∧
M1 out_1 (IntKind.wrap .i64 (i_1 + 1)) H2 < M1 out_1 i_1 H1))
 (
K (.slice out_1.p out_1.n out_1.c) H1)
theorem logboomref11_With_fn (l m : Sl) {H : Heap} {K : Value → Heap → Prop} (h : logboomref11_With_vc l m H K) : FnH Tryz.prog 140 #[.slice l.p l.n l.c, .slice m.p m.n m.c] H K :=
  denFn_fn Tryz.mixed logboomref11_With_ann Tryz.func140 (bodyOf_spec (by kernel_rfl)) (by kernel_rfl) h
def logboomref11_ids_ann : Anns := { hid := [], loops := [(0, { slots := [(3, .int .i64)], kept := [0], locs := [], keptL := [] })], joins := [], mix := [(4, [])] }
def logboomref11_ids_vc (l : Sl) (H : Heap) (K : Value → Heap → Prop) : Prop :=
∃ I1 : Int → Heap → Prop,
∃ M1 : Int → Heap → Nat,
I1 0 H ∧
∀ i_1 : Int,
∀ H1 : Heap,
I1 i_1 H1 →
br (decide ((i_1 : Int) < (l.n : Nat))) (
0 ≤ (i_1 : Int) ∧
 (i_1 : Int) ≤ (l.c : Nat) ∧
∃ q1 o1 : Nat,
 (l.p : Option Addr) = some ⟨q1, o1, none⟩ ∧
0 ≤ (i_1 : Int) ∧
 (i_1 : Int) < (l.n : Nat) ∧
∃ n1 : Int,
cellH H1 ⟨q1, o1 + Int.toNat i_1, none⟩ = some (.int .i64 n1) ∧
FnH Tryz.prog 97 #[.slice (slP l.p l.c (0 : Int) 1) (Int.toNat (i_1 - (0 : Int))) (Int.toNat ((l.c : Nat) - (0 : Int))), .int .i64 n1] H1 fun r1 H2 =>
∃ b1 : Bool,
r1 = .bool b1 ∧
Sub H1 H2 ∧
∃ q2 o2 : Nat,
 (l.p : Option Addr) = some ⟨q2, o2, none⟩ ∧
0 ≤ (i_1 : Int) ∧
 (i_1 : Int) < (l.n : Nat) ∧
∃ n2 : Int,
cellH H2 ⟨q2, o2 + Int.toNat i_1, none⟩ = some (.int .i64 n2) ∧
br (decide ((n2 : Int) < 1)) (
K (.bool false) H2)
 (
∃ q3 o3 : Nat,
 (l.p : Option Addr) = some ⟨q3, o3, none⟩ ∧
0 ≤ (i_1 : Int) ∧
 (i_1 : Int) < (l.n : Nat) ∧
∃ n3 : Int,
cellH H2 ⟨q3, o3 + Int.toNat i_1, none⟩ = some (.int .i64 n3) ∧
br (decide ((n3 : Int) > 7)) (
K (.bool false) H2)
 (
br (b1) (
K (.bool false) H2)
 (
SelfEq ([.v (.slice l.p l.n l.c)], [], []) ∧
I1 (IntKind.wrap .i64 (i_1 + 1)) H2 ∧
M1 (IntKind.wrap .i64 (i_1 + 1)) H2 < M1 i_1 H1))))
 (
K (.bool true) H1)
theorem logboomref11_ids_fn (l : Sl) {H : Heap} {K : Value → Heap → Prop} (h : logboomref11_ids_vc l H K) : FnH Tryz.prog 137 #[.slice l.p l.n l.c] H K :=
  denFn_fn Tryz.mixed logboomref11_ids_ann Tryz.func137 (bodyOf_spec (by kernel_rfl)) (by kernel_rfl) h
def logboomref11_part_ann : Anns := { hid := [], loops := [], joins := [], mix := [] }
def logboomref11_part_vc (l m : Sl) (H : Heap) (K : Value → Heap → Prop) : Prop :=
FnH Tryz.prog 139 #[.slice l.p l.n l.c, .slice m.p m.n m.c] H fun r1 H1 =>
∃ l1 : Sl,
r1 = .slice l1.p l1.n l1.c ∧
K (.bool (((l1.n : Nat) : Int) == 0)) H1
theorem logboomref11_part_fn (l m : Sl) {H : Heap} {K : Value → Heap → Prop} (h : logboomref11_part_vc l m H K) : FnH Tryz.prog 138 #[.slice l.p l.n l.c, .slice m.p m.n m.c] H K :=
  denFn_fn Tryz.mixed logboomref11_part_ann Tryz.func138 (bodyOf_spec (by kernel_rfl)) (by kernel_rfl) h
def logboomref11_Right_ann : Anns := { hid := [1], loops := [], joins := [], mix := [] }
def logboomref11_Right_vc (p_0 p_1 p_2 p_3 : Int) (p_4 p_5 p_6 p_7 : Sl) (p_8 : Int) (H : Heap) (K : Value → Heap → Prop) : Prop :=
br (decide ((p_0 : Int) < 1)) (
K (.bool false) H)
 (
br (decide ((p_0 : Int) > 16)) (
K (.bool false) H)
 (
br (decide ((p_8 : Int) < 1)) (
K (.bool false) H)
 (
br (decide ((p_8 : Int) > 5)) (
K (.bool false) H)
 (
br (decide ((p_2 : Int) < 1)) (
K (.bool false) H)
 (
br (decide ((p_2 : Int) > 1000000000)) (
K (.bool false) H)
 (
br (decide ((p_3 : Int) < 1)) (
K (.bool false) H)
 (
br (decide ((p_3 : Int) > 1000000000)) (
K (.bool false) H)
 (
br (decide (((p_5.n : Nat) : Int) < 1)) (
K (.bool false) H)
 (
br (decide (((p_4.n : Nat) : Int) < 1)) (
K (.bool false) H)
 (
FnH Tryz.prog 137 #[.slice p_5.p p_5.n p_5.c] H fun r1 H1 =>
∃ b1 : Bool,
r1 = .bool b1 ∧
FnH Tryz.prog 137 #[.slice p_4.p p_4.n p_4.c] H1 fun r2 H2 =>
∃ b2 : Bool,
r2 = .bool b2 ∧
FnH Tryz.prog 137 #[.slice p_6.p p_6.n p_6.c] H2 fun r3 H3 =>
∃ b3 : Bool,
r3 = .bool b3 ∧
FnH Tryz.prog 137 #[.slice p_7.p p_7.n p_7.c] H3 fun r4 H4 =>
∃ b4 : Bool,
r4 = .bool b4 ∧
br (!b1) (
K (.bool false) H4)
 (
br (!b2) (
K (.bool false) H4)
 (
br (!b3) (
K (.bool false) H4)
 (
br (!b4) (
K (.bool false) H4)
 (
FnH Tryz.prog 138 #[.slice p_4.p p_4.n p_4.c, .slice p_5.p p_5.n p_5.c] H4 fun r5 H5 =>
∃ b5 : Bool,
r5 = .bool b5 ∧
FnH Tryz.prog 138 #[.slice p_6.p p_6.n p_6.c, .slice p_5.p p_5.n p_5.c] H5 fun r6 H6 =>
∃ b6 : Bool,
r6 = .bool b6 ∧
FnH Tryz.prog 138 #[.slice p_7.p p_7.n p_7.c, .slice p_5.p p_5.n p_5.c] H6 fun r7 H7 =>
∃ b7 : Bool,
r7 = .bool b7 ∧
FnH Tryz.prog 97 #[.slice p_4.p p_4.n p_4.c, .int .i64 p_1] H7 fun r8 H8 =>
∃ b8 : Bool,
r8 = .bool b8 ∧
br (b5) (
br (b6) (
br (b7) (
FnH Tryz.prog 140 #[.slice p_7.p p_7.n p_7.c, .slice p_6.p p_6.n p_6.c] H8 fun r9 H9 =>
∃ l1 : Sl,
r9 = .slice l1.p l1.n l1.c ∧
br (((l1.n : Nat) : Int) == 0) (
br (decide (((p_7.n : Nat) : Int) < (p_5.n : Nat))) (
br ((p_1 : Int) == 0) (
K (.bool true) H9)
 (
K (.bool b8) H9))
 (
K (.bool false) H9))
 (
K (.bool false) H9))
 (
K (.bool false) H8))
 (
K (.bool false) H8))
 (
K (.bool false) H8)))))))))))))))
theorem logboomref11_Right_fn (p_0 p_1 p_2 p_3 : Int) (p_4 p_5 p_6 p_7 : Sl) (p_8 : Int) {H : Heap} {K : Value → Heap → Prop} (h : logboomref11_Right_vc p_0 p_1 p_2 p_3 p_4 p_5 p_6 p_7 p_8 H K) : FnH Tryz.prog 103 #[.agg #[.int .i64 p_0, .int .i64 p_1, .int .i64 p_2, .int .i64 p_3, .slice p_4.p p_4.n p_4.c, .slice p_5.p p_5.n p_5.c, .slice p_6.p p_6.n p_6.c, .slice p_7.p p_7.n p_7.c, .int .i64 p_8]] H K :=
  denFn_fn Tryz.mixed logboomref11_Right_ann Tryz.func103 (bodyOf_spec (by kernel_rfl)) (by kernel_rfl) h
def logboomref11_copied_ann : Anns := { hid := [], loops := [], joins := [], mix := [] }
def logboomref11_copied_vc (l : Sl) (H : Heap) (K : Value → Heap → Prop) : Prop :=
∀ q1 : Nat,
H q1 = none →
letH (Heap.upd H q1 (.cells #[] 3 (0, 0))) fun H1 =>
runH Tryz.prog (Builtin.append_ #[22, 22] 22 #[.slice (some ⟨q1, 0, none⟩) 0 0, .slice l.p l.n l.c]) H1 fun r1 H2 =>
∃ l1 : Sl,
r1 = .slice l1.p l1.n l1.c ∧
K (.slice l1.p l1.n l1.c) H2
theorem logboomref11_copied_fn (l : Sl) {H : Heap} {K : Value → Heap → Prop} (h : logboomref11_copied_vc l H K) : FnH Tryz.prog 141 #[.slice l.p l.n l.c] H K :=
  denFn_fn Tryz.mixed logboomref11_copied_ann Tryz.func141 (bodyOf_spec (by kernel_rfl)) (by kernel_rfl) h
def logboomref11_Clone_ann : Anns := { hid := [1, 2], loops := [], joins := [], mix := [] }
def logboomref11_Clone_vc (p_0 p_1 p_2 p_3 : Int) (p_4 p_5 p_6 p_7 : Sl) (p_8 : Int) (H : Heap) (K : Value → Heap → Prop) : Prop :=
FnH Tryz.prog 141 #[.slice p_4.p p_4.n p_4.c] H fun r1 H1 =>
∃ l1 : Sl,
r1 = .slice l1.p l1.n l1.c ∧
FnH Tryz.prog 141 #[.slice p_5.p p_5.n p_5.c] H1 fun r2 H2 =>
∃ l2 : Sl,
r2 = .slice l2.p l2.n l2.c ∧
FnH Tryz.prog 141 #[.slice p_6.p p_6.n p_6.c] H2 fun r3 H3 =>
∃ l3 : Sl,
r3 = .slice l3.p l3.n l3.c ∧
FnH Tryz.prog 141 #[.slice p_7.p p_7.n p_7.c] H3 fun r4 H4 =>
∃ l4 : Sl,
r4 = .slice l4.p l4.n l4.c ∧
K (.agg #[.int .i64 p_0, .int .i64 p_1, .int .i64 p_2, .int .i64 p_3, .slice l1.p l1.n l1.c, .slice l2.p l2.n l2.c, .slice l3.p l3.n l3.c, .slice l4.p l4.n l4.c, .int .i64 p_8]) H4
theorem logboomref11_Clone_fn (p_0 p_1 p_2 p_3 : Int) (p_4 p_5 p_6 p_7 : Sl) (p_8 : Int) {H : Heap} {K : Value → Heap → Prop} (h : logboomref11_Clone_vc p_0 p_1 p_2 p_3 p_4 p_5 p_6 p_7 p_8 H K) : FnH Tryz.prog 134 #[.agg #[.int .i64 p_0, .int .i64 p_1, .int .i64 p_2, .int .i64 p_3, .slice p_4.p p_4.n p_4.c, .slice p_5.p p_5.n p_5.c, .slice p_6.p p_6.n p_6.c, .slice p_7.p p_7.n p_7.c, .int .i64 p_8]] H K :=
  denFn_fn Tryz.mixed logboomref11_Clone_ann Tryz.func134 (bodyOf_spec (by kernel_rfl)) (by kernel_rfl) h
def logboomref11_same_ann : Anns := { hid := [], loops := [(0, { slots := [(5, .int .i64)], kept := [0, 1], locs := [], keptL := [] })], joins := [], mix := [] }
def logboomref11_same_vc (a b : Sl) (H : Heap) (K : Value → Heap → Prop) : Prop :=
br (((a.n : Nat) : Int) != (b.n : Nat)) (
K (.bool false) H)
 (
∃ I1 : Int → Heap → Prop,
∃ M1 : Int → Heap → Nat,
I1 0 H ∧
∀ i_1 : Int,
∀ H1 : Heap,
I1 i_1 H1 →
br (decide ((i_1 : Int) < (a.n : Nat))) (
∃ q1 o1 : Nat,
 (a.p : Option Addr) = some ⟨q1, o1, none⟩ ∧
0 ≤ (i_1 : Int) ∧
 (i_1 : Int) < (a.n : Nat) ∧
∃ n1 : Int,
cellH H1 ⟨q1, o1 + Int.toNat i_1, none⟩ = some (.int .i64 n1) ∧
∃ q2 o2 : Nat,
 (b.p : Option Addr) = some ⟨q2, o2, none⟩ ∧
0 ≤ (i_1 : Int) ∧
 (i_1 : Int) < (b.n : Nat) ∧
∃ n2 : Int,
cellH H1 ⟨q2, o2 + Int.toNat i_1, none⟩ = some (.int .i64 n2) ∧
br ((n1 : Int) != n2) (
K (.bool false) H1)
 (
SelfEq ([.v (.slice a.p a.n a.c), .v (.slice b.p b.n b.c)], [], []) ∧
I1 (IntKind.wrap .i64 (i_1 + 1)) H1 ∧
M1 (IntKind.wrap .i64 (i_1 + 1)) H1 < M1 i_1 H1))
 (
K (.bool true) H1))
theorem logboomref11_same_fn (a b : Sl) {H : Heap} {K : Value → Heap → Prop} (h : logboomref11_same_vc a b H K) : FnH Tryz.prog 104 #[.slice a.p a.n a.c, .slice b.p b.n b.c] H K :=
  denFn_fn Tryz.mixed logboomref11_same_ann Tryz.func104 (bodyOf_spec (by kernel_rfl)) (by kernel_rfl) h
def logboomref11_Same_ann : Anns := { hid := [2, 3], loops := [], joins := [], mix := [] }
def logboomref11_Same_vc (a_0 a_1 a_2 a_3 : Int) (a_4 a_5 a_6 a_7 : Sl) (a_8 b_0 b_1 b_2 b_3 : Int) (b_4 b_5 b_6 b_7 : Sl) (b_8 : Int) (H : Heap) (K : Value → Heap → Prop) : Prop :=
FnH Tryz.prog 104 #[.slice a_4.p a_4.n a_4.c, .slice b_4.p b_4.n b_4.c] H fun r1 H1 =>
∃ b1 : Bool,
r1 = .bool b1 ∧
FnH Tryz.prog 104 #[.slice a_5.p a_5.n a_5.c, .slice b_5.p b_5.n b_5.c] H1 fun r2 H2 =>
∃ b2 : Bool,
r2 = .bool b2 ∧
FnH Tryz.prog 104 #[.slice a_6.p a_6.n a_6.c, .slice b_6.p b_6.n b_6.c] H2 fun r3 H3 =>
∃ b3 : Bool,
r3 = .bool b3 ∧
FnH Tryz.prog 104 #[.slice a_7.p a_7.n a_7.c, .slice b_7.p b_7.n b_7.c] H3 fun r4 H4 =>
∃ b4 : Bool,
r4 = .bool b4 ∧
br (b1) (
br (b2) (
br (b3) (
br (b4) (
br ((a_0 : Int) == b_0) (
br ((a_1 : Int) == b_1) (
br ((a_2 : Int) == b_2) (
br ((a_3 : Int) == b_3) (
K (.bool ((a_8 : Int) == b_8)) H4)
 (
K (.bool false) H4))
 (
K (.bool false) H4))
 (
K (.bool false) H4))
 (
K (.bool false) H4))
 (
K (.bool false) H4))
 (
K (.bool false) H4))
 (
K (.bool false) H4))
 (
K (.bool false) H4)
theorem logboomref11_Same_fn (a_0 a_1 a_2 a_3 : Int) (a_4 a_5 a_6 a_7 : Sl) (a_8 b_0 b_1 b_2 b_3 : Int) (b_4 b_5 b_6 b_7 : Sl) (b_8 : Int) {H : Heap} {K : Value → Heap → Prop} (h : logboomref11_Same_vc a_0 a_1 a_2 a_3 a_4 a_5 a_6 a_7 a_8 b_0 b_1 b_2 b_3 b_4 b_5 b_6 b_7 b_8 H K) : FnH Tryz.prog 62 #[.agg #[.int .i64 a_0, .int .i64 a_1, .int .i64 a_2, .int .i64 a_3, .slice a_4.p a_4.n a_4.c, .slice a_5.p a_5.n a_5.c, .slice a_6.p a_6.n a_6.c, .slice a_7.p a_7.n a_7.c, .int .i64 a_8], .agg #[.int .i64 b_0, .int .i64 b_1, .int .i64 b_2, .int .i64 b_3, .slice b_4.p b_4.n b_4.c, .slice b_5.p b_5.n b_5.c, .slice b_6.p b_6.n b_6.c, .slice b_7.p b_7.n b_7.c, .int .i64 b_8]] H K :=
  denFn_fn Tryz.mixed logboomref11_Same_ann Tryz.func62 (bodyOf_spec (by kernel_rfl)) (by kernel_rfl) h
def logboomref11_first_ann : Anns := { hid := [], loops := [(0, { slots := [(9, .int .i64)], kept := [0, 1, 2, 3], locs := [], keptL := [] })], joins := [], mix := [] }
def logboomref11_first_vc (l a b : Sl) (but : Int) (H : Heap) (K : Value → Heap → Prop) : Prop :=
∃ I1 : Int → Heap → Prop,
∃ M1 : Int → Heap → Nat,
I1 0 H ∧
∀ i_1 : Int,
∀ H1 : Heap,
I1 i_1 H1 →
br (decide ((i_1 : Int) < (l.n : Nat))) (
∃ q1 o1 : Nat,
 (l.p : Option Addr) = some ⟨q1, o1, none⟩ ∧
0 ≤ (i_1 : Int) ∧
 (i_1 : Int) < (l.n : Nat) ∧
∃ n1 : Int,
cellH H1 ⟨q1, o1 + Int.toNat i_1, none⟩ = some (.int .i64 n1) ∧
FnH Tryz.prog 97 #[.slice a.p a.n a.c, .int .i64 n1] H1 fun r1 H2 =>
∃ b1 : Bool,
r1 = .bool b1 ∧
∃ q2 o2 : Nat,
 (l.p : Option Addr) = some ⟨q2, o2, none⟩ ∧
0 ≤ (i_1 : Int) ∧
 (i_1 : Int) < (l.n : Nat) ∧
∃ n2 : Int,
cellH H2 ⟨q2, o2 + Int.toNat i_1, none⟩ = some (.int .i64 n2) ∧
FnH Tryz.prog 97 #[.slice b.p b.n b.c, .int .i64 n2] H2 fun r2 H3 =>
∃ b2 : Bool,
r2 = .bool b2 ∧
br (b1) (
br (b2) (
∃ q3 o3 : Nat,
 (l.p : Option Addr) = some ⟨q3, o3, none⟩ ∧
0 ≤ (i_1 : Int) ∧
 (i_1 : Int) < (l.n : Nat) ∧
∃ n3 : Int,
cellH H3 ⟨q3, o3 + Int.toNat i_1, none⟩ = some (.int .i64 n3) ∧
br ((n3 : Int) != but) (
∃ q4 o4 : Nat,
 (l.p : Option Addr) = some ⟨q4, o4, none⟩ ∧
0 ≤ (i_1 : Int) ∧
 (i_1 : Int) < (l.n : Nat) ∧
∃ n4 : Int,
cellH H3 ⟨q4, o4 + Int.toNat i_1, none⟩ = some (.int .i64 n4) ∧
K (.int .i64 n4) H3)
 (
SelfEq ([.v (.slice l.p l.n l.c), .v (.slice a.p a.n a.c), .v (.slice b.p b.n b.c), .v (.int .i64 but)], [], []) ∧
I1 (IntKind.wrap .i64 (i_1 + 1)) H3 ∧
M1 (IntKind.wrap .i64 (i_1 + 1)) H3 < M1 i_1 H1))
 (
SelfEq ([.v (.slice l.p l.n l.c), .v (.slice a.p a.n a.c), .v (.slice b.p b.n b.c), .v (.int .i64 but)], [], []) ∧
I1 (IntKind.wrap .i64 (i_1 + 1)) H3 ∧
M1 (IntKind.wrap .i64 (i_1 + 1)) H3 < M1 i_1 H1))
 (
SelfEq ([.v (.slice l.p l.n l.c), .v (.slice a.p a.n a.c), .v (.slice b.p b.n b.c), .v (.int .i64 but)], [], []) ∧
I1 (IntKind.wrap .i64 (i_1 + 1)) H3 ∧
M1 (IntKind.wrap .i64 (i_1 + 1)) H3 < M1 i_1 H1))
 (
K (.int .i64 0) H1)
theorem logboomref11_first_fn (l a b : Sl) (but : Int) {H : Heap} {K : Value → Heap → Prop} (h : logboomref11_first_vc l a b but H K) : FnH Tryz.prog 142 #[.slice l.p l.n l.c, .slice a.p a.n a.c, .slice b.p b.n b.c, .int .i64 but] H K :=
  denFn_fn Tryz.mixed logboomref11_first_ann Tryz.func142 (bodyOf_spec (by kernel_rfl)) (by kernel_rfl) h
def logboomref11_leads_ann : Anns := { hid := [2, 4], loops := [], joins := [], mix := [] }
def logboomref11_leads_vc (p_0 p_1 p_2 p_3 : Int) (p_4 p_5 p_6 p_7 : Sl) (p_8 leader : Int) (H : Heap) (K : Value → Heap → Prop) : Prop :=
br ((p_1 : Int) != leader) (
K (.agg #[.int .i64 p_0, .int .i64 leader, .int .i64 (IntKind.wrap .i64 (p_2 + 1)), .int .i64 p_3, .slice p_4.p p_4.n p_4.c, .slice p_5.p p_5.n p_5.c, .slice p_6.p p_6.n p_6.c, .slice p_7.p p_7.n p_7.c, .int .i64 p_8]) H)
 (
K (.agg #[.int .i64 p_0, .int .i64 p_1, .int .i64 p_2, .int .i64 p_3, .slice p_4.p p_4.n p_4.c, .slice p_5.p p_5.n p_5.c, .slice p_6.p p_6.n p_6.c, .slice p_7.p p_7.n p_7.c, .int .i64 p_8]) H)
theorem logboomref11_leads_fn (p_0 p_1 p_2 p_3 : Int) (p_4 p_5 p_6 p_7 : Sl) (p_8 leader : Int) {H : Heap} {K : Value → Heap → Prop} (h : logboomref11_leads_vc p_0 p_1 p_2 p_3 p_4 p_5 p_6 p_7 p_8 leader H K) : FnH Tryz.prog 136 #[.agg #[.int .i64 p_0, .int .i64 p_1, .int .i64 p_2, .int .i64 p_3, .slice p_4.p p_4.n p_4.c, .slice p_5.p p_5.n p_5.c, .slice p_6.p p_6.n p_6.c, .slice p_7.p p_7.n p_7.c, .int .i64 p_8], .int .i64 leader] H K :=
  denFn_fn Tryz.mixed logboomref11_leads_ann Tryz.func136 (bodyOf_spec (by kernel_rfl)) (by kernel_rfl) h
def logboomref11_changed_ann : Anns := { hid := [1, 2], loops := [], joins := [], mix := [] }
def logboomref11_changed_vc (p_0 p_1 p_2 p_3 : Int) (p_4 p_5 p_6 p_7 : Sl) (p_8 : Int) (H : Heap) (K : Value → Heap → Prop) : Prop :=
br (decide (((IntKind.wrap .i64 (p_3 + 1)) : Int) > 1000000000)) (
K (.tuple #[.agg #[.int .i64 0, .int .i64 0, .int .i64 0, .int .i64 0, .slice none 0 0, .slice none 0 0, .slice none 0 0, .slice none 0 0, .int .i64 0], .int .i64 20]) H)
 (
br (decide ((p_2 : Int) > 1000000000)) (
K (.tuple #[.agg #[.int .i64 0, .int .i64 0, .int .i64 0, .int .i64 0, .slice none 0 0, .slice none 0 0, .slice none 0 0, .slice none 0 0, .int .i64 0], .int .i64 20]) H)
 (
K (.tuple #[.agg #[.int .i64 p_0, .int .i64 p_1, .int .i64 p_2, .int .i64 (IntKind.wrap .i64 (p_3 + 1)), .slice p_4.p p_4.n p_4.c, .slice p_5.p p_5.n p_5.c, .slice p_6.p p_6.n p_6.c, .slice p_7.p p_7.n p_7.c, .int .i64 p_8], .int .i64 0]) H))
theorem logboomref11_changed_fn (p_0 p_1 p_2 p_3 : Int) (p_4 p_5 p_6 p_7 : Sl) (p_8 : Int) {H : Heap} {K : Value → Heap → Prop} (h : logboomref11_changed_vc p_0 p_1 p_2 p_3 p_4 p_5 p_6 p_7 p_8 H K) : FnH Tryz.prog 135 #[.agg #[.int .i64 p_0, .int .i64 p_1, .int .i64 p_2, .int .i64 p_3, .slice p_4.p p_4.n p_4.c, .slice p_5.p p_5.n p_5.c, .slice p_6.p p_6.n p_6.c, .slice p_7.p p_7.n p_7.c, .int .i64 p_8]] H K :=
  denFn_fn Tryz.mixed logboomref11_changed_ann Tryz.func135 (bodyOf_spec (by kernel_rfl)) (by kernel_rfl) h
def logboomref11_Elect_ann : Anns := { hid := [2, 4], loops := [], joins := [], mix := [] }
def logboomref11_Elect_vc (p_0 p_1 p_2 p_3 : Int) (p_4 p_5 p_6 p_7 : Sl) (p_8 leader : Int) (H : Heap) (K : Value → Heap → Prop) : Prop :=
FnH Tryz.prog 103 #[.agg #[.int .i64 p_0, .int .i64 p_1, .int .i64 p_2, .int .i64 p_3, .slice p_4.p p_4.n p_4.c, .slice p_5.p p_5.n p_5.c, .slice p_6.p p_6.n p_6.c, .slice p_7.p p_7.n p_7.c, .int .i64 p_8]] H fun r1 H1 =>
∃ b1 : Bool,
r1 = .bool b1 ∧
br (!b1) (
K (.tuple #[.agg #[.int .i64 0, .int .i64 0, .int .i64 0, .int .i64 0, .slice none 0 0, .slice none 0 0, .slice none 0 0, .slice none 0 0, .int .i64 0], .int .i64 1]) H1)
 (
br (decide ((leader : Int) < 0)) (
K (.tuple #[.agg #[.int .i64 0, .int .i64 0, .int .i64 0, .int .i64 0, .slice none 0 0, .slice none 0 0, .slice none 0 0, .slice none 0 0, .int .i64 0], .int .i64 1]) H1)
 (
br (decide ((leader : Int) > 7)) (
K (.tuple #[.agg #[.int .i64 0, .int .i64 0, .int .i64 0, .int .i64 0, .slice none 0 0, .slice none 0 0, .slice none 0 0, .slice none 0 0, .int .i64 0], .int .i64 1]) H1)
 (
FnH Tryz.prog 134 #[.agg #[.int .i64 p_0, .int .i64 p_1, .int .i64 p_2, .int .i64 p_3, .slice p_4.p p_4.n p_4.c, .slice p_5.p p_5.n p_5.c, .slice p_6.p p_6.n p_6.c, .slice p_7.p p_7.n p_7.c, .int .i64 p_8]] H1 fun r2 H2 =>
∃ n1 n2 n3 n4 : Int,
∃ l1 l2 l3 l4 : Sl,
∃ n5 : Int,
r2 = .agg #[.int .i64 n1, .int .i64 n2, .int .i64 n3, .int .i64 n4, .slice l1.p l1.n l1.c, .slice l2.p l2.n l2.c, .slice l3.p l3.n l3.c, .slice l4.p l4.n l4.c, .int .i64 n5] ∧
FnH Tryz.prog 97 #[.slice l1.p l1.n l1.c, .int .i64 leader] H2 fun r3 H3 =>
∃ b2 : Bool,
r3 = .bool b2 ∧
br ((leader : Int) != 0) (
br (!b2) (
K (.tuple #[.agg #[.int .i64 0, .int .i64 0, .int .i64 0, .int .i64 0, .slice none 0 0, .slice none 0 0, .slice none 0 0, .slice none 0 0, .int .i64 0], .int .i64 19]) H3)
 (
br ((n2 : Int) == leader) (
K (.tuple #[.agg #[.int .i64 n1, .int .i64 n2, .int .i64 n3, .int .i64 n4, .slice l1.p l1.n l1.c, .slice l2.p l2.n l2.c, .slice l3.p l3.n l3.c, .slice l4.p l4.n l4.c, .int .i64 n5], .int .i64 0]) H3)
 (
FnH Tryz.prog 136 #[.agg #[.int .i64 n1, .int .i64 n2, .int .i64 n3, .int .i64 n4, .slice l1.p l1.n l1.c, .slice l2.p l2.n l2.c, .slice l3.p l3.n l3.c, .slice l4.p l4.n l4.c, .int .i64 n5], .int .i64 leader] H3 fun r4 H4 =>
∃ n6 n7 n8 n9 : Int,
∃ l5 l6 l7 l8 : Sl,
∃ n10 : Int,
r4 = .agg #[.int .i64 n6, .int .i64 n7, .int .i64 n8, .int .i64 n9, .slice l5.p l5.n l5.c, .slice l6.p l6.n l6.c, .slice l7.p l7.n l7.c, .slice l8.p l8.n l8.c, .int .i64 n10] ∧
FnH Tryz.prog 135 #[.agg #[.int .i64 n6, .int .i64 n7, .int .i64 n8, .int .i64 n9, .slice l5.p l5.n l5.c, .slice l6.p l6.n l6.c, .slice l7.p l7.n l7.c, .slice l8.p l8.n l8.c, .int .i64 n10]] H4 fun r5 H5 =>
∃ n11 n12 n13 n14 : Int,
∃ l9 l10 l11 l12 : Sl,
∃ n15 n16 : Int,
r5 = .tuple #[.agg #[.int .i64 n11, .int .i64 n12, .int .i64 n13, .int .i64 n14, .slice l9.p l9.n l9.c, .slice l10.p l10.n l10.c, .slice l11.p l11.n l11.c, .slice l12.p l12.n l12.c, .int .i64 n15], .int .i64 n16] ∧
K (.tuple #[.agg #[.int .i64 n11, .int .i64 n12, .int .i64 n13, .int .i64 n14, .slice l9.p l9.n l9.c, .slice l10.p l10.n l10.c, .slice l11.p l11.n l11.c, .slice l12.p l12.n l12.c, .int .i64 n15], .int .i64 n16]) H5)))
 (
br ((n2 : Int) == leader) (
K (.tuple #[.agg #[.int .i64 n1, .int .i64 n2, .int .i64 n3, .int .i64 n4, .slice l1.p l1.n l1.c, .slice l2.p l2.n l2.c, .slice l3.p l3.n l3.c, .slice l4.p l4.n l4.c, .int .i64 n5], .int .i64 0]) H3)
 (
FnH Tryz.prog 136 #[.agg #[.int .i64 n1, .int .i64 n2, .int .i64 n3, .int .i64 n4, .slice l1.p l1.n l1.c, .slice l2.p l2.n l2.c, .slice l3.p l3.n l3.c, .slice l4.p l4.n l4.c, .int .i64 n5], .int .i64 leader] H3 fun r6 H6 =>
∃ n17 n18 n19 n20 : Int,
∃ l13 l14 l15 l16 : Sl,
∃ n21 : Int,
r6 = .agg #[.int .i64 n17, .int .i64 n18, .int .i64 n19, .int .i64 n20, .slice l13.p l13.n l13.c, .slice l14.p l14.n l14.c, .slice l15.p l15.n l15.c, .slice l16.p l16.n l16.c, .int .i64 n21] ∧
FnH Tryz.prog 135 #[.agg #[.int .i64 n17, .int .i64 n18, .int .i64 n19, .int .i64 n20, .slice l13.p l13.n l13.c, .slice l14.p l14.n l14.c, .slice l15.p l15.n l15.c, .slice l16.p l16.n l16.c, .int .i64 n21]] H6 fun r7 H7 =>
∃ n22 n23 n24 n25 : Int,
∃ l17 l18 l19 l20 : Sl,
∃ n26 n27 : Int,
r7 = .tuple #[.agg #[.int .i64 n22, .int .i64 n23, .int .i64 n24, .int .i64 n25, .slice l17.p l17.n l17.c, .slice l18.p l18.n l18.c, .slice l19.p l19.n l19.c, .slice l20.p l20.n l20.c, .int .i64 n26], .int .i64 n27] ∧
K (.tuple #[.agg #[.int .i64 n22, .int .i64 n23, .int .i64 n24, .int .i64 n25, .slice l17.p l17.n l17.c, .slice l18.p l18.n l18.c, .slice l19.p l19.n l19.c, .slice l20.p l20.n l20.c, .int .i64 n26], .int .i64 n27]) H7)))))
theorem logboomref11_Elect_fn (p_0 p_1 p_2 p_3 : Int) (p_4 p_5 p_6 p_7 : Sl) (p_8 leader : Int) {H : Heap} {K : Value → Heap → Prop} (h : logboomref11_Elect_vc p_0 p_1 p_2 p_3 p_4 p_5 p_6 p_7 p_8 leader H K) : FnH Tryz.prog 98 #[.agg #[.int .i64 p_0, .int .i64 p_1, .int .i64 p_2, .int .i64 p_3, .slice p_4.p p_4.n p_4.c, .slice p_5.p p_5.n p_5.c, .slice p_6.p p_6.n p_6.c, .slice p_7.p p_7.n p_7.c, .int .i64 p_8], .int .i64 leader] H K :=
  denFn_fn Tryz.mixed logboomref11_Elect_ann Tryz.func98 (bodyOf_spec (by kernel_rfl)) (by kernel_rfl) h
def logboomref11_Fence_ann : Anns := { hid := [3, 6], loops := [], joins := [], mix := [(13, [11])] }
def logboomref11_Fence_vc (p_0 p_1 p_2 p_3 : Int) (p_4 p_5 p_6 p_7 : Sl) (p_8 broker : Int) (up : Sl) (H : Heap) (K : Value → Heap → Prop) : Prop :=
FnH Tryz.prog 103 #[.agg #[.int .i64 p_0, .int .i64 p_1, .int .i64 p_2, .int .i64 p_3, .slice p_4.p p_4.n p_4.c, .slice p_5.p p_5.n p_5.c, .slice p_6.p p_6.n p_6.c, .slice p_7.p p_7.n p_7.c, .int .i64 p_8]] H fun r1 H1 =>
∃ b1 : Bool,
r1 = .bool b1 ∧
br (!b1) (
K (.tuple #[.agg #[.int .i64 0, .int .i64 0, .int .i64 0, .int .i64 0, .slice none 0 0, .slice none 0 0, .slice none 0 0, .slice none 0 0, .int .i64 0], .int .i64 1]) H1)
 (
br (decide ((broker : Int) < 1)) (
K (.tuple #[.agg #[.int .i64 0, .int .i64 0, .int .i64 0, .int .i64 0, .slice none 0 0, .slice none 0 0, .slice none 0 0, .slice none 0 0, .int .i64 0], .int .i64 1]) H1)
 (
br (decide ((broker : Int) > 7)) (
K (.tuple #[.agg #[.int .i64 0, .int .i64 0, .int .i64 0, .int .i64 0, .slice none 0 0, .slice none 0 0, .slice none 0 0, .slice none 0 0, .int .i64 0], .int .i64 1]) H1)
 (
FnH Tryz.prog 134 #[.agg #[.int .i64 p_0, .int .i64 p_1, .int .i64 p_2, .int .i64 p_3, .slice p_4.p p_4.n p_4.c, .slice p_5.p p_5.n p_5.c, .slice p_6.p p_6.n p_6.c, .slice p_7.p p_7.n p_7.c, .int .i64 p_8]] H1 fun r2 H2 =>
∃ n1 n2 n3 n4 : Int,
∃ l1 l2 l3 l4 : Sl,
∃ n5 : Int,
r2 = .agg #[.int .i64 n1, .int .i64 n2, .int .i64 n3, .int .i64 n4, .slice l1.p l1.n l1.c, .slice l2.p l2.n l2.c, .slice l3.p l3.n l3.c, .slice l4.p l4.n l4.c, .int .i64 n5] ∧
∀ q1 : Nat,
H2 q1 = none →
letH (Heap.upd H2 q1 (.cells #[.int .i64 broker] 3 (0, 0))) fun H3 =>
FnH Tryz.prog 139 #[.slice l1.p l1.n l1.c, .slice (some ⟨q1, 0, none⟩) 1 1] H3 fun r3 H4 =>
∃ l5 : Sl,
r3 = .slice l5.p l5.n l5.c ∧
br ((n2 : Int) != broker) (
br (((l5.n : Nat) : Int) == (l1.n : Nat)) (
K (.tuple #[.agg #[.int .i64 n1, .int .i64 n2, .int .i64 n3, .int .i64 n4, .slice l1.p l1.n l1.c, .slice l2.p l2.n l2.c, .slice l3.p l3.n l3.c, .slice l4.p l4.n l4.c, .int .i64 n5], .int .i64 0]) H4)
 (
br (((l5.n : Nat) : Int) == 0) (
K (.tuple #[.agg #[.int .i64 n1, .int .i64 n2, .int .i64 n3, .int .i64 n4, .slice l1.p l1.n l1.c, .slice l2.p l2.n l2.c, .slice l3.p l3.n l3.c, .slice l4.p l4.n l4.c, .int .i64 n5], .int .i64 0]) H4)
 (
br (!(((l5.n : Nat) : Int) == 0)) (
br ((n2 : Int) == broker) (
FnH Tryz.prog 139 #[.slice up.p up.n up.c, .slice (some ⟨q1, 0, none⟩) 1 1] H4 fun r4 H5 =>
∃ l6 : Sl,
r4 = .slice l6.p l6.n l6.c ∧
Sub H4 H5 ∧
FnH Tryz.prog 142 #[.slice l2.p l2.n l2.c, .slice l5.p l5.n l5.c, .slice l6.p l6.n l6.c, .int .i64 broker] H5 fun r5 H6 =>
∃ n6 : Int,
r5 = .int .i64 n6 ∧
Sub H4 H6 ∧
FnH Tryz.prog 136 #[.agg #[.int .i64 n1, .int .i64 n2, .int .i64 n3, .int .i64 n4, .slice l5.p l5.n l5.c, .slice l2.p l2.n l2.c, .slice l3.p l3.n l3.c, .slice l4.p l4.n l4.c, .int .i64 n5], .int .i64 n6] H6 fun r6 H7 =>
∃ n7 n8 n9 n10 : Int,
∃ l7 l8 l9 l10 : Sl,
∃ n11 : Int,
r6 = .agg #[.int .i64 n7, .int .i64 n8, .int .i64 n9, .int .i64 n10, .slice l7.p l7.n l7.c, .slice l8.p l8.n l8.c, .slice l9.p l9.n l9.c, .slice l10.p l10.n l10.c, .int .i64 n11] ∧
Sub H4 H7 ∧
FnH Tryz.prog 135 #[.agg #[.int .i64 n7, .int .i64 n8, .int .i64 n9, .int .i64 n10, .slice l7.p l7.n l7.c, .slice l8.p l8.n l8.c, .slice l9.p l9.n l9.c, .slice l10.p l10.n l10.c, .int .i64 n11]] H7 fun r7 H8 =>
∃ n12 n13 n14 n15 : Int,
∃ l11 l12 l13 l14 : Sl,
∃ n16 n17 : Int,
r7 = .tuple #[.agg #[.int .i64 n12, .int .i64 n13, .int .i64 n14, .int .i64 n15, .slice l11.p l11.n l11.c, .slice l12.p l12.n l12.c, .slice l13.p l13.n l13.c, .slice l14.p l14.n l14.c, .int .i64 n16], .int .i64 n17] ∧
K (.tuple #[.agg #[.int .i64 n12, .int .i64 n13, .int .i64 n14, .int .i64 n15, .slice l11.p l11.n l11.c, .slice l12.p l12.n l12.c, .slice l13.p l13.n l13.c, .slice l14.p l14.n l14.c, .int .i64 n16], .int .i64 n17]) H8)
 (
FnH Tryz.prog 135 #[.agg #[.int .i64 n1, .int .i64 n2, .int .i64 n3, .int .i64 n4, .slice l5.p l5.n l5.c, .slice l2.p l2.n l2.c, .slice l3.p l3.n l3.c, .slice l4.p l4.n l4.c, .int .i64 n5]] H4 fun r8 H9 =>
∃ n18 n19 n20 n21 : Int,
∃ l15 l16 l17 l18 : Sl,
∃ n22 n23 : Int,
r8 = .tuple #[.agg #[.int .i64 n18, .int .i64 n19, .int .i64 n20, .int .i64 n21, .slice l15.p l15.n l15.c, .slice l16.p l16.n l16.c, .slice l17.p l17.n l17.c, .slice l18.p l18.n l18.c, .int .i64 n22], .int .i64 n23] ∧
K (.tuple #[.agg #[.int .i64 n18, .int .i64 n19, .int .i64 n20, .int .i64 n21, .slice l15.p l15.n l15.c, .slice l16.p l16.n l16.c, .slice l17.p l17.n l17.c, .slice l18.p l18.n l18.c, .int .i64 n22], .int .i64 n23]) H9))
 (
br ((n2 : Int) == broker) (
FnH Tryz.prog 139 #[.slice up.p up.n up.c, .slice (some ⟨q1, 0, none⟩) 1 1] H4 fun r9 H10 =>
∃ l19 : Sl,
r9 = .slice l19.p l19.n l19.c ∧
Sub H4 H10 ∧
FnH Tryz.prog 142 #[.slice l2.p l2.n l2.c, .slice l1.p l1.n l1.c, .slice l19.p l19.n l19.c, .int .i64 broker] H10 fun r10 H11 =>
∃ n24 : Int,
r10 = .int .i64 n24 ∧
Sub H4 H11 ∧
FnH Tryz.prog 136 #[.agg #[.int .i64 n1, .int .i64 n2, .int .i64 n3, .int .i64 n4, .slice l1.p l1.n l1.c, .slice l2.p l2.n l2.c, .slice l3.p l3.n l3.c, .slice l4.p l4.n l4.c, .int .i64 n5], .int .i64 n24] H11 fun r11 H12 =>
∃ n25 n26 n27 n28 : Int,
∃ l20 l21 l22 l23 : Sl,
∃ n29 : Int,
r11 = .agg #[.int .i64 n25, .int .i64 n26, .int .i64 n27, .int .i64 n28, .slice l20.p l20.n l20.c, .slice l21.p l21.n l21.c, .slice l22.p l22.n l22.c, .slice l23.p l23.n l23.c, .int .i64 n29] ∧
Sub H4 H12 ∧
FnH Tryz.prog 135 #[.agg #[.int .i64 n25, .int .i64 n26, .int .i64 n27, .int .i64 n28, .slice l20.p l20.n l20.c, .slice l21.p l21.n l21.c, .slice l22.p l22.n l22.c, .slice l23.p l23.n l23.c, .int .i64 n29]] H12 fun r12 H13 =>
∃ n30 n31 n32 n33 : Int,
∃ l24 l25 l26 l27 : Sl,
∃ n34 n35 : Int,
r12 = .tuple #[.agg #[.int .i64 n30, .int .i64 n31, .int .i64 n32, .int .i64 n33, .slice l24.p l24.n l24.c, .slice l25.p l25.n l25.c, .slice l26.p l26.n l26.c, .slice l27.p l27.n l27.c, .int .i64 n34], .int .i64 n35] ∧
K (.tuple #[.agg #[.int .i64 n30, .int .i64 n31, .int .i64 n32, .int .i64 n33, .slice l24.p l24.n l24.c, .slice l25.p l25.n l25.c, .slice l26.p l26.n l26.c, .slice l27.p l27.n l27.c, .int .i64 n34], .int .i64 n35]) H13)
 (
FnH Tryz.prog 135 #[.agg #[.int .i64 n1, .int .i64 n2, .int .i64 n3, .int .i64 n4, .slice l1.p l1.n l1.c, .slice l2.p l2.n l2.c, .slice l3.p l3.n l3.c, .slice l4.p l4.n l4.c, .int .i64 n5]] H4 fun r13 H14 =>
∃ n36 n37 n38 n39 : Int,
∃ l28 l29 l30 l31 : Sl,
∃ n40 n41 : Int,
r13 = .tuple #[.agg #[.int .i64 n36, .int .i64 n37, .int .i64 n38, .int .i64 n39, .slice l28.p l28.n l28.c, .slice l29.p l29.n l29.c, .slice l30.p l30.n l30.c, .slice l31.p l31.n l31.c, .int .i64 n40], .int .i64 n41] ∧
K (.tuple #[.agg #[.int .i64 n36, .int .i64 n37, .int .i64 n38, .int .i64 n39, .slice l28.p l28.n l28.c, .slice l29.p l29.n l29.c, .slice l30.p l30.n l30.c, .slice l31.p l31.n l31.c, .int .i64 n40], .int .i64 n41]) H14)))))
 (
br (!(((l5.n : Nat) : Int) == 0)) (
br ((n2 : Int) == broker) (
FnH Tryz.prog 139 #[.slice up.p up.n up.c, .slice (some ⟨q1, 0, none⟩) 1 1] H4 fun r14 H15 =>
∃ l32 : Sl,
r14 = .slice l32.p l32.n l32.c ∧
Sub H4 H15 ∧
FnH Tryz.prog 142 #[.slice l2.p l2.n l2.c, .slice l5.p l5.n l5.c, .slice l32.p l32.n l32.c, .int .i64 broker] H15 fun r15 H16 =>
∃ n42 : Int,
r15 = .int .i64 n42 ∧
Sub H4 H16 ∧
FnH Tryz.prog 136 #[.agg #[.int .i64 n1, .int .i64 n2, .int .i64 n3, .int .i64 n4, .slice l5.p l5.n l5.c, .slice l2.p l2.n l2.c, .slice l3.p l3.n l3.c, .slice l4.p l4.n l4.c, .int .i64 n5], .int .i64 n42] H16 fun r16 H17 =>
∃ n43 n44 n45 n46 : Int,
∃ l33 l34 l35 l36 : Sl,
∃ n47 : Int,
r16 = .agg #[.int .i64 n43, .int .i64 n44, .int .i64 n45, .int .i64 n46, .slice l33.p l33.n l33.c, .slice l34.p l34.n l34.c, .slice l35.p l35.n l35.c, .slice l36.p l36.n l36.c, .int .i64 n47] ∧
Sub H4 H17 ∧
FnH Tryz.prog 135 #[.agg #[.int .i64 n43, .int .i64 n44, .int .i64 n45, .int .i64 n46, .slice l33.p l33.n l33.c, .slice l34.p l34.n l34.c, .slice l35.p l35.n l35.c, .slice l36.p l36.n l36.c, .int .i64 n47]] H17 fun r17 H18 =>
∃ n48 n49 n50 n51 : Int,
∃ l37 l38 l39 l40 : Sl,
∃ n52 n53 : Int,
r17 = .tuple #[.agg #[.int .i64 n48, .int .i64 n49, .int .i64 n50, .int .i64 n51, .slice l37.p l37.n l37.c, .slice l38.p l38.n l38.c, .slice l39.p l39.n l39.c, .slice l40.p l40.n l40.c, .int .i64 n52], .int .i64 n53] ∧
K (.tuple #[.agg #[.int .i64 n48, .int .i64 n49, .int .i64 n50, .int .i64 n51, .slice l37.p l37.n l37.c, .slice l38.p l38.n l38.c, .slice l39.p l39.n l39.c, .slice l40.p l40.n l40.c, .int .i64 n52], .int .i64 n53]) H18)
 (
FnH Tryz.prog 135 #[.agg #[.int .i64 n1, .int .i64 n2, .int .i64 n3, .int .i64 n4, .slice l5.p l5.n l5.c, .slice l2.p l2.n l2.c, .slice l3.p l3.n l3.c, .slice l4.p l4.n l4.c, .int .i64 n5]] H4 fun r18 H19 =>
∃ n54 n55 n56 n57 : Int,
∃ l41 l42 l43 l44 : Sl,
∃ n58 n59 : Int,
r18 = .tuple #[.agg #[.int .i64 n54, .int .i64 n55, .int .i64 n56, .int .i64 n57, .slice l41.p l41.n l41.c, .slice l42.p l42.n l42.c, .slice l43.p l43.n l43.c, .slice l44.p l44.n l44.c, .int .i64 n58], .int .i64 n59] ∧
K (.tuple #[.agg #[.int .i64 n54, .int .i64 n55, .int .i64 n56, .int .i64 n57, .slice l41.p l41.n l41.c, .slice l42.p l42.n l42.c, .slice l43.p l43.n l43.c, .slice l44.p l44.n l44.c, .int .i64 n58], .int .i64 n59]) H19))
 (
br ((n2 : Int) == broker) (
FnH Tryz.prog 139 #[.slice up.p up.n up.c, .slice (some ⟨q1, 0, none⟩) 1 1] H4 fun r19 H20 =>
∃ l45 : Sl,
r19 = .slice l45.p l45.n l45.c ∧
Sub H4 H20 ∧
FnH Tryz.prog 142 #[.slice l2.p l2.n l2.c, .slice l1.p l1.n l1.c, .slice l45.p l45.n l45.c, .int .i64 broker] H20 fun r20 H21 =>
∃ n60 : Int,
r20 = .int .i64 n60 ∧
Sub H4 H21 ∧
FnH Tryz.prog 136 #[.agg #[.int .i64 n1, .int .i64 n2, .int .i64 n3, .int .i64 n4, .slice l1.p l1.n l1.c, .slice l2.p l2.n l2.c, .slice l3.p l3.n l3.c, .slice l4.p l4.n l4.c, .int .i64 n5], .int .i64 n60] H21 fun r21 H22 =>
∃ n61 n62 n63 n64 : Int,
∃ l46 l47 l48 l49 : Sl,
∃ n65 : Int,
r21 = .agg #[.int .i64 n61, .int .i64 n62, .int .i64 n63, .int .i64 n64, .slice l46.p l46.n l46.c, .slice l47.p l47.n l47.c, .slice l48.p l48.n l48.c, .slice l49.p l49.n l49.c, .int .i64 n65] ∧
Sub H4 H22 ∧
FnH Tryz.prog 135 #[.agg #[.int .i64 n61, .int .i64 n62, .int .i64 n63, .int .i64 n64, .slice l46.p l46.n l46.c, .slice l47.p l47.n l47.c, .slice l48.p l48.n l48.c, .slice l49.p l49.n l49.c, .int .i64 n65]] H22 fun r22 H23 =>
∃ n66 n67 n68 n69 : Int,
∃ l50 l51 l52 l53 : Sl,
∃ n70 n71 : Int,
r22 = .tuple #[.agg #[.int .i64 n66, .int .i64 n67, .int .i64 n68, .int .i64 n69, .slice l50.p l50.n l50.c, .slice l51.p l51.n l51.c, .slice l52.p l52.n l52.c, .slice l53.p l53.n l53.c, .int .i64 n70], .int .i64 n71] ∧
K (.tuple #[.agg #[.int .i64 n66, .int .i64 n67, .int .i64 n68, .int .i64 n69, .slice l50.p l50.n l50.c, .slice l51.p l51.n l51.c, .slice l52.p l52.n l52.c, .slice l53.p l53.n l53.c, .int .i64 n70], .int .i64 n71]) H23)
 (
FnH Tryz.prog 135 #[.agg #[.int .i64 n1, .int .i64 n2, .int .i64 n3, .int .i64 n4, .slice l1.p l1.n l1.c, .slice l2.p l2.n l2.c, .slice l3.p l3.n l3.c, .slice l4.p l4.n l4.c, .int .i64 n5]] H4 fun r23 H24 =>
∃ n72 n73 n74 n75 : Int,
∃ l54 l55 l56 l57 : Sl,
∃ n76 n77 : Int,
r23 = .tuple #[.agg #[.int .i64 n72, .int .i64 n73, .int .i64 n74, .int .i64 n75, .slice l54.p l54.n l54.c, .slice l55.p l55.n l55.c, .slice l56.p l56.n l56.c, .slice l57.p l57.n l57.c, .int .i64 n76], .int .i64 n77] ∧
K (.tuple #[.agg #[.int .i64 n72, .int .i64 n73, .int .i64 n74, .int .i64 n75, .slice l54.p l54.n l54.c, .slice l55.p l55.n l55.c, .slice l56.p l56.n l56.c, .slice l57.p l57.n l57.c, .int .i64 n76], .int .i64 n77]) H24))))))
theorem logboomref11_Fence_fn (p_0 p_1 p_2 p_3 : Int) (p_4 p_5 p_6 p_7 : Sl) (p_8 broker : Int) (up : Sl) {H : Heap} {K : Value → Heap → Prop} (h : logboomref11_Fence_vc p_0 p_1 p_2 p_3 p_4 p_5 p_6 p_7 p_8 broker up H K) : FnH Tryz.prog 133 #[.agg #[.int .i64 p_0, .int .i64 p_1, .int .i64 p_2, .int .i64 p_3, .slice p_4.p p_4.n p_4.c, .slice p_5.p p_5.n p_5.c, .slice p_6.p p_6.n p_6.c, .slice p_7.p p_7.n p_7.c, .int .i64 p_8], .int .i64 broker, .slice up.p up.n up.c] H K :=
  denFn_fn Tryz.mixed logboomref11_Fence_ann Tryz.func133 (bodyOf_spec (by kernel_rfl)) (by kernel_rfl) h
def logboomref11_Back_ann : Anns := { hid := [2, 4], loops := [], joins := [], mix := [] }
def logboomref11_Back_vc (p_0 p_1 p_2 p_3 : Int) (p_4 p_5 p_6 p_7 : Sl) (p_8 broker : Int) (H : Heap) (K : Value → Heap → Prop) : Prop :=
FnH Tryz.prog 103 #[.agg #[.int .i64 p_0, .int .i64 p_1, .int .i64 p_2, .int .i64 p_3, .slice p_4.p p_4.n p_4.c, .slice p_5.p p_5.n p_5.c, .slice p_6.p p_6.n p_6.c, .slice p_7.p p_7.n p_7.c, .int .i64 p_8]] H fun r1 H1 =>
∃ b1 : Bool,
r1 = .bool b1 ∧
br (!b1) (
K (.tuple #[.agg #[.int .i64 0, .int .i64 0, .int .i64 0, .int .i64 0, .slice none 0 0, .slice none 0 0, .slice none 0 0, .slice none 0 0, .int .i64 0], .int .i64 1]) H1)
 (
br (decide ((broker : Int) < 1)) (
K (.tuple #[.agg #[.int .i64 0, .int .i64 0, .int .i64 0, .int .i64 0, .slice none 0 0, .slice none 0 0, .slice none 0 0, .slice none 0 0, .int .i64 0], .int .i64 1]) H1)
 (
br (decide ((broker : Int) > 7)) (
K (.tuple #[.agg #[.int .i64 0, .int .i64 0, .int .i64 0, .int .i64 0, .slice none 0 0, .slice none 0 0, .slice none 0 0, .slice none 0 0, .int .i64 0], .int .i64 1]) H1)
 (
FnH Tryz.prog 134 #[.agg #[.int .i64 p_0, .int .i64 p_1, .int .i64 p_2, .int .i64 p_3, .slice p_4.p p_4.n p_4.c, .slice p_5.p p_5.n p_5.c, .slice p_6.p p_6.n p_6.c, .slice p_7.p p_7.n p_7.c, .int .i64 p_8]] H1 fun r2 H2 =>
∃ n1 n2 n3 n4 : Int,
∃ l1 l2 l3 l4 : Sl,
∃ n5 : Int,
r2 = .agg #[.int .i64 n1, .int .i64 n2, .int .i64 n3, .int .i64 n4, .slice l1.p l1.n l1.c, .slice l2.p l2.n l2.c, .slice l3.p l3.n l3.c, .slice l4.p l4.n l4.c, .int .i64 n5] ∧
FnH Tryz.prog 97 #[.slice l1.p l1.n l1.c, .int .i64 broker] H2 fun r3 H3 =>
∃ b2 : Bool,
r3 = .bool b2 ∧
br ((n2 : Int) != 0) (
K (.tuple #[.agg #[.int .i64 n1, .int .i64 n2, .int .i64 n3, .int .i64 n4, .slice l1.p l1.n l1.c, .slice l2.p l2.n l2.c, .slice l3.p l3.n l3.c, .slice l4.p l4.n l4.c, .int .i64 n5], .int .i64 0]) H3)
 (
br (!b2) (
K (.tuple #[.agg #[.int .i64 n1, .int .i64 n2, .int .i64 n3, .int .i64 n4, .slice l1.p l1.n l1.c, .slice l2.p l2.n l2.c, .slice l3.p l3.n l3.c, .slice l4.p l4.n l4.c, .int .i64 n5], .int .i64 0]) H3)
 (
FnH Tryz.prog 136 #[.agg #[.int .i64 n1, .int .i64 n2, .int .i64 n3, .int .i64 n4, .slice l1.p l1.n l1.c, .slice l2.p l2.n l2.c, .slice l3.p l3.n l3.c, .slice l4.p l4.n l4.c, .int .i64 n5], .int .i64 broker] H3 fun r4 H4 =>
∃ n6 n7 n8 n9 : Int,
∃ l5 l6 l7 l8 : Sl,
∃ n10 : Int,
r4 = .agg #[.int .i64 n6, .int .i64 n7, .int .i64 n8, .int .i64 n9, .slice l5.p l5.n l5.c, .slice l6.p l6.n l6.c, .slice l7.p l7.n l7.c, .slice l8.p l8.n l8.c, .int .i64 n10] ∧
FnH Tryz.prog 135 #[.agg #[.int .i64 n6, .int .i64 n7, .int .i64 n8, .int .i64 n9, .slice l5.p l5.n l5.c, .slice l6.p l6.n l6.c, .slice l7.p l7.n l7.c, .slice l8.p l8.n l8.c, .int .i64 n10]] H4 fun r5 H5 =>
∃ n11 n12 n13 n14 : Int,
∃ l9 l10 l11 l12 : Sl,
∃ n15 n16 : Int,
r5 = .tuple #[.agg #[.int .i64 n11, .int .i64 n12, .int .i64 n13, .int .i64 n14, .slice l9.p l9.n l9.c, .slice l10.p l10.n l10.c, .slice l11.p l11.n l11.c, .slice l12.p l12.n l12.c, .int .i64 n15], .int .i64 n16] ∧
K (.tuple #[.agg #[.int .i64 n11, .int .i64 n12, .int .i64 n13, .int .i64 n14, .slice l9.p l9.n l9.c, .slice l10.p l10.n l10.c, .slice l11.p l11.n l11.c, .slice l12.p l12.n l12.c, .int .i64 n15], .int .i64 n16]) H5)))))
theorem logboomref11_Back_fn (p_0 p_1 p_2 p_3 : Int) (p_4 p_5 p_6 p_7 : Sl) (p_8 broker : Int) {H : Heap} {K : Value → Heap → Prop} (h : logboomref11_Back_vc p_0 p_1 p_2 p_3 p_4 p_5 p_6 p_7 p_8 broker H K) : FnH Tryz.prog 91 #[.agg #[.int .i64 p_0, .int .i64 p_1, .int .i64 p_2, .int .i64 p_3, .slice p_4.p p_4.n p_4.c, .slice p_5.p p_5.n p_5.c, .slice p_6.p p_6.n p_6.c, .slice p_7.p p_7.n p_7.c, .int .i64 p_8], .int .i64 broker] H K :=
  denFn_fn Tryz.mixed logboomref11_Back_ann Tryz.func91 (bodyOf_spec (by kernel_rfl)) (by kernel_rfl) h
def logboomref11_Alter_ann : Anns := { hid := [6, 12], loops := [], joins := [((0, 4), { slots := [(24, .bool)], kept := [1, 2, 3, 4, 5, 6, 12], locs := [], keptL := [0, 1] }), ((0, 6), { slots := [(42, .bool)], kept := [1, 4, 5, 6, 12], locs := [], keptL := [0, 1] })], mix := [] }
def logboomref11_Alter_vc (p_0 p_1 p_2 p_3 : Int) (p_4 p_5 p_6 p_7 : Sl) (p_8 leader epoch version : Int) (isr up : Sl) (H : Heap) (K : Value → Heap → Prop) : Prop :=
FnH Tryz.prog 103 #[.agg #[.int .i64 p_0, .int .i64 p_1, .int .i64 p_2, .int .i64 p_3, .slice p_4.p p_4.n p_4.c, .slice p_5.p p_5.n p_5.c, .slice p_6.p p_6.n p_6.c, .slice p_7.p p_7.n p_7.c, .int .i64 p_8]] H fun r1 H1 =>
∃ b1 : Bool,
r1 = .bool b1 ∧
br (!b1) (
K (.tuple #[.agg #[.int .i64 0, .int .i64 0, .int .i64 0, .int .i64 0, .slice none 0 0, .slice none 0 0, .slice none 0 0, .slice none 0 0, .int .i64 0], .int .i64 1]) H1)
 (
∃ J1 : Bool → Heap → Prop,
 (br (decide ((epoch : Int) < p_2)) (
SelfEq ([.v (.int .i64 leader), .v (.int .i64 epoch), .v (.int .i64 version), .v (.slice isr.p isr.n isr.c), .v (.slice up.p up.n up.c), .loc 0 0, .loc 1 0], [some (41, [.int .i64 p_0, .int .i64 p_1, .int .i64 p_2, .int .i64 p_3, .slice p_4.p p_4.n p_4.c, .slice p_5.p p_5.n p_5.c, .slice p_6.p p_6.n p_6.c, .slice p_7.p p_7.n p_7.c, .int .i64 p_8]), some (41, [.int .i64 0, .int .i64 0, .int .i64 0, .int .i64 0, .slice none 0 0, .slice none 0 0, .slice none 0 0, .slice none 0 0, .int .i64 0])], []) ∧
J1 true H1)
 (
br ((epoch : Int) == p_2) (
SelfEq ([.v (.int .i64 leader), .v (.int .i64 epoch), .v (.int .i64 version), .v (.slice isr.p isr.n isr.c), .v (.slice up.p up.n up.c), .loc 0 0, .loc 1 0], [some (41, [.int .i64 p_0, .int .i64 p_1, .int .i64 p_2, .int .i64 p_3, .slice p_4.p p_4.n p_4.c, .slice p_5.p p_5.n p_5.c, .slice p_6.p p_6.n p_6.c, .slice p_7.p p_7.n p_7.c, .int .i64 p_8]), some (41, [.int .i64 0, .int .i64 0, .int .i64 0, .int .i64 0, .slice none 0 0, .slice none 0 0, .slice none 0 0, .slice none 0 0, .int .i64 0])], []) ∧
J1 (decide ((version : Int) < p_3)) H1)
 (
SelfEq ([.v (.int .i64 leader), .v (.int .i64 epoch), .v (.int .i64 version), .v (.slice isr.p isr.n isr.c), .v (.slice up.p up.n up.c), .loc 0 0, .loc 1 0], [some (41, [.int .i64 p_0, .int .i64 p_1, .int .i64 p_2, .int .i64 p_3, .slice p_4.p p_4.n p_4.c, .slice p_5.p p_5.n p_5.c, .slice p_6.p p_6.n p_6.c, .slice p_7.p p_7.n p_7.c, .int .i64 p_8]), some (41, [.int .i64 0, .int .i64 0, .int .i64 0, .int .i64 0, .slice none 0 0, .slice none 0 0, .slice none 0 0, .slice none 0 0, .int .i64 0])], []) ∧
J1 false H1))) ∧
∀ b_1 : Bool,
∀ H2 : Heap,
J1 b_1 H2 →
br (b_1) (
K (.tuple #[.agg #[.int .i64 0, .int .i64 0, .int .i64 0, .int .i64 0, .slice none 0 0, .slice none 0 0, .slice none 0 0, .slice none 0 0, .int .i64 0], .int .i64 13]) H2)
 (
∃ J2 : Bool → Heap → Prop,
 (br (decide ((epoch : Int) > p_2)) (
SelfEq ([.v (.int .i64 leader), .v (.slice isr.p isr.n isr.c), .v (.slice up.p up.n up.c), .loc 0 0, .loc 1 0], [some (41, [.int .i64 p_0, .int .i64 p_1, .int .i64 p_2, .int .i64 p_3, .slice p_4.p p_4.n p_4.c, .slice p_5.p p_5.n p_5.c, .slice p_6.p p_6.n p_6.c, .slice p_7.p p_7.n p_7.c, .int .i64 p_8]), some (41, [.int .i64 0, .int .i64 0, .int .i64 0, .int .i64 0, .slice none 0 0, .slice none 0 0, .slice none 0 0, .slice none 0 0, .int .i64 0])], []) ∧
J2 true H2)
 (
SelfEq ([.v (.int .i64 leader), .v (.slice isr.p isr.n isr.c), .v (.slice up.p up.n up.c), .loc 0 0, .loc 1 0], [some (41, [.int .i64 p_0, .int .i64 p_1, .int .i64 p_2, .int .i64 p_3, .slice p_4.p p_4.n p_4.c, .slice p_5.p p_5.n p_5.c, .slice p_6.p p_6.n p_6.c, .slice p_7.p p_7.n p_7.c, .int .i64 p_8]), some (41, [.int .i64 0, .int .i64 0, .int .i64 0, .int .i64 0, .slice none 0 0, .slice none 0 0, .slice none 0 0, .slice none 0 0, .int .i64 0])], []) ∧
J2 (decide ((version : Int) > p_3)) H2)) ∧
∀ b_2 : Bool,
∀ H3 : Heap,
J2 b_2 H3 →
br (b_2) (
K (.tuple #[.agg #[.int .i64 0, .int .i64 0, .int .i64 0, .int .i64 0, .slice none 0 0, .slice none 0 0, .slice none 0 0, .slice none 0 0, .int .i64 0], .int .i64 14]) H3)
 (
br ((leader : Int) == 0) (
K (.tuple #[.agg #[.int .i64 0, .int .i64 0, .int .i64 0, .int .i64 0, .slice none 0 0, .slice none 0 0, .slice none 0 0, .slice none 0 0, .int .i64 0], .int .i64 19]) H3)
 (
br ((leader : Int) != p_1) (
K (.tuple #[.agg #[.int .i64 0, .int .i64 0, .int .i64 0, .int .i64 0, .slice none 0 0, .slice none 0 0, .slice none 0 0, .slice none 0 0, .int .i64 0], .int .i64 19]) H3)
 (
FnH Tryz.prog 137 #[.slice isr.p isr.n isr.c] H3 fun r2 H4 =>
∃ b2 : Bool,
r2 = .bool b2 ∧
FnH Tryz.prog 97 #[.slice isr.p isr.n isr.c, .int .i64 leader] H4 fun r3 H5 =>
∃ b3 : Bool,
r3 = .bool b3 ∧
FnH Tryz.prog 138 #[.slice isr.p isr.n isr.c, .slice p_5.p p_5.n p_5.c] H5 fun r4 H6 =>
∃ b4 : Bool,
r4 = .bool b4 ∧
br (!b2) (
K (.tuple #[.agg #[.int .i64 0, .int .i64 0, .int .i64 0, .int .i64 0, .slice none 0 0, .slice none 0 0, .slice none 0 0, .slice none 0 0, .int .i64 0], .int .i64 1]) H6)
 (
br (!b3) (
K (.tuple #[.agg #[.int .i64 0, .int .i64 0, .int .i64 0, .int .i64 0, .slice none 0 0, .slice none 0 0, .slice none 0 0, .slice none 0 0, .int .i64 0], .int .i64 1]) H6)
 (
br (!b4) (
K (.tuple #[.agg #[.int .i64 0, .int .i64 0, .int .i64 0, .int .i64 0, .slice none 0 0, .slice none 0 0, .slice none 0 0, .slice none 0 0, .int .i64 0], .int .i64 1]) H6)
 (
FnH Tryz.prog 139 #[.slice isr.p isr.n isr.c, .slice p_4.p p_4.n p_4.c] H6 fun r5 H7 =>
∃ l1 : Sl,
r5 = .slice l1.p l1.n l1.c ∧
FnH Tryz.prog 139 #[.slice l1.p l1.n l1.c, .slice up.p up.n up.c] H7 fun r6 H8 =>
∃ l2 : Sl,
r6 = .slice l2.p l2.n l2.c ∧
br (decide (((l2.n : Nat) : Int) > 0)) (
K (.tuple #[.agg #[.int .i64 0, .int .i64 0, .int .i64 0, .int .i64 0, .slice none 0 0, .slice none 0 0, .slice none 0 0, .slice none 0 0, .int .i64 0], .int .i64 1]) H8)
 (
FnH Tryz.prog 134 #[.agg #[.int .i64 p_0, .int .i64 p_1, .int .i64 p_2, .int .i64 p_3, .slice p_4.p p_4.n p_4.c, .slice p_5.p p_5.n p_5.c, .slice p_6.p p_6.n p_6.c, .slice p_7.p p_7.n p_7.c, .int .i64 p_8]] H8 fun r7 H9 =>
∃ n1 n2 n3 n4 : Int,
∃ l3 l4 l5 l6 : Sl,
∃ n5 : Int,
r7 = .agg #[.int .i64 n1, .int .i64 n2, .int .i64 n3, .int .i64 n4, .slice l3.p l3.n l3.c, .slice l4.p l4.n l4.c, .slice l5.p l5.n l5.c, .slice l6.p l6.n l6.c, .int .i64 n5] ∧
FnH Tryz.prog 140 #[.slice l4.p l4.n l4.c, .slice isr.p isr.n isr.c] H9 fun r8 H10 =>
∃ l7 : Sl,
r8 = .slice l7.p l7.n l7.c ∧
FnH Tryz.prog 135 #[.agg #[.int .i64 n1, .int .i64 n2, .int .i64 n3, .int .i64 n4, .slice l7.p l7.n l7.c, .slice l4.p l4.n l4.c, .slice l5.p l5.n l5.c, .slice l6.p l6.n l6.c, .int .i64 n5]] H10 fun r9 H11 =>
∃ n6 n7 n8 n9 : Int,
∃ l8 l9 l10 l11 : Sl,
∃ n10 n11 : Int,
r9 = .tuple #[.agg #[.int .i64 n6, .int .i64 n7, .int .i64 n8, .int .i64 n9, .slice l8.p l8.n l8.c, .slice l9.p l9.n l9.c, .slice l10.p l10.n l10.c, .slice l11.p l11.n l11.c, .int .i64 n10], .int .i64 n11] ∧
K (.tuple #[.agg #[.int .i64 n6, .int .i64 n7, .int .i64 n8, .int .i64 n9, .slice l8.p l8.n l8.c, .slice l9.p l9.n l9.c, .slice l10.p l10.n l10.c, .slice l11.p l11.n l11.c, .int .i64 n10], .int .i64 n11]) H11)))))))))
theorem logboomref11_Alter_fn (p_0 p_1 p_2 p_3 : Int) (p_4 p_5 p_6 p_7 : Sl) (p_8 leader epoch version : Int) (isr up : Sl) {H : Heap} {K : Value → Heap → Prop} (h : logboomref11_Alter_vc p_0 p_1 p_2 p_3 p_4 p_5 p_6 p_7 p_8 leader epoch version isr up H K) : FnH Tryz.prog 93 #[.agg #[.int .i64 p_0, .int .i64 p_1, .int .i64 p_2, .int .i64 p_3, .slice p_4.p p_4.n p_4.c, .slice p_5.p p_5.n p_5.c, .slice p_6.p p_6.n p_6.c, .slice p_7.p p_7.n p_7.c, .int .i64 p_8], .int .i64 leader, .int .i64 epoch, .int .i64 version, .slice isr.p isr.n isr.c, .slice up.p up.n up.c] H K :=
  denFn_fn Tryz.mixed logboomref11_Alter_ann Tryz.func93 (bodyOf_spec (by kernel_rfl)) (by kernel_rfl) h
def logboomref11_Begin_ann : Anns := { hid := [3, 6], loops := [], joins := [], mix := [] }
def logboomref11_Begin_vc (p_0 p_1 p_2 p_3 : Int) (p_4 p_5 p_6 p_7 : Sl) (p_8 : Int) (targets up : Sl) (H : Heap) (K : Value → Heap → Prop) : Prop :=
FnH Tryz.prog 103 #[.agg #[.int .i64 p_0, .int .i64 p_1, .int .i64 p_2, .int .i64 p_3, .slice p_4.p p_4.n p_4.c, .slice p_5.p p_5.n p_5.c, .slice p_6.p p_6.n p_6.c, .slice p_7.p p_7.n p_7.c, .int .i64 p_8]] H fun r1 H1 =>
∃ b1 : Bool,
r1 = .bool b1 ∧
FnH Tryz.prog 137 #[.slice targets.p targets.n targets.c] H1 fun r2 H2 =>
∃ b2 : Bool,
r2 = .bool b2 ∧
br (!b1) (
K (.tuple #[.agg #[.int .i64 0, .int .i64 0, .int .i64 0, .int .i64 0, .slice none 0 0, .slice none 0 0, .slice none 0 0, .slice none 0 0, .int .i64 0], .int .i64 1]) H2)
 (
br (!b2) (
K (.tuple #[.agg #[.int .i64 0, .int .i64 0, .int .i64 0, .int .i64 0, .slice none 0 0, .slice none 0 0, .slice none 0 0, .slice none 0 0, .int .i64 0], .int .i64 1]) H2)
 (
br (decide (((targets.n : Nat) : Int) < 1)) (
K (.tuple #[.agg #[.int .i64 0, .int .i64 0, .int .i64 0, .int .i64 0, .slice none 0 0, .slice none 0 0, .slice none 0 0, .slice none 0 0, .int .i64 0], .int .i64 1]) H2)
 (
br (decide (((targets.n : Nat) : Int) > 5)) (
K (.tuple #[.agg #[.int .i64 0, .int .i64 0, .int .i64 0, .int .i64 0, .slice none 0 0, .slice none 0 0, .slice none 0 0, .slice none 0 0, .int .i64 0], .int .i64 1]) H2)
 (
br (decide (((IntKind.wrap .i64 ((p_6.n : Nat) + (p_7.n : Nat))) : Int) > 0)) (
K (.tuple #[.agg #[.int .i64 0, .int .i64 0, .int .i64 0, .int .i64 0, .slice none 0 0, .slice none 0 0, .slice none 0 0, .slice none 0 0, .int .i64 0], .int .i64 19]) H2)
 (
FnH Tryz.prog 139 #[.slice targets.p targets.n targets.c, .slice p_5.p p_5.n p_5.c] H2 fun r3 H3 =>
∃ l1 : Sl,
r3 = .slice l1.p l1.n l1.c ∧
FnH Tryz.prog 139 #[.slice l1.p l1.n l1.c, .slice up.p up.n up.c] H3 fun r4 H4 =>
∃ l2 : Sl,
r4 = .slice l2.p l2.n l2.c ∧
br (decide (((l2.n : Nat) : Int) > 0)) (
K (.tuple #[.agg #[.int .i64 0, .int .i64 0, .int .i64 0, .int .i64 0, .slice none 0 0, .slice none 0 0, .slice none 0 0, .slice none 0 0, .int .i64 0], .int .i64 8]) H4)
 (
FnH Tryz.prog 134 #[.agg #[.int .i64 p_0, .int .i64 p_1, .int .i64 p_2, .int .i64 p_3, .slice p_4.p p_4.n p_4.c, .slice p_5.p p_5.n p_5.c, .slice p_6.p p_6.n p_6.c, .slice p_7.p p_7.n p_7.c, .int .i64 p_8]] H4 fun r5 H5 =>
∃ n1 n2 n3 n4 : Int,
∃ l3 l4 l5 l6 : Sl,
∃ n5 : Int,
r5 = .agg #[.int .i64 n1, .int .i64 n2, .int .i64 n3, .int .i64 n4, .slice l3.p l3.n l3.c, .slice l4.p l4.n l4.c, .slice l5.p l5.n l5.c, .slice l6.p l6.n l6.c, .int .i64 n5] ∧
FnH Tryz.prog 139 #[.slice targets.p targets.n targets.c, .slice l4.p l4.n l4.c] H5 fun r6 H6 =>
∃ l7 : Sl,
r6 = .slice l7.p l7.n l7.c ∧
FnH Tryz.prog 139 #[.slice l4.p l4.n l4.c, .slice targets.p targets.n targets.c] H6 fun r7 H7 =>
∃ l8 : Sl,
r7 = .slice l8.p l8.n l8.c ∧
FnH Tryz.prog 104 #[.slice targets.p targets.n targets.c, .slice l4.p l4.n l4.c] H7 fun r8 H8 =>
∃ b3 : Bool,
r8 = .bool b3 ∧
br (b3) (
K (.tuple #[.agg #[.int .i64 n1, .int .i64 n2, .int .i64 n3, .int .i64 n4, .slice l3.p l3.n l3.c, .slice l4.p l4.n l4.c, .slice l5.p l5.n l5.c, .slice l6.p l6.n l6.c, .int .i64 n5], .int .i64 0]) H8)
 (
FnH Tryz.prog 141 #[.slice targets.p targets.n targets.c] H8 fun r9 H9 =>
∃ l9 : Sl,
r9 = .slice l9.p l9.n l9.c ∧
runH Tryz.prog (Builtin.append_ #[22, 22] 22 #[.slice l9.p l9.n l9.c, .slice l8.p l8.n l8.c]) H9 fun r10 H10 =>
∃ l10 : Sl,
r10 = .slice l10.p l10.n l10.c ∧
FnH Tryz.prog 135 #[.agg #[.int .i64 n1, .int .i64 n2, .int .i64 n3, .int .i64 n4, .slice l3.p l3.n l3.c, .slice l10.p l10.n l10.c, .slice l7.p l7.n l7.c, .slice l8.p l8.n l8.c, .int .i64 n5]] H10 fun r11 H11 =>
∃ n6 n7 n8 n9 : Int,
∃ l11 l12 l13 l14 : Sl,
∃ n10 n11 : Int,
r11 = .tuple #[.agg #[.int .i64 n6, .int .i64 n7, .int .i64 n8, .int .i64 n9, .slice l11.p l11.n l11.c, .slice l12.p l12.n l12.c, .slice l13.p l13.n l13.c, .slice l14.p l14.n l14.c, .int .i64 n10], .int .i64 n11] ∧
K (.tuple #[.agg #[.int .i64 n6, .int .i64 n7, .int .i64 n8, .int .i64 n9, .slice l11.p l11.n l11.c, .slice l12.p l12.n l12.c, .slice l13.p l13.n l13.c, .slice l14.p l14.n l14.c, .int .i64 n10], .int .i64 n11]) H11)))))))
theorem logboomref11_Begin_fn (p_0 p_1 p_2 p_3 : Int) (p_4 p_5 p_6 p_7 : Sl) (p_8 : Int) (targets up : Sl) {H : Heap} {K : Value → Heap → Prop} (h : logboomref11_Begin_vc p_0 p_1 p_2 p_3 p_4 p_5 p_6 p_7 p_8 targets up H K) : FnH Tryz.prog 94 #[.agg #[.int .i64 p_0, .int .i64 p_1, .int .i64 p_2, .int .i64 p_3, .slice p_4.p p_4.n p_4.c, .slice p_5.p p_5.n p_5.c, .slice p_6.p p_6.n p_6.c, .slice p_7.p p_7.n p_7.c, .int .i64 p_8], .slice targets.p targets.n targets.c, .slice up.p up.n up.c] H K :=
  denFn_fn Tryz.mixed logboomref11_Begin_ann Tryz.func94 (bodyOf_spec (by kernel_rfl)) (by kernel_rfl) h
def logboomref11_Cancel_ann : Anns := { hid := [2, 4], loops := [], joins := [((0, 13), { slots := [(57, .bool)], kept := [1, 2, 4], locs := [], keptL := [0, 1] })], mix := [(14, [10])] }
def logboomref11_Cancel_vc (p_0 p_1 p_2 p_3 : Int) (p_4 p_5 p_6 p_7 : Sl) (p_8 : Int) (up : Sl) (H : Heap) (K : Value → Heap → Prop) : Prop :=
FnH Tryz.prog 103 #[.agg #[.int .i64 p_0, .int .i64 p_1, .int .i64 p_2, .int .i64 p_3, .slice p_4.p p_4.n p_4.c, .slice p_5.p p_5.n p_5.c, .slice p_6.p p_6.n p_6.c, .slice p_7.p p_7.n p_7.c, .int .i64 p_8]] H fun r1 H1 =>
∃ b1 : Bool,
r1 = .bool b1 ∧
br (!b1) (
K (.tuple #[.agg #[.int .i64 0, .int .i64 0, .int .i64 0, .int .i64 0, .slice none 0 0, .slice none 0 0, .slice none 0 0, .slice none 0 0, .int .i64 0], .int .i64 1]) H1)
 (
FnH Tryz.prog 138 #[.slice p_4.p p_4.n p_4.c, .slice p_6.p p_6.n p_6.c] H1 fun r2 H2 =>
∃ b2 : Bool,
r2 = .bool b2 ∧
br (((IntKind.wrap .i64 ((p_6.n : Nat) + (p_7.n : Nat))) : Int) == 0) (
K (.tuple #[.agg #[.int .i64 0, .int .i64 0, .int .i64 0, .int .i64 0, .slice none 0 0, .slice none 0 0, .slice none 0 0, .slice none 0 0, .int .i64 0], .int .i64 19]) H2)
 (
br (b2) (
K (.tuple #[.agg #[.int .i64 0, .int .i64 0, .int .i64 0, .int .i64 0, .slice none 0 0, .slice none 0 0, .slice none 0 0, .slice none 0 0, .int .i64 0], .int .i64 19]) H2)
 (
FnH Tryz.prog 134 #[.agg #[.int .i64 p_0, .int .i64 p_1, .int .i64 p_2, .int .i64 p_3, .slice p_4.p p_4.n p_4.c, .slice p_5.p p_5.n p_5.c, .slice p_6.p p_6.n p_6.c, .slice p_7.p p_7.n p_7.c, .int .i64 p_8]] H2 fun r3 H3 =>
∃ n1 n2 n3 n4 : Int,
∃ l1 l2 l3 l4 : Sl,
∃ n5 : Int,
r3 = .agg #[.int .i64 n1, .int .i64 n2, .int .i64 n3, .int .i64 n4, .slice l1.p l1.n l1.c, .slice l2.p l2.n l2.c, .slice l3.p l3.n l3.c, .slice l4.p l4.n l4.c, .int .i64 n5] ∧
FnH Tryz.prog 139 #[.slice l2.p l2.n l2.c, .slice l3.p l3.n l3.c] H3 fun r4 H4 =>
∃ l5 : Sl,
r4 = .slice l5.p l5.n l5.c ∧
FnH Tryz.prog 139 #[.slice l1.p l1.n l1.c, .slice l3.p l3.n l3.c] H4 fun r5 H5 =>
∃ l6 : Sl,
r5 = .slice l6.p l6.n l6.c ∧
FnH Tryz.prog 97 #[.slice l3.p l3.n l3.c, .int .i64 n2] H5 fun r6 H6 =>
∃ b3 : Bool,
r6 = .bool b3 ∧
∃ J1 : Bool → Heap → Prop,
 (br ((n2 : Int) != 0) (
SelfEq ([.v (.slice up.p up.n up.c), .loc 0 0, .loc 1 0], [some (41, [.int .i64 n1, .int .i64 n2, .int .i64 n3, .int .i64 n4, .slice l6.p l6.n l6.c, .slice l5.p l5.n l5.c, .slice none 0 0, .slice none 0 0, .int .i64 n5]), some (41, [.int .i64 0, .int .i64 0, .int .i64 0, .int .i64 0, .slice none 0 0, .slice none 0 0, .slice none 0 0, .slice none 0 0, .int .i64 0])], []) ∧
J1 b3 H6)
 (
SelfEq ([.v (.slice up.p up.n up.c), .loc 0 0, .loc 1 0], [some (41, [.int .i64 n1, .int .i64 n2, .int .i64 n3, .int .i64 n4, .slice l6.p l6.n l6.c, .slice l5.p l5.n l5.c, .slice none 0 0, .slice none 0 0, .int .i64 n5]), some (41, [.int .i64 0, .int .i64 0, .int .i64 0, .int .i64 0, .slice none 0 0, .slice none 0 0, .slice none 0 0, .slice none 0 0, .int .i64 0])], []) ∧
J1 false H6)) ∧
∀ b_1 : Bool,
∀ H7 : Heap,
J1 b_1 H7 →
br (b_1) (
FnH Tryz.prog 142 #[.slice l5.p l5.n l5.c, .slice l6.p l6.n l6.c, .slice up.p up.n up.c, .int .i64 n2] H7 fun r7 H8 =>
∃ n6 : Int,
r7 = .int .i64 n6 ∧
Sub H7 H8 ∧
FnH Tryz.prog 136 #[.agg #[.int .i64 n1, .int .i64 n2, .int .i64 n3, .int .i64 n4, .slice l6.p l6.n l6.c, .slice l5.p l5.n l5.c, .slice none 0 0, .slice none 0 0, .int .i64 n5], .int .i64 n6] H8 fun r8 H9 =>
∃ n7 n8 n9 n10 : Int,
∃ l7 l8 l9 l10 : Sl,
∃ n11 : Int,
r8 = .agg #[.int .i64 n7, .int .i64 n8, .int .i64 n9, .int .i64 n10, .slice l7.p l7.n l7.c, .slice l8.p l8.n l8.c, .slice l9.p l9.n l9.c, .slice l10.p l10.n l10.c, .int .i64 n11] ∧
Sub H7 H9 ∧
FnH Tryz.prog 135 #[.agg #[.int .i64 n7, .int .i64 n8, .int .i64 n9, .int .i64 n10, .slice l7.p l7.n l7.c, .slice l8.p l8.n l8.c, .slice l9.p l9.n l9.c, .slice l10.p l10.n l10.c, .int .i64 n11]] H9 fun r9 H10 =>
∃ n12 n13 n14 n15 : Int,
∃ l11 l12 l13 l14 : Sl,
∃ n16 n17 : Int,
r9 = .tuple #[.agg #[.int .i64 n12, .int .i64 n13, .int .i64 n14, .int .i64 n15, .slice l11.p l11.n l11.c, .slice l12.p l12.n l12.c, .slice l13.p l13.n l13.c, .slice l14.p l14.n l14.c, .int .i64 n16], .int .i64 n17] ∧
K (.tuple #[.agg #[.int .i64 n12, .int .i64 n13, .int .i64 n14, .int .i64 n15, .slice l11.p l11.n l11.c, .slice l12.p l12.n l12.c, .slice l13.p l13.n l13.c, .slice l14.p l14.n l14.c, .int .i64 n16], .int .i64 n17]) H10)
 (
FnH Tryz.prog 135 #[.agg #[.int .i64 n1, .int .i64 n2, .int .i64 n3, .int .i64 n4, .slice l6.p l6.n l6.c, .slice l5.p l5.n l5.c, .slice none 0 0, .slice none 0 0, .int .i64 n5]] H7 fun r10 H11 =>
∃ n18 n19 n20 n21 : Int,
∃ l15 l16 l17 l18 : Sl,
∃ n22 n23 : Int,
r10 = .tuple #[.agg #[.int .i64 n18, .int .i64 n19, .int .i64 n20, .int .i64 n21, .slice l15.p l15.n l15.c, .slice l16.p l16.n l16.c, .slice l17.p l17.n l17.c, .slice l18.p l18.n l18.c, .int .i64 n22], .int .i64 n23] ∧
K (.tuple #[.agg #[.int .i64 n18, .int .i64 n19, .int .i64 n20, .int .i64 n21, .slice l15.p l15.n l15.c, .slice l16.p l16.n l16.c, .slice l17.p l17.n l17.c, .slice l18.p l18.n l18.c, .int .i64 n22], .int .i64 n23]) H11))))
theorem logboomref11_Cancel_fn (p_0 p_1 p_2 p_3 : Int) (p_4 p_5 p_6 p_7 : Sl) (p_8 : Int) (up : Sl) {H : Heap} {K : Value → Heap → Prop} (h : logboomref11_Cancel_vc p_0 p_1 p_2 p_3 p_4 p_5 p_6 p_7 p_8 up H K) : FnH Tryz.prog 95 #[.agg #[.int .i64 p_0, .int .i64 p_1, .int .i64 p_2, .int .i64 p_3, .slice p_4.p p_4.n p_4.c, .slice p_5.p p_5.n p_5.c, .slice p_6.p p_6.n p_6.c, .slice p_7.p p_7.n p_7.c, .int .i64 p_8], .slice up.p up.n up.c] H K :=
  denFn_fn Tryz.mixed logboomref11_Cancel_ann Tryz.func95 (bodyOf_spec (by kernel_rfl)) (by kernel_rfl) h
def logboomref11_Finish_ann : Anns := { hid := [2, 4], loops := [], joins := [((0, 14), { slots := [(58, .bool)], kept := [1, 2, 4, 7], locs := [], keptL := [0, 1] })], mix := [(15, [7])] }
def logboomref11_Finish_vc (p_0 p_1 p_2 p_3 : Int) (p_4 p_5 p_6 p_7 : Sl) (p_8 : Int) (up : Sl) (H : Heap) (K : Value → Heap → Prop) : Prop :=
FnH Tryz.prog 103 #[.agg #[.int .i64 p_0, .int .i64 p_1, .int .i64 p_2, .int .i64 p_3, .slice p_4.p p_4.n p_4.c, .slice p_5.p p_5.n p_5.c, .slice p_6.p p_6.n p_6.c, .slice p_7.p p_7.n p_7.c, .int .i64 p_8]] H fun r1 H1 =>
∃ b1 : Bool,
r1 = .bool b1 ∧
br (!b1) (
K (.tuple #[.agg #[.int .i64 0, .int .i64 0, .int .i64 0, .int .i64 0, .slice none 0 0, .slice none 0 0, .slice none 0 0, .slice none 0 0, .int .i64 0], .int .i64 1]) H1)
 (
FnH Tryz.prog 139 #[.slice p_5.p p_5.n p_5.c, .slice p_7.p p_7.n p_7.c] H1 fun r2 H2 =>
∃ l1 : Sl,
r2 = .slice l1.p l1.n l1.c ∧
FnH Tryz.prog 138 #[.slice l1.p l1.n l1.c, .slice p_4.p p_4.n p_4.c] H2 fun r3 H3 =>
∃ b2 : Bool,
r3 = .bool b2 ∧
br (((IntKind.wrap .i64 ((p_6.n : Nat) + (p_7.n : Nat))) : Int) == 0) (
K (.tuple #[.agg #[.int .i64 0, .int .i64 0, .int .i64 0, .int .i64 0, .slice none 0 0, .slice none 0 0, .slice none 0 0, .slice none 0 0, .int .i64 0], .int .i64 19]) H3)
 (
br (!b2) (
K (.tuple #[.agg #[.int .i64 0, .int .i64 0, .int .i64 0, .int .i64 0, .slice none 0 0, .slice none 0 0, .slice none 0 0, .slice none 0 0, .int .i64 0], .int .i64 19]) H3)
 (
FnH Tryz.prog 134 #[.agg #[.int .i64 p_0, .int .i64 p_1, .int .i64 p_2, .int .i64 p_3, .slice p_4.p p_4.n p_4.c, .slice p_5.p p_5.n p_5.c, .slice p_6.p p_6.n p_6.c, .slice p_7.p p_7.n p_7.c, .int .i64 p_8]] H3 fun r4 H4 =>
∃ n1 n2 n3 n4 : Int,
∃ l2 l3 l4 l5 : Sl,
∃ n5 : Int,
r4 = .agg #[.int .i64 n1, .int .i64 n2, .int .i64 n3, .int .i64 n4, .slice l2.p l2.n l2.c, .slice l3.p l3.n l3.c, .slice l4.p l4.n l4.c, .slice l5.p l5.n l5.c, .int .i64 n5] ∧
FnH Tryz.prog 140 #[.slice l2.p l2.n l2.c, .slice l1.p l1.n l1.c] H4 fun r5 H5 =>
∃ l6 : Sl,
r5 = .slice l6.p l6.n l6.c ∧
FnH Tryz.prog 97 #[.slice l1.p l1.n l1.c, .int .i64 n2] H5 fun r6 H6 =>
∃ b3 : Bool,
r6 = .bool b3 ∧
∃ J1 : Bool → Heap → Prop,
 (br ((n2 : Int) != 0) (
SelfEq ([.v (.slice up.p up.n up.c), .loc 0 0, .loc 1 0, .v (.slice l1.p l1.n l1.c)], [some (41, [.int .i64 n1, .int .i64 n2, .int .i64 n3, .int .i64 n4, .slice l6.p l6.n l6.c, .slice l1.p l1.n l1.c, .slice none 0 0, .slice none 0 0, .int .i64 n5]), some (41, [.int .i64 0, .int .i64 0, .int .i64 0, .int .i64 0, .slice none 0 0, .slice none 0 0, .slice none 0 0, .slice none 0 0, .int .i64 0])], []) ∧
J1 (!b3) H6)
 (
SelfEq ([.v (.slice up.p up.n up.c), .loc 0 0, .loc 1 0, .v (.slice l1.p l1.n l1.c)], [some (41, [.int .i64 n1, .int .i64 n2, .int .i64 n3, .int .i64 n4, .slice l6.p l6.n l6.c, .slice l1.p l1.n l1.c, .slice none 0 0, .slice none 0 0, .int .i64 n5]), some (41, [.int .i64 0, .int .i64 0, .int .i64 0, .int .i64 0, .slice none 0 0, .slice none 0 0, .slice none 0 0, .slice none 0 0, .int .i64 0])], []) ∧
J1 false H6)) ∧
∀ b_1 : Bool,
∀ H7 : Heap,
J1 b_1 H7 →
br (b_1) (
FnH Tryz.prog 142 #[.slice l1.p l1.n l1.c, .slice l6.p l6.n l6.c, .slice up.p up.n up.c, .int .i64 0] H7 fun r7 H8 =>
∃ n6 : Int,
r7 = .int .i64 n6 ∧
Sub H7 H8 ∧
FnH Tryz.prog 136 #[.agg #[.int .i64 n1, .int .i64 n2, .int .i64 n3, .int .i64 n4, .slice l6.p l6.n l6.c, .slice l1.p l1.n l1.c, .slice none 0 0, .slice none 0 0, .int .i64 n5], .int .i64 n6] H8 fun r8 H9 =>
∃ n7 n8 n9 n10 : Int,
∃ l7 l8 l9 l10 : Sl,
∃ n11 : Int,
r8 = .agg #[.int .i64 n7, .int .i64 n8, .int .i64 n9, .int .i64 n10, .slice l7.p l7.n l7.c, .slice l8.p l8.n l8.c, .slice l9.p l9.n l9.c, .slice l10.p l10.n l10.c, .int .i64 n11] ∧
Sub H7 H9 ∧
FnH Tryz.prog 135 #[.agg #[.int .i64 n7, .int .i64 n8, .int .i64 n9, .int .i64 n10, .slice l7.p l7.n l7.c, .slice l8.p l8.n l8.c, .slice l9.p l9.n l9.c, .slice l10.p l10.n l10.c, .int .i64 n11]] H9 fun r9 H10 =>
∃ n12 n13 n14 n15 : Int,
∃ l11 l12 l13 l14 : Sl,
∃ n16 n17 : Int,
r9 = .tuple #[.agg #[.int .i64 n12, .int .i64 n13, .int .i64 n14, .int .i64 n15, .slice l11.p l11.n l11.c, .slice l12.p l12.n l12.c, .slice l13.p l13.n l13.c, .slice l14.p l14.n l14.c, .int .i64 n16], .int .i64 n17] ∧
K (.tuple #[.agg #[.int .i64 n12, .int .i64 n13, .int .i64 n14, .int .i64 n15, .slice l11.p l11.n l11.c, .slice l12.p l12.n l12.c, .slice l13.p l13.n l13.c, .slice l14.p l14.n l14.c, .int .i64 n16], .int .i64 n17]) H10)
 (
FnH Tryz.prog 135 #[.agg #[.int .i64 n1, .int .i64 n2, .int .i64 n3, .int .i64 n4, .slice l6.p l6.n l6.c, .slice l1.p l1.n l1.c, .slice none 0 0, .slice none 0 0, .int .i64 n5]] H7 fun r10 H11 =>
∃ n18 n19 n20 n21 : Int,
∃ l15 l16 l17 l18 : Sl,
∃ n22 n23 : Int,
r10 = .tuple #[.agg #[.int .i64 n18, .int .i64 n19, .int .i64 n20, .int .i64 n21, .slice l15.p l15.n l15.c, .slice l16.p l16.n l16.c, .slice l17.p l17.n l17.c, .slice l18.p l18.n l18.c, .int .i64 n22], .int .i64 n23] ∧
K (.tuple #[.agg #[.int .i64 n18, .int .i64 n19, .int .i64 n20, .int .i64 n21, .slice l15.p l15.n l15.c, .slice l16.p l16.n l16.c, .slice l17.p l17.n l17.c, .slice l18.p l18.n l18.c, .int .i64 n22], .int .i64 n23]) H11))))
theorem logboomref11_Finish_fn (p_0 p_1 p_2 p_3 : Int) (p_4 p_5 p_6 p_7 : Sl) (p_8 : Int) (up : Sl) {H : Heap} {K : Value → Heap → Prop} (h : logboomref11_Finish_vc p_0 p_1 p_2 p_3 p_4 p_5 p_6 p_7 p_8 up H K) : FnH Tryz.prog 96 #[.agg #[.int .i64 p_0, .int .i64 p_1, .int .i64 p_2, .int .i64 p_3, .slice p_4.p p_4.n p_4.c, .slice p_5.p p_5.n p_5.c, .slice p_6.p p_6.n p_6.c, .slice p_7.p p_7.n p_7.c, .int .i64 p_8], .slice up.p up.n up.c] H K :=
  denFn_fn Tryz.mixed logboomref11_Finish_ann Tryz.func96 (bodyOf_spec (by kernel_rfl)) (by kernel_rfl) h
end Go.Proofs.YtmofinghoacobaaGreatDoor
