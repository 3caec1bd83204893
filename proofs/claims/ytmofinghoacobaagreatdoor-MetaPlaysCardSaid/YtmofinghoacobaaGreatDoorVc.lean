import Derived.Test.YtmofinghoacobaaGreatDoorProg
import Derived.KernelRfl
import Derived.Test.YtmofinghoacobaaGreatDoorHlFn
import Derived.Test.YtmofinghoacobaaGreatDoorVb
namespace Go.Proofs.YtmofinghoacobaaGreatDoor
open Go.HL
set_option maxRecDepth 100000
def logboomref12_Image_Up_ann : Anns := { hid := [], loops := [(0, { slots := [(3, .slice), (4, .int .i64)], kept := [0], locs := [], keptL := [] })], joins := [], mix := [] }
def logboomref12_Image_Up_vc (m mo : Nat) (H : Heap) (K : Value → Heap → Prop) : Prop :=
∃ I1 : Sl → Int → Heap → Prop,
∃ M1 : Sl → Int → Heap → Nat,
I1 ⟨none, 0, 0⟩ 0 H ∧
∀ out_1 : Sl,
∀ i_1 : Int,
∀ H1 : Heap,
I1 out_1 i_1 H1 →
∃ l1 : Sl,
cellH H1 ⟨m, mo + 1, none⟩ = some (.slice l1.p l1.n l1.c) ∧
br (decide ((i_1 : Int) < (l1.n : Nat))) (
∃ l2 : Sl,
cellH H1 ⟨m, mo + 1, none⟩ = some (.slice l2.p l2.n l2.c) ∧
∃ q1 o1 : Nat,
 (l2.p : Option Addr) = some ⟨q1, o1, none⟩ ∧
0 ≤ (i_1 : Int) ∧
 (i_1 : Int) < (l2.n : Nat) ∧
∃ b1 : Bool,
cellH H1 ⟨q1, o1 + Int.toNat i_1 * 3 + 2, none⟩ = some (.bool b1) ∧
br (b1) (
∃ l3 : Sl,
cellH H1 ⟨m, mo + 1, none⟩ = some (.slice l3.p l3.n l3.c) ∧
∃ q2 o2 : Nat,
 (l3.p : Option Addr) = some ⟨q2, o2, none⟩ ∧
0 ≤ (i_1 : Int) ∧
 (i_1 : Int) < (l3.n : Nat) ∧
∃ n1 : Int,
cellH H1 ⟨q2, o2 + Int.toNat i_1 * 3, none⟩ = some (.int .i64 n1) ∧
∀ q3 : Nat,
H1 q3 = none →
letH (Heap.upd H1 q3 (.cells #[.int .i64 n1] 3 (0, 0))) fun H2 =>
runH Tryz.prog (Builtin.append_ #[22, 22] 22 #[.slice out_1.p out_1.n out_1.c, .slice (some ⟨q3, 0, none⟩) 1 1]) H2 fun r1 H3 =>
∃ l4 : Sl,
r1 = .slice l4.p l4.n l4.c ∧
SelfEq ([.v (.pointer (some ⟨m, mo, none⟩))], [], []) ∧
I1 l4 (IntKind.wrap .i64 (i_1 + 1)) H3 ∧
M1 l4 (IntKind.wrap .i64 (i_1 + 1)) H3 < M1 out_1 i_1 H1)
 (
SelfEq ([.v (.pointer (some ⟨m, mo, none⟩))], [], []) ∧
I1 out_1 (IntKind.wrap .i64 (i_1 + 1)) H1 ∧
M1 out_1 (IntKind.wrap .i64 (i_1 + 1)) H1 < M1 out_1 i_1 H1))
 (
K (.slice out_1.p out_1.n out_1.c) H1)
theorem logboomref12_Image_Up_fn (m mo : Nat) {H : Heap} {K : Value → Heap → Prop} (h : logboomref12_Image_Up_vc m mo H K) : FnH Tryz.prog 61 #[.pointer (some ⟨m, mo, none⟩)] H K :=
  denFn_fn Tryz.mixed logboomref12_Image_Up_ann Tryz.func61 (bodyOf_spec (by kernel_rfl)) (by kernel_rfl) h
def logboomref12_Image_broker_ann : Anns := { hid := [], loops := [(0, { slots := [(5, .int .i64)], kept := [0, 1], locs := [], keptL := [] })], joins := [], mix := [] }
def logboomref12_Image_broker_vc (m mo : Nat) (id : Int) (H : Heap) (K : Value → Heap → Prop) : Prop :=
∃ I1 : Int → Heap → Prop,
∃ M1 : Int → Heap → Nat,
I1 0 H ∧
∀ i_1 : Int,
∀ H1 : Heap,
I1 i_1 H1 →
∃ l1 : Sl,
cellH H1 ⟨m, mo + 1, none⟩ = some (.slice l1.p l1.n l1.c) ∧
br (decide ((i_1 : Int) < (l1.n : Nat))) (
∃ l2 : Sl,
cellH H1 ⟨m, mo + 1, none⟩ = some (.slice l2.p l2.n l2.c) ∧
∃ q1 o1 : Nat,
 (l2.p : Option Addr) = some ⟨q1, o1, none⟩ ∧
0 ≤ (i_1 : Int) ∧
 (i_1 : Int) < (l2.n : Nat) ∧
∃ n1 : Int,
cellH H1 ⟨q1, o1 + Int.toNat i_1 * 3, none⟩ = some (.int .i64 n1) ∧
br ((n1 : Int) == id) (
K (.int .i64 i_1) H1)
 (
SelfEq ([.v (.pointer (some ⟨m, mo, none⟩)), .v (.int .i64 id)], [], []) ∧
I1 (IntKind.wrap .i64 (i_1 + 1)) H1 ∧
M1 (IntKind.wrap .i64 (i_1 + 1)) H1 < M1 i_1 H1))
 (
K (.int .i64 (-1)) H1)
theorem logboomref12_Image_broker_fn (m mo : Nat) (id : Int) {H : Heap} {K : Value → Heap → Prop} (h : logboomref12_Image_broker_vc m mo id H K) : FnH Tryz.prog 89 #[.pointer (some ⟨m, mo, none⟩), .int .i64 id] H K :=
  denFn_fn Tryz.mixed logboomref12_Image_broker_ann Tryz.func89 (bodyOf_spec (by kernel_rfl)) (by kernel_rfl) h
def logboomref12_Image_fencing_ann : Anns := { hid := [6], loops := [(0, { slots := [(5, .int .i64)], kept := [0, 4], locs := [], keptL := [] })], joins := [], mix := [(5, [15]), (7, [7])] }
def logboomref12_Image_fencing_vc (m mo : Nat) (i : Int) (H : Heap) (K : Value → Heap → Prop) : Prop :=
∃ l1 : Sl,
cellH H ⟨m, mo + 1, none⟩ = some (.slice l1.p l1.n l1.c) ∧
∃ q1 o1 : Nat,
 (l1.p : Option Addr) = some ⟨q1, o1, none⟩ ∧
0 ≤ (i : Int) ∧
 (i : Int) < (l1.n : Nat) ∧
∃ n1 : Int,
cellH H ⟨q1, o1 + Int.toNat i * 3, none⟩ = some (.int .i64 n1) ∧
∃ l2 : Sl,
cellH H ⟨m, mo + 1, none⟩ = some (.slice l2.p l2.n l2.c) ∧
∃ q2 o2 : Nat,
 (l2.p : Option Addr) = some ⟨q2, o2, none⟩ ∧
0 ≤ (i : Int) ∧
 (i : Int) < (l2.n : Nat) ∧
 (∃ u, cellH H ⟨q2, o2 + Int.toNat i * 3 + 2, none⟩ = some u) ∧
frozenH H ⟨q2, o2 + Int.toNat i * 3 + 2, none⟩ = false ∧
letH (Heap.set H ⟨q2, o2 + Int.toNat i * 3 + 2, none⟩ (.bool false)) fun H1 =>
∃ I1 : Int → Heap → Prop,
∃ M1 : Int → Heap → Nat,
I1 0 H1 ∧
∀ k_1 : Int,
∀ H2 : Heap,
I1 k_1 H2 →
∃ l3 : Sl,
cellH H2 ⟨m, mo + 3, none⟩ = some (.slice l3.p l3.n l3.c) ∧
br (decide ((k_1 : Int) < (l3.n : Nat))) (
∃ l4 : Sl,
cellH H2 ⟨m, mo + 3, none⟩ = some (.slice l4.p l4.n l4.c) ∧
∃ q3 o3 : Nat,
 (l4.p : Option Addr) = some ⟨q3, o3, none⟩ ∧
0 ≤ (k_1 : Int) ∧
 (k_1 : Int) < (l4.n : Nat) ∧
∃ n2 : Int,
cellH H2 ⟨q3, o3 + Int.toNat k_1 * 9, none⟩ = some (.int .i64 n2) ∧
∃ n3 : Int,
cellH H2 ⟨q3, o3 + Int.toNat k_1 * 9 + 1, none⟩ = some (.int .i64 n3) ∧
∃ n4 : Int,
cellH H2 ⟨q3, o3 + Int.toNat k_1 * 9 + 2, none⟩ = some (.int .i64 n4) ∧
∃ n5 : Int,
cellH H2 ⟨q3, o3 + Int.toNat k_1 * 9 + 3, none⟩ = some (.int .i64 n5) ∧
∃ l5 : Sl,
cellH H2 ⟨q3, o3 + Int.toNat k_1 * 9 + 4, none⟩ = some (.slice l5.p l5.n l5.c) ∧
∃ l6 : Sl,
cellH H2 ⟨q3, o3 + Int.toNat k_1 * 9 + 5, none⟩ = some (.slice l6.p l6.n l6.c) ∧
∃ l7 : Sl,
cellH H2 ⟨q3, o3 + Int.toNat k_1 * 9 + 6, none⟩ = some (.slice l7.p l7.n l7.c) ∧
∃ l8 : Sl,
cellH H2 ⟨q3, o3 + Int.toNat k_1 * 9 + 7, none⟩ = some (.slice l8.p l8.n l8.c) ∧
∃ n6 : Int,
cellH H2 ⟨q3, o3 + Int.toNat k_1 * 9 + 8, none⟩ = some (.int .i64 n6) ∧
 (FnH Tryz.prog 61 #[.pointer (some ⟨m, mo, none⟩)] H2 fun r1 H3 =>
∃ l9 : Sl,
r1 = .slice l9.p l9.n l9.c ∧
Sub H2 H3 ∧
 (FnH Tryz.prog 133 #[.agg #[.int .i64 n2, .int .i64 n3, .int .i64 n4, .int .i64 n5, .slice l5.p l5.n l5.c, .slice l6.p l6.n l6.c, .slice l7.p l7.n l7.c, .slice l8.p l8.n l8.c, .int .i64 n6], .int .i64 n1, .slice l9.p l9.n l9.c] H3 fun r2 H4 =>
∃ n7 n8 n9 n10 : Int,
∃ l10 l11 l12 l13 : Sl,
∃ n11 n12 : Int,
r2 = .tuple #[.agg #[.int .i64 n7, .int .i64 n8, .int .i64 n9, .int .i64 n10, .slice l10.p l10.n l10.c, .slice l11.p l11.n l11.c, .slice l12.p l12.n l12.c, .slice l13.p l13.n l13.c, .int .i64 n11], .int .i64 n12] ∧
Sub H2 H4 ∧
Sub H2 H4 ∧
br ((n12 : Int) == 0) (
∃ l14 : Sl,
cellH H4 ⟨m, mo + 3, none⟩ = some (.slice l14.p l14.n l14.c) ∧
∃ q4 o4 : Nat,
 (l14.p : Option Addr) = some ⟨q4, o4, none⟩ ∧
0 ≤ (k_1 : Int) ∧
 (k_1 : Int) < (l14.n : Nat) ∧
put9 H4 q4 (o4 + Int.toNat k_1 * 9) n7 n8 n9 n10 l10 l11 l12 l13 n11 fun H13 =>
SelfEq ([.v (.pointer (some ⟨m, mo, none⟩)), .v (.int .i64 n1)], [], []) ∧
I1 (IntKind.wrap .i64 (k_1 + 1)) H13 ∧
M1 (IntKind.wrap .i64 (k_1 + 1)) H13 < M1 k_1 H2)
 (
SelfEq ([.v (.pointer (some ⟨m, mo, none⟩)), .v (.int .i64 n1)], [], []) ∧
I1 (IntKind.wrap .i64 (k_1 + 1)) H4 ∧
M1 (IntKind.wrap .i64 (k_1 + 1)) H4 < M1 k_1 H2)) ∧
Sub H2 H3 ∧
FnH Tryz.prog 133 #[.agg #[.int .i64 n2, .int .i64 n3, .int .i64 n4, .int .i64 n5, .slice l5.p l5.n l5.c, .slice l6.p l6.n l6.c, .slice l7.p l7.n l7.c, .slice l8.p l8.n l8.c, .int .i64 n6], .int .i64 n1, .slice l9.p l9.n l9.c] H3 fun r3 H14 =>
∃ n13 n14 n15 n16 : Int,
∃ l15 l16 l17 l18 : Sl,
∃ n17 n18 : Int,
r3 = .tuple #[.agg #[.int .i64 n13, .int .i64 n14, .int .i64 n15, .int .i64 n16, .slice l15.p l15.n l15.c, .slice l16.p l16.n l16.c, .slice l17.p l17.n l17.c, .slice l18.p l18.n l18.c, .int .i64 n17], .int .i64 n18] ∧
Sub H2 H14 ∧
br ((n18 : Int) == 0) (
∃ l19 : Sl,
cellH H14 ⟨m, mo + 3, none⟩ = some (.slice l19.p l19.n l19.c) ∧
∃ q5 o5 : Nat,
 (l19.p : Option Addr) = some ⟨q5, o5, none⟩ ∧
0 ≤ (k_1 : Int) ∧
 (k_1 : Int) < (l19.n : Nat) ∧
put9 H14 q5 (o5 + Int.toNat k_1 * 9) n13 n14 n15 n16 l15 l16 l17 l18 n17 fun H23 =>
SelfEq ([.v (.pointer (some ⟨m, mo, none⟩)), .v (.int .i64 n1)], [], []) ∧
I1 (IntKind.wrap .i64 (k_1 + 1)) H23 ∧
M1 (IntKind.wrap .i64 (k_1 + 1)) H23 < M1 k_1 H2)
 (
SelfEq ([.v (.pointer (some ⟨m, mo, none⟩)), .v (.int .i64 n1)], [], []) ∧
I1 (IntKind.wrap .i64 (k_1 + 1)) H14 ∧
M1 (IntKind.wrap .i64 (k_1 + 1)) H14 < M1 k_1 H2)) ∧
Sub H2 H2 ∧
FnH Tryz.prog 61 #[.pointer (some ⟨m, mo, none⟩)] H2 fun r4 H24 =>
∃ l20 : Sl,
r4 = .slice l20.p l20.n l20.c ∧
Sub H2 H24 ∧
FnH Tryz.prog 133 #[.agg #[.int .i64 n2, .int .i64 n3, .int .i64 n4, .int .i64 n5, .slice l5.p l5.n l5.c, .slice l6.p l6.n l6.c, .slice l7.p l7.n l7.c, .slice l8.p l8.n l8.c, .int .i64 n6], .int .i64 n1, .slice l20.p l20.n l20.c] H24 fun r5 H25 =>
∃ n19 n20 n21 n22 : Int,
∃ l21 l22 l23 l24 : Sl,
∃ n23 n24 : Int,
r5 = .tuple #[.agg #[.int .i64 n19, .int .i64 n20, .int .i64 n21, .int .i64 n22, .slice l21.p l21.n l21.c, .slice l22.p l22.n l22.c, .slice l23.p l23.n l23.c, .slice l24.p l24.n l24.c, .int .i64 n23], .int .i64 n24] ∧
Sub H2 H25 ∧
br ((n24 : Int) == 0) (
∃ l25 : Sl,
cellH H25 ⟨m, mo + 3, none⟩ = some (.slice l25.p l25.n l25.c) ∧
∃ q6 o6 : Nat,
 (l25.p : Option Addr) = some ⟨q6, o6, none⟩ ∧
0 ≤ (k_1 : Int) ∧
 (k_1 : Int) < (l25.n : Nat) ∧
put9 H25 q6 (o6 + Int.toNat k_1 * 9) n19 n20 n21 n22 l21 l22 l23 l24 n23 fun H34 =>
SelfEq ([.v (.pointer (some ⟨m, mo, none⟩)), .v (.int .i64 n1)], [], []) ∧
I1 (IntKind.wrap .i64 (k_1 + 1)) H34 ∧
M1 (IntKind.wrap .i64 (k_1 + 1)) H34 < M1 k_1 H2)
 (
SelfEq ([.v (.pointer (some ⟨m, mo, none⟩)), .v (.int .i64 n1)], [], []) ∧
I1 (IntKind.wrap .i64 (k_1 + 1)) H25 ∧
M1 (IntKind.wrap .i64 (k_1 + 1)) H25 < M1 k_1 H2))
 (
K (.tuple #[]) H2)
theorem logboomref12_Image_fencing_fn (m mo : Nat) (i : Int) {H : Heap} {K : Value → Heap → Prop} (h : logboomref12_Image_fencing_vc m mo i H K) : FnH Tryz.prog 90 #[.pointer (some ⟨m, mo, none⟩), .int .i64 i] H K :=
  denFn_fn Tryz.mixed logboomref12_Image_fencing_ann Tryz.func90 (bodyOf_spec (by kernel_rfl)) (by kernel_rfl) h
def logboomref12_Image_register_ann : Anns := { hid := [], loops := [(0, { slots := [(7, .int .i64)], kept := [0, 1, 2], locs := [], keptL := [] })], joins := [], mix := [] }
def logboomref12_Image_register_vc (m mo : Nat) (id life : Int) (H : Heap) (K : Value → Heap → Prop) : Prop :=
br (decide ((id : Int) < 1)) (
K (.int .i64 1) H)
 (
br (decide ((id : Int) > 7)) (
K (.int .i64 1) H)
 (
br (decide ((life : Int) < 1)) (
K (.int .i64 1) H)
 (
br (decide ((life : Int) > 1000000000)) (
K (.int .i64 1) H)
 (
FnH Tryz.prog 89 #[.pointer (some ⟨m, mo, none⟩), .int .i64 id] H fun r1 H1 =>
∃ n1 : Int,
r1 = .int .i64 n1 ∧
br (decide ((n1 : Int) < 0)) (
∃ I1 : Int → Heap → Prop,
∃ M1 : Int → Heap → Nat,
I1 0 H1 ∧
∀ i_1 : Int,
∀ H2 : Heap,
I1 i_1 H2 →
∃ l1 : Sl,
cellH H2 ⟨m, mo + 1, none⟩ = some (.slice l1.p l1.n l1.c) ∧
br (decide ((i_1 : Int) < (l1.n : Nat))) (
∃ l2 : Sl,
cellH H2 ⟨m, mo + 1, none⟩ = some (.slice l2.p l2.n l2.c) ∧
∃ q1 o1 : Nat,
 (l2.p : Option Addr) = some ⟨q1, o1, none⟩ ∧
0 ≤ (i_1 : Int) ∧
 (i_1 : Int) < (l2.n : Nat) ∧
∃ n2 : Int,
cellH H2 ⟨q1, o1 + Int.toNat i_1 * 3, none⟩ = some (.int .i64 n2) ∧
br (decide ((n2 : Int) < id)) (
SelfEq ([.v (.pointer (some ⟨m, mo, none⟩)), .v (.int .i64 id), .v (.int .i64 life)], [], []) ∧
I1 (IntKind.wrap .i64 (i_1 + 1)) H2 ∧
M1 (IntKind.wrap .i64 (i_1 + 1)) H2 < M1 i_1 H2)
 (
∀ q2 : Nat,
H2 q2 = none →
letH (Heap.upd H2 q2 (.cells #[] 97 (0, 0))) fun H3 =>
∃ l3 : Sl,
cellH H3 ⟨m, mo + 1, none⟩ = some (.slice l3.p l3.n l3.c) ∧
0 ≤ (i_1 : Int) ∧
 (i_1 : Int) ≤ (l3.c : Nat) ∧
runH Tryz.prog (Builtin.append_ #[53, 53] 53 #[.slice (some ⟨q2, 0, none⟩) 0 0, .slice (slP l3.p l3.c (0 : Int) 3) (Int.toNat (i_1 - (0 : Int))) (Int.toNat ((l3.c : Nat) - (0 : Int)))]) H3 fun r2 H4 =>
∃ l4 : Sl,
r2 = .slice l4.p l4.n l4.c ∧
∀ q3 : Nat,
H4 q3 = none →
letH (Heap.upd H4 q3 (.cells #[.int .i64 id, .int .i64 life, .bool false] 97 (0, 0))) fun H5 =>
runH Tryz.prog (Builtin.append_ #[53, 53] 53 #[.slice l4.p l4.n l4.c, .slice (some ⟨q3, 0, none⟩) 1 1]) H5 fun r3 H6 =>
∃ l5 : Sl,
r3 = .slice l5.p l5.n l5.c ∧
∃ l6 : Sl,
cellH H6 ⟨m, mo + 1, none⟩ = some (.slice l6.p l6.n l6.c) ∧
0 ≤ (i_1 : Int) ∧
 (i_1 : Int) ≤ (l6.n : Nat) ∧
runH Tryz.prog (Builtin.append_ #[53, 53] 53 #[.slice l5.p l5.n l5.c, .slice (slP l6.p l6.c i_1 3) (Int.toNat ((l6.n : Nat) - i_1)) (Int.toNat ((l6.c : Nat) - i_1))]) H6 fun r4 H7 =>
∃ l7 : Sl,
r4 = .slice l7.p l7.n l7.c ∧
 (∃ u, cellH H7 ⟨m, mo + 1, none⟩ = some u) ∧
frozenH H7 ⟨m, mo + 1, none⟩ = false ∧
letH (Heap.set H7 ⟨m, mo + 1, none⟩ (.slice l7.p l7.n l7.c)) fun H8 =>
K (.int .i64 0) H8))
 (
∀ q4 : Nat,
H2 q4 = none →
letH (Heap.upd H2 q4 (.cells #[] 97 (0, 0))) fun H9 =>
∃ l8 : Sl,
cellH H9 ⟨m, mo + 1, none⟩ = some (.slice l8.p l8.n l8.c) ∧
0 ≤ (i_1 : Int) ∧
 (i_1 : Int) ≤ (l8.c : Nat) ∧
runH Tryz.prog (Builtin.append_ #[53, 53] 53 #[.slice (some ⟨q4, 0, none⟩) 0 0, .slice (slP l8.p l8.c (0 : Int) 3) (Int.toNat (i_1 - (0 : Int))) (Int.toNat ((l8.c : Nat) - (0 : Int)))]) H9 fun r5 H10 =>
∃ l9 : Sl,
r5 = .slice l9.p l9.n l9.c ∧
∀ q5 : Nat,
H10 q5 = none →
letH (Heap.upd H10 q5 (.cells #[.int .i64 id, .int .i64 life, .bool false] 97 (0, 0))) fun H11 =>
runH Tryz.prog (Builtin.append_ #[53, 53] 53 #[.slice l9.p l9.n l9.c, .slice (some ⟨q5, 0, none⟩) 1 1]) H11 fun r6 H12 =>
∃ l10 : Sl,
r6 = .slice l10.p l10.n l10.c ∧
∃ l11 : Sl,
cellH H12 ⟨m, mo + 1, none⟩ = some (.slice l11.p l11.n l11.c) ∧
0 ≤ (i_1 : Int) ∧
 (i_1 : Int) ≤ (l11.n : Nat) ∧
runH Tryz.prog (Builtin.append_ #[53, 53] 53 #[.slice l10.p l10.n l10.c, .slice (slP l11.p l11.c i_1 3) (Int.toNat ((l11.n : Nat) - i_1)) (Int.toNat ((l11.c : Nat) - i_1))]) H12 fun r7 H13 =>
∃ l12 : Sl,
r7 = .slice l12.p l12.n l12.c ∧
 (∃ u, cellH H13 ⟨m, mo + 1, none⟩ = some u) ∧
frozenH H13 ⟨m, mo + 1, none⟩ = false ∧
letH (Heap.set H13 ⟨m, mo + 1, none⟩ (.slice l12.p l12.n l12.c)) fun H14 =>
K (.int .i64 0) H14))
 (
∃ l13 : Sl,
cellH H1 ⟨m, mo + 1, none⟩ = some (.slice l13.p l13.n l13.c) ∧
∃ q6 o2 : Nat,
 (l13.p : Option Addr) = some ⟨q6, o2, none⟩ ∧
0 ≤ (n1 : Int) ∧
 (n1 : Int) < (l13.n : Nat) ∧
∃ n3 : Int,
cellH H1 ⟨q6, o2 + Int.toNat n1 * 3 + 1, none⟩ = some (.int .i64 n3) ∧
br (decide ((life : Int) ≤ n3)) (
K (.int .i64 13) H1)
 (
∃ l14 : Sl,
cellH H1 ⟨m, mo + 1, none⟩ = some (.slice l14.p l14.n l14.c) ∧
∃ q7 o3 : Nat,
 (l14.p : Option Addr) = some ⟨q7, o3, none⟩ ∧
0 ≤ (n1 : Int) ∧
 (n1 : Int) < (l14.n : Nat) ∧
∃ b1 : Bool,
cellH H1 ⟨q7, o3 + Int.toNat n1 * 3 + 2, none⟩ = some (.bool b1) ∧
br (b1) (
FnH Tryz.prog 90 #[.pointer (some ⟨m, mo, none⟩), .int .i64 n1] H1 fun r8 H15 =>
r8 = .tuple #[] ∧
∃ l15 : Sl,
cellH H15 ⟨m, mo + 1, none⟩ = some (.slice l15.p l15.n l15.c) ∧
∃ q8 o4 : Nat,
 (l15.p : Option Addr) = some ⟨q8, o4, none⟩ ∧
0 ≤ (n1 : Int) ∧
 (n1 : Int) < (l15.n : Nat) ∧
 (∃ u, cellH H15 ⟨q8, o4 + Int.toNat n1 * 3 + 1, none⟩ = some u) ∧
frozenH H15 ⟨q8, o4 + Int.toNat n1 * 3 + 1, none⟩ = false ∧
letH (Heap.set H15 ⟨q8, o4 + Int.toNat n1 * 3 + 1, none⟩ (.int .i64 life)) fun H16 =>
K (.int .i64 0) H16)
 (
∃ l16 : Sl,
cellH H1 ⟨m, mo + 1, none⟩ = some (.slice l16.p l16.n l16.c) ∧
∃ q9 o5 : Nat,
 (l16.p : Option Addr) = some ⟨q9, o5, none⟩ ∧
0 ≤ (n1 : Int) ∧
 (n1 : Int) < (l16.n : Nat) ∧
 (∃ u, cellH H1 ⟨q9, o5 + Int.toNat n1 * 3 + 1, none⟩ = some u) ∧
frozenH H1 ⟨q9, o5 + Int.toNat n1 * 3 + 1, none⟩ = false ∧
letH (Heap.set H1 ⟨q9, o5 + Int.toNat n1 * 3 + 1, none⟩ (.int .i64 life)) fun H17 =>
K (.int .i64 0) H17)))))))
theorem logboomref12_Image_register_fn (m mo : Nat) (id life : Int) {H : Heap} {K : Value → Heap → Prop} (h : logboomref12_Image_register_vc m mo id life H K) : FnH Tryz.prog 52 #[.pointer (some ⟨m, mo, none⟩), .int .i64 id, .int .i64 life] H K :=
  denFn_fn Tryz.mixed logboomref12_Image_register_ann Tryz.func52 (bodyOf_spec (by kernel_rfl)) (by kernel_rfl) h
def logboomref12_Image_fence_ann : Anns := { hid := [11], loops := [(1, { slots := [(10, .int .i64)], kept := [0, 1], locs := [], keptL := [] })], joins := [], mix := [(19, [7])] }
def logboomref12_Image_fence_vc (m mo : Nat) (id life : Int) (up : Bool) (H : Heap) (K : Value → Heap → Prop) : Prop :=
br (decide ((id : Int) < 1)) (
K (.int .i64 1) H)
 (
br (decide ((id : Int) > 7)) (
K (.int .i64 1) H)
 (
FnH Tryz.prog 89 #[.pointer (some ⟨m, mo, none⟩), .int .i64 id] H fun r1 H1 =>
∃ n1 : Int,
r1 = .int .i64 n1 ∧
br (decide ((n1 : Int) < 0)) (
K (.int .i64 8) H1)
 (
∃ l1 : Sl,
cellH H1 ⟨m, mo + 1, none⟩ = some (.slice l1.p l1.n l1.c) ∧
∃ q1 o1 : Nat,
 (l1.p : Option Addr) = some ⟨q1, o1, none⟩ ∧
0 ≤ (n1 : Int) ∧
 (n1 : Int) < (l1.n : Nat) ∧
∃ n2 : Int,
cellH H1 ⟨q1, o1 + Int.toNat n1 * 3 + 1, none⟩ = some (.int .i64 n2) ∧
br ((n2 : Int) != life) (
K (.int .i64 13) H1)
 (
∃ l2 : Sl,
cellH H1 ⟨m, mo + 1, none⟩ = some (.slice l2.p l2.n l2.c) ∧
∃ q2 o2 : Nat,
 (l2.p : Option Addr) = some ⟨q2, o2, none⟩ ∧
0 ≤ (n1 : Int) ∧
 (n1 : Int) < (l2.n : Nat) ∧
∃ b1 : Bool,
cellH H1 ⟨q2, o2 + Int.toNat n1 * 3 + 2, none⟩ = some (.bool b1) ∧
br ((b1 == up)) (
K (.int .i64 19) H1)
 (
br (!up) (
FnH Tryz.prog 90 #[.pointer (some ⟨m, mo, none⟩), .int .i64 n1] H1 fun r2 H2 =>
r2 = .tuple #[] ∧
K (.int .i64 0) H2)
 (
∃ l3 : Sl,
cellH H1 ⟨m, mo + 1, none⟩ = some (.slice l3.p l3.n l3.c) ∧
∃ q3 o3 : Nat,
 (l3.p : Option Addr) = some ⟨q3, o3, none⟩ ∧
0 ≤ (n1 : Int) ∧
 (n1 : Int) < (l3.n : Nat) ∧
 (∃ u, cellH H1 ⟨q3, o3 + Int.toNat n1 * 3 + 2, none⟩ = some u) ∧
frozenH H1 ⟨q3, o3 + Int.toNat n1 * 3 + 2, none⟩ = false ∧
letH (Heap.set H1 ⟨q3, o3 + Int.toNat n1 * 3 + 2, none⟩ (.bool true)) fun H3 =>
∃ I1 : Int → Heap → Prop,
∃ M1 : Int → Heap → Nat,
I1 0 H3 ∧
∀ k_1 : Int,
∀ H4 : Heap,
I1 k_1 H4 →
∃ l4 : Sl,
cellH H4 ⟨m, mo + 3, none⟩ = some (.slice l4.p l4.n l4.c) ∧
br (decide ((k_1 : Int) < (l4.n : Nat))) (
∃ l5 : Sl,
cellH H4 ⟨m, mo + 3, none⟩ = some (.slice l5.p l5.n l5.c) ∧
∃ q4 o4 : Nat,
 (l5.p : Option Addr) = some ⟨q4, o4, none⟩ ∧
0 ≤ (k_1 : Int) ∧
 (k_1 : Int) < (l5.n : Nat) ∧
∃ n3 : Int,
cellH H4 ⟨q4, o4 + Int.toNat k_1 * 9, none⟩ = some (.int .i64 n3) ∧
∃ n4 : Int,
cellH H4 ⟨q4, o4 + Int.toNat k_1 * 9 + 1, none⟩ = some (.int .i64 n4) ∧
∃ n5 : Int,
cellH H4 ⟨q4, o4 + Int.toNat k_1 * 9 + 2, none⟩ = some (.int .i64 n5) ∧
∃ n6 : Int,
cellH H4 ⟨q4, o4 + Int.toNat k_1 * 9 + 3, none⟩ = some (.int .i64 n6) ∧
∃ l6 : Sl,
cellH H4 ⟨q4, o4 + Int.toNat k_1 * 9 + 4, none⟩ = some (.slice l6.p l6.n l6.c) ∧
∃ l7 : Sl,
cellH H4 ⟨q4, o4 + Int.toNat k_1 * 9 + 5, none⟩ = some (.slice l7.p l7.n l7.c) ∧
∃ l8 : Sl,
cellH H4 ⟨q4, o4 + Int.toNat k_1 * 9 + 6, none⟩ = some (.slice l8.p l8.n l8.c) ∧
∃ l9 : Sl,
cellH H4 ⟨q4, o4 + Int.toNat k_1 * 9 + 7, none⟩ = some (.slice l9.p l9.n l9.c) ∧
∃ n7 : Int,
cellH H4 ⟨q4, o4 + Int.toNat k_1 * 9 + 8, none⟩ = some (.int .i64 n7) ∧
FnH Tryz.prog 91 #[.agg #[.int .i64 n3, .int .i64 n4, .int .i64 n5, .int .i64 n6, .slice l6.p l6.n l6.c, .slice l7.p l7.n l7.c, .slice l8.p l8.n l8.c, .slice l9.p l9.n l9.c, .int .i64 n7], .int .i64 id] H4 fun r3 H5 =>
∃ n8 n9 n10 n11 : Int,
∃ l10 l11 l12 l13 : Sl,
∃ n12 n13 : Int,
r3 = .tuple #[.agg #[.int .i64 n8, .int .i64 n9, .int .i64 n10, .int .i64 n11, .slice l10.p l10.n l10.c, .slice l11.p l11.n l11.c, .slice l12.p l12.n l12.c, .slice l13.p l13.n l13.c, .int .i64 n12], .int .i64 n13] ∧
br ((n13 : Int) == 0) (
∃ l14 : Sl,
cellH H5 ⟨m, mo + 3, none⟩ = some (.slice l14.p l14.n l14.c) ∧
∃ q5 o5 : Nat,
 (l14.p : Option Addr) = some ⟨q5, o5, none⟩ ∧
0 ≤ (k_1 : Int) ∧
 (k_1 : Int) < (l14.n : Nat) ∧
put9 H5 q5 (o5 + Int.toNat k_1 * 9) n8 n9 n10 n11 l10 l11 l12 l13 n12 fun H14 =>
SelfEq ([.v (.pointer (some ⟨m, mo, none⟩)), .v (.int .i64 id)], [], []) ∧
I1 (IntKind.wrap .i64 (k_1 + 1)) H14 ∧
M1 (IntKind.wrap .i64 (k_1 + 1)) H14 < M1 k_1 H4)
 (
SelfEq ([.v (.pointer (some ⟨m, mo, none⟩)), .v (.int .i64 id)], [], []) ∧
I1 (IntKind.wrap .i64 (k_1 + 1)) H5 ∧
M1 (IntKind.wrap .i64 (k_1 + 1)) H5 < M1 k_1 H4))
 (
K (.int .i64 0) H4)))))))
theorem logboomref12_Image_fence_fn (m mo : Nat) (id life : Int) (up : Bool) {H : Heap} {K : Value → Heap → Prop} (h : logboomref12_Image_fence_vc m mo id life up H K) : FnH Tryz.prog 53 #[.pointer (some ⟨m, mo, none⟩), .int .i64 id, .int .i64 life, .bool up] H K :=
  denFn_fn Tryz.mixed logboomref12_Image_fence_ann Tryz.func53 (bodyOf_spec (by kernel_rfl)) (by kernel_rfl) h
def logboomref12_name_ann : Anns := { hid := [], loops := [(0, { slots := [(3, .int .i64)], kept := [0], locs := [], keptL := [] })], joins := [], mix := [] }
def logboomref12_name_vc (s : ByteArray) (H : Heap) (K : Value → Heap → Prop) : Prop :=
br (decide (((s.size : Nat) : Int) < 1)) (
K (.bool false) H)
 (
br (decide (((s.size : Nat) : Int) > 32)) (
K (.bool false) H)
 (
∃ I1 : Int → Heap → Prop,
∃ M1 : Int → Heap → Nat,
I1 0 H ∧
∀ i_1 : Int,
∀ H1 : Heap,
I1 i_1 H1 →
br (decide ((i_1 : Int) < (s.size : Nat))) (
0 ≤ (i_1 : Int) ∧
∃ c1 : UInt8,
s[Int.toNat i_1]? = some c1 ∧
br (decide (((c1.toNat : Int) : Int) < 97)) (
0 ≤ (i_1 : Int) ∧
∃ c2 : UInt8,
s[Int.toNat i_1]? = some c2 ∧
br (decide (((c2.toNat : Int) : Int) < 48)) (
0 ≤ (i_1 : Int) ∧
∃ c3 : UInt8,
s[Int.toNat i_1]? = some c3 ∧
br (((c3.toNat : Int) : Int) != 45) (
K (.bool false) H1)
 (
SelfEq ([.v (.string s)], [], []) ∧
I1 (IntKind.wrap .i64 (i_1 + 1)) H1 ∧
M1 (IntKind.wrap .i64 (i_1 + 1)) H1 < M1 i_1 H1))
 (
0 ≤ (i_1 : Int) ∧
∃ c4 : UInt8,
s[Int.toNat i_1]? = some c4 ∧
br (decide (((c4.toNat : Int) : Int) > 57)) (
0 ≤ (i_1 : Int) ∧
∃ c5 : UInt8,
s[Int.toNat i_1]? = some c5 ∧
br (((c5.toNat : Int) : Int) != 45) (
K (.bool false) H1)
 (
SelfEq ([.v (.string s)], [], []) ∧
I1 (IntKind.wrap .i64 (i_1 + 1)) H1 ∧
M1 (IntKind.wrap .i64 (i_1 + 1)) H1 < M1 i_1 H1))
 (
SelfEq ([.v (.string s)], [], []) ∧
I1 (IntKind.wrap .i64 (i_1 + 1)) H1 ∧
M1 (IntKind.wrap .i64 (i_1 + 1)) H1 < M1 i_1 H1)))
 (
0 ≤ (i_1 : Int) ∧
∃ c6 : UInt8,
s[Int.toNat i_1]? = some c6 ∧
br (decide (((c6.toNat : Int) : Int) > 122)) (
0 ≤ (i_1 : Int) ∧
∃ c7 : UInt8,
s[Int.toNat i_1]? = some c7 ∧
br (decide (((c7.toNat : Int) : Int) < 48)) (
0 ≤ (i_1 : Int) ∧
∃ c8 : UInt8,
s[Int.toNat i_1]? = some c8 ∧
br (((c8.toNat : Int) : Int) != 45) (
K (.bool false) H1)
 (
SelfEq ([.v (.string s)], [], []) ∧
I1 (IntKind.wrap .i64 (i_1 + 1)) H1 ∧
M1 (IntKind.wrap .i64 (i_1 + 1)) H1 < M1 i_1 H1))
 (
0 ≤ (i_1 : Int) ∧
∃ c9 : UInt8,
s[Int.toNat i_1]? = some c9 ∧
br (decide (((c9.toNat : Int) : Int) > 57)) (
0 ≤ (i_1 : Int) ∧
∃ c10 : UInt8,
s[Int.toNat i_1]? = some c10 ∧
br (((c10.toNat : Int) : Int) != 45) (
K (.bool false) H1)
 (
SelfEq ([.v (.string s)], [], []) ∧
I1 (IntKind.wrap .i64 (i_1 + 1)) H1 ∧
M1 (IntKind.wrap .i64 (i_1 + 1)) H1 < M1 i_1 H1))
 (
SelfEq ([.v (.string s)], [], []) ∧
I1 (IntKind.wrap .i64 (i_1 + 1)) H1 ∧
M1 (IntKind.wrap .i64 (i_1 + 1)) H1 < M1 i_1 H1)))
 (
SelfEq ([.v (.string s)], [], []) ∧
I1 (IntKind.wrap .i64 (i_1 + 1)) H1 ∧
M1 (IntKind.wrap .i64 (i_1 + 1)) H1 < M1 i_1 H1)))
 (
K (.bool true) H1)))
theorem logboomref12_name_fn (s : ByteArray) {H : Heap} {K : Value → Heap → Prop} (h : logboomref12_name_vc s H K) : FnH Tryz.prog 92 #[.string s] H K :=
  denFn_fn Tryz.mixed logboomref12_name_ann Tryz.func92 (bodyOf_spec (by kernel_rfl)) (by kernel_rfl) h
def logboomref12_Image_topic_ann : Anns := { hid := [3], loops := [(0, { slots := [(7, .int .i64)], kept := [0, 3], locs := [], keptL := [0] }), (2, { slots := [(10, .int .i64)], kept := [0, 3, 8, 9], locs := [], keptL := [0] }), (4, { slots := [(11, .slice), (12, .int .i64)], kept := [0, 3, 8, 9, 10], locs := [], keptL := [0] })], joins := [], mix := [(21, [19, 22]), (22, [12, 15])] }
def logboomref12_Image_topic_vc (m mo : Nat) (r_0 r_1 r_2 r_3 r_4 : Int) (r_5 r_6 : ByteArray) (r_7 : Sl) (H : Heap) (K : Value → Heap → Prop) : Prop :=
FnH Tryz.prog 92 #[.string r_5] H fun r1 H1 =>
∃ b1 : Bool,
r1 = .bool b1 ∧
br (!b1) (
K (.tuple #[.int .i64 0, .int .i64 1]) H1)
 (
br (decide ((r_1 : Int) < 1)) (
K (.tuple #[.int .i64 0, .int .i64 1]) H1)
 (
br (decide ((r_1 : Int) > 16)) (
K (.tuple #[.int .i64 0, .int .i64 1]) H1)
 (
br (decide ((r_2 : Int) < 1)) (
K (.tuple #[.int .i64 0, .int .i64 1]) H1)
 (
br (decide ((r_2 : Int) > 5)) (
K (.tuple #[.int .i64 0, .int .i64 1]) H1)
 (
br (decide ((r_3 : Int) < 1)) (
K (.tuple #[.int .i64 0, .int .i64 1]) H1)
 (
br (decide ((r_3 : Int) > r_2)) (
K (.tuple #[.int .i64 0, .int .i64 1]) H1)
 (
∃ I1 : Int → Heap → Prop,
∃ M1 : Int → Heap → Nat,
I1 0 H1 ∧
∀ i_1 : Int,
∀ H2 : Heap,
I1 i_1 H2 →
∃ l1 : Sl,
cellH H2 ⟨m, mo + 2, none⟩ = some (.slice l1.p l1.n l1.c) ∧
br (decide ((i_1 : Int) < (l1.n : Nat))) (
∃ l2 : Sl,
cellH H2 ⟨m, mo + 2, none⟩ = some (.slice l2.p l2.n l2.c) ∧
∃ q1 o1 : Nat,
 (l2.p : Option Addr) = some ⟨q1, o1, none⟩ ∧
0 ≤ (i_1 : Int) ∧
 (i_1 : Int) < (l2.n : Nat) ∧
∃ s1 : ByteArray,
cellH H2 ⟨q1, o1 + Int.toNat i_1 * 3, none⟩ = some (.string s1) ∧
br (s1.toList == r_5.toList) (
K (.tuple #[.int .i64 0, .int .i64 9]) H2)
 (
SelfEq ([.v (.pointer (some ⟨m, mo, none⟩)), .loc 0 0], [some (31, [.int .i64 r_0, .int .i64 r_1, .int .i64 r_2, .int .i64 r_3, .int .i64 r_4, .string r_5, .string r_6, .slice r_7.p r_7.n r_7.c])], []) ∧
I1 (IntKind.wrap .i64 (i_1 + 1)) H2 ∧
M1 (IntKind.wrap .i64 (i_1 + 1)) H2 < M1 i_1 H2))
 (
FnH Tryz.prog 61 #[.pointer (some ⟨m, mo, none⟩)] H2 fun r2 H3 =>
∃ l3 : Sl,
r2 = .slice l3.p l3.n l3.c ∧
∃ l4 : Sl,
cellH H3 ⟨m, mo + 3, none⟩ = some (.slice l4.p l4.n l4.c) ∧
br (decide (((IntKind.wrap .i64 ((l4.n : Nat) + r_1)) : Int) > 16)) (
K (.tuple #[.int .i64 0, .int .i64 3]) H3)
 (
br (decide (((l3.n : Nat) : Int) < r_2)) (
K (.tuple #[.int .i64 0, .int .i64 3]) H3)
 (
∃ l5 : Sl,
cellH H3 ⟨m, mo + 3, none⟩ = some (.slice l5.p l5.n l5.c) ∧
∃ I2 : Int → Heap → Prop,
∃ M2 : Int → Heap → Nat,
I2 0 H3 ∧
∀ k_1 : Int,
∀ H4 : Heap,
I2 k_1 H4 →
br (decide ((k_1 : Int) < r_1)) (
∃ I3 : Sl → Int → Heap → Prop,
∃ M3 : Sl → Int → Heap → Nat,
I3 ⟨none, 0, 0⟩ 0 H4 ∧
∀ l_1 : Sl,
∀ i_2 : Int,
∀ H5 : Heap,
I3 l_1 i_2 H5 →
br (decide ((i_2 : Int) < r_2)) (
 ((l3.n : Nat) : Int) ≠ 0 ∧
∃ q2 o2 : Nat,
 (l3.p : Option Addr) = some ⟨q2, o2, none⟩ ∧
0 ≤ ((Int.tmod (IntKind.wrap .i64 (k_1 + i_2)) (l3.n : Nat)) : Int) ∧
 ((Int.tmod (IntKind.wrap .i64 (k_1 + i_2)) (l3.n : Nat)) : Int) < (l3.n : Nat) ∧
∃ n1 : Int,
cellH H5 ⟨q2, o2 + Int.toNat (Int.tmod (IntKind.wrap .i64 (k_1 + i_2)) (l3.n : Nat)), none⟩ = some (.int .i64 n1) ∧
∀ q3 : Nat,
H5 q3 = none →
letH (Heap.upd H5 q3 (.cells #[.int .i64 n1] 3 (0, 0))) fun H6 =>
runH Tryz.prog (Builtin.append_ #[22, 22] 22 #[.slice l_1.p l_1.n l_1.c, .slice (some ⟨q3, 0, none⟩) 1 1]) H6 fun r3 H7 =>
∃ l6 : Sl,
r3 = .slice l6.p l6.n l6.c ∧
SelfEq ([.v (.pointer (some ⟨m, mo, none⟩)), .loc 0 0, .v (.slice l3.p l3.n l3.c), .v (.int .i64 (IntKind.wrap .i64 ((l5.n : Nat) + 1))), .v (.int .i64 k_1)], [some (31, [.int .i64 r_0, .int .i64 r_1, .int .i64 r_2, .int .i64 r_3, .int .i64 r_4, .string r_5, .string r_6, .slice r_7.p r_7.n r_7.c])], []) ∧
I3 l6 (IntKind.wrap .i64 (i_2 + 1)) H7 ∧
M3 l6 (IntKind.wrap .i64 (i_2 + 1)) H7 < M3 l_1 i_2 H5)
 (
∃ l7 : Sl,
cellH H5 ⟨m, mo + 3, none⟩ = some (.slice l7.p l7.n l7.c) ∧
∃ q4 o3 : Nat,
 (l_1.p : Option Addr) = some ⟨q4, o3, none⟩ ∧
0 ≤ (0 : Int) ∧
 (0 : Int) < (l_1.n : Nat) ∧
∃ n2 : Int,
cellH H5 ⟨q4, o3 + Int.toNat 0, none⟩ = some (.int .i64 n2) ∧
∀ q5 : Nat,
H5 q5 = none →
letH (Heap.upd H5 q5 (.cells #[] 3 (0, 0))) fun H8 =>
Sub H5 H8 ∧
runH Tryz.prog (Builtin.append_ #[22, 22] 22 #[.slice (some ⟨q5, 0, none⟩) 0 0, .slice l_1.p l_1.n l_1.c]) H8 fun r4 H9 =>
∃ l8 : Sl,
r4 = .slice l8.p l8.n l8.c ∧
Sub H5 H9 ∧
∀ q6 : Nat,
H9 q6 = none →
letH (Heap.upd H9 q6 (.cells #[.int .i64 (IntKind.wrap .i64 ((IntKind.wrap .i64 ((l5.n : Nat) + 1)) + k_1)), .int .i64 n2, .int .i64 1, .int .i64 1, .slice l8.p l8.n l8.c, .slice l_1.p l_1.n l_1.c, .slice none 0 0, .slice none 0 0, .int .i64 r_3] 41 (0, 0))) fun H10 =>
Sub H5 H10 ∧
runH Tryz.prog (Builtin.append_ #[35, 35] 35 #[.slice l7.p l7.n l7.c, .slice (some ⟨q6, 0, none⟩) 1 1]) H10 fun r5 H11 =>
∃ l9 : Sl,
r5 = .slice l9.p l9.n l9.c ∧
 (∃ u, cellH H11 ⟨m, mo + 3, none⟩ = some u) ∧
frozenH H11 ⟨m, mo + 3, none⟩ = false ∧
letH (Heap.set H11 ⟨m, mo + 3, none⟩ (.slice l9.p l9.n l9.c)) fun H12 =>
SelfEq ([.v (.pointer (some ⟨m, mo, none⟩)), .loc 0 0, .v (.slice l3.p l3.n l3.c), .v (.int .i64 (IntKind.wrap .i64 ((l5.n : Nat) + 1)))], [some (31, [.int .i64 r_0, .int .i64 r_1, .int .i64 r_2, .int .i64 r_3, .int .i64 r_4, .string r_5, .string r_6, .slice r_7.p r_7.n r_7.c])], []) ∧
I2 (IntKind.wrap .i64 (k_1 + 1)) H12 ∧
M2 (IntKind.wrap .i64 (k_1 + 1)) H12 < M2 k_1 H4))
 (
∃ l10 : Sl,
cellH H4 ⟨m, mo + 2, none⟩ = some (.slice l10.p l10.n l10.c) ∧
∀ q7 : Nat,
H4 q7 = none →
letH (Heap.upd H4 q7 (.cells #[.string r_5, .int .i64 (IntKind.wrap .i64 ((l5.n : Nat) + 1)), .int .i64 r_1] 99 (0, 0))) fun H13 =>
Sub H4 H13 ∧
runH Tryz.prog (Builtin.append_ #[54, 54] 54 #[.slice l10.p l10.n l10.c, .slice (some ⟨q7, 0, none⟩) 1 1]) H13 fun r6 H14 =>
∃ l11 : Sl,
r6 = .slice l11.p l11.n l11.c ∧
 (∃ u, cellH H14 ⟨m, mo + 2, none⟩ = some u) ∧
frozenH H14 ⟨m, mo + 2, none⟩ = false ∧
letH (Heap.set H14 ⟨m, mo + 2, none⟩ (.slice l11.p l11.n l11.c)) fun H15 =>
K (.tuple #[.int .i64 (IntKind.wrap .i64 ((l5.n : Nat) + 1)), .int .i64 0]) H15)))))))))))
theorem logboomref12_Image_topic_fn (m mo : Nat) (r_0 r_1 r_2 r_3 r_4 : Int) (r_5 r_6 : ByteArray) (r_7 : Sl) {H : Heap} {K : Value → Heap → Prop} (h : logboomref12_Image_topic_vc m mo r_0 r_1 r_2 r_3 r_4 r_5 r_6 r_7 H K) : FnH Tryz.prog 54 #[.pointer (some ⟨m, mo, none⟩), .agg #[.int .i64 r_0, .int .i64 r_1, .int .i64 r_2, .int .i64 r_3, .int .i64 r_4, .string r_5, .string r_6, .slice r_7.p r_7.n r_7.c]] H K :=
  denFn_fn Tryz.mixed logboomref12_Image_topic_ann Tryz.func54 (bodyOf_spec (by kernel_rfl)) (by kernel_rfl) h
def logboomref12_Image_part_ann : Anns := { hid := [3, 6], loops := [], joins := [], mix := [(3, [10]), (21, [9]), (10, [9])] }
def logboomref12_Image_part_vc (m mo : Nat) (r_0 r_1 r_2 r_3 r_4 : Int) (r_5 r_6 : ByteArray) (r_7 : Sl) (H : Heap) (K : Value → Heap → Prop) : Prop :=
br (decide ((r_1 : Int) < 1)) (
K (.tuple #[.int .i64 0, .int .i64 8]) H)
 (
∃ l1 : Sl,
cellH H ⟨m, mo + 3, none⟩ = some (.slice l1.p l1.n l1.c) ∧
br (decide ((r_1 : Int) > (l1.n : Nat))) (
K (.tuple #[.int .i64 0, .int .i64 8]) H)
 (
∃ l2 : Sl,
cellH H ⟨m, mo + 3, none⟩ = some (.slice l2.p l2.n l2.c) ∧
∃ q1 o1 : Nat,
 (l2.p : Option Addr) = some ⟨q1, o1, none⟩ ∧
0 ≤ ((IntKind.wrap .i64 (r_1 - 1)) : Int) ∧
 ((IntKind.wrap .i64 (r_1 - 1)) : Int) < (l2.n : Nat) ∧
∃ n1 : Int,
cellH H ⟨q1, o1 + Int.toNat (IntKind.wrap .i64 (r_1 - 1)) * 9, none⟩ = some (.int .i64 n1) ∧
∃ n2 : Int,
cellH H ⟨q1, o1 + Int.toNat (IntKind.wrap .i64 (r_1 - 1)) * 9 + 1, none⟩ = some (.int .i64 n2) ∧
∃ n3 : Int,
cellH H ⟨q1, o1 + Int.toNat (IntKind.wrap .i64 (r_1 - 1)) * 9 + 2, none⟩ = some (.int .i64 n3) ∧
∃ n4 : Int,
cellH H ⟨q1, o1 + Int.toNat (IntKind.wrap .i64 (r_1 - 1)) * 9 + 3, none⟩ = some (.int .i64 n4) ∧
∃ l3 : Sl,
cellH H ⟨q1, o1 + Int.toNat (IntKind.wrap .i64 (r_1 - 1)) * 9 + 4, none⟩ = some (.slice l3.p l3.n l3.c) ∧
∃ l4 : Sl,
cellH H ⟨q1, o1 + Int.toNat (IntKind.wrap .i64 (r_1 - 1)) * 9 + 5, none⟩ = some (.slice l4.p l4.n l4.c) ∧
∃ l5 : Sl,
cellH H ⟨q1, o1 + Int.toNat (IntKind.wrap .i64 (r_1 - 1)) * 9 + 6, none⟩ = some (.slice l5.p l5.n l5.c) ∧
∃ l6 : Sl,
cellH H ⟨q1, o1 + Int.toNat (IntKind.wrap .i64 (r_1 - 1)) * 9 + 7, none⟩ = some (.slice l6.p l6.n l6.c) ∧
∃ n5 : Int,
cellH H ⟨q1, o1 + Int.toNat (IntKind.wrap .i64 (r_1 - 1)) * 9 + 8, none⟩ = some (.int .i64 n5) ∧
Sub H H ∧
FnH Tryz.prog 61 #[.pointer (some ⟨m, mo, none⟩)] H fun r1 H1 =>
∃ l7 : Sl,
r1 = .slice l7.p l7.n l7.c ∧
br ((r_0 : Int) == 5) (
FnH Tryz.prog 93 #[.agg #[.int .i64 n1, .int .i64 n2, .int .i64 n3, .int .i64 n4, .slice l3.p l3.n l3.c, .slice l4.p l4.n l4.c, .slice l5.p l5.n l5.c, .slice l6.p l6.n l6.c, .int .i64 n5], .int .i64 r_2, .int .i64 r_3, .int .i64 r_4, .slice r_7.p r_7.n r_7.c, .slice l7.p l7.n l7.c] H1 fun r2 H2 =>
∃ n6 n7 n8 n9 : Int,
∃ l8 l9 l10 l11 : Sl,
∃ n10 n11 : Int,
r2 = .tuple #[.agg #[.int .i64 n6, .int .i64 n7, .int .i64 n8, .int .i64 n9, .slice l8.p l8.n l8.c, .slice l9.p l9.n l9.c, .slice l10.p l10.n l10.c, .slice l11.p l11.n l11.c, .int .i64 n10], .int .i64 n11] ∧
br ((n11 : Int) != 0) (
K (.tuple #[.int .i64 0, .int .i64 n11]) H2)
 (
∃ l12 : Sl,
cellH H2 ⟨m, mo + 3, none⟩ = some (.slice l12.p l12.n l12.c) ∧
∃ q2 o2 : Nat,
 (l12.p : Option Addr) = some ⟨q2, o2, none⟩ ∧
0 ≤ ((IntKind.wrap .i64 (r_1 - 1)) : Int) ∧
 ((IntKind.wrap .i64 (r_1 - 1)) : Int) < (l12.n : Nat) ∧
put9 H2 q2 (o2 + Int.toNat (IntKind.wrap .i64 (r_1 - 1)) * 9) n6 n7 n8 n9 l8 l9 l10 l11 n10 fun H11 =>
K (.tuple #[.int .i64 n9, .int .i64 0]) H11))
 (
br ((r_0 : Int) == 6) (
FnH Tryz.prog 94 #[.agg #[.int .i64 n1, .int .i64 n2, .int .i64 n3, .int .i64 n4, .slice l3.p l3.n l3.c, .slice l4.p l4.n l4.c, .slice l5.p l5.n l5.c, .slice l6.p l6.n l6.c, .int .i64 n5], .slice r_7.p r_7.n r_7.c, .slice l7.p l7.n l7.c] H1 fun r3 H12 =>
∃ n12 n13 n14 n15 : Int,
∃ l13 l14 l15 l16 : Sl,
∃ n16 n17 : Int,
r3 = .tuple #[.agg #[.int .i64 n12, .int .i64 n13, .int .i64 n14, .int .i64 n15, .slice l13.p l13.n l13.c, .slice l14.p l14.n l14.c, .slice l15.p l15.n l15.c, .slice l16.p l16.n l16.c, .int .i64 n16], .int .i64 n17] ∧
br ((n17 : Int) != 0) (
K (.tuple #[.int .i64 0, .int .i64 n17]) H12)
 (
∃ l17 : Sl,
cellH H12 ⟨m, mo + 3, none⟩ = some (.slice l17.p l17.n l17.c) ∧
∃ q3 o3 : Nat,
 (l17.p : Option Addr) = some ⟨q3, o3, none⟩ ∧
0 ≤ ((IntKind.wrap .i64 (r_1 - 1)) : Int) ∧
 ((IntKind.wrap .i64 (r_1 - 1)) : Int) < (l17.n : Nat) ∧
put9 H12 q3 (o3 + Int.toNat (IntKind.wrap .i64 (r_1 - 1)) * 9) n12 n13 n14 n15 l13 l14 l15 l16 n16 fun H21 =>
K (.tuple #[.int .i64 n15, .int .i64 0]) H21))
 (
br ((r_0 : Int) == 7) (
FnH Tryz.prog 95 #[.agg #[.int .i64 n1, .int .i64 n2, .int .i64 n3, .int .i64 n4, .slice l3.p l3.n l3.c, .slice l4.p l4.n l4.c, .slice l5.p l5.n l5.c, .slice l6.p l6.n l6.c, .int .i64 n5], .slice l7.p l7.n l7.c] H1 fun r4 H22 =>
∃ n18 n19 n20 n21 : Int,
∃ l18 l19 l20 l21 : Sl,
∃ n22 n23 : Int,
r4 = .tuple #[.agg #[.int .i64 n18, .int .i64 n19, .int .i64 n20, .int .i64 n21, .slice l18.p l18.n l18.c, .slice l19.p l19.n l19.c, .slice l20.p l20.n l20.c, .slice l21.p l21.n l21.c, .int .i64 n22], .int .i64 n23] ∧
br ((n23 : Int) != 0) (
K (.tuple #[.int .i64 0, .int .i64 n23]) H22)
 (
∃ l22 : Sl,
cellH H22 ⟨m, mo + 3, none⟩ = some (.slice l22.p l22.n l22.c) ∧
∃ q4 o4 : Nat,
 (l22.p : Option Addr) = some ⟨q4, o4, none⟩ ∧
0 ≤ ((IntKind.wrap .i64 (r_1 - 1)) : Int) ∧
 ((IntKind.wrap .i64 (r_1 - 1)) : Int) < (l22.n : Nat) ∧
put9 H22 q4 (o4 + Int.toNat (IntKind.wrap .i64 (r_1 - 1)) * 9) n18 n19 n20 n21 l18 l19 l20 l21 n22 fun H31 =>
K (.tuple #[.int .i64 n21, .int .i64 0]) H31))
 (
br ((r_0 : Int) == 10) (
FnH Tryz.prog 96 #[.agg #[.int .i64 n1, .int .i64 n2, .int .i64 n3, .int .i64 n4, .slice l3.p l3.n l3.c, .slice l4.p l4.n l4.c, .slice l5.p l5.n l5.c, .slice l6.p l6.n l6.c, .int .i64 n5], .slice l7.p l7.n l7.c] H1 fun r5 H32 =>
∃ n24 n25 n26 n27 : Int,
∃ l23 l24 l25 l26 : Sl,
∃ n28 n29 : Int,
r5 = .tuple #[.agg #[.int .i64 n24, .int .i64 n25, .int .i64 n26, .int .i64 n27, .slice l23.p l23.n l23.c, .slice l24.p l24.n l24.c, .slice l25.p l25.n l25.c, .slice l26.p l26.n l26.c, .int .i64 n28], .int .i64 n29] ∧
br ((n29 : Int) != 0) (
K (.tuple #[.int .i64 0, .int .i64 n29]) H32)
 (
∃ l27 : Sl,
cellH H32 ⟨m, mo + 3, none⟩ = some (.slice l27.p l27.n l27.c) ∧
∃ q5 o5 : Nat,
 (l27.p : Option Addr) = some ⟨q5, o5, none⟩ ∧
0 ≤ ((IntKind.wrap .i64 (r_1 - 1)) : Int) ∧
 ((IntKind.wrap .i64 (r_1 - 1)) : Int) < (l27.n : Nat) ∧
put9 H32 q5 (o5 + Int.toNat (IntKind.wrap .i64 (r_1 - 1)) * 9) n24 n25 n26 n27 l23 l24 l25 l26 n28 fun H41 =>
K (.tuple #[.int .i64 n27, .int .i64 0]) H41))
 (
∃ q6 o6 : Nat,
 (l4.p : Option Addr) = some ⟨q6, o6, none⟩ ∧
0 ≤ (0 : Int) ∧
 (0 : Int) < (l4.n : Nat) ∧
∃ n30 : Int,
cellH H1 ⟨q6, o6 + Int.toNat 0, none⟩ = some (.int .i64 n30) ∧
FnH Tryz.prog 97 #[.slice l7.p l7.n l7.c, .int .i64 n30] H1 fun r6 H42 =>
∃ b1 : Bool,
r6 = .bool b1 ∧
br (!b1) (
K (.tuple #[.int .i64 0, .int .i64 19]) H42)
 (
∃ q7 o7 : Nat,
 (l4.p : Option Addr) = some ⟨q7, o7, none⟩ ∧
0 ≤ (0 : Int) ∧
 (0 : Int) < (l4.n : Nat) ∧
∃ n31 : Int,
cellH H42 ⟨q7, o7 + Int.toNat 0, none⟩ = some (.int .i64 n31) ∧
FnH Tryz.prog 98 #[.agg #[.int .i64 n1, .int .i64 n2, .int .i64 n3, .int .i64 n4, .slice l3.p l3.n l3.c, .slice l4.p l4.n l4.c, .slice l5.p l5.n l5.c, .slice l6.p l6.n l6.c, .int .i64 n5], .int .i64 n31] H42 fun r7 H43 =>
∃ n32 n33 n34 n35 : Int,
∃ l28 l29 l30 l31 : Sl,
∃ n36 n37 : Int,
r7 = .tuple #[.agg #[.int .i64 n32, .int .i64 n33, .int .i64 n34, .int .i64 n35, .slice l28.p l28.n l28.c, .slice l29.p l29.n l29.c, .slice l30.p l30.n l30.c, .slice l31.p l31.n l31.c, .int .i64 n36], .int .i64 n37] ∧
Sub H42 H43 ∧
br ((n37 : Int) != 0) (
K (.tuple #[.int .i64 0, .int .i64 n37]) H43)
 (
∃ l32 : Sl,
cellH H43 ⟨m, mo + 3, none⟩ = some (.slice l32.p l32.n l32.c) ∧
∃ q8 o8 : Nat,
 (l32.p : Option Addr) = some ⟨q8, o8, none⟩ ∧
0 ≤ ((IntKind.wrap .i64 (r_1 - 1)) : Int) ∧
 ((IntKind.wrap .i64 (r_1 - 1)) : Int) < (l32.n : Nat) ∧
put9 H43 q8 (o8 + Int.toNat (IntKind.wrap .i64 (r_1 - 1)) * 9) n32 n33 n34 n35 l28 l29 l30 l31 n36 fun H52 =>
K (.tuple #[.int .i64 n35, .int .i64 0]) H52))))))))
theorem logboomref12_Image_part_fn (m mo : Nat) (r_0 r_1 r_2 r_3 r_4 : Int) (r_5 r_6 : ByteArray) (r_7 : Sl) {H : Heap} {K : Value → Heap → Prop} (h : logboomref12_Image_part_vc m mo r_0 r_1 r_2 r_3 r_4 r_5 r_6 r_7 H K) : FnH Tryz.prog 55 #[.pointer (some ⟨m, mo, none⟩), .agg #[.int .i64 r_0, .int .i64 r_1, .int .i64 r_2, .int .i64 r_3, .int .i64 r_4, .string r_5, .string r_6, .slice r_7.p r_7.n r_7.c]] H K :=
  denFn_fn Tryz.mixed logboomref12_Image_part_ann Tryz.func55 (bodyOf_spec (by kernel_rfl)) (by kernel_rfl) h
def logboomref12_Image_pid_ann : Anns := { hid := [], loops := [], joins := [((0, 5), { slots := [(17, .bool)], kept := [0, 1], locs := [], keptL := [] })], mix := [] }
def logboomref12_Image_pid_vc (m mo : Nat) (id : Int) (H : Heap) (K : Value → Heap → Prop) : Prop :=
br (decide ((id : Int) < 0)) (
K (.tuple #[.int .i64 0, .int .i64 1]) H)
 (
∃ l1 : Sl,
cellH H ⟨m, mo + 4, none⟩ = some (.slice l1.p l1.n l1.c) ∧
br (decide ((id : Int) > (l1.n : Nat))) (
K (.tuple #[.int .i64 0, .int .i64 8]) H)
 (
∃ J1 : Bool → Heap → Prop,
 (br ((id : Int) == 0) (
∃ l2 : Sl,
cellH H ⟨m, mo + 4, none⟩ = some (.slice l2.p l2.n l2.c) ∧
SelfEq ([.v (.pointer (some ⟨m, mo, none⟩)), .v (.int .i64 id)], [], []) ∧
J1 (decide (((l2.n : Nat) : Int) ≥ 1000)) H)
 (
SelfEq ([.v (.pointer (some ⟨m, mo, none⟩)), .v (.int .i64 id)], [], []) ∧
J1 false H)) ∧
∀ b_1 : Bool,
∀ H1 : Heap,
J1 b_1 H1 →
br (b_1) (
K (.tuple #[.int .i64 0, .int .i64 3]) H1)
 (
br ((id : Int) == 0) (
∃ l3 : Sl,
cellH H1 ⟨m, mo + 4, none⟩ = some (.slice l3.p l3.n l3.c) ∧
∀ q1 : Nat,
H1 q1 = none →
letH (Heap.upd H1 q1 (.cells #[.int .i64 0] 3 (0, 0))) fun H2 =>
runH Tryz.prog (Builtin.append_ #[22, 22] 22 #[.slice l3.p l3.n l3.c, .slice (some ⟨q1, 0, none⟩) 1 1]) H2 fun r1 H3 =>
∃ l4 : Sl,
r1 = .slice l4.p l4.n l4.c ∧
 (∃ u, cellH H3 ⟨m, mo + 4, none⟩ = some u) ∧
frozenH H3 ⟨m, mo + 4, none⟩ = false ∧
letH (Heap.set H3 ⟨m, mo + 4, none⟩ (.slice l4.p l4.n l4.c)) fun H4 =>
∃ l5 : Sl,
cellH H4 ⟨m, mo + 4, none⟩ = some (.slice l5.p l5.n l5.c) ∧
K (.tuple #[.int .i64 (l5.n : Nat), .int .i64 0]) H4)
 (
∃ l6 : Sl,
cellH H1 ⟨m, mo + 4, none⟩ = some (.slice l6.p l6.n l6.c) ∧
∃ q2 o1 : Nat,
 (l6.p : Option Addr) = some ⟨q2, o1, none⟩ ∧
0 ≤ ((IntKind.wrap .i64 (id - 1)) : Int) ∧
 ((IntKind.wrap .i64 (id - 1)) : Int) < (l6.n : Nat) ∧
∃ n1 : Int,
cellH H1 ⟨q2, o1 + Int.toNat (IntKind.wrap .i64 (id - 1)), none⟩ = some (.int .i64 n1) ∧
br (decide ((n1 : Int) ≥ 1000000000)) (
K (.tuple #[.int .i64 0, .int .i64 20]) H1)
 (
∃ l7 : Sl,
cellH H1 ⟨m, mo + 4, none⟩ = some (.slice l7.p l7.n l7.c) ∧
∃ q3 o2 : Nat,
 (l7.p : Option Addr) = some ⟨q3, o2, none⟩ ∧
0 ≤ ((IntKind.wrap .i64 (id - 1)) : Int) ∧
 ((IntKind.wrap .i64 (id - 1)) : Int) < (l7.n : Nat) ∧
∃ n2 : Int,
cellH H1 ⟨q3, o2 + Int.toNat (IntKind.wrap .i64 (id - 1)), none⟩ = some (.int .i64 n2) ∧
∃ q4 o3 : Nat,
 (l7.p : Option Addr) = some ⟨q4, o3, none⟩ ∧
0 ≤ ((IntKind.wrap .i64 (id - 1)) : Int) ∧
 ((IntKind.wrap .i64 (id - 1)) : Int) < (l7.n : Nat) ∧
 (∃ u, cellH H1 ⟨q4, o3 + Int.toNat (IntKind.wrap .i64 (id - 1)), none⟩ = some u) ∧
frozenH H1 ⟨q4, o3 + Int.toNat (IntKind.wrap .i64 (id - 1)), none⟩ = false ∧
letH (Heap.set H1 ⟨q4, o3 + Int.toNat (IntKind.wrap .i64 (id - 1)), none⟩ (.int .i64 (IntKind.wrap .i64 (n2 + 1)))) fun H5 =>
∃ l8 : Sl,
cellH H5 ⟨m, mo + 4, none⟩ = some (.slice l8.p l8.n l8.c) ∧
∃ q5 o4 : Nat,
 (l8.p : Option Addr) = some ⟨q5, o4, none⟩ ∧
0 ≤ ((IntKind.wrap .i64 (id - 1)) : Int) ∧
 ((IntKind.wrap .i64 (id - 1)) : Int) < (l8.n : Nat) ∧
∃ n3 : Int,
cellH H5 ⟨q5, o4 + Int.toNat (IntKind.wrap .i64 (id - 1)), none⟩ = some (.int .i64 n3) ∧
K (.tuple #[.int .i64 n3, .int .i64 0]) H5)))))
theorem logboomref12_Image_pid_fn (m mo : Nat) (id : Int) {H : Heap} {K : Value → Heap → Prop} (h : logboomref12_Image_pid_vc m mo id H K) : FnH Tryz.prog 56 #[.pointer (some ⟨m, mo, none⟩), .int .i64 id] H K :=
  denFn_fn Tryz.mixed logboomref12_Image_pid_ann Tryz.func56 (bodyOf_spec (by kernel_rfl)) (by kernel_rfl) h
def logboomref12_Image_Apply_ann : Anns := { hid := [3], loops := [], joins := [], mix := [] }
def logboomref12_Image_Apply_vc (m mo : Nat) (r_0 r_1 r_2 r_3 r_4 : Int) (r_5 r_6 : ByteArray) (r_7 : Sl) (H : Heap) (K : Value → Heap → Prop) : Prop :=
∃ n1 : Int,
cellH H ⟨m, mo, none⟩ = some (.int .i64 n1) ∧
 (∃ u, cellH H ⟨m, mo, none⟩ = some u) ∧
frozenH H ⟨m, mo, none⟩ = false ∧
letH (Heap.set H ⟨m, mo, none⟩ (.int .i64 (IntKind.wrap .i64 (n1 + 1)))) fun H1 =>
br ((r_0 : Int) == 1) (
FnH Tryz.prog 52 #[.pointer (some ⟨m, mo, none⟩), .int .i64 r_1, .int .i64 r_2] H1 fun r1 H2 =>
∃ n2 : Int,
r1 = .int .i64 n2 ∧
br ((n2 : Int) != 0) (
K (.tuple #[.int .i64 0, .int .i64 n2]) H2)
 (
K (.tuple #[.int .i64 r_1, .int .i64 0]) H2))
 (
br ((r_0 : Int) == 2) (
br ((r_0 : Int) == 2) (
FnH Tryz.prog 53 #[.pointer (some ⟨m, mo, none⟩), .int .i64 r_1, .int .i64 r_2, .bool ((r_0 : Int) == 3)] H1 fun r2 H3 =>
∃ n3 : Int,
r2 = .int .i64 n3 ∧
br ((n3 : Int) != 0) (
K (.tuple #[.int .i64 0, .int .i64 n3]) H3)
 (
K (.tuple #[.int .i64 r_1, .int .i64 0]) H3))
 (
br ((r_0 : Int) == 4) (
FnH Tryz.prog 54 #[.pointer (some ⟨m, mo, none⟩), .agg #[.int .i64 r_0, .int .i64 r_1, .int .i64 r_2, .int .i64 r_3, .int .i64 r_4, .string r_5, .string r_6, .slice r_7.p r_7.n r_7.c]] H1 fun r3 H4 =>
∃ n4 n5 : Int,
r3 = .tuple #[.int .i64 n4, .int .i64 n5] ∧
K (.tuple #[.int .i64 n4, .int .i64 n5]) H4)
 (
br ((r_0 : Int) == 5) (
br ((r_0 : Int) == 5) (
FnH Tryz.prog 55 #[.pointer (some ⟨m, mo, none⟩), .agg #[.int .i64 r_0, .int .i64 r_1, .int .i64 r_2, .int .i64 r_3, .int .i64 r_4, .string r_5, .string r_6, .slice r_7.p r_7.n r_7.c]] H1 fun r4 H5 =>
∃ n6 n7 : Int,
r4 = .tuple #[.int .i64 n6, .int .i64 n7] ∧
K (.tuple #[.int .i64 n6, .int .i64 n7]) H5)
 (
br ((r_0 : Int) == 8) (
FnH Tryz.prog 56 #[.pointer (some ⟨m, mo, none⟩), .int .i64 r_1] H1 fun r5 H6 =>
∃ n8 n9 : Int,
r5 = .tuple #[.int .i64 n8, .int .i64 n9] ∧
K (.tuple #[.int .i64 n8, .int .i64 n9]) H6)
 (
br ((1 : Int) != 0) (
K (.tuple #[.int .i64 0, .int .i64 1]) H1)
 (
K (.tuple #[.int .i64 r_1, .int .i64 0]) H1))))
 (
br ((r_0 : Int) == 6) (
br ((r_0 : Int) == 6) (
FnH Tryz.prog 55 #[.pointer (some ⟨m, mo, none⟩), .agg #[.int .i64 r_0, .int .i64 r_1, .int .i64 r_2, .int .i64 r_3, .int .i64 r_4, .string r_5, .string r_6, .slice r_7.p r_7.n r_7.c]] H1 fun r6 H7 =>
∃ n10 n11 : Int,
r6 = .tuple #[.int .i64 n10, .int .i64 n11] ∧
K (.tuple #[.int .i64 n10, .int .i64 n11]) H7)
 (
br ((r_0 : Int) == 8) (
FnH Tryz.prog 56 #[.pointer (some ⟨m, mo, none⟩), .int .i64 r_1] H1 fun r7 H8 =>
∃ n12 n13 : Int,
r7 = .tuple #[.int .i64 n12, .int .i64 n13] ∧
K (.tuple #[.int .i64 n12, .int .i64 n13]) H8)
 (
br ((1 : Int) != 0) (
K (.tuple #[.int .i64 0, .int .i64 1]) H1)
 (
K (.tuple #[.int .i64 r_1, .int .i64 0]) H1))))
 (
br ((r_0 : Int) == 7) (
br ((r_0 : Int) == 7) (
FnH Tryz.prog 55 #[.pointer (some ⟨m, mo, none⟩), .agg #[.int .i64 r_0, .int .i64 r_1, .int .i64 r_2, .int .i64 r_3, .int .i64 r_4, .string r_5, .string r_6, .slice r_7.p r_7.n r_7.c]] H1 fun r8 H9 =>
∃ n14 n15 : Int,
r8 = .tuple #[.int .i64 n14, .int .i64 n15] ∧
K (.tuple #[.int .i64 n14, .int .i64 n15]) H9)
 (
br ((r_0 : Int) == 8) (
FnH Tryz.prog 56 #[.pointer (some ⟨m, mo, none⟩), .int .i64 r_1] H1 fun r9 H10 =>
∃ n16 n17 : Int,
r9 = .tuple #[.int .i64 n16, .int .i64 n17] ∧
K (.tuple #[.int .i64 n16, .int .i64 n17]) H10)
 (
br ((1 : Int) != 0) (
K (.tuple #[.int .i64 0, .int .i64 1]) H1)
 (
K (.tuple #[.int .i64 r_1, .int .i64 0]) H1))))
 (
br ((r_0 : Int) == 9) (
br ((r_0 : Int) == 9) (
FnH Tryz.prog 55 #[.pointer (some ⟨m, mo, none⟩), .agg #[.int .i64 r_0, .int .i64 r_1, .int .i64 r_2, .int .i64 r_3, .int .i64 r_4, .string r_5, .string r_6, .slice r_7.p r_7.n r_7.c]] H1 fun r10 H11 =>
∃ n18 n19 : Int,
r10 = .tuple #[.int .i64 n18, .int .i64 n19] ∧
K (.tuple #[.int .i64 n18, .int .i64 n19]) H11)
 (
br ((r_0 : Int) == 8) (
FnH Tryz.prog 56 #[.pointer (some ⟨m, mo, none⟩), .int .i64 r_1] H1 fun r11 H12 =>
∃ n20 n21 : Int,
r11 = .tuple #[.int .i64 n20, .int .i64 n21] ∧
K (.tuple #[.int .i64 n20, .int .i64 n21]) H12)
 (
br ((1 : Int) != 0) (
K (.tuple #[.int .i64 0, .int .i64 1]) H1)
 (
K (.tuple #[.int .i64 r_1, .int .i64 0]) H1))))
 (
br ((r_0 : Int) == 10) (
FnH Tryz.prog 55 #[.pointer (some ⟨m, mo, none⟩), .agg #[.int .i64 r_0, .int .i64 r_1, .int .i64 r_2, .int .i64 r_3, .int .i64 r_4, .string r_5, .string r_6, .slice r_7.p r_7.n r_7.c]] H1 fun r12 H13 =>
∃ n22 n23 : Int,
r12 = .tuple #[.int .i64 n22, .int .i64 n23] ∧
K (.tuple #[.int .i64 n22, .int .i64 n23]) H13)
 (
br ((r_0 : Int) == 8) (
FnH Tryz.prog 56 #[.pointer (some ⟨m, mo, none⟩), .int .i64 r_1] H1 fun r13 H14 =>
∃ n24 n25 : Int,
r13 = .tuple #[.int .i64 n24, .int .i64 n25] ∧
K (.tuple #[.int .i64 n24, .int .i64 n25]) H14)
 (
br ((1 : Int) != 0) (
K (.tuple #[.int .i64 0, .int .i64 1]) H1)
 (
K (.tuple #[.int .i64 r_1, .int .i64 0]) H1))))))))))
 (
br ((r_0 : Int) == 3) (
FnH Tryz.prog 53 #[.pointer (some ⟨m, mo, none⟩), .int .i64 r_1, .int .i64 r_2, .bool ((r_0 : Int) == 3)] H1 fun r14 H15 =>
∃ n26 : Int,
r14 = .int .i64 n26 ∧
br ((n26 : Int) != 0) (
K (.tuple #[.int .i64 0, .int .i64 n26]) H15)
 (
K (.tuple #[.int .i64 r_1, .int .i64 0]) H15))
 (
br ((r_0 : Int) == 4) (
FnH Tryz.prog 54 #[.pointer (some ⟨m, mo, none⟩), .agg #[.int .i64 r_0, .int .i64 r_1, .int .i64 r_2, .int .i64 r_3, .int .i64 r_4, .string r_5, .string r_6, .slice r_7.p r_7.n r_7.c]] H1 fun r15 H16 =>
∃ n27 n28 : Int,
r15 = .tuple #[.int .i64 n27, .int .i64 n28] ∧
K (.tuple #[.int .i64 n27, .int .i64 n28]) H16)
 (
br ((r_0 : Int) == 5) (
br ((r_0 : Int) == 5) (
FnH Tryz.prog 55 #[.pointer (some ⟨m, mo, none⟩), .agg #[.int .i64 r_0, .int .i64 r_1, .int .i64 r_2, .int .i64 r_3, .int .i64 r_4, .string r_5, .string r_6, .slice r_7.p r_7.n r_7.c]] H1 fun r16 H17 =>
∃ n29 n30 : Int,
r16 = .tuple #[.int .i64 n29, .int .i64 n30] ∧
K (.tuple #[.int .i64 n29, .int .i64 n30]) H17)
 (
br ((r_0 : Int) == 8) (
FnH Tryz.prog 56 #[.pointer (some ⟨m, mo, none⟩), .int .i64 r_1] H1 fun r17 H18 =>
∃ n31 n32 : Int,
r17 = .tuple #[.int .i64 n31, .int .i64 n32] ∧
K (.tuple #[.int .i64 n31, .int .i64 n32]) H18)
 (
br ((1 : Int) != 0) (
K (.tuple #[.int .i64 0, .int .i64 1]) H1)
 (
K (.tuple #[.int .i64 r_1, .int .i64 0]) H1))))
 (
br ((r_0 : Int) == 6) (
br ((r_0 : Int) == 6) (
FnH Tryz.prog 55 #[.pointer (some ⟨m, mo, none⟩), .agg #[.int .i64 r_0, .int .i64 r_1, .int .i64 r_2, .int .i64 r_3, .int .i64 r_4, .string r_5, .string r_6, .slice r_7.p r_7.n r_7.c]] H1 fun r18 H19 =>
∃ n33 n34 : Int,
r18 = .tuple #[.int .i64 n33, .int .i64 n34] ∧
K (.tuple #[.int .i64 n33, .int .i64 n34]) H19)
 (
br ((r_0 : Int) == 8) (
FnH Tryz.prog 56 #[.pointer (some ⟨m, mo, none⟩), .int .i64 r_1] H1 fun r19 H20 =>
∃ n35 n36 : Int,
r19 = .tuple #[.int .i64 n35, .int .i64 n36] ∧
K (.tuple #[.int .i64 n35, .int .i64 n36]) H20)
 (
br ((1 : Int) != 0) (
K (.tuple #[.int .i64 0, .int .i64 1]) H1)
 (
K (.tuple #[.int .i64 r_1, .int .i64 0]) H1))))
 (
br ((r_0 : Int) == 7) (
br ((r_0 : Int) == 7) (
FnH Tryz.prog 55 #[.pointer (some ⟨m, mo, none⟩), .agg #[.int .i64 r_0, .int .i64 r_1, .int .i64 r_2, .int .i64 r_3, .int .i64 r_4, .string r_5, .string r_6, .slice r_7.p r_7.n r_7.c]] H1 fun r20 H21 =>
∃ n37 n38 : Int,
r20 = .tuple #[.int .i64 n37, .int .i64 n38] ∧
K (.tuple #[.int .i64 n37, .int .i64 n38]) H21)
 (
br ((r_0 : Int) == 8) (
FnH Tryz.prog 56 #[.pointer (some ⟨m, mo, none⟩), .int .i64 r_1] H1 fun r21 H22 =>
∃ n39 n40 : Int,
r21 = .tuple #[.int .i64 n39, .int .i64 n40] ∧
K (.tuple #[.int .i64 n39, .int .i64 n40]) H22)
 (
br ((1 : Int) != 0) (
K (.tuple #[.int .i64 0, .int .i64 1]) H1)
 (
K (.tuple #[.int .i64 r_1, .int .i64 0]) H1))))
 (
br ((r_0 : Int) == 9) (
br ((r_0 : Int) == 9) (
FnH Tryz.prog 55 #[.pointer (some ⟨m, mo, none⟩), .agg #[.int .i64 r_0, .int .i64 r_1, .int .i64 r_2, .int .i64 r_3, .int .i64 r_4, .string r_5, .string r_6, .slice r_7.p r_7.n r_7.c]] H1 fun r22 H23 =>
∃ n41 n42 : Int,
r22 = .tuple #[.int .i64 n41, .int .i64 n42] ∧
K (.tuple #[.int .i64 n41, .int .i64 n42]) H23)
 (
br ((r_0 : Int) == 8) (
FnH Tryz.prog 56 #[.pointer (some ⟨m, mo, none⟩), .int .i64 r_1] H1 fun r23 H24 =>
∃ n43 n44 : Int,
r23 = .tuple #[.int .i64 n43, .int .i64 n44] ∧
K (.tuple #[.int .i64 n43, .int .i64 n44]) H24)
 (
br ((1 : Int) != 0) (
K (.tuple #[.int .i64 0, .int .i64 1]) H1)
 (
K (.tuple #[.int .i64 r_1, .int .i64 0]) H1))))
 (
br ((r_0 : Int) == 10) (
FnH Tryz.prog 55 #[.pointer (some ⟨m, mo, none⟩), .agg #[.int .i64 r_0, .int .i64 r_1, .int .i64 r_2, .int .i64 r_3, .int .i64 r_4, .string r_5, .string r_6, .slice r_7.p r_7.n r_7.c]] H1 fun r24 H25 =>
∃ n45 n46 : Int,
r24 = .tuple #[.int .i64 n45, .int .i64 n46] ∧
K (.tuple #[.int .i64 n45, .int .i64 n46]) H25)
 (
br ((r_0 : Int) == 8) (
FnH Tryz.prog 56 #[.pointer (some ⟨m, mo, none⟩), .int .i64 r_1] H1 fun r25 H26 =>
∃ n47 n48 : Int,
r25 = .tuple #[.int .i64 n47, .int .i64 n48] ∧
K (.tuple #[.int .i64 n47, .int .i64 n48]) H26)
 (
br ((1 : Int) != 0) (
K (.tuple #[.int .i64 0, .int .i64 1]) H1)
 (
K (.tuple #[.int .i64 r_1, .int .i64 0]) H1)))))))))))
theorem logboomref12_Image_Apply_fn (m mo : Nat) (r_0 r_1 r_2 r_3 r_4 : Int) (r_5 r_6 : ByteArray) (r_7 : Sl) {H : Heap} {K : Value → Heap → Prop} (h : logboomref12_Image_Apply_vc m mo r_0 r_1 r_2 r_3 r_4 r_5 r_6 r_7 H K) : FnH Tryz.prog 23 #[.pointer (some ⟨m, mo, none⟩), .agg #[.int .i64 r_0, .int .i64 r_1, .int .i64 r_2, .int .i64 r_3, .int .i64 r_4, .string r_5, .string r_6, .slice r_7.p r_7.n r_7.c]] H K :=
  denFn_fn Tryz.mixed logboomref12_Image_Apply_ann Tryz.func23 (bodyOf_spec (by kernel_rfl)) (by kernel_rfl) h
end Go.Proofs.YtmofinghoacobaaGreatDoor
