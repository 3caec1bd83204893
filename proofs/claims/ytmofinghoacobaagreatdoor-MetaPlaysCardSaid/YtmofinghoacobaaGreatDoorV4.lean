import Derived.Test.YtmofinghoacobaaGreatDoorProg
import Derived.KernelRfl
import Derived.Test.YtmofinghoacobaaGreatDoorHlFn
import Derived.Test.YtmofinghoacobaaGreatDoorV3
namespace Go.Proofs.YtmofinghoacobaaGreatDoor
open Go.HL
set_option maxRecDepth 100000
def meta_New_ann : Anns := { hid := [], loops := [], joins := [], mix := [] }
def meta_New_vc  (H : Heap) (K : Value → Heap → Prop) : Prop :=
∀ q1 : Nat,
H q1 = none →
letH (Heap.upd H q1 (.map #[] 0)) fun H1 =>
∀ q2 : Nat,
H1 q2 = none →
letH (Heap.upd H1 q2 (.cells #[.int .i64 0, .map (some q1), .slice none 0 0, .slice none 0 0, .slice none 0 0] 70 (0, 0))) fun H2 =>
K (.pointer (some ⟨q2, 0, none⟩)) H2
theorem meta_New_fn  {H : Heap} {K : Value → Heap → Prop} (h : meta_New_vc  H K) : FnH Tryz.prog 10 #[] H K :=
  denFn_fn Tryz.mixed meta_New_ann Tryz.func10 (bodyOf_spec (by kernel_rfl)) (by kernel_rfl) h
def logboomlaw12_rec_ann : Anns := { hid := [8], loops := [], joins := [], mix := [] }
def logboomlaw12_rec_vc (kind a b c : Int) (H : Heap) (K : Value → Heap → Prop) : Prop :=
K (.agg #[.int .i64 kind, .int .i64 a, .int .i64 b, .int .i64 c, .int .i64 0, .string (⟨#[116]⟩ : ByteArray), .string (⟨#[]⟩ : ByteArray), .slice none 0 0]) H
theorem logboomlaw12_rec_fn (kind a b c : Int) {H : Heap} {K : Value → Heap → Prop} (h : logboomlaw12_rec_vc kind a b c H K) : FnH Tryz.prog 13 #[.int .i64 kind, .int .i64 a, .int .i64 b, .int .i64 c] H K :=
  denFn_fn Tryz.mixed logboomlaw12_rec_ann Tryz.func13 (bodyOf_spec (by kernel_rfl)) (by kernel_rfl) h
def meta_Image_Up_1_ann : Anns := { hid := [], loops := [], joins := [], mix := [] }
def meta_Image_Up_1_vc (id : Int) (c0_c : Nat) (H : Heap) (K : Value → Heap → Prop) : Prop :=
∃ p1 : Option Addr,
cellH H ⟨c0_c, 0, none⟩ = some (.pointer p1) ∧
ptrm p1 fun q1 o1 =>
∃ m1 : Option Nat,
cellH H ⟨q1, o1 + 1, none⟩ = some (.map m1) ∧
runH Tryz.prog (Instr.lookup 67 (.map m1) (.int .i64 id) false) H fun r1 H1 =>
∃ n1 : Int,
∃ b1 : Bool,
r1 = .agg #[.int .i64 n1, .bool b1] ∧
K (.bool (!b1)) H1
theorem meta_Image_Up_1_fn (id : Int) (c0_c : Nat) {H : Heap} {K : Value → Heap → Prop} (h : meta_Image_Up_1_vc id c0_c H K) : FnH Tryz.prog 46 #[.int .i64 id, .pointer (some ⟨c0_c, 0, none⟩)] H K :=
  denFn_fn Tryz.mixed meta_Image_Up_1_ann Tryz.func46 (bodyOf_spec (by kernel_rfl)) (by kernel_rfl) h
def IndexFunc_Up_ann : Anns := { hid := [], loops := [(0, { slots := [(8, .int .i64)], kept := [0, 1, 7], locs := [], keptL := [] })], joins := [], mix := [] }
def IndexFunc_Up_vc (s : Sl) (f_c0 : Nat) (H : Heap) (K : Value → Heap → Prop) : Prop :=
∃ I1 : Int → Heap → Prop,
∃ M1 : Int → Heap → Nat,
I1 0 H ∧
∀ n_1 : Int,
∀ H1 : Heap,
I1 n_1 H1 →
br (decide ((n_1 : Int) < (s.n : Nat))) (
∃ q1 o1 : Nat,
 (s.p : Option Addr) = some ⟨q1, o1, none⟩ ∧
0 ≤ (n_1 : Int) ∧
 (n_1 : Int) < (s.n : Nat) ∧
∃ n1 : Int,
cellH H1 ⟨q1, o1 + Int.toNat n_1, none⟩ = some (.int .i64 n1) ∧
FnH Tryz.prog 46 #[.int .i64 n1, .pointer (some ⟨f_c0, 0, none⟩)] H1 fun r1 H2 =>
∃ b1 : Bool,
r1 = .bool b1 ∧
br (b1) (
K (.int .i64 n_1) H2)
 (
SelfEq ([.v (.slice s.p s.n s.c), .v (.func (.func 46) #[] #[.pointer (some ⟨f_c0, 0, none⟩)]), .v (.int .i64 (s.n : Nat))], [], []) ∧
I1 (IntKind.wrap .i64 (n_1 + 1)) H2 ∧
M1 (IntKind.wrap .i64 (n_1 + 1)) H2 < M1 n_1 H1))
 (
K (.int .i64 (-1)) H1)
theorem IndexFunc_Up_fn (s : Sl) (f_c0 : Nat) {H : Heap} {K : Value → Heap → Prop} (h : IndexFunc_Up_vc s f_c0 H K) : FnH Tryz.prog 83 #[.slice s.p s.n s.c, .func (.func 46) #[] #[.pointer (some ⟨f_c0, 0, none⟩)]] H K :=
  denFn_fn Tryz.mixed IndexFunc_Up_ann Tryz.func83 (bodyOf_spec (by kernel_rfl)) (by kernel_rfl) h
def DeleteFunc_Up_ann : Anns := { hid := [], loops := [(0, { slots := [(5, .int .i64), (6, .int .i64)], kept := [0, 1], locs := [], keptL := [] })], joins := [], mix := [] }
def DeleteFunc_Up_vc (s : Sl) (del_c0 : Nat) (H : Heap) (K : Value → Heap → Prop) : Prop :=
FnH Tryz.prog 83 #[.slice s.p s.n s.c, .func (.func 46) #[] #[.pointer (some ⟨del_c0, 0, none⟩)]] H fun r1 H1 =>
∃ n1 : Int,
r1 = .int .i64 n1 ∧
br ((n1 : Int) == (-1)) (
K (.slice s.p s.n s.c) H1)
 (
∃ I1 : Int → Int → Heap → Prop,
∃ M1 : Int → Int → Heap → Nat,
I1 n1 (IntKind.wrap .i64 (n1 + 1)) H1 ∧
∀ i_1 j_1 : Int,
∀ H2 : Heap,
I1 i_1 j_1 H2 →
br (decide ((j_1 : Int) < (s.n : Nat))) (
∃ q1 o1 : Nat,
 (s.p : Option Addr) = some ⟨q1, o1, none⟩ ∧
0 ≤ (j_1 : Int) ∧
 (j_1 : Int) < (s.n : Nat) ∧
∃ n2 : Int,
cellH H2 ⟨q1, o1 + Int.toNat j_1, none⟩ = some (.int .i64 n2) ∧
FnH Tryz.prog 46 #[.int .i64 n2, .pointer (some ⟨del_c0, 0, none⟩)] H2 fun r2 H3 =>
∃ b1 : Bool,
r2 = .bool b1 ∧
br (!b1) (
∃ q2 o2 : Nat,
 (s.p : Option Addr) = some ⟨q2, o2, none⟩ ∧
0 ≤ (i_1 : Int) ∧
 (i_1 : Int) < (s.n : Nat) ∧
 (∃ u, cellH H3 ⟨q2, o2 + Int.toNat i_1, none⟩ = some u) ∧
frozenH H3 ⟨q2, o2 + Int.toNat i_1, none⟩ = false ∧
letH (Heap.set H3 ⟨q2, o2 + Int.toNat i_1, none⟩ (.int .i64 n2)) fun H4 =>
SelfEq ([.v (.slice s.p s.n s.c), .v (.func (.func 46) #[] #[.pointer (some ⟨del_c0, 0, none⟩)])], [], []) ∧
I1 (IntKind.wrap .i64 (i_1 + 1)) (IntKind.wrap .i64 (j_1 + 1)) H4 ∧
M1 (IntKind.wrap .i64 (i_1 + 1)) (IntKind.wrap .i64 (j_1 + 1)) H4 < M1 i_1 j_1 H2)
 (
SelfEq ([.v (.slice s.p s.n s.c), .v (.func (.func 46) #[] #[.pointer (some ⟨del_c0, 0, none⟩)])], [], []) ∧
I1 i_1 (IntKind.wrap .i64 (j_1 + 1)) H3 ∧
M1 i_1 (IntKind.wrap .i64 (j_1 + 1)) H3 < M1 i_1 j_1 H2))
 (
0 ≤ (i_1 : Int) ∧
 (i_1 : Int) ≤ (s.n : Nat) ∧
runH Tryz.prog (Builtin.clear_ #[22] 0 #[.slice (slP s.p s.c i_1 1) (Int.toNat ((s.n : Nat) - i_1)) (Int.toNat ((s.c : Nat) - i_1))]) H2 fun r3 H5 =>
r3 = .tuple #[] ∧
0 ≤ (i_1 : Int) ∧
 (i_1 : Int) ≤ (s.c : Nat) ∧
K (.slice (slP s.p s.c (0 : Int) 1) (Int.toNat (i_1 - (0 : Int))) (Int.toNat ((s.c : Nat) - (0 : Int)))) H5))
theorem DeleteFunc_Up_fn (s : Sl) (del_c0 : Nat) {H : Heap} {K : Value → Heap → Prop} (h : DeleteFunc_Up_vc s del_c0 H K) : FnH Tryz.prog 45 #[.slice s.p s.n s.c, .func (.func 46) #[] #[.pointer (some ⟨del_c0, 0, none⟩)]] H K :=
  denFn_fn Tryz.mixed DeleteFunc_Up_ann Tryz.func45 (bodyOf_spec (by kernel_rfl)) (by kernel_rfl) h
def meta_Image_fencing_1_ann : Anns := { hid := [3, 4], loops := [], joins := [], mix := [] }
def meta_Image_fencing_1_vc (p_0 p_1 p_2 p_3 : Int) (p_4 p_5 p_6 p_7 : Sl) (p_8 : Int) (c0_c c1_c : Nat) (H : Heap) (K : Value → Heap → Prop) : Prop :=
∃ n1 : Int,
cellH H ⟨c0_c, 0, none⟩ = some (.int .i64 n1) ∧
∃ l1 : Sl,
cellH H ⟨c1_c, 0, none⟩ = some (.slice l1.p l1.n l1.c) ∧
FnH Tryz.prog 107 #[.agg #[.int .i64 p_0, .int .i64 p_1, .int .i64 p_2, .int .i64 p_3, .slice p_4.p p_4.n p_4.c, .slice p_5.p p_5.n p_5.c, .slice p_6.p p_6.n p_6.c, .slice p_7.p p_7.n p_7.c, .int .i64 p_8], .int .i64 n1, .slice l1.p l1.n l1.c] H fun r1 H1 =>
∃ n2 n3 n4 n5 : Int,
∃ l2 l3 l4 l5 : Sl,
∃ n6 n7 : Int,
r1 = .tuple #[.agg #[.int .i64 n2, .int .i64 n3, .int .i64 n4, .int .i64 n5, .slice l2.p l2.n l2.c, .slice l3.p l3.n l3.c, .slice l4.p l4.n l4.c, .slice l5.p l5.n l5.c, .int .i64 n6], .int .i64 n7] ∧
K (.tuple #[.agg #[.int .i64 n2, .int .i64 n3, .int .i64 n4, .int .i64 n5, .slice l2.p l2.n l2.c, .slice l3.p l3.n l3.c, .slice l4.p l4.n l4.c, .slice l5.p l5.n l5.c, .int .i64 n6], .int .i64 n7]) H1
theorem meta_Image_fencing_1_fn (p_0 p_1 p_2 p_3 : Int) (p_4 p_5 p_6 p_7 : Sl) (p_8 : Int) (c0_c c1_c : Nat) {H : Heap} {K : Value → Heap → Prop} (h : meta_Image_fencing_1_vc p_0 p_1 p_2 p_3 p_4 p_5 p_6 p_7 p_8 c0_c c1_c H K) : FnH Tryz.prog 106 #[.agg #[.int .i64 p_0, .int .i64 p_1, .int .i64 p_2, .int .i64 p_3, .slice p_4.p p_4.n p_4.c, .slice p_5.p p_5.n p_5.c, .slice p_6.p p_6.n p_6.c, .slice p_7.p p_7.n p_7.c, .int .i64 p_8], .pointer (some ⟨c0_c, 0, none⟩), .pointer (some ⟨c1_c, 0, none⟩)] H K :=
  denFn_fn Tryz.mixed meta_Image_fencing_1_ann Tryz.func106 (bodyOf_spec (by kernel_rfl)) (by kernel_rfl) h
def meta_Image_turn_1_ann : Anns := { hid := [2, 3], loops := [], joins := [], mix := [] }
def meta_Image_turn_1_vc (p_0 p_1 p_2 p_3 : Int) (p_4 p_5 p_6 p_7 : Sl) (p_8 : Int) (c0_c : Nat) (H : Heap) (K : Value → Heap → Prop) : Prop :=
∃ n1 : Int,
cellH H ⟨c0_c, 1, none⟩ = some (.int .i64 n1) ∧
FnH Tryz.prog 70 #[.agg #[.int .i64 p_0, .int .i64 p_1, .int .i64 p_2, .int .i64 p_3, .slice p_4.p p_4.n p_4.c, .slice p_5.p p_5.n p_5.c, .slice p_6.p p_6.n p_6.c, .slice p_7.p p_7.n p_7.c, .int .i64 p_8], .int .i64 n1] H fun r1 H1 =>
∃ n2 n3 n4 n5 : Int,
∃ l1 l2 l3 l4 : Sl,
∃ n6 n7 : Int,
r1 = .tuple #[.agg #[.int .i64 n2, .int .i64 n3, .int .i64 n4, .int .i64 n5, .slice l1.p l1.n l1.c, .slice l2.p l2.n l2.c, .slice l3.p l3.n l3.c, .slice l4.p l4.n l4.c, .int .i64 n6], .int .i64 n7] ∧
K (.tuple #[.agg #[.int .i64 n2, .int .i64 n3, .int .i64 n4, .int .i64 n5, .slice l1.p l1.n l1.c, .slice l2.p l2.n l2.c, .slice l3.p l3.n l3.c, .slice l4.p l4.n l4.c, .int .i64 n6], .int .i64 n7]) H1
theorem meta_Image_turn_1_fn (p_0 p_1 p_2 p_3 : Int) (p_4 p_5 p_6 p_7 : Sl) (p_8 : Int) (c0_c : Nat) {H : Heap} {K : Value → Heap → Prop} (h : meta_Image_turn_1_vc p_0 p_1 p_2 p_3 p_4 p_5 p_6 p_7 p_8 c0_c H K) : FnH Tryz.prog 69 #[.agg #[.int .i64 p_0, .int .i64 p_1, .int .i64 p_2, .int .i64 p_3, .slice p_4.p p_4.n p_4.c, .slice p_5.p p_5.n p_5.c, .slice p_6.p p_6.n p_6.c, .slice p_7.p p_7.n p_7.c, .int .i64 p_8], .pointer (some ⟨c0_c, 0, none⟩)] H K :=
  denFn_fn Tryz.mixed meta_Image_turn_1_ann Tryz.func69 (bodyOf_spec (by kernel_rfl)) (by kernel_rfl) h
def each_Fence_ann : Anns := { hid := [5, 6], loops := [(0, { slots := [(13, .int .i64)], kept := [0, 1, 11, 12], locs := [], keptL := [] })], joins := [], mix := [(5, [7])] }
def each_Fence_vc (m mo how_c0 how_c1 : Nat) (H : Heap) (K : Value → Heap → Prop) : Prop :=
∃ l1 : Sl,
cellH H ⟨m, mo + 3, none⟩ = some (.slice l1.p l1.n l1.c) ∧
∃ I1 : Int → Heap → Prop,
∃ M1 : Int → Heap → Nat,
I1 0 H ∧
∀ n_1 : Int,
∀ H1 : Heap,
I1 n_1 H1 →
br (decide ((n_1 : Int) < (l1.n : Nat))) (
∃ q1 o1 : Nat,
 (l1.p : Option Addr) = some ⟨q1, o1, none⟩ ∧
0 ≤ (n_1 : Int) ∧
 (n_1 : Int) < (l1.n : Nat) ∧
∃ n1 : Int,
cellH H1 ⟨q1, o1 + Int.toNat n_1 * 9, none⟩ = some (.int .i64 n1) ∧
∃ n2 : Int,
cellH H1 ⟨q1, o1 + Int.toNat n_1 * 9 + 1, none⟩ = some (.int .i64 n2) ∧
∃ n3 : Int,
cellH H1 ⟨q1, o1 + Int.toNat n_1 * 9 + 2, none⟩ = some (.int .i64 n3) ∧
∃ n4 : Int,
cellH H1 ⟨q1, o1 + Int.toNat n_1 * 9 + 3, none⟩ = some (.int .i64 n4) ∧
∃ l2 : Sl,
cellH H1 ⟨q1, o1 + Int.toNat n_1 * 9 + 4, none⟩ = some (.slice l2.p l2.n l2.c) ∧
∃ l3 : Sl,
cellH H1 ⟨q1, o1 + Int.toNat n_1 * 9 + 5, none⟩ = some (.slice l3.p l3.n l3.c) ∧
∃ l4 : Sl,
cellH H1 ⟨q1, o1 + Int.toNat n_1 * 9 + 6, none⟩ = some (.slice l4.p l4.n l4.c) ∧
∃ l5 : Sl,
cellH H1 ⟨q1, o1 + Int.toNat n_1 * 9 + 7, none⟩ = some (.slice l5.p l5.n l5.c) ∧
∃ n5 : Int,
cellH H1 ⟨q1, o1 + Int.toNat n_1 * 9 + 8, none⟩ = some (.int .i64 n5) ∧
FnH Tryz.prog 106 #[.agg #[.int .i64 n1, .int .i64 n2, .int .i64 n3, .int .i64 n4, .slice l2.p l2.n l2.c, .slice l3.p l3.n l3.c, .slice l4.p l4.n l4.c, .slice l5.p l5.n l5.c, .int .i64 n5], .pointer (some ⟨how_c0, 0, none⟩), .pointer (some ⟨how_c1, 0, none⟩)] H1 fun r1 H2 =>
∃ n6 n7 n8 n9 : Int,
∃ l6 l7 l8 l9 : Sl,
∃ n10 n11 : Int,
r1 = .tuple #[.agg #[.int .i64 n6, .int .i64 n7, .int .i64 n8, .int .i64 n9, .slice l6.p l6.n l6.c, .slice l7.p l7.n l7.c, .slice l8.p l8.n l8.c, .slice l9.p l9.n l9.c, .int .i64 n10], .int .i64 n11] ∧
br ((n11 : Int) == 0) (
∃ l10 : Sl,
cellH H2 ⟨m, mo + 3, none⟩ = some (.slice l10.p l10.n l10.c) ∧
∃ q2 o2 : Nat,
 (l10.p : Option Addr) = some ⟨q2, o2, none⟩ ∧
0 ≤ (n_1 : Int) ∧
 (n_1 : Int) < (l10.n : Nat) ∧
put9 H2 q2 (o2 + Int.toNat n_1 * 9) n6 n7 n8 n9 l6 l7 l8 l9 n10 fun H11 =>
SelfEq ([.v (.pointer (some ⟨m, mo, none⟩)), .v (.func (.func 106) #[] #[.pointer (some ⟨how_c0, 0, none⟩), .pointer (some ⟨how_c1, 0, none⟩)]), .v (.slice l1.p l1.n l1.c), .v (.int .i64 (l1.n : Nat))], [], []) ∧
I1 (IntKind.wrap .i64 (n_1 + 1)) H11 ∧
M1 (IntKind.wrap .i64 (n_1 + 1)) H11 < M1 n_1 H1)
 (
SelfEq ([.v (.pointer (some ⟨m, mo, none⟩)), .v (.func (.func 106) #[] #[.pointer (some ⟨how_c0, 0, none⟩), .pointer (some ⟨how_c1, 0, none⟩)]), .v (.slice l1.p l1.n l1.c), .v (.int .i64 (l1.n : Nat))], [], []) ∧
I1 (IntKind.wrap .i64 (n_1 + 1)) H2 ∧
M1 (IntKind.wrap .i64 (n_1 + 1)) H2 < M1 n_1 H1))
 (
K (.tuple #[]) H1)
theorem each_Fence_fn (m mo how_c0 how_c1 : Nat) {H : Heap} {K : Value → Heap → Prop} (h : each_Fence_vc m mo how_c0 how_c1 H K) : FnH Tryz.prog 68 #[.pointer (some ⟨m, mo, none⟩), .func (.func 106) #[] #[.pointer (some ⟨how_c0, 0, none⟩), .pointer (some ⟨how_c1, 0, none⟩)]] H K :=
  denFn_fn Tryz.mixed each_Fence_ann Tryz.func68 (bodyOf_spec (by kernel_rfl)) (by kernel_rfl) h
def each_Back_ann : Anns := { hid := [5, 6], loops := [(0, { slots := [(13, .int .i64)], kept := [0, 1, 11, 12], locs := [], keptL := [] })], joins := [], mix := [(5, [7])] }
def each_Back_vc (m mo how_c0 : Nat) (H : Heap) (K : Value → Heap → Prop) : Prop :=
∃ l1 : Sl,
cellH H ⟨m, mo + 3, none⟩ = some (.slice l1.p l1.n l1.c) ∧
∃ I1 : Int → Heap → Prop,
∃ M1 : Int → Heap → Nat,
I1 0 H ∧
∀ n_1 : Int,
∀ H1 : Heap,
I1 n_1 H1 →
br (decide ((n_1 : Int) < (l1.n : Nat))) (
∃ q1 o1 : Nat,
 (l1.p : Option Addr) = some ⟨q1, o1, none⟩ ∧
0 ≤ (n_1 : Int) ∧
 (n_1 : Int) < (l1.n : Nat) ∧
∃ n1 : Int,
cellH H1 ⟨q1, o1 + Int.toNat n_1 * 9, none⟩ = some (.int .i64 n1) ∧
∃ n2 : Int,
cellH H1 ⟨q1, o1 + Int.toNat n_1 * 9 + 1, none⟩ = some (.int .i64 n2) ∧
∃ n3 : Int,
cellH H1 ⟨q1, o1 + Int.toNat n_1 * 9 + 2, none⟩ = some (.int .i64 n3) ∧
∃ n4 : Int,
cellH H1 ⟨q1, o1 + Int.toNat n_1 * 9 + 3, none⟩ = some (.int .i64 n4) ∧
∃ l2 : Sl,
cellH H1 ⟨q1, o1 + Int.toNat n_1 * 9 + 4, none⟩ = some (.slice l2.p l2.n l2.c) ∧
∃ l3 : Sl,
cellH H1 ⟨q1, o1 + Int.toNat n_1 * 9 + 5, none⟩ = some (.slice l3.p l3.n l3.c) ∧
∃ l4 : Sl,
cellH H1 ⟨q1, o1 + Int.toNat n_1 * 9 + 6, none⟩ = some (.slice l4.p l4.n l4.c) ∧
∃ l5 : Sl,
cellH H1 ⟨q1, o1 + Int.toNat n_1 * 9 + 7, none⟩ = some (.slice l5.p l5.n l5.c) ∧
∃ n5 : Int,
cellH H1 ⟨q1, o1 + Int.toNat n_1 * 9 + 8, none⟩ = some (.int .i64 n5) ∧
FnH Tryz.prog 69 #[.agg #[.int .i64 n1, .int .i64 n2, .int .i64 n3, .int .i64 n4, .slice l2.p l2.n l2.c, .slice l3.p l3.n l3.c, .slice l4.p l4.n l4.c, .slice l5.p l5.n l5.c, .int .i64 n5], .pointer (some ⟨how_c0, 0, none⟩)] H1 fun r1 H2 =>
∃ n6 n7 n8 n9 : Int,
∃ l6 l7 l8 l9 : Sl,
∃ n10 n11 : Int,
r1 = .tuple #[.agg #[.int .i64 n6, .int .i64 n7, .int .i64 n8, .int .i64 n9, .slice l6.p l6.n l6.c, .slice l7.p l7.n l7.c, .slice l8.p l8.n l8.c, .slice l9.p l9.n l9.c, .int .i64 n10], .int .i64 n11] ∧
br ((n11 : Int) == 0) (
∃ l10 : Sl,
cellH H2 ⟨m, mo + 3, none⟩ = some (.slice l10.p l10.n l10.c) ∧
∃ q2 o2 : Nat,
 (l10.p : Option Addr) = some ⟨q2, o2, none⟩ ∧
0 ≤ (n_1 : Int) ∧
 (n_1 : Int) < (l10.n : Nat) ∧
put9 H2 q2 (o2 + Int.toNat n_1 * 9) n6 n7 n8 n9 l6 l7 l8 l9 n10 fun H11 =>
SelfEq ([.v (.pointer (some ⟨m, mo, none⟩)), .v (.func (.func 69) #[] #[.pointer (some ⟨how_c0, 0, none⟩)]), .v (.slice l1.p l1.n l1.c), .v (.int .i64 (l1.n : Nat))], [], []) ∧
I1 (IntKind.wrap .i64 (n_1 + 1)) H11 ∧
M1 (IntKind.wrap .i64 (n_1 + 1)) H11 < M1 n_1 H1)
 (
SelfEq ([.v (.pointer (some ⟨m, mo, none⟩)), .v (.func (.func 69) #[] #[.pointer (some ⟨how_c0, 0, none⟩)]), .v (.slice l1.p l1.n l1.c), .v (.int .i64 (l1.n : Nat))], [], []) ∧
I1 (IntKind.wrap .i64 (n_1 + 1)) H2 ∧
M1 (IntKind.wrap .i64 (n_1 + 1)) H2 < M1 n_1 H1))
 (
K (.tuple #[]) H1)
theorem each_Back_fn (m mo how_c0 : Nat) {H : Heap} {K : Value → Heap → Prop} (h : each_Back_vc m mo how_c0 H K) : FnH Tryz.prog 68 #[.pointer (some ⟨m, mo, none⟩), .func (.func 69) #[] #[.pointer (some ⟨how_c0, 0, none⟩)]] H K :=
  denFn_fn Tryz.mixed each_Back_ann Tryz.func68 (bodyOf_spec (by kernel_rfl)) (by kernel_rfl) h
def meta_Image_ids_ann : Anns := { hid := [], loops := [], joins := [], mix := [] }
def meta_Image_ids_vc (m mo : Nat) (H : Heap) (K : Value → Heap → Prop) : Prop :=
∃ m1 : Option Nat,
cellH H ⟨m, mo + 1, none⟩ = some (.map m1) ∧
FnH Tryz.prog 81 #[.map m1] H fun r1 H1 =>
∃ w1 : Fv,
r1 = .func (.func w1.k) w1.first w1.cap ∧
FnH Tryz.prog 80 #[.func (.func w1.k) w1.first w1.cap] H1 fun r2 H2 =>
∃ l1 : Sl,
r2 = .slice l1.p l1.n l1.c ∧
K (.slice l1.p l1.n l1.c) H2
theorem meta_Image_ids_fn (m mo : Nat) {H : Heap} {K : Value → Heap → Prop} (h : meta_Image_ids_vc m mo H K) : FnH Tryz.prog 40 #[.pointer (some ⟨m, mo, none⟩)] H K :=
  denFn_fn Tryz.mixed meta_Image_ids_ann Tryz.func40 (bodyOf_spec (by kernel_rfl)) (by kernel_rfl) h
def meta_Image_Up_ann : Anns := { hid := [], loops := [], joins := [], mix := [] }
def meta_Image_Up_vc (m mo : Nat) (H : Heap) (K : Value → Heap → Prop) : Prop :=
∀ q1 : Nat,
H q1 = none →
letH (Heap.upd H q1 (.cells #[.pointer (some ⟨m, mo, none⟩)] 24 (0, 0))) fun H1 =>
∃ p1 : Option Addr,
cellH H1 ⟨q1, 0, none⟩ = some (.pointer p1) ∧
FnH Tryz.prog 40 #[.pointer p1] H1 fun r1 H2 =>
∃ l1 : Sl,
r1 = .slice l1.p l1.n l1.c ∧
FnH Tryz.prog 45 #[.slice l1.p l1.n l1.c, .func (.func 46) #[] #[.pointer (some ⟨q1, 0, none⟩)]] H2 fun r2 H3 =>
∃ l2 : Sl,
r2 = .slice l2.p l2.n l2.c ∧
K (.slice l2.p l2.n l2.c) H3
theorem meta_Image_Up_fn (m mo : Nat) {H : Heap} {K : Value → Heap → Prop} (h : meta_Image_Up_vc m mo H K) : FnH Tryz.prog 19 #[.pointer (some ⟨m, mo, none⟩)] H K :=
  denFn_fn Tryz.mixed meta_Image_Up_ann Tryz.func19 (bodyOf_spec (by kernel_rfl)) (by kernel_rfl) h
def meta_Image_Applied_ann : Anns := { hid := [], loops := [], joins := [], mix := [] }
def meta_Image_Applied_vc (m mo : Nat) (H : Heap) (K : Value → Heap → Prop) : Prop :=
∃ n1 : Int,
cellH H ⟨m, mo, none⟩ = some (.int .i64 n1) ∧
K (.int .i64 n1) H
theorem meta_Image_Applied_fn (m mo : Nat) {H : Heap} {K : Value → Heap → Prop} (h : meta_Image_Applied_vc m mo H K) : FnH Tryz.prog 22 #[.pointer (some ⟨m, mo, none⟩)] H K :=
  denFn_fn Tryz.mixed meta_Image_Applied_ann Tryz.func22 (bodyOf_spec (by kernel_rfl)) (by kernel_rfl) h
def meta_Image_Life_ann : Anns := { hid := [6], loops := [], joins := [], mix := [] }
def meta_Image_Life_vc (m mo : Nat) (id : Int) (H : Heap) (K : Value → Heap → Prop) : Prop :=
∃ m1 : Option Nat,
cellH H ⟨m, mo + 1, none⟩ = some (.map m1) ∧
runH Tryz.prog (Instr.lookup 67 (.map m1) (.int .i64 id) true) H fun r1 H1 =>
∃ n1 : Int,
∃ b1 b2 : Bool,
r1 = .tuple #[.agg #[.int .i64 n1, .bool b1], .bool b2] ∧
K (.tuple #[.int .i64 n1, .bool b2]) H1
theorem meta_Image_Life_fn (m mo : Nat) (id : Int) {H : Heap} {K : Value → Heap → Prop} (h : meta_Image_Life_vc m mo id H K) : FnH Tryz.prog 63 #[.pointer (some ⟨m, mo, none⟩), .int .i64 id] H K :=
  denFn_fn Tryz.mixed meta_Image_Life_ann Tryz.func63 (bodyOf_spec (by kernel_rfl)) (by kernel_rfl) h
def meta_named_ann : Anns := { hid := [], loops := [], joins := [], mix := [] }
def meta_named_vc (s : ByteArray) (H : Heap) (K : Value → Heap → Prop) : Prop :=
br (!(s.toList == (⟨#[]⟩ : ByteArray).toList)) (
br (decide (((s.size : Nat) : Int) ≤ 32)) (
FnH Tryz.prog 111 #[.string s, .string (⟨#[97, 98, 99, 100, 101, 102, 103, 104, 105, 106, 107, 108, 109, 110, 111, 112, 113, 114, 115, 116, 117, 118, 119, 120, 121, 122, 48, 49, 50, 51, 52, 53, 54, 55, 56, 57, 45]⟩ : ByteArray)] H fun r1 H1 =>
∃ s1 : ByteArray,
r1 = .string s1 ∧
K (.bool (s1.toList == (⟨#[]⟩ : ByteArray).toList)) H1)
 (
K (.bool false) H))
 (
K (.bool false) H)
theorem meta_named_fn (s : ByteArray) {H : Heap} {K : Value → Heap → Prop} (h : meta_named_vc s H K) : FnH Tryz.prog 71 #[.string s] H K :=
  denFn_fn Tryz.mixed meta_named_ann Tryz.func71 (bodyOf_spec (by kernel_rfl)) (by kernel_rfl) h
end Go.Proofs.YtmofinghoacobaaGreatDoor
