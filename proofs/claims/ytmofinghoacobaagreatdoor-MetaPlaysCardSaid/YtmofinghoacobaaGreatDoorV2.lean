import Derived.Test.YtmofinghoacobaaGreatDoorProg
import Derived.KernelRfl
import Derived.Test.YtmofinghoacobaaGreatDoorHlFn
import Derived.Test.YtmofinghoacobaaGreatDoorV1
namespace Go.Proofs.YtmofinghoacobaaGreatDoor
open Go.HL
set_option maxRecDepth 100000
def slices_Index_Lint_int_ann : Anns := { hid := [], loops := [(0, { slots := [(8, .int .i64)], kept := [0, 1, 7], locs := [], keptL := [] })], joins := [], mix := [] }
def slices_Index_Lint_int_vc (s : Sl) (v : Int) (H : Heap) (K : Value → Heap → Prop) : Prop :=
∃ I1 : Int → Heap → Prop,
∃ M1 : Int → Heap → Nat,
I1 0 H ∧
∀ n_1 : Int,
∀ H1 : Heap,
I1 n_1 H1 →
br (decide ((n_1 : Int) < (s.n : Nat))) (
∃ q1 o1 : Nat,
 (s.p : Option Addr) = some ⟨q1, o1, none⟩ ∧
0 ≤ (n_1 : Int) ∧
 (n_1 : Int) < (s.n : Nat) ∧
∃ n1 : Int,
cellH H1 ⟨q1, o1 + Int.toNat n_1, none⟩ = some (.int .i64 n1) ∧
br ((v : Int) == n1) (
K (.int .i64 n_1) H1)
 (
SelfEq ([.v (.slice s.p s.n s.c), .v (.int .i64 v), .v (.int .i64 (s.n : Nat))], [], []) ∧
I1 (IntKind.wrap .i64 (n_1 + 1)) H1 ∧
M1 (IntKind.wrap .i64 (n_1 + 1)) H1 < M1 n_1 H1))
 (
K (.int .i64 (-1)) H1)
theorem slices_Index_Lint_int_fn (s : Sl) (v : Int) {H : Heap} {K : Value → Heap → Prop} (h : slices_Index_Lint_int_vc s v H K) : FnH Tryz.prog 116 #[.slice s.p s.n s.c, .int .i64 v] H K :=
  denFn_fn Tryz.mixed slices_Index_Lint_int_ann Tryz.func116 (bodyOf_spec (by kernel_rfl)) (by kernel_rfl) h
def slices_Contains_Lint_int_ann : Anns := { hid := [], loops := [], joins := [], mix := [] }
def slices_Contains_Lint_int_vc (s : Sl) (v : Int) (H : Heap) (K : Value → Heap → Prop) : Prop :=
FnH Tryz.prog 116 #[.slice s.p s.n s.c, .int .i64 v] H fun r1 H1 =>
∃ n1 : Int,
r1 = .int .i64 n1 ∧
K (.bool (decide ((n1 : Int) ≥ 0))) H1
theorem slices_Contains_Lint_int_fn (s : Sl) (v : Int) {H : Heap} {K : Value → Heap → Prop} (h : slices_Contains_Lint_int_vc s v H K) : FnH Tryz.prog 76 #[.slice s.p s.n s.c, .int .i64 v] H K :=
  denFn_fn Tryz.mixed slices_Contains_Lint_int_ann Tryz.func76 (bodyOf_spec (by kernel_rfl)) (by kernel_rfl) h
def slices_Index_reassign_list_int_ann : Anns := { hid := [], loops := [(0, { slots := [(8, .int .i64)], kept := [0, 1, 7], locs := [], keptL := [] })], joins := [], mix := [] }
def slices_Index_reassign_list_int_vc (s : Sl) (v : Int) (H : Heap) (K : Value → Heap → Prop) : Prop :=
∃ I1 : Int → Heap → Prop,
∃ M1 : Int → Heap → Nat,
I1 0 H ∧
∀ n_1 : Int,
∀ H1 : Heap,
I1 n_1 H1 →
br (decide ((n_1 : Int) < (s.n : Nat))) (
∃ q1 o1 : Nat,
 (s.p : Option Addr) = some ⟨q1, o1, none⟩ ∧
0 ≤ (n_1 : Int) ∧
 (n_1 : Int) < (s.n : Nat) ∧
∃ n1 : Int,
cellH H1 ⟨q1, o1 + Int.toNat n_1, none⟩ = some (.int .i64 n1) ∧
br ((v : Int) == n1) (
K (.int .i64 n_1) H1)
 (
SelfEq ([.v (.slice s.p s.n s.c), .v (.int .i64 v), .v (.int .i64 (s.n : Nat))], [], []) ∧
I1 (IntKind.wrap .i64 (n_1 + 1)) H1 ∧
M1 (IntKind.wrap .i64 (n_1 + 1)) H1 < M1 n_1 H1))
 (
K (.int .i64 (-1)) H1)
theorem slices_Index_reassign_list_int_fn (s : Sl) (v : Int) {H : Heap} {K : Value → Heap → Prop} (h : slices_Index_reassign_list_int_vc s v H K) : FnH Tryz.prog 175 #[.slice s.p s.n s.c, .int .i64 v] H K :=
  denFn_fn Tryz.mixed slices_Index_reassign_list_int_ann Tryz.func175 (bodyOf_spec (by kernel_rfl)) (by kernel_rfl) h
def slices_Contains_reassign_list_int_ann : Anns := { hid := [], loops := [], joins := [], mix := [] }
def slices_Contains_reassign_list_int_vc (s : Sl) (v : Int) (H : Heap) (K : Value → Heap → Prop) : Prop :=
FnH Tryz.prog 175 #[.slice s.p s.n s.c, .int .i64 v] H fun r1 H1 =>
∃ n1 : Int,
r1 = .int .i64 n1 ∧
K (.bool (decide ((n1 : Int) ≥ 0))) H1
theorem slices_Contains_reassign_list_int_fn (s : Sl) (v : Int) {H : Heap} {K : Value → Heap → Prop} (h : slices_Contains_reassign_list_int_vc s v H K) : FnH Tryz.prog 160 #[.slice s.p s.n s.c, .int .i64 v] H K :=
  denFn_fn Tryz.mixed slices_Contains_reassign_list_int_ann Tryz.func160 (bodyOf_spec (by kernel_rfl)) (by kernel_rfl) h
def reassign_list_has_ann : Anns := { hid := [], loops := [], joins := [], mix := [] }
def reassign_list_has_vc (l : Sl) (x : Int) (H : Heap) (K : Value → Heap → Prop) : Prop :=
FnH Tryz.prog 160 #[.slice l.p l.n l.c, .int .i64 x] H fun r1 H1 =>
∃ b1 : Bool,
r1 = .bool b1 ∧
K (.bool b1) H1
theorem reassign_list_has_fn (l : Sl) (x : Int) {H : Heap} {K : Value → Heap → Prop} (h : reassign_list_has_vc l x H K) : FnH Tryz.prog 132 #[.slice l.p l.n l.c, .int .i64 x] H K :=
  denFn_fn Tryz.mixed reassign_list_has_ann Tryz.func132 (bodyOf_spec (by kernel_rfl)) (by kernel_rfl) h
def reassign_list_lacks_ann : Anns := { hid := [], loops := [], joins := [], mix := [] }
def reassign_list_lacks_vc (l : Sl) (x : Int) (H : Heap) (K : Value → Heap → Prop) : Prop :=
FnH Tryz.prog 132 #[.slice l.p l.n l.c, .int .i64 x] H fun r1 H1 =>
∃ b1 : Bool,
r1 = .bool b1 ∧
K (.bool (!b1)) H1
theorem reassign_list_lacks_fn (l : Sl) (x : Int) {H : Heap} {K : Value → Heap → Prop} (h : reassign_list_lacks_vc l x H K) : FnH Tryz.prog 151 #[.slice l.p l.n l.c, .int .i64 x] H K :=
  denFn_fn Tryz.mixed reassign_list_lacks_ann Tryz.func151 (bodyOf_spec (by kernel_rfl)) (by kernel_rfl) h
def those_has_ann : Anns := { hid := [], loops := [(0, { slots := [(7, .slice), (12, .int .i64)], kept := [1, 2, 10, 11], locs := [], keptL := [] })], joins := [], mix := [] }
def those_has_vc (l m : Sl) (H : Heap) (K : Value → Heap → Prop) : Prop :=
∃ I1 : Sl → Int → Heap → Prop,
∃ M1 : Sl → Int → Heap → Nat,
I1 ⟨none, 0, 0⟩ 0 H ∧
∀ out_1 : Sl,
∀ n_1 : Int,
∀ H1 : Heap,
I1 out_1 n_1 H1 →
br (decide ((n_1 : Int) < (l.n : Nat))) (
∃ q1 o1 : Nat,
 (l.p : Option Addr) = some ⟨q1, o1, none⟩ ∧
0 ≤ (n_1 : Int) ∧
 (n_1 : Int) < (l.n : Nat) ∧
∃ n1 : Int,
cellH H1 ⟨q1, o1 + Int.toNat n_1, none⟩ = some (.int .i64 n1) ∧
FnH Tryz.prog 132 #[.slice m.p m.n m.c, .int .i64 n1] H1 fun r1 H2 =>
∃ b1 : Bool,
r1 = .bool b1 ∧
br (b1) (
∀ q2 : Nat,
H2 q2 = none →
letH (Heap.upd H2 q2 (.cells #[.int .i64 n1] 3 (0, 0))) fun H3 =>
runH Tryz.prog (Builtin.append_ #[22, 22] 22 #[.slice out_1.p out_1.n out_1.c, .slice (some ⟨q2, 0, none⟩) 1 1]) H3 fun r2 H4 =>
∃ l1 : Sl,
r2 = .slice l1.p l1.n l1.c ∧
SelfEq ([.v (.func (.func 132) #[] #[]), .v (.slice m.p m.n m.c), .v (.slice l.p l.n l.c), .v (.int .i64 (l.n : Nat))], [], []) ∧
I1 l1 (IntKind.wrap .i64 (n_1 + 1)) H4 ∧
M1 l1 (IntKind.wrap .i64 (n_1 + 1)) H4 < M1 out_1 n_1 H1)
 (
SelfEq ([.v (.func (.func 132) #[] #[]), .v (.slice m.p m.n m.c), .v (.slice l.p l.n l.c), .v (.int .i64 (l.n : Nat))], [], []) ∧
I1 out_1 (IntKind.wrap .i64 (n_1 + 1)) H2 ∧
M1 out_1 (IntKind.wrap .i64 (n_1 + 1)) H2 < M1 out_1 n_1 H1))
 (
K (.slice out_1.p out_1.n out_1.c) H1)
theorem those_has_fn (l m : Sl) {H : Heap} {K : Value → Heap → Prop} (h : those_has_vc l m H K) : FnH Tryz.prog 131 #[.slice l.p l.n l.c, .func (.func 132) #[] #[], .slice m.p m.n m.c] H K :=
  denFn_fn Tryz.mixed those_has_ann Tryz.func131 (bodyOf_spec (by kernel_rfl)) (by kernel_rfl) h
def those_lacks_ann : Anns := { hid := [], loops := [(0, { slots := [(7, .slice), (12, .int .i64)], kept := [1, 2, 10, 11], locs := [], keptL := [] })], joins := [], mix := [] }
def those_lacks_vc (l m : Sl) (H : Heap) (K : Value → Heap → Prop) : Prop :=
∃ I1 : Sl → Int → Heap → Prop,
∃ M1 : Sl → Int → Heap → Nat,
I1 ⟨none, 0, 0⟩ 0 H ∧
∀ out_1 : Sl,
∀ n_1 : Int,
∀ H1 : Heap,
I1 out_1 n_1 H1 →
br (decide ((n_1 : Int) < (l.n : Nat))) (
∃ q1 o1 : Nat,
 (l.p : Option Addr) = some ⟨q1, o1, none⟩ ∧
0 ≤ (n_1 : Int) ∧
 (n_1 : Int) < (l.n : Nat) ∧
∃ n1 : Int,
cellH H1 ⟨q1, o1 + Int.toNat n_1, none⟩ = some (.int .i64 n1) ∧
FnH Tryz.prog 151 #[.slice m.p m.n m.c, .int .i64 n1] H1 fun r1 H2 =>
∃ b1 : Bool,
r1 = .bool b1 ∧
br (b1) (
∀ q2 : Nat,
H2 q2 = none →
letH (Heap.upd H2 q2 (.cells #[.int .i64 n1] 3 (0, 0))) fun H3 =>
runH Tryz.prog (Builtin.append_ #[22, 22] 22 #[.slice out_1.p out_1.n out_1.c, .slice (some ⟨q2, 0, none⟩) 1 1]) H3 fun r2 H4 =>
∃ l1 : Sl,
r2 = .slice l1.p l1.n l1.c ∧
SelfEq ([.v (.func (.func 151) #[] #[]), .v (.slice m.p m.n m.c), .v (.slice l.p l.n l.c), .v (.int .i64 (l.n : Nat))], [], []) ∧
I1 l1 (IntKind.wrap .i64 (n_1 + 1)) H4 ∧
M1 l1 (IntKind.wrap .i64 (n_1 + 1)) H4 < M1 out_1 n_1 H1)
 (
SelfEq ([.v (.func (.func 151) #[] #[]), .v (.slice m.p m.n m.c), .v (.slice l.p l.n l.c), .v (.int .i64 (l.n : Nat))], [], []) ∧
I1 out_1 (IntKind.wrap .i64 (n_1 + 1)) H2 ∧
M1 out_1 (IntKind.wrap .i64 (n_1 + 1)) H2 < M1 out_1 n_1 H1))
 (
K (.slice out_1.p out_1.n out_1.c) H1)
theorem those_lacks_fn (l m : Sl) {H : Heap} {K : Value → Heap → Prop} (h : those_lacks_vc l m H K) : FnH Tryz.prog 131 #[.slice l.p l.n l.c, .func (.func 151) #[] #[], .slice m.p m.n m.c] H K :=
  denFn_fn Tryz.mixed those_lacks_ann Tryz.func131 (bodyOf_spec (by kernel_rfl)) (by kernel_rfl) h
def reassign_with_ann : Anns := { hid := [], loops := [], joins := [], mix := [] }
def reassign_with_vc (l m : Sl) (H : Heap) (K : Value → Heap → Prop) : Prop :=
FnH Tryz.prog 131 #[.slice l.p l.n l.c, .func (.func 132) #[] #[], .slice m.p m.n m.c] H fun r1 H1 =>
∃ l1 : Sl,
r1 = .slice l1.p l1.n l1.c ∧
K (.slice l1.p l1.n l1.c) H1
theorem reassign_with_fn (l m : Sl) {H : Heap} {K : Value → Heap → Prop} (h : reassign_with_vc l m H K) : FnH Tryz.prog 88 #[.slice l.p l.n l.c, .slice m.p m.n m.c] H K :=
  denFn_fn Tryz.mixed reassign_with_ann Tryz.func88 (bodyOf_spec (by kernel_rfl)) (by kernel_rfl) h
def reassign_without_ann : Anns := { hid := [], loops := [], joins := [], mix := [] }
def reassign_without_vc (l m : Sl) (H : Heap) (K : Value → Heap → Prop) : Prop :=
FnH Tryz.prog 131 #[.slice l.p l.n l.c, .func (.func 151) #[] #[], .slice m.p m.n m.c] H fun r1 H1 =>
∃ l1 : Sl,
r1 = .slice l1.p l1.n l1.c ∧
K (.slice l1.p l1.n l1.c) H1
theorem reassign_without_fn (l m : Sl) {H : Heap} {K : Value → Heap → Prop} (h : reassign_without_vc l m H K) : FnH Tryz.prog 112 #[.slice l.p l.n l.c, .slice m.p m.n m.c] H K :=
  denFn_fn Tryz.mixed reassign_without_ann Tryz.func112 (bodyOf_spec (by kernel_rfl)) (by kernel_rfl) h
def reassign_within_ann : Anns := { hid := [], loops := [], joins := [], mix := [] }
def reassign_within_vc (l m : Sl) (H : Heap) (K : Value → Heap → Prop) : Prop :=
FnH Tryz.prog 112 #[.slice l.p l.n l.c, .slice m.p m.n m.c] H fun r1 H1 =>
∃ l1 : Sl,
r1 = .slice l1.p l1.n l1.c ∧
K (.bool (((l1.n : Nat) : Int) == 0)) H1
theorem reassign_within_fn (l m : Sl) {H : Heap} {K : Value → Heap → Prop} (h : reassign_within_vc l m H K) : FnH Tryz.prog 87 #[.slice l.p l.n l.c, .slice m.p m.n m.c] H K :=
  denFn_fn Tryz.mixed reassign_within_ann Tryz.func87 (bodyOf_spec (by kernel_rfl)) (by kernel_rfl) h
def reassign_ids_ann : Anns := { hid := [], loops := [(0, { slots := [(7, .int .i64)], kept := [0, 5, 6], locs := [], keptL := [] })], joins := [], mix := [] }
def reassign_ids_vc (l : Sl) (H : Heap) (K : Value → Heap → Prop) : Prop :=
∃ I1 : Int → Heap → Prop,
∃ M1 : Int → Heap → Nat,
I1 0 H ∧
∀ n_1 : Int,
∀ H1 : Heap,
I1 n_1 H1 →
br (decide ((n_1 : Int) < (l.n : Nat))) (
∃ q1 o1 : Nat,
 (l.p : Option Addr) = some ⟨q1, o1, none⟩ ∧
0 ≤ (n_1 : Int) ∧
 (n_1 : Int) < (l.n : Nat) ∧
∃ n1 : Int,
cellH H1 ⟨q1, o1 + Int.toNat n_1, none⟩ = some (.int .i64 n1) ∧
br (decide ((n1 : Int) < 1)) (
K (.bool false) H1)
 (
br (decide ((n1 : Int) > 7)) (
K (.bool false) H1)
 (
0 ≤ (n_1 : Int) ∧
 (n_1 : Int) ≤ (l.c : Nat) ∧
FnH Tryz.prog 76 #[.slice (slP l.p l.c (0 : Int) 1) (Int.toNat (n_1 - (0 : Int))) (Int.toNat ((l.c : Nat) - (0 : Int))), .int .i64 n1] H1 fun r1 H2 =>
∃ b1 : Bool,
r1 = .bool b1 ∧
br (b1) (
K (.bool false) H2)
 (
SelfEq ([.v (.slice l.p l.n l.c), .v (.slice l.p l.n l.c), .v (.int .i64 (l.n : Nat))], [], []) ∧
I1 (IntKind.wrap .i64 (n_1 + 1)) H2 ∧
M1 (IntKind.wrap .i64 (n_1 + 1)) H2 < M1 n_1 H1))))
 (
K (.bool true) H1)
theorem reassign_ids_fn (l : Sl) {H : Heap} {K : Value → Heap → Prop} (h : reassign_ids_vc l H K) : FnH Tryz.prog 86 #[.slice l.p l.n l.c] H K :=
  denFn_fn Tryz.mixed reassign_ids_ann Tryz.func86 (bodyOf_spec (by kernel_rfl)) (by kernel_rfl) h
def reassign_Right_1_ann : Anns := { hid := [], loops := [], joins := [], mix := [] }
def reassign_Right_1_vc (n most : Int) (H : Heap) (K : Value → Heap → Prop) : Prop :=
br (decide ((n : Int) ≥ 1)) (
K (.bool (decide ((n : Int) ≤ most))) H)
 (
K (.bool false) H)
theorem reassign_Right_1_fn (n most : Int) {H : Heap} {K : Value → Heap → Prop} (h : reassign_Right_1_vc n most H K) : FnH Tryz.prog 85 #[.int .i64 n, .int .i64 most] H K :=
  denFn_fn Tryz.mixed reassign_Right_1_ann Tryz.func85 (bodyOf_spec (by kernel_rfl)) (by kernel_rfl) h
def reassign_broker_ann : Anns := { hid := [], loops := [], joins := [], mix := [] }
def reassign_broker_vc (id : Int) (H : Heap) (K : Value → Heap → Prop) : Prop :=
br (decide ((id : Int) ≥ 1)) (
K (.bool (decide ((id : Int) ≤ 7))) H)
 (
K (.bool false) H)
theorem reassign_broker_fn (id : Int) {H : Heap} {K : Value → Heap → Prop} (h : reassign_broker_vc id H K) : FnH Tryz.prog 108 #[.int .i64 id] H K :=
  denFn_fn Tryz.mixed reassign_broker_ann Tryz.func108 (bodyOf_spec (by kernel_rfl)) (by kernel_rfl) h
def slices_Clone_Lint_int_ann : Anns := { hid := [], loops := [], joins := [], mix := [] }
def slices_Clone_Lint_int_vc (s : Sl) (H : Heap) (K : Value → Heap → Prop) : Prop :=
br (Option.isNone s.p) (
K (.slice none 0 0) H)
 (
∀ q1 : Nat,
H q1 = none →
letH (Heap.upd H q1 (.cells #[] 3 (0, 0))) fun H1 =>
runH Tryz.prog (Builtin.append_ #[22, 22] 22 #[.slice (some ⟨q1, 0, none⟩) 0 0, .slice s.p s.n s.c]) H1 fun r1 H2 =>
∃ l1 : Sl,
r1 = .slice l1.p l1.n l1.c ∧
K (.slice l1.p l1.n l1.c) H2)
theorem slices_Clone_Lint_int_fn (s : Sl) {H : Heap} {K : Value → Heap → Prop} (h : slices_Clone_Lint_int_vc s H K) : FnH Tryz.prog 66 #[.slice s.p s.n s.c] H K :=
  denFn_fn Tryz.mixed slices_Clone_Lint_int_ann Tryz.func66 (bodyOf_spec (by kernel_rfl)) (by kernel_rfl) h
def slices_Equal_Lint_int_ann : Anns := { hid := [], loops := [(0, { slots := [(13, .int .i64)], kept := [0, 1, 12], locs := [], keptL := [] })], joins := [], mix := [] }
def slices_Equal_Lint_int_vc (ss1 ss2 : Sl) (H : Heap) (K : Value → Heap → Prop) : Prop :=
br (((ss1.n : Nat) : Int) != (ss2.n : Nat)) (
K (.bool false) H)
 (
∃ I1 : Int → Heap → Prop,
∃ M1 : Int → Heap → Nat,
I1 0 H ∧
∀ n_1 : Int,
∀ H1 : Heap,
I1 n_1 H1 →
br (decide ((n_1 : Int) < (ss1.n : Nat))) (
∃ q1 o1 : Nat,
 (ss1.p : Option Addr) = some ⟨q1, o1, none⟩ ∧
0 ≤ (n_1 : Int) ∧
 (n_1 : Int) < (ss1.n : Nat) ∧
∃ n1 : Int,
cellH H1 ⟨q1, o1 + Int.toNat n_1, none⟩ = some (.int .i64 n1) ∧
∃ q2 o2 : Nat,
 (ss2.p : Option Addr) = some ⟨q2, o2, none⟩ ∧
0 ≤ (n_1 : Int) ∧
 (n_1 : Int) < (ss2.n : Nat) ∧
∃ n2 : Int,
cellH H1 ⟨q2, o2 + Int.toNat n_1, none⟩ = some (.int .i64 n2) ∧
br ((n1 : Int) != n2) (
K (.bool false) H1)
 (
SelfEq ([.v (.slice ss1.p ss1.n ss1.c), .v (.slice ss2.p ss2.n ss2.c), .v (.int .i64 (ss1.n : Nat))], [], []) ∧
I1 (IntKind.wrap .i64 (n_1 + 1)) H1 ∧
M1 (IntKind.wrap .i64 (n_1 + 1)) H1 < M1 n_1 H1))
 (
K (.bool true) H1))
theorem slices_Equal_Lint_int_fn (ss1 ss2 : Sl) {H : Heap} {K : Value → Heap → Prop} (h : slices_Equal_Lint_int_vc ss1 ss2 H K) : FnH Tryz.prog 114 #[.slice ss1.p ss1.n ss1.c, .slice ss2.p ss2.n ss2.c] H K :=
  denFn_fn Tryz.mixed slices_Equal_Lint_int_ann Tryz.func114 (bodyOf_spec (by kernel_rfl)) (by kernel_rfl) h
def reassign_open_ann : Anns := { hid := [1], loops := [], joins := [], mix := [] }
def reassign_open_vc (p_0 p_1 p_2 p_3 : Int) (p_4 p_5 p_6 p_7 : Sl) (p_8 : Int) (H : Heap) (K : Value → Heap → Prop) : Prop :=
K (.bool (decide (((IntKind.wrap .i64 ((p_6.n : Nat) + (p_7.n : Nat))) : Int) > 0))) H
theorem reassign_open_fn (p_0 p_1 p_2 p_3 : Int) (p_4 p_5 p_6 p_7 : Sl) (p_8 : Int) {H : Heap} {K : Value → Heap → Prop} (h : reassign_open_vc p_0 p_1 p_2 p_3 p_4 p_5 p_6 p_7 p_8 H K) : FnH Tryz.prog 113 #[.agg #[.int .i64 p_0, .int .i64 p_1, .int .i64 p_2, .int .i64 p_3, .slice p_4.p p_4.n p_4.c, .slice p_5.p p_5.n p_5.c, .slice p_6.p p_6.n p_6.c, .slice p_7.p p_7.n p_7.c, .int .i64 p_8]] H K :=
  denFn_fn Tryz.mixed reassign_open_ann Tryz.func113 (bodyOf_spec (by kernel_rfl)) (by kernel_rfl) h
def reassign_changed_ann : Anns := { hid := [1, 2], loops := [], joins := [], mix := [] }
def reassign_changed_vc (p_0 p_1 p_2 p_3 : Int) (p_4 p_5 p_6 p_7 : Sl) (p_8 : Int) (H : Heap) (K : Value → Heap → Prop) : Prop :=
br (decide (((if p_2 > (IntKind.wrap .i64 (p_3 + 1)) then p_2 else (IntKind.wrap .i64 (p_3 + 1))) : Int) > 1000000000)) (
K (.tuple #[.agg #[.int .i64 0, .int .i64 0, .int .i64 0, .int .i64 0, .slice none 0 0, .slice none 0 0, .slice none 0 0, .slice none 0 0, .int .i64 0], .int .i64 20]) H)
 (
K (.tuple #[.agg #[.int .i64 p_0, .int .i64 p_1, .int .i64 p_2, .int .i64 (IntKind.wrap .i64 (p_3 + 1)), .slice p_4.p p_4.n p_4.c, .slice p_5.p p_5.n p_5.c, .slice p_6.p p_6.n p_6.c, .slice p_7.p p_7.n p_7.c, .int .i64 p_8], .int .i64 0]) H)
theorem reassign_changed_fn (p_0 p_1 p_2 p_3 : Int) (p_4 p_5 p_6 p_7 : Sl) (p_8 : Int) {H : Heap} {K : Value → Heap → Prop} (h : reassign_changed_vc p_0 p_1 p_2 p_3 p_4 p_5 p_6 p_7 p_8 H K) : FnH Tryz.prog 110 #[.agg #[.int .i64 p_0, .int .i64 p_1, .int .i64 p_2, .int .i64 p_3, .slice p_4.p p_4.n p_4.c, .slice p_5.p p_5.n p_5.c, .slice p_6.p p_6.n p_6.c, .slice p_7.p p_7.n p_7.c, .int .i64 p_8]] H K :=
  denFn_fn Tryz.mixed reassign_changed_ann Tryz.func110 (bodyOf_spec (by kernel_rfl)) (by kernel_rfl) h
def reassign_led_ann : Anns := { hid := [], loops := [], joins := [], mix := [] }
def reassign_led_vc (p po : Nat) (leader : Int) (H : Heap) (K : Value → Heap → Prop) : Prop :=
∃ n1 : Int,
cellH H ⟨p, po + 1, none⟩ = some (.int .i64 n1) ∧
br ((n1 : Int) != leader) (
 (∃ u, cellH H ⟨p, po + 1, none⟩ = some u) ∧
frozenH H ⟨p, po + 1, none⟩ = false ∧
letH (Heap.set H ⟨p, po + 1, none⟩ (.int .i64 leader)) fun H1 =>
∃ n2 : Int,
cellH H1 ⟨p, po + 2, none⟩ = some (.int .i64 n2) ∧
 (∃ u, cellH H1 ⟨p, po + 2, none⟩ = some u) ∧
frozenH H1 ⟨p, po + 2, none⟩ = false ∧
letH (Heap.set H1 ⟨p, po + 2, none⟩ (.int .i64 (IntKind.wrap .i64 (n2 + 1)))) fun H2 =>
K (.tuple #[]) H2)
 (
K (.tuple #[]) H)
theorem reassign_led_fn (p po : Nat) (leader : Int) {H : Heap} {K : Value → Heap → Prop} (h : reassign_led_vc p po leader H K) : FnH Tryz.prog 109 #[.pointer (some ⟨p, po, none⟩), .int .i64 leader] H K :=
  denFn_fn Tryz.mixed reassign_led_ann Tryz.func109 (bodyOf_spec (by kernel_rfl)) (by kernel_rfl) h
def reassign_way_ann : Anns := { hid := [], loops := [(0, { slots := [(17, .int .i64)], kept := [3, 15, 16], locs := [], keptL := [] })], joins := [], mix := [] }
def reassign_way_vc (l isr up : Sl) (but : Int) (H : Heap) (K : Value → Heap → Prop) : Prop :=
FnH Tryz.prog 88 #[.slice l.p l.n l.c, .slice isr.p isr.n isr.c] H fun r1 H1 =>
∃ l1 : Sl,
r1 = .slice l1.p l1.n l1.c ∧
FnH Tryz.prog 88 #[.slice l1.p l1.n l1.c, .slice up.p up.n up.c] H1 fun r2 H2 =>
∃ l2 : Sl,
r2 = .slice l2.p l2.n l2.c ∧
∃ I1 : Int → Heap → Prop,
∃ M1 : Int → Heap → Nat,
I1 0 H2 ∧
∀ n_1 : Int,
∀ H3 : Heap,
I1 n_1 H3 →
br (decide ((n_1 : Int) < (l2.n : Nat))) (
∃ q1 o1 : Nat,
 (l2.p : Option Addr) = some ⟨q1, o1, none⟩ ∧
0 ≤ (n_1 : Int) ∧
 (n_1 : Int) < (l2.n : Nat) ∧
∃ n1 : Int,
cellH H3 ⟨q1, o1 + Int.toNat n_1, none⟩ = some (.int .i64 n1) ∧
br ((n1 : Int) != but) (
K (.int .i64 n1) H3)
 (
SelfEq ([.v (.int .i64 but), .v (.slice l2.p l2.n l2.c), .v (.int .i64 (l2.n : Nat))], [], []) ∧
I1 (IntKind.wrap .i64 (n_1 + 1)) H3 ∧
M1 (IntKind.wrap .i64 (n_1 + 1)) H3 < M1 n_1 H3))
 (
K (.int .i64 0) H3)
theorem reassign_way_fn (l isr up : Sl) (but : Int) {H : Heap} {K : Value → Heap → Prop} (h : reassign_way_vc l isr up but H K) : FnH Tryz.prog 115 #[.slice l.p l.n l.c, .slice isr.p isr.n isr.c, .slice up.p up.n up.c, .int .i64 but] H K :=
  denFn_fn Tryz.mixed reassign_way_ann Tryz.func115 (bodyOf_spec (by kernel_rfl)) (by kernel_rfl) h
def reassign_Clone_ann : Anns := { hid := [2], loops := [(0, { slots := [(11, .int .i64)], kept := [1, 2, 9, 10], locs := [], keptL := [0] })], joins := [], mix := [] }
def reassign_Clone_vc (p_0 p_1 p_2 p_3 : Int) (p_4 p_5 p_6 p_7 : Sl) (p_8 : Int) (H : Heap) (K : Value → Heap → Prop) : Prop :=
∀ q1 : Nat,
H q1 = none →
letH (Heap.upd H q1 (.cells #[.int .i64 p_0, .int .i64 p_1, .int .i64 p_2, .int .i64 p_3, .slice p_4.p p_4.n p_4.c, .slice p_5.p p_5.n p_5.c, .slice p_6.p p_6.n p_6.c, .slice p_7.p p_7.n p_7.c, .int .i64 p_8] 41 (0, 0))) fun H1 =>
∀ q2 : Nat,
H1 q2 = none →
letH (Heap.upd H1 q2 (.cells #[.pointer (some ⟨q1, 4, none⟩), .pointer (some ⟨q1, 5, none⟩), .pointer (some ⟨q1, 6, none⟩), .pointer (some ⟨q1, 7, none⟩)] 88 (0, 0))) fun H2 =>
∃ I1 : Int → Heap → Prop,
∃ M1 : Int → Heap → Nat,
I1 0 H2 ∧
∀ n_1 : Int,
∀ H3 : Heap,
I1 n_1 H3 →
br (decide ((n_1 : Int) < (4 : Nat))) (
∃ q3 o1 : Nat,
 ((some ⟨q2, 0, none⟩) : Option Addr) = some ⟨q3, o1, none⟩ ∧
0 ≤ (n_1 : Int) ∧
 (n_1 : Int) < (4 : Nat) ∧
∃ p1 : Option Addr,
cellH H3 ⟨q3, o1 + Int.toNat n_1, none⟩ = some (.pointer p1) ∧
ptrm p1 fun q4 o2 =>
∃ l1 : Sl,
cellH H3 ⟨q4, o2, none⟩ = some (.slice l1.p l1.n l1.c) ∧
FnH Tryz.prog 66 #[.slice l1.p l1.n l1.c] H3 fun r1 H4 =>
∃ l2 : Sl,
r1 = .slice l2.p l2.n l2.c ∧
ptrm p1 fun q5 o3 =>
 (∃ u, cellH H4 ⟨q5, o3, none⟩ = some u) ∧
frozenH H4 ⟨q5, o3, none⟩ = false ∧
letH (Heap.set H4 ⟨q5, o3, none⟩ (.slice l2.p l2.n l2.c)) fun H5 =>
SelfEq ([.v (.pointer (some ⟨q1, 0, none⟩)), .loc 0 0, .v (.slice (some ⟨q2, 0, none⟩) 4 4), .v (.int .i64 (4 : Nat))], [some (41, [.int .i64 0, .int .i64 0, .int .i64 0, .int .i64 0, .slice none 0 0, .slice none 0 0, .slice none 0 0, .slice none 0 0, .int .i64 0])], []) ∧
I1 (IntKind.wrap .i64 (n_1 + 1)) H5 ∧
M1 (IntKind.wrap .i64 (n_1 + 1)) H5 < M1 n_1 H3)
 (
∃ n1 : Int,
cellH H3 ⟨q1, 0, none⟩ = some (.int .i64 n1) ∧
∃ n2 : Int,
cellH H3 ⟨q1, 1, none⟩ = some (.int .i64 n2) ∧
∃ n3 : Int,
cellH H3 ⟨q1, 2, none⟩ = some (.int .i64 n3) ∧
∃ n4 : Int,
cellH H3 ⟨q1, 3, none⟩ = some (.int .i64 n4) ∧
∃ l3 : Sl,
cellH H3 ⟨q1, 4, none⟩ = some (.slice l3.p l3.n l3.c) ∧
∃ l4 : Sl,
cellH H3 ⟨q1, 5, none⟩ = some (.slice l4.p l4.n l4.c) ∧
∃ l5 : Sl,
cellH H3 ⟨q1, 6, none⟩ = some (.slice l5.p l5.n l5.c) ∧
∃ l6 : Sl,
cellH H3 ⟨q1, 7, none⟩ = some (.slice l6.p l6.n l6.c) ∧
∃ n5 : Int,
cellH H3 ⟨q1, 8, none⟩ = some (.int .i64 n5) ∧
K (.agg #[.int .i64 n1, .int .i64 n2, .int .i64 n3, .int .i64 n4, .slice l3.p l3.n l3.c, .slice l4.p l4.n l4.c, .slice l5.p l5.n l5.c, .slice l6.p l6.n l6.c, .int .i64 n5]) H3)
theorem reassign_Clone_fn (p_0 p_1 p_2 p_3 : Int) (p_4 p_5 p_6 p_7 : Sl) (p_8 : Int) {H : Heap} {K : Value → Heap → Prop} (h : reassign_Clone_vc p_0 p_1 p_2 p_3 p_4 p_5 p_6 p_7 p_8 H K) : FnH Tryz.prog 37 #[.agg #[.int .i64 p_0, .int .i64 p_1, .int .i64 p_2, .int .i64 p_3, .slice p_4.p p_4.n p_4.c, .slice p_5.p p_5.n p_5.c, .slice p_6.p p_6.n p_6.c, .slice p_7.p p_7.n p_7.c, .int .i64 p_8]] H K :=
  denFn_fn Tryz.mixed reassign_Clone_ann Tryz.func37 (bodyOf_spec (by kernel_rfl)) (by kernel_rfl) h
def logboomlaw12_sameList_ann : Anns := { hid := [], loops := [(0, { slots := [(5, .int .i64)], kept := [0, 1], locs := [], keptL := [] })], joins := [], mix := [] }
def logboomlaw12_sameList_vc (a b : Sl) (H : Heap) (K : Value → Heap → Prop) : Prop :=
br (((a.n : Nat) : Int) != (b.n : Nat)) (
K (.bool false) H)
 (
∃ I1 : Int → Heap → Prop,
∃ M1 : Int → Heap → Nat,
I1 0 H ∧
∀ i_1 : Int,
∀ H1 : Heap,
I1 i_1 H1 →
br (decide ((i_1 : Int) < (a.n : Nat))) (
∃ q1 o1 : Nat,
 (a.p : Option Addr) = some ⟨q1, o1, none⟩ ∧
0 ≤ (i_1 : Int) ∧
 (i_1 : Int) < (a.n : Nat) ∧
∃ n1 : Int,
cellH H1 ⟨q1, o1 + Int.toNat i_1, none⟩ = some (.int .i64 n1) ∧
∃ q2 o2 : Nat,
 (b.p : Option Addr) = some ⟨q2, o2, none⟩ ∧
0 ≤ (i_1 : Int) ∧
 (i_1 : Int) < (b.n : Nat) ∧
∃ n2 : Int,
cellH H1 ⟨q2, o2 + Int.toNat i_1, none⟩ = some (.int .i64 n2) ∧
br ((n1 : Int) != n2) (
K (.bool false) H1)
 (
SelfEq ([.v (.slice a.p a.n a.c), .v (.slice b.p b.n b.c)], [], []) ∧
I1 (IntKind.wrap .i64 (i_1 + 1)) H1 ∧
M1 (IntKind.wrap .i64 (i_1 + 1)) H1 < M1 i_1 H1))
 (
K (.bool true) H1))
theorem logboomlaw12_sameList_fn (a b : Sl) {H : Heap} {K : Value → Heap → Prop} (h : logboomlaw12_sameList_vc a b H K) : FnH Tryz.prog 31 #[.slice a.p a.n a.c, .slice b.p b.n b.c] H K :=
  denFn_fn Tryz.mixed logboomlaw12_sameList_ann Tryz.func31 (bodyOf_spec (by kernel_rfl)) (by kernel_rfl) h
def logboomlaw12_pick_ann : Anns := { hid := [], loops := [], joins := [], mix := [] }
def logboomlaw12_pick_vc (c n : Int) (H : Heap) (K : Value → Heap → Prop) : Prop :=
br (decide ((c : Int) < 0)) (
 (n : Int) ≠ 0 ∧
K (.int .i64 (Int.tmod (IntKind.wrap .i64 (0 - (IntKind.wrap .i64 (c + 1)))) n)) H)
 (
 (n : Int) ≠ 0 ∧
K (.int .i64 (Int.tmod c n)) H)
theorem logboomlaw12_pick_fn (c n : Int) {H : Heap} {K : Value → Heap → Prop} (h : logboomlaw12_pick_vc c n H K) : FnH Tryz.prog 11 #[.int .i64 c, .int .i64 n] H K :=
  denFn_fn Tryz.mixed logboomlaw12_pick_ann Tryz.func11 (bodyOf_spec (by kernel_rfl)) (by kernel_rfl) h
end Go.Proofs.YtmofinghoacobaaGreatDoor
