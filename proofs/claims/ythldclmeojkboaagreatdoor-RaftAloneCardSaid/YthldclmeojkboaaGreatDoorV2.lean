import Derived.Test.YthldclmeojkboaaGreatDoorProg
import Derived.KernelRfl
import Derived.Test.YthldclmeojkboaaGreatDoorHlFn
import Derived.Test.YthldclmeojkboaaGreatDoorVp
namespace Go.Proofs.YthldclmeojkboaaGreatDoor
open Go.HL
set_option maxRecDepth 100000
def raft_Node_said_ann : Anns := { hid := [], loops := [], joins := [], mix := [] }
def raft_Node_said_vc (n no : Nat) (H : Heap) (K : Value → Heap → Prop) : Prop :=
∃ l1 : Sl,
cellH H ⟨n, no + 11, none⟩ = some (.slice l1.p l1.n l1.c) ∧
 (∃ u, cellH H ⟨n, no + 11, none⟩ = some u) ∧
frozenH H ⟨n, no + 11, none⟩ = false ∧
letH (Heap.set H ⟨n, no + 11, none⟩ (.slice none 0 0)) fun H1 =>
K (.slice l1.p l1.n l1.c) H1
theorem raft_Node_said_fn (n no : Nat) {H : Heap} {K : Value → Heap → Prop} (h : raft_Node_said_vc n no H K) : FnH Tryz.prog 37 #[.pointer (some ⟨n, no, none⟩)] H K :=
  denFn_fn Tryz.mixed raft_Node_said_ann Tryz.func37 (bodyOf_spec (by kernel_rfl)) (by kernel_rfl) h
def raft_Node_anew_ann : Anns := { hid := [], loops := [], joins := [], mix := [(0, [19])] }
def raft_Node_anew_vc (n no : Nat) (now : Int) (H : Heap) (K : Value → Heap → Prop) : Prop :=
∃ n1 : Int,
cellH H ⟨n, no + 1, none⟩ = some (.int .i64 n1) ∧
∃ n2 : Int,
cellH H ⟨n, no + 10, none⟩ = some (.int .i64 n2) ∧
∃ n3 : Int,
cellH H ⟨n, no + 1, none⟩ = some (.int .i64 n3) ∧
 (n3 : Int) ≠ 0 ∧
 (∃ u, cellH H ⟨n, no + 8, none⟩ = some u) ∧
frozenH H ⟨n, no + 8, none⟩ = false ∧
letH (Heap.set H ⟨n, no + 8, none⟩ (.int .i64 (IntKind.wrap .i64 ((IntKind.wrap .i64 (now + n1)) + (Int.tmod n2 n3))))) fun H1 =>
K (.tuple #[]) H1
theorem raft_Node_anew_fn (n no : Nat) (now : Int) {H : Heap} {K : Value → Heap → Prop} (h : raft_Node_anew_vc n no now H K) : FnH Tryz.prog 38 #[.pointer (some ⟨n, no, none⟩), .int .i64 now] H K :=
  denFn_fn Tryz.mixed raft_Node_anew_ann Tryz.func38 (bodyOf_spec (by kernel_rfl)) (by kernel_rfl) h
def raft_Node_follow_ann : Anns := { hid := [], loops := [], joins := [], mix := [] }
def raft_Node_follow_vc (n no : Nat) (id : Int) (H : Heap) (K : Value → Heap → Prop) : Prop :=
 (∃ u, cellH H ⟨n, no + 3, none⟩ = some u) ∧
frozenH H ⟨n, no + 3, none⟩ = false ∧
letH (Heap.set H ⟨n, no + 3, none⟩ (.int .i64 0)) fun H1 =>
 (∃ u, cellH H1 ⟨n, no + 4, none⟩ = some u) ∧
frozenH H1 ⟨n, no + 4, none⟩ = false ∧
letH (Heap.set H1 ⟨n, no + 4, none⟩ (.int .i64 id)) fun H2 =>
K (.tuple #[]) H2
theorem raft_Node_follow_fn (n no : Nat) (id : Int) {H : Heap} {K : Value → Heap → Prop} (h : raft_Node_follow_vc n no id H K) : FnH Tryz.prog 46 #[.pointer (some ⟨n, no, none⟩), .int .i64 id] H K :=
  denFn_fn Tryz.mixed raft_Node_follow_ann Tryz.func46 (bodyOf_spec (by kernel_rfl)) (by kernel_rfl) h
def raft_Node_tell_ann : Anns := { hid := [3], loops := [], joins := [], mix := [(1, [12, 14]), (2, [7, 10])] }
def raft_Node_tell_vc (n no : Nat) (m_0 m_1 m_2 m_3 m_4 m_5 m_6 m_7 m_8 m_9 m_10 m_11 m_12 m_13 m_14 m_15 : Int) (m_16 m_17 : ByteArray) (m_18 m_19 m_20 : Sl) (H : Heap) (K : Value → Heap → Prop) : Prop :=
∃ n1 : Int,
cellH H ⟨n, no, none⟩ = some (.int .i64 n1) ∧
∃ p1 : Option Addr,
cellH H ⟨n, no + 2, none⟩ = some (.pointer p1) ∧
ptrm p1 fun q1 o1 =>
FnH Tryz.prog 42 #[.pointer (some ⟨q1, o1, none⟩)] H fun r1 H1 =>
∃ n2 : Int,
r1 = .int .i64 n2 ∧
Sub H H1 ∧
∃ l1 : Sl,
cellH H1 ⟨n, no + 11, none⟩ = some (.slice l1.p l1.n l1.c) ∧
∀ q2 : Nat,
H1 q2 = none →
letH (Heap.upd H1 q2 (.cells #[.int .i64 m_0, .int .i64 n1, .int .i64 m_2, .int .i64 m_3, .int .i64 m_4, .int .i64 m_5, .int .i64 m_6, .int .i64 m_7, .int .i64 m_8, .int .i64 m_9, .int .i64 n2, .int .i64 m_11, .int .i64 m_12, .int .i64 m_13, .int .i64 m_14, .int .i64 m_15, .string m_16, .string m_17, .slice m_18.p m_18.n m_18.c, .slice m_19.p m_19.n m_19.c, .slice m_20.p m_20.n m_20.c] 33 (0, 0))) fun H2 =>
Sub H1 H2 ∧
runH Tryz.prog (Builtin.append_ #[36, 36] 36 #[.slice l1.p l1.n l1.c, .slice (some ⟨q2, 0, none⟩) 1 1]) H2 fun r2 H3 =>
∃ l2 : Sl,
r2 = .slice l2.p l2.n l2.c ∧
 (∃ u, cellH H3 ⟨n, no + 11, none⟩ = some u) ∧
frozenH H3 ⟨n, no + 11, none⟩ = false ∧
letH (Heap.set H3 ⟨n, no + 11, none⟩ (.slice l2.p l2.n l2.c)) fun H4 =>
K (.tuple #[]) H4
theorem raft_Node_tell_fn (n no : Nat) (m_0 m_1 m_2 m_3 m_4 m_5 m_6 m_7 m_8 m_9 m_10 m_11 m_12 m_13 m_14 m_15 : Int) (m_16 m_17 : ByteArray) (m_18 m_19 m_20 : Sl) {H : Heap} {K : Value → Heap → Prop} (h : raft_Node_tell_vc n no m_0 m_1 m_2 m_3 m_4 m_5 m_6 m_7 m_8 m_9 m_10 m_11 m_12 m_13 m_14 m_15 m_16 m_17 m_18 m_19 m_20 H K) : FnH Tryz.prog 47 #[.pointer (some ⟨n, no, none⟩), .agg #[.int .i64 m_0, .int .i64 m_1, .int .i64 m_2, .int .i64 m_3, .int .i64 m_4, .int .i64 m_5, .int .i64 m_6, .int .i64 m_7, .int .i64 m_8, .int .i64 m_9, .int .i64 m_10, .int .i64 m_11, .int .i64 m_12, .int .i64 m_13, .int .i64 m_14, .int .i64 m_15, .string m_16, .string m_17, .slice m_18.p m_18.n m_18.c, .slice m_19.p m_19.n m_19.c, .slice m_20.p m_20.n m_20.c]] H K :=
  denFn_fn Tryz.mixed raft_Node_tell_ann Tryz.func47 (bodyOf_spec (by kernel_rfl)) (by kernel_rfl) h
def raft_voted_ann : Anns := { hid := [], loops := [], joins := [], mix := [] }
def raft_voted_vc (p po : Nat) (H : Heap) (K : Value → Heap → Prop) : Prop :=
∃ b1 : Bool,
cellH H ⟨p, po + 3, none⟩ = some (.bool b1) ∧
K (.bool b1) H
theorem raft_voted_fn (p po : Nat) {H : Heap} {K : Value → Heap → Prop} (h : raft_voted_vc p po H K) : FnH Tryz.prog 80 #[.pointer (some ⟨p, po, none⟩)] H K :=
  denFn_fn Tryz.mixed raft_voted_ann Tryz.func80 (bodyOf_spec (by kernel_rfl)) (by kernel_rfl) h
def raft_Node_advance_1_ann : Anns := { hid := [], loops := [], joins := [], mix := [] }
def raft_Node_advance_1_vc (p po c0_c : Nat) (H : Heap) (K : Value → Heap → Prop) : Prop :=
∃ n1 : Int,
cellH H ⟨p, po + 2, none⟩ = some (.int .i64 n1) ∧
∃ n2 : Int,
cellH H ⟨c0_c, 0, none⟩ = some (.int .i64 n2) ∧
K (.bool (decide ((n1 : Int) ≥ n2))) H
theorem raft_Node_advance_1_fn (p po c0_c : Nat) {H : Heap} {K : Value → Heap → Prop} (h : raft_Node_advance_1_vc p po c0_c H K) : FnH Tryz.prog 93 #[.pointer (some ⟨p, po, none⟩), .pointer (some ⟨c0_c, 0, none⟩)] H K :=
  denFn_fn Tryz.mixed raft_Node_advance_1_ann Tryz.func93 (bodyOf_spec (by kernel_rfl)) (by kernel_rfl) h
def raft_Node_Step_1_ann : Anns := { hid := [], loops := [], joins := [], mix := [] }
def raft_Node_Step_1_vc (p po c0_c : Nat) (H : Heap) (K : Value → Heap → Prop) : Prop :=
∃ n1 : Int,
cellH H ⟨p, po, none⟩ = some (.int .i64 n1) ∧
∃ n2 : Int,
cellH H ⟨c0_c, 1, none⟩ = some (.int .i64 n2) ∧
K (.bool ((n1 : Int) == n2)) H
theorem raft_Node_Step_1_fn (p po c0_c : Nat) {H : Heap} {K : Value → Heap → Prop} (h : raft_Node_Step_1_vc p po c0_c H K) : FnH Tryz.prog 44 #[.pointer (some ⟨p, po, none⟩), .pointer (some ⟨c0_c, 0, none⟩)] H K :=
  denFn_fn Tryz.mixed raft_Node_Step_1_ann Tryz.func44 (bodyOf_spec (by kernel_rfl)) (by kernel_rfl) h
def raft_Node_at_ann : Anns := { hid := [8], loops := [], joins := [], mix := [] }
def raft_Node_at_vc (n no : Nat) (index : Int) (H : Heap) (K : Value → Heap → Prop) : Prop :=
∃ p1 : Option Addr,
cellH H ⟨n, no + 2, none⟩ = some (.pointer p1) ∧
ptrm p1 fun q1 o1 =>
FnH Tryz.prog 56 #[.pointer (some ⟨q1, o1, none⟩)] H fun r1 H1 =>
∃ n1 n2 : Int,
∃ s1 : ByteArray,
r1 = .tuple #[.int .i64 n1, .int .i64 n2, .string s1] ∧
∃ p2 : Option Addr,
cellH H1 ⟨n, no + 2, none⟩ = some (.pointer p2) ∧
ptrm p2 fun q2 o2 =>
FnH Tryz.prog 94 #[.pointer (some ⟨q2, o2, none⟩), .int .i64 index] H1 fun r2 H2 =>
∃ n3 n4 : Int,
∃ s2 : ByteArray,
∃ b1 : Bool,
r2 = .tuple #[.agg #[.int .i64 n3, .int .i64 n4, .string s2], .bool b1] ∧
br ((index : Int) == 0) (
K (.int .i64 0) H2)
 (
br ((index : Int) == n1) (
K (.int .i64 n2) H2)
 (
br (b1) (
K (.int .i64 n3) H2)
 (
K (.int .i64 (-1)) H2)))
theorem raft_Node_at_fn (n no : Nat) (index : Int) {H : Heap} {K : Value → Heap → Prop} (h : raft_Node_at_vc n no index H K) : FnH Tryz.prog 90 #[.pointer (some ⟨n, no, none⟩), .int .i64 index] H K :=
  denFn_fn Tryz.mixed raft_Node_at_ann Tryz.func90 (bodyOf_spec (by kernel_rfl)) (by kernel_rfl) h
def raft_Node_send_ann : Anns := { hid := [], loops := [], joins := [], mix := [(0, []), (3, [33])] }
def raft_Node_send_vc (n no p po : Nat) (H : Heap) (K : Value → Heap → Prop) : Prop :=
∃ n1 : Int,
cellH H ⟨p, po + 1, none⟩ = some (.int .i64 n1) ∧
∃ p1 : Option Addr,
cellH H ⟨n, no + 2, none⟩ = some (.pointer p1) ∧
ptrm p1 fun q1 o1 =>
FnH Tryz.prog 89 #[.pointer (some ⟨q1, o1, none⟩)] H fun r1 H1 =>
∃ n2 : Int,
r1 = .int .i64 n2 ∧
Sub H H1 ∧
br (decide ((n1 : Int) < n2)) (
∃ p2 : Option Addr,
cellH H1 ⟨n, no + 2, none⟩ = some (.pointer p2) ∧
ptrm p2 fun q2 o2 =>
FnH Tryz.prog 56 #[.pointer (some ⟨q2, o2, none⟩)] H1 fun r2 H2 =>
∃ n3 n4 : Int,
∃ s1 : ByteArray,
r2 = .tuple #[.int .i64 n3, .int .i64 n4, .string s1] ∧
∃ n5 : Int,
cellH H2 ⟨p, po, none⟩ = some (.int .i64 n5) ∧
FnH Tryz.prog 47 #[.pointer (some ⟨n, no, none⟩), .agg #[.int .i64 5, .int .i64 0, .int .i64 n5, .int .i64 0, .int .i64 0, .int .i64 0, .int .i64 0, .int .i64 n4, .int .i64 0, .int .i64 0, .int .i64 0, .int .i64 n3, .int .i64 0, .int .i64 0, .int .i64 0, .int .i64 0, .string (⟨#[]⟩ : ByteArray), .string s1, .slice none 0 0, .slice none 0 0, .slice none 0 0]] H2 fun r3 H3 =>
r3 = .tuple #[] ∧
K (.tuple #[]) H3)
 (
∃ n6 : Int,
cellH H1 ⟨p, po, none⟩ = some (.int .i64 n6) ∧
∃ n7 : Int,
cellH H1 ⟨p, po + 1, none⟩ = some (.int .i64 n7) ∧
∃ n8 : Int,
cellH H1 ⟨p, po + 1, none⟩ = some (.int .i64 n8) ∧
∃ n9 : Int,
cellH H1 ⟨n, no + 6, none⟩ = some (.int .i64 n9) ∧
∃ p3 : Option Addr,
cellH H1 ⟨n, no + 2, none⟩ = some (.pointer p3) ∧
ptrm p3 fun q3 o3 =>
∃ n10 : Int,
cellH H1 ⟨p, po + 1, none⟩ = some (.int .i64 n10) ∧
FnH Tryz.prog 90 #[.pointer (some ⟨n, no, none⟩), .int .i64 (IntKind.wrap .i64 (n8 - 1))] H1 fun r4 H4 =>
∃ n11 : Int,
r4 = .int .i64 n11 ∧
Sub H1 H4 ∧
FnH Tryz.prog 57 #[.pointer (some ⟨q3, o3, none⟩), .int .i64 n10, .int .i64 16] H4 fun r5 H5 =>
∃ l1 : Sl,
r5 = .slice l1.p l1.n l1.c ∧
Sub H1 H5 ∧
FnH Tryz.prog 47 #[.pointer (some ⟨n, no, none⟩), .agg #[.int .i64 3, .int .i64 0, .int .i64 n6, .int .i64 0, .int .i64 0, .int .i64 0, .int .i64 0, .int .i64 n11, .int .i64 0, .int .i64 n9, .int .i64 0, .int .i64 (IntKind.wrap .i64 (n7 - 1)), .int .i64 0, .int .i64 0, .int .i64 0, .int .i64 0, .string (⟨#[]⟩ : ByteArray), .string (⟨#[]⟩ : ByteArray), .slice none 0 0, .slice l1.p l1.n l1.c, .slice none 0 0]] H5 fun r6 H6 =>
r6 = .tuple #[] ∧
K (.tuple #[]) H6)
theorem raft_Node_send_fn (n no p po : Nat) {H : Heap} {K : Value → Heap → Prop} (h : raft_Node_send_vc n no p po H K) : FnH Tryz.prog 88 #[.pointer (some ⟨n, no, none⟩), .pointer (some ⟨p, po, none⟩)] H K :=
  denFn_fn Tryz.mixed raft_Node_send_ann Tryz.func88 (bodyOf_spec (by kernel_rfl)) (by kernel_rfl) h
def raft_Node_all_ann : Anns := { hid := [], loops := [(0, { slots := [(9, .int .i64)], kept := [0, 7, 8], locs := [], keptL := [] })], joins := [], mix := [] }
def raft_Node_all_vc (n no : Nat) (H : Heap) (K : Value → Heap → Prop) : Prop :=
∃ l1 : Sl,
cellH H ⟨n, no + 5, none⟩ = some (.slice l1.p l1.n l1.c) ∧
∃ I1 : Int → Heap → Prop,
∃ M1 : Int → Heap → Nat,
I1 0 H ∧
∀ n_1 : Int,
∀ H1 : Heap,
I1 n_1 H1 →
br (decide ((n_1 : Int) < (l1.n : Nat))) (
∃ q1 o1 : Nat,
 (l1.p : Option Addr) = some ⟨q1, o1, none⟩ ∧
0 ≤ (n_1 : Int) ∧
 (n_1 : Int) < (l1.n : Nat) ∧
∃ p1 : Option Addr,
cellH H1 ⟨q1, o1 + Int.toNat n_1, none⟩ = some (.pointer p1) ∧
FnH Tryz.prog 88 #[.pointer (some ⟨n, no, none⟩), .pointer p1] H1 fun r1 H2 =>
r1 = .tuple #[] ∧
SelfEq ([.v (.pointer (some ⟨n, no, none⟩)), .v (.slice l1.p l1.n l1.c), .v (.int .i64 (l1.n : Nat))], [], []) ∧
I1 (IntKind.wrap .i64 (n_1 + 1)) H2 ∧
M1 (IntKind.wrap .i64 (n_1 + 1)) H2 < M1 n_1 H1)
 (
K (.tuple #[]) H1)
theorem raft_Node_all_fn (n no : Nat) {H : Heap} {K : Value → Heap → Prop} (h : raft_Node_all_vc n no H K) : FnH Tryz.prog 55 #[.pointer (some ⟨n, no, none⟩)] H K :=
  denFn_fn Tryz.mixed raft_Node_all_ann Tryz.func55 (bodyOf_spec (by kernel_rfl)) (by kernel_rfl) h
def raft_Node_beats_ann : Anns := { hid := [], loops := [], joins := [], mix := [] }
def raft_Node_beats_vc (n no : Nat) (now : Int) (H : Heap) (K : Value → Heap → Prop) : Prop :=
FnH Tryz.prog 55 #[.pointer (some ⟨n, no, none⟩)] H fun r1 H1 =>
r1 = .tuple #[] ∧
∃ n1 : Int,
cellH H1 ⟨n, no + 1, none⟩ = some (.int .i64 n1) ∧
 (4 : Int) ≠ 0 ∧
 (∃ u, cellH H1 ⟨n, no + 9, none⟩ = some u) ∧
frozenH H1 ⟨n, no + 9, none⟩ = false ∧
letH (Heap.set H1 ⟨n, no + 9, none⟩ (.int .i64 (IntKind.wrap .i64 (now + (if 1 > (IntKind.wrap .i64 (Int.tdiv n1 4)) then 1 else (IntKind.wrap .i64 (Int.tdiv n1 4))))))) fun H2 =>
K (.tuple #[]) H2
theorem raft_Node_beats_fn (n no : Nat) (now : Int) {H : Heap} {K : Value → Heap → Prop} (h : raft_Node_beats_vc n no now H K) : FnH Tryz.prog 36 #[.pointer (some ⟨n, no, none⟩), .int .i64 now] H K :=
  denFn_fn Tryz.mixed raft_Node_beats_ann Tryz.func36 (bodyOf_spec (by kernel_rfl)) (by kernel_rfl) h
def majority_advance_ann : Anns := { hid := [], loops := [(0, { slots := [(5, .int .i64), (13, .int .i64)], kept := [0, 1, 11, 12], locs := [], keptL := [] })], joins := [], mix := [] }
def majority_advance_vc (n no is0_c0 : Nat) (H : Heap) (K : Value → Heap → Prop) : Prop :=
∃ l1 : Sl,
cellH H ⟨n, no + 5, none⟩ = some (.slice l1.p l1.n l1.c) ∧
∃ I1 : Int → Int → Heap → Prop,
∃ M1 : Int → Int → Heap → Nat,
I1 1 0 H ∧
∀ many_1 n_1 : Int,
∀ H1 : Heap,
I1 many_1 n_1 H1 →
br (decide ((n_1 : Int) < (l1.n : Nat))) (
∃ q1 o1 : Nat,
 (l1.p : Option Addr) = some ⟨q1, o1, none⟩ ∧
0 ≤ (n_1 : Int) ∧
 (n_1 : Int) < (l1.n : Nat) ∧
∃ p1 : Option Addr,
cellH H1 ⟨q1, o1 + Int.toNat n_1, none⟩ = some (.pointer p1) ∧
FnH Tryz.prog 93 #[.pointer p1, .pointer (some ⟨is0_c0, 0, none⟩)] H1 fun r1 H2 =>
∃ b1 : Bool,
r1 = .bool b1 ∧
br (b1) (
SelfEq ([.v (.pointer (some ⟨n, no, none⟩)), .v (.func (.func 93) #[] #[.pointer (some ⟨is0_c0, 0, none⟩)]), .v (.slice l1.p l1.n l1.c), .v (.int .i64 (l1.n : Nat))], [], []) ∧
I1 (IntKind.wrap .i64 (many_1 + 1)) (IntKind.wrap .i64 (n_1 + 1)) H2 ∧
M1 (IntKind.wrap .i64 (many_1 + 1)) (IntKind.wrap .i64 (n_1 + 1)) H2 < M1 many_1 n_1 H1)
 (
SelfEq ([.v (.pointer (some ⟨n, no, none⟩)), .v (.func (.func 93) #[] #[.pointer (some ⟨is0_c0, 0, none⟩)]), .v (.slice l1.p l1.n l1.c), .v (.int .i64 (l1.n : Nat))], [], []) ∧
I1 many_1 (IntKind.wrap .i64 (n_1 + 1)) H2 ∧
M1 many_1 (IntKind.wrap .i64 (n_1 + 1)) H2 < M1 many_1 n_1 H1))
 (
∃ l2 : Sl,
cellH H1 ⟨n, no + 5, none⟩ = some (.slice l2.p l2.n l2.c) ∧
K (.bool (decide (((IntKind.wrap .i64 (2 * many_1)) : Int) > (IntKind.wrap .i64 ((l2.n : Nat) + 1))))) H1)
theorem majority_advance_fn (n no is0_c0 : Nat) {H : Heap} {K : Value → Heap → Prop} (h : majority_advance_vc n no is0_c0 H K) : FnH Tryz.prog 79 #[.pointer (some ⟨n, no, none⟩), .func (.func 93) #[] #[.pointer (some ⟨is0_c0, 0, none⟩)]] H K :=
  denFn_fn Tryz.mixed majority_advance_ann Tryz.func79 (bodyOf_spec (by kernel_rfl)) (by kernel_rfl) h
def majority_voted_ann : Anns := { hid := [], loops := [(0, { slots := [(5, .int .i64), (13, .int .i64)], kept := [0, 1, 11, 12], locs := [], keptL := [] })], joins := [], mix := [] }
def majority_voted_vc (n no : Nat) (H : Heap) (K : Value → Heap → Prop) : Prop :=
∃ l1 : Sl,
cellH H ⟨n, no + 5, none⟩ = some (.slice l1.p l1.n l1.c) ∧
∃ I1 : Int → Int → Heap → Prop,
∃ M1 : Int → Int → Heap → Nat,
I1 1 0 H ∧
∀ many_1 n_1 : Int,
∀ H1 : Heap,
I1 many_1 n_1 H1 →
br (decide ((n_1 : Int) < (l1.n : Nat))) (
∃ q1 o1 : Nat,
 (l1.p : Option Addr) = some ⟨q1, o1, none⟩ ∧
0 ≤ (n_1 : Int) ∧
 (n_1 : Int) < (l1.n : Nat) ∧
∃ p1 : Option Addr,
cellH H1 ⟨q1, o1 + Int.toNat n_1, none⟩ = some (.pointer p1) ∧
FnH Tryz.prog 80 #[.pointer p1] H1 fun r1 H2 =>
∃ b1 : Bool,
r1 = .bool b1 ∧
br (b1) (
SelfEq ([.v (.pointer (some ⟨n, no, none⟩)), .v (.func (.func 80) #[] #[]), .v (.slice l1.p l1.n l1.c), .v (.int .i64 (l1.n : Nat))], [], []) ∧
I1 (IntKind.wrap .i64 (many_1 + 1)) (IntKind.wrap .i64 (n_1 + 1)) H2 ∧
M1 (IntKind.wrap .i64 (many_1 + 1)) (IntKind.wrap .i64 (n_1 + 1)) H2 < M1 many_1 n_1 H1)
 (
SelfEq ([.v (.pointer (some ⟨n, no, none⟩)), .v (.func (.func 80) #[] #[]), .v (.slice l1.p l1.n l1.c), .v (.int .i64 (l1.n : Nat))], [], []) ∧
I1 many_1 (IntKind.wrap .i64 (n_1 + 1)) H2 ∧
M1 many_1 (IntKind.wrap .i64 (n_1 + 1)) H2 < M1 many_1 n_1 H1))
 (
∃ l2 : Sl,
cellH H1 ⟨n, no + 5, none⟩ = some (.slice l2.p l2.n l2.c) ∧
K (.bool (decide (((IntKind.wrap .i64 (2 * many_1)) : Int) > (IntKind.wrap .i64 ((l2.n : Nat) + 1))))) H1)
theorem majority_voted_fn (n no : Nat) {H : Heap} {K : Value → Heap → Prop} (h : majority_voted_vc n no H K) : FnH Tryz.prog 79 #[.pointer (some ⟨n, no, none⟩), .func (.func 80) #[] #[]] H K :=
  denFn_fn Tryz.mixed majority_voted_ann Tryz.func79 (bodyOf_spec (by kernel_rfl)) (by kernel_rfl) h
def raft_Node_advance_ann : Anns := { hid := [], loops := [(0, { slots := [(4, .box)], kept := [0], locs := [], keptL := [] })], joins := [], mix := [(4, [])] }
def raft_Node_advance_vc (n no : Nat) (H : Heap) (K : Value → Heap → Prop) : Prop :=
∃ p1 : Option Addr,
cellH H ⟨n, no + 2, none⟩ = some (.pointer p1) ∧
ptrm p1 fun q1 o1 =>
FnH Tryz.prog 33 #[.pointer (some ⟨q1, o1, none⟩)] H fun r1 H1 =>
∃ n1 n2 : Int,
r1 = .tuple #[.int .i64 n1, .int .i64 n2] ∧
∀ q2 : Nat,
H1 q2 = none →
letH (Heap.upd H1 q2 (.cells #[.int .i64 0] 3 (0, 0))) fun H2 =>
 (∃ u, cellH H2 ⟨q2, 0, none⟩ = some u) ∧
frozenH H2 ⟨q2, 0, none⟩ = false ∧
letH (Heap.set H2 ⟨q2, 0, none⟩ (.int .i64 n1)) fun H3 =>
∃ I1 : Nat → Heap → Prop,
∃ M1 : Nat → Heap → Nat,
I1 q2 H3 ∧
∀ k_1 : Nat,
∀ H4 : Heap,
I1 k_1 H4 →
∃ n3 : Int,
cellH H4 ⟨k_1, 0, none⟩ = some (.int .i64 n3) ∧
∃ n4 : Int,
cellH H4 ⟨n, no + 6, none⟩ = some (.int .i64 n4) ∧
br (decide ((n3 : Int) > n4)) (
∃ n5 : Int,
cellH H4 ⟨k_1, 0, none⟩ = some (.int .i64 n5) ∧
∃ p2 : Option Addr,
cellH H4 ⟨n, no + 2, none⟩ = some (.pointer p2) ∧
ptrm p2 fun q3 o2 =>
FnH Tryz.prog 90 #[.pointer (some ⟨n, no, none⟩), .int .i64 n5] H4 fun r2 H5 =>
∃ n6 : Int,
r2 = .int .i64 n6 ∧
Sub H4 H5 ∧
FnH Tryz.prog 42 #[.pointer (some ⟨q3, o2, none⟩)] H5 fun r3 H6 =>
∃ n7 : Int,
r3 = .int .i64 n7 ∧
Sub H4 H6 ∧
br ((n6 : Int) == n7) (
FnH Tryz.prog 79 #[.pointer (some ⟨n, no, none⟩), .func (.func 93) #[] #[.pointer (some ⟨k_1, 0, none⟩)]] H6 fun r4 H7 =>
∃ b1 : Bool,
r4 = .bool b1 ∧
Sub H4 H7 ∧
br (b1) (
∃ n8 : Int,
cellH H7 ⟨k_1, 0, none⟩ = some (.int .i64 n8) ∧
 (∃ u, cellH H7 ⟨n, no + 6, none⟩ = some u) ∧
frozenH H7 ⟨n, no + 6, none⟩ = false ∧
letH (Heap.set H7 ⟨n, no + 6, none⟩ (.int .i64 n8)) fun H8 =>
K (.tuple #[]) H8)
 (
∃ n9 : Int,
cellH H7 ⟨k_1, 0, none⟩ = some (.int .i64 n9) ∧
∀ q4 : Nat,
H7 q4 = none →
letH (Heap.upd H7 q4 (.cells #[.int .i64 0] 3 (0, 0))) fun H9 =>
 (∃ u, cellH H9 ⟨q4, 0, none⟩ = some u) ∧
frozenH H9 ⟨q4, 0, none⟩ = false ∧
letH (Heap.set H9 ⟨q4, 0, none⟩ (.int .i64 n9)) fun H10 =>
∃ n10 : Int,
cellH H10 ⟨q4, 0, none⟩ = some (.int .i64 n10) ∧
 (∃ u, cellH H10 ⟨q4, 0, none⟩ = some u) ∧
frozenH H10 ⟨q4, 0, none⟩ = false ∧
letH (Heap.set H10 ⟨q4, 0, none⟩ (.int .i64 (IntKind.wrap .i64 (n10 - 1)))) fun H11 =>
SelfEq ([.v (.pointer (some ⟨n, no, none⟩))], [], []) ∧
I1 q4 H11 ∧
M1 q4 H11 < M1 k_1 H4))
 (
∃ n11 : Int,
cellH H6 ⟨k_1, 0, none⟩ = some (.int .i64 n11) ∧
∀ q5 : Nat,
H6 q5 = none →
letH (Heap.upd H6 q5 (.cells #[.int .i64 0] 3 (0, 0))) fun H12 =>
 (∃ u, cellH H12 ⟨q5, 0, none⟩ = some u) ∧
frozenH H12 ⟨q5, 0, none⟩ = false ∧
letH (Heap.set H12 ⟨q5, 0, none⟩ (.int .i64 n11)) fun H13 =>
∃ n12 : Int,
cellH H13 ⟨q5, 0, none⟩ = some (.int .i64 n12) ∧
 (∃ u, cellH H13 ⟨q5, 0, none⟩ = some u) ∧
frozenH H13 ⟨q5, 0, none⟩ = false ∧
letH (Heap.set H13 ⟨q5, 0, none⟩ (.int .i64 (IntKind.wrap .i64 (n12 - 1)))) fun H14 =>
SelfEq ([.v (.pointer (some ⟨n, no, none⟩))], [], []) ∧
I1 q5 H14 ∧
M1 q5 H14 < M1 k_1 H4))
 (
K (.tuple #[]) H4)
theorem raft_Node_advance_fn (n no : Nat) {H : Heap} {K : Value → Heap → Prop} (h : raft_Node_advance_vc n no H K) : FnH Tryz.prog 54 #[.pointer (some ⟨n, no, none⟩)] H K :=
  denFn_fn Tryz.mixed raft_Node_advance_ann Tryz.func54 (bodyOf_spec (by kernel_rfl)) (by kernel_rfl) h
def raft_Node_put_ann : Anns := { hid := [], loops := [], joins := [], mix := [(2, [19])] }
def raft_Node_put_vc (n no : Nat) (data : ByteArray) (H : Heap) (K : Value → Heap → Prop) : Prop :=
∃ p1 : Option Addr,
cellH H ⟨n, no + 2, none⟩ = some (.pointer p1) ∧
ptrm p1 fun q1 o1 =>
FnH Tryz.prog 33 #[.pointer (some ⟨q1, o1, none⟩)] H fun r1 H1 =>
∃ n1 n2 : Int,
r1 = .tuple #[.int .i64 n1, .int .i64 n2] ∧
∃ p2 : Option Addr,
cellH H1 ⟨n, no + 2, none⟩ = some (.pointer p2) ∧
∃ p3 : Option Addr,
cellH H1 ⟨n, no + 2, none⟩ = some (.pointer p3) ∧
ptrm p3 fun q2 o2 =>
FnH Tryz.prog 42 #[.pointer (some ⟨q2, o2, none⟩)] H1 fun r2 H2 =>
∃ n3 : Int,
r2 = .int .i64 n3 ∧
Sub H1 H2 ∧
∀ q3 : Nat,
H2 q3 = none →
letH (Heap.upd H2 q3 (.cells #[.int .i64 n3, .int .i64 (IntKind.wrap .i64 (n1 + 1)), .string data] 51 (0, 0))) fun H3 =>
Sub H1 H3 ∧
FnH Tryz.prog 91 #[.pointer p2, .int .i64 n1, .slice (some ⟨q3, 0, none⟩) 1 1] H3 fun r3 H4 =>
∃ n4 : Int,
r3 = .int .i64 n4 ∧
K (.tuple #[.int .i64 (IntKind.wrap .i64 (n1 + 1)), .int .i64 n4]) H4
theorem raft_Node_put_fn (n no : Nat) (data : ByteArray) {H : Heap} {K : Value → Heap → Prop} (h : raft_Node_put_vc n no data H K) : FnH Tryz.prog 53 #[.pointer (some ⟨n, no, none⟩), .string data] H K :=
  denFn_fn Tryz.mixed raft_Node_put_ann Tryz.func53 (bodyOf_spec (by kernel_rfl)) (by kernel_rfl) h
def raft_Node_Commit_ann : Anns := { hid := [], loops := [], joins := [], mix := [] }
def raft_Node_Commit_vc (n no : Nat) (H : Heap) (K : Value → Heap → Prop) : Prop :=
∃ n1 : Int,
cellH H ⟨n, no + 6, none⟩ = some (.int .i64 n1) ∧
K (.int .i64 n1) H
theorem raft_Node_Commit_fn (n no : Nat) {H : Heap} {K : Value → Heap → Prop} (h : raft_Node_Commit_vc n no H K) : FnH Tryz.prog 18 #[.pointer (some ⟨n, no, none⟩)] H K :=
  denFn_fn Tryz.mixed raft_Node_Commit_ann Tryz.func18 (bodyOf_spec (by kernel_rfl)) (by kernel_rfl) h
def raft_Node_Leads_ann : Anns := { hid := [], loops := [], joins := [], mix := [] }
def raft_Node_Leads_vc (n no : Nat) (H : Heap) (K : Value → Heap → Prop) : Prop :=
∃ n1 : Int,
cellH H ⟨n, no + 3, none⟩ = some (.int .i64 n1) ∧
K (.bool ((n1 : Int) == 2)) H
theorem raft_Node_Leads_fn (n no : Nat) {H : Heap} {K : Value → Heap → Prop} (h : raft_Node_Leads_vc n no H K) : FnH Tryz.prog 20 #[.pointer (some ⟨n, no, none⟩)] H K :=
  denFn_fn Tryz.mixed raft_Node_Leads_ann Tryz.func20 (bodyOf_spec (by kernel_rfl)) (by kernel_rfl) h
def slices_Contains_Lint_int_ann : Anns := { hid := [], loops := [], joins := [], mix := [] }
def slices_Contains_Lint_int_vc (s : Sl) (v : Int) (H : Heap) (K : Value → Heap → Prop) : Prop :=
FnH Tryz.prog 112 #[.slice s.p s.n s.c, .int .i64 v] H fun r1 H1 =>
∃ n1 : Int,
r1 = .int .i64 n1 ∧
K (.bool (decide ((n1 : Int) ≥ 0))) H1
theorem slices_Contains_Lint_int_fn (s : Sl) (v : Int) {H : Heap} {K : Value → Heap → Prop} (h : slices_Contains_Lint_int_vc s v H K) : FnH Tryz.prog 71 #[.slice s.p s.n s.c, .int .i64 v] H K :=
  denFn_fn Tryz.mixed slices_Contains_Lint_int_ann Tryz.func71 (bodyOf_spec (by kernel_rfl)) (by kernel_rfl) h
def slices_Index_Lint_int_ann : Anns := { hid := [], loops := [(0, { slots := [(8, .int .i64)], kept := [0, 1, 7], locs := [], keptL := [] })], joins := [], mix := [] }
def slices_Index_Lint_int_vc (s : Sl) (v : Int) (H : Heap) (K : Value → Heap → Prop) : Prop :=
∃ I1 : Int → Heap → Prop,
∃ M1 : Int → Heap → Nat,
I1 0 H ∧
∀ n_1 : Int,
∀ H1 : Heap,
I1 n_1 H1 →
br (decide ((n_1 : Int) < (s.n : Nat))) (
∃ q1 o1 : Nat,
 (s.p : Option Addr) = some ⟨q1, o1, none⟩ ∧
0 ≤ (n_1 : Int) ∧
 (n_1 : Int) < (s.n : Nat) ∧
∃ n1 : Int,
cellH H1 ⟨q1, o1 + Int.toNat n_1, none⟩ = some (.int .i64 n1) ∧
br ((v : Int) == n1) (
K (.int .i64 n_1) H1)
 (
SelfEq ([.v (.slice s.p s.n s.c), .v (.int .i64 v), .v (.int .i64 (s.n : Nat))], [], []) ∧
I1 (IntKind.wrap .i64 (n_1 + 1)) H1 ∧
M1 (IntKind.wrap .i64 (n_1 + 1)) H1 < M1 n_1 H1))
 (
K (.int .i64 (-1)) H1)
theorem slices_Index_Lint_int_fn (s : Sl) (v : Int) {H : Heap} {K : Value → Heap → Prop} (h : slices_Index_Lint_int_vc s v H K) : FnH Tryz.prog 112 #[.slice s.p s.n s.c, .int .i64 v] H K :=
  denFn_fn Tryz.mixed slices_Index_Lint_int_ann Tryz.func112 (bodyOf_spec (by kernel_rfl)) (by kernel_rfl) h
end Go.Proofs.YthldclmeojkboaaGreatDoor
