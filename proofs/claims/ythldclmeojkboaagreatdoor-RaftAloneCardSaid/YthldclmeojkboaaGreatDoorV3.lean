import Derived.Test.YthldclmeojkboaaGreatDoorProg
import Derived.KernelRfl
import Derived.Test.YthldclmeojkboaaGreatDoorHlFn
import Derived.Test.YthldclmeojkboaaGreatDoorV2
namespace Go.Proofs.YthldclmeojkboaaGreatDoor
open Go.HL
set_option maxRecDepth 100000
def raft_Node_lead_ann : Anns := { hid := [], loops := [(0, { slots := [(35, .int .i64)], kept := [0, 1, 4, 33, 34], locs := [], keptL := [] })], joins := [], mix := [] }
def raft_Node_lead_vc (n no : Nat) (now : Int) (H : Heap) (K : Value → Heap → Prop) : Prop :=
∃ p1 : Option Addr,
cellH H ⟨n, no + 2, none⟩ = some (.pointer p1) ∧
ptrm p1 fun q1 o1 =>
FnH Tryz.prog 33 #[.pointer (some ⟨q1, o1, none⟩)] H fun r1 H1 =>
∃ n1 n2 : Int,
r1 = .tuple #[.int .i64 n1, .int .i64 n2] ∧
∃ n3 : Int,
cellH H1 ⟨n, no, none⟩ = some (.int .i64 n3) ∧
 (∃ u, cellH H1 ⟨n, no + 3, none⟩ = some u) ∧
frozenH H1 ⟨n, no + 3, none⟩ = false ∧
letH (Heap.set H1 ⟨n, no + 3, none⟩ (.int .i64 2)) fun H2 =>
 (∃ u, cellH H2 ⟨n, no + 4, none⟩ = some u) ∧
frozenH H2 ⟨n, no + 4, none⟩ = false ∧
letH (Heap.set H2 ⟨n, no + 4, none⟩ (.int .i64 n3)) fun H3 =>
∃ l1 : Sl,
cellH H3 ⟨n, no + 5, none⟩ = some (.slice l1.p l1.n l1.c) ∧
∃ I1 : Int → Heap → Prop,
∃ M1 : Int → Heap → Nat,
I1 0 H3 ∧
∀ n_1 : Int,
∀ H4 : Heap,
I1 n_1 H4 →
br (decide ((n_1 : Int) < (l1.n : Nat))) (
∃ q2 o2 : Nat,
 (l1.p : Option Addr) = some ⟨q2, o2, none⟩ ∧
0 ≤ (n_1 : Int) ∧
 (n_1 : Int) < (l1.n : Nat) ∧
∃ p2 : Option Addr,
cellH H4 ⟨q2, o2 + Int.toNat n_1, none⟩ = some (.pointer p2) ∧
ptrm p2 fun q3 o3 =>
 (∃ u, cellH H4 ⟨q3, o3 + 1, none⟩ = some u) ∧
frozenH H4 ⟨q3, o3 + 1, none⟩ = false ∧
letH (Heap.set H4 ⟨q3, o3 + 1, none⟩ (.int .i64 (IntKind.wrap .i64 (n1 + 1)))) fun H5 =>
ptrm p2 fun q4 o4 =>
 (∃ u, cellH H5 ⟨q4, o4 + 2, none⟩ = some u) ∧
frozenH H5 ⟨q4, o4 + 2, none⟩ = false ∧
letH (Heap.set H5 ⟨q4, o4 + 2, none⟩ (.int .i64 0)) fun H6 =>
SelfEq ([.v (.pointer (some ⟨n, no, none⟩)), .v (.int .i64 now), .v (.int .i64 n1), .v (.slice l1.p l1.n l1.c), .v (.int .i64 (l1.n : Nat))], [], []) ∧
I1 (IntKind.wrap .i64 (n_1 + 1)) H6 ∧
M1 (IntKind.wrap .i64 (n_1 + 1)) H6 < M1 n_1 H4)
 (
FnH Tryz.prog 53 #[.pointer (some ⟨n, no, none⟩), .string (⟨#[]⟩ : ByteArray)] H4 fun r2 H7 =>
∃ n4 n5 : Int,
r2 = .tuple #[.int .i64 n4, .int .i64 n5] ∧
br ((n5 : Int) != 0) (
FnH Tryz.prog 46 #[.pointer (some ⟨n, no, none⟩), .int .i64 0] H7 fun r3 H8 =>
r3 = .tuple #[] ∧
K (.tuple #[]) H8)
 (
FnH Tryz.prog 54 #[.pointer (some ⟨n, no, none⟩)] H7 fun r4 H9 =>
r4 = .tuple #[] ∧
FnH Tryz.prog 36 #[.pointer (some ⟨n, no, none⟩), .int .i64 now] H9 fun r5 H10 =>
r5 = .tuple #[] ∧
K (.tuple #[]) H10))
theorem raft_Node_lead_fn (n no : Nat) (now : Int) {H : Heap} {K : Value → Heap → Prop} (h : raft_Node_lead_vc n no now H K) : FnH Tryz.prog 81 #[.pointer (some ⟨n, no, none⟩), .int .i64 now] H K :=
  denFn_fn Tryz.mixed raft_Node_lead_ann Tryz.func81 (bodyOf_spec (by kernel_rfl)) (by kernel_rfl) h
def raft_Node_stand_ann : Anns := { hid := [], loops := [(0, { slots := [(42, .int .i64)], kept := [0, 1, 40, 41], locs := [], keptL := [] }), (2, { slots := [(70, .int .i64)], kept := [0, 6, 7, 68, 69], locs := [], keptL := [] })], joins := [], mix := [(1, [16])] }
def raft_Node_stand_vc (n no : Nat) (now : Int) (H : Heap) (K : Value → Heap → Prop) : Prop :=
FnH Tryz.prog 38 #[.pointer (some ⟨n, no, none⟩), .int .i64 now] H fun r1 H1 =>
r1 = .tuple #[] ∧
∃ p1 : Option Addr,
cellH H1 ⟨n, no + 2, none⟩ = some (.pointer p1) ∧
∃ p2 : Option Addr,
cellH H1 ⟨n, no + 2, none⟩ = some (.pointer p2) ∧
ptrm p2 fun q1 o1 =>
∃ n1 : Int,
cellH H1 ⟨n, no, none⟩ = some (.int .i64 n1) ∧
FnH Tryz.prog 42 #[.pointer (some ⟨q1, o1, none⟩)] H1 fun r2 H2 =>
∃ n2 : Int,
r2 = .int .i64 n2 ∧
Sub H1 H2 ∧
FnH Tryz.prog 45 #[.pointer p1, .int .i64 (IntKind.wrap .i64 (n2 + 1)), .int .i64 n1] H2 fun r3 H3 =>
∃ n3 : Int,
r3 = .int .i64 n3 ∧
br ((n3 : Int) != 0) (
K (.tuple #[]) H3)
 (
 (∃ u, cellH H3 ⟨n, no + 3, none⟩ = some u) ∧
frozenH H3 ⟨n, no + 3, none⟩ = false ∧
letH (Heap.set H3 ⟨n, no + 3, none⟩ (.int .i64 1)) fun H4 =>
 (∃ u, cellH H4 ⟨n, no + 4, none⟩ = some u) ∧
frozenH H4 ⟨n, no + 4, none⟩ = false ∧
letH (Heap.set H4 ⟨n, no + 4, none⟩ (.int .i64 0)) fun H5 =>
∃ l1 : Sl,
cellH H5 ⟨n, no + 5, none⟩ = some (.slice l1.p l1.n l1.c) ∧
∃ I1 : Int → Heap → Prop,
∃ M1 : Int → Heap → Nat,
I1 0 H5 ∧
∀ n_1 : Int,
∀ H6 : Heap,
I1 n_1 H6 →
br (decide ((n_1 : Int) < (l1.n : Nat))) (
∃ q2 o2 : Nat,
 (l1.p : Option Addr) = some ⟨q2, o2, none⟩ ∧
0 ≤ (n_1 : Int) ∧
 (n_1 : Int) < (l1.n : Nat) ∧
∃ p3 : Option Addr,
cellH H6 ⟨q2, o2 + Int.toNat n_1, none⟩ = some (.pointer p3) ∧
ptrm p3 fun q3 o3 =>
 (∃ u, cellH H6 ⟨q3, o3 + 3, none⟩ = some u) ∧
frozenH H6 ⟨q3, o3 + 3, none⟩ = false ∧
letH (Heap.set H6 ⟨q3, o3 + 3, none⟩ (.bool false)) fun H7 =>
SelfEq ([.v (.pointer (some ⟨n, no, none⟩)), .v (.int .i64 now), .v (.slice l1.p l1.n l1.c), .v (.int .i64 (l1.n : Nat))], [], []) ∧
I1 (IntKind.wrap .i64 (n_1 + 1)) H7 ∧
M1 (IntKind.wrap .i64 (n_1 + 1)) H7 < M1 n_1 H6)
 (
FnH Tryz.prog 79 #[.pointer (some ⟨n, no, none⟩), .func (.func 80) #[] #[]] H6 fun r4 H8 =>
∃ b1 : Bool,
r4 = .bool b1 ∧
br (b1) (
FnH Tryz.prog 81 #[.pointer (some ⟨n, no, none⟩), .int .i64 now] H8 fun r5 H9 =>
r5 = .tuple #[] ∧
K (.tuple #[]) H9)
 (
∃ p4 : Option Addr,
cellH H8 ⟨n, no + 2, none⟩ = some (.pointer p4) ∧
ptrm p4 fun q4 o4 =>
FnH Tryz.prog 33 #[.pointer (some ⟨q4, o4, none⟩)] H8 fun r6 H10 =>
∃ n4 n5 : Int,
r6 = .tuple #[.int .i64 n4, .int .i64 n5] ∧
∃ l2 : Sl,
cellH H10 ⟨n, no + 5, none⟩ = some (.slice l2.p l2.n l2.c) ∧
∃ I2 : Int → Heap → Prop,
∃ M2 : Int → Heap → Nat,
I2 0 H10 ∧
∀ n_2 : Int,
∀ H11 : Heap,
I2 n_2 H11 →
br (decide ((n_2 : Int) < (l2.n : Nat))) (
∃ q5 o5 : Nat,
 (l2.p : Option Addr) = some ⟨q5, o5, none⟩ ∧
0 ≤ (n_2 : Int) ∧
 (n_2 : Int) < (l2.n : Nat) ∧
∃ p5 : Option Addr,
cellH H11 ⟨q5, o5 + Int.toNat n_2, none⟩ = some (.pointer p5) ∧
ptrm p5 fun q6 o6 =>
∃ n6 : Int,
cellH H11 ⟨q6, o6, none⟩ = some (.int .i64 n6) ∧
FnH Tryz.prog 47 #[.pointer (some ⟨n, no, none⟩), .agg #[.int .i64 1, .int .i64 0, .int .i64 n6, .int .i64 0, .int .i64 0, .int .i64 0, .int .i64 0, .int .i64 n5, .int .i64 0, .int .i64 0, .int .i64 0, .int .i64 n4, .int .i64 0, .int .i64 0, .int .i64 0, .int .i64 0, .string (⟨#[]⟩ : ByteArray), .string (⟨#[]⟩ : ByteArray), .slice none 0 0, .slice none 0 0, .slice none 0 0]] H11 fun r7 H12 =>
r7 = .tuple #[] ∧
SelfEq ([.v (.pointer (some ⟨n, no, none⟩)), .v (.int .i64 n4), .v (.int .i64 n5), .v (.slice l2.p l2.n l2.c), .v (.int .i64 (l2.n : Nat))], [], []) ∧
I2 (IntKind.wrap .i64 (n_2 + 1)) H12 ∧
M2 (IntKind.wrap .i64 (n_2 + 1)) H12 < M2 n_2 H11)
 (
K (.tuple #[]) H11))))
theorem raft_Node_stand_fn (n no : Nat) (now : Int) {H : Heap} {K : Value → Heap → Prop} (h : raft_Node_stand_vc n no now H K) : FnH Tryz.prog 39 #[.pointer (some ⟨n, no, none⟩), .int .i64 now] H K :=
  denFn_fn Tryz.mixed raft_Node_stand_ann Tryz.func39 (bodyOf_spec (by kernel_rfl)) (by kernel_rfl) h
def raft_Node_Tick_ann : Anns := { hid := [], loops := [], joins := [], mix := [] }
def raft_Node_Tick_vc (n no : Nat) (now draw : Int) (H : Heap) (K : Value → Heap → Prop) : Prop :=
br (decide ((draw : Int) < 0)) (
 (∃ u, cellH H ⟨n, no + 10, none⟩ = some u) ∧
frozenH H ⟨n, no + 10, none⟩ = false ∧
letH (Heap.set H ⟨n, no + 10, none⟩ (.int .i64 (IntKind.wrap .i64 (0 - (IntKind.wrap .i64 (draw + 1)))))) fun H1 =>
∃ n1 : Int,
cellH H1 ⟨n, no + 3, none⟩ = some (.int .i64 n1) ∧
br ((n1 : Int) == 2) (
∃ n2 : Int,
cellH H1 ⟨n, no + 9, none⟩ = some (.int .i64 n2) ∧
br (decide ((now : Int) ≥ n2)) (
FnH Tryz.prog 36 #[.pointer (some ⟨n, no, none⟩), .int .i64 now] H1 fun r1 H2 =>
r1 = .tuple #[] ∧
FnH Tryz.prog 37 #[.pointer (some ⟨n, no, none⟩)] H2 fun r2 H3 =>
∃ l1 : Sl,
r2 = .slice l1.p l1.n l1.c ∧
K (.slice l1.p l1.n l1.c) H3)
 (
FnH Tryz.prog 37 #[.pointer (some ⟨n, no, none⟩)] H1 fun r3 H4 =>
∃ l2 : Sl,
r3 = .slice l2.p l2.n l2.c ∧
K (.slice l2.p l2.n l2.c) H4))
 (
∃ n3 : Int,
cellH H1 ⟨n, no + 8, none⟩ = some (.int .i64 n3) ∧
br ((n3 : Int) == (-1)) (
FnH Tryz.prog 38 #[.pointer (some ⟨n, no, none⟩), .int .i64 now] H1 fun r4 H5 =>
r4 = .tuple #[] ∧
∃ n4 : Int,
cellH H5 ⟨n, no + 8, none⟩ = some (.int .i64 n4) ∧
br (decide ((now : Int) ≥ n4)) (
FnH Tryz.prog 39 #[.pointer (some ⟨n, no, none⟩), .int .i64 now] H5 fun r5 H6 =>
r5 = .tuple #[] ∧
FnH Tryz.prog 37 #[.pointer (some ⟨n, no, none⟩)] H6 fun r6 H7 =>
∃ l3 : Sl,
r6 = .slice l3.p l3.n l3.c ∧
K (.slice l3.p l3.n l3.c) H7)
 (
FnH Tryz.prog 37 #[.pointer (some ⟨n, no, none⟩)] H5 fun r7 H8 =>
∃ l4 : Sl,
r7 = .slice l4.p l4.n l4.c ∧
K (.slice l4.p l4.n l4.c) H8))
 (
∃ n5 : Int,
cellH H1 ⟨n, no + 8, none⟩ = some (.int .i64 n5) ∧
br (decide ((now : Int) ≥ n5)) (
FnH Tryz.prog 39 #[.pointer (some ⟨n, no, none⟩), .int .i64 now] H1 fun r8 H9 =>
r8 = .tuple #[] ∧
FnH Tryz.prog 37 #[.pointer (some ⟨n, no, none⟩)] H9 fun r9 H10 =>
∃ l5 : Sl,
r9 = .slice l5.p l5.n l5.c ∧
K (.slice l5.p l5.n l5.c) H10)
 (
FnH Tryz.prog 37 #[.pointer (some ⟨n, no, none⟩)] H1 fun r10 H11 =>
∃ l6 : Sl,
r10 = .slice l6.p l6.n l6.c ∧
K (.slice l6.p l6.n l6.c) H11))))
 (
 (∃ u, cellH H ⟨n, no + 10, none⟩ = some u) ∧
frozenH H ⟨n, no + 10, none⟩ = false ∧
letH (Heap.set H ⟨n, no + 10, none⟩ (.int .i64 draw)) fun H12 =>
∃ n6 : Int,
cellH H12 ⟨n, no + 3, none⟩ = some (.int .i64 n6) ∧
br ((n6 : Int) == 2) (
∃ n7 : Int,
cellH H12 ⟨n, no + 9, none⟩ = some (.int .i64 n7) ∧
br (decide ((now : Int) ≥ n7)) (
FnH Tryz.prog 36 #[.pointer (some ⟨n, no, none⟩), .int .i64 now] H12 fun r11 H13 =>
r11 = .tuple #[] ∧
FnH Tryz.prog 37 #[.pointer (some ⟨n, no, none⟩)] H13 fun r12 H14 =>
∃ l7 : Sl,
r12 = .slice l7.p l7.n l7.c ∧
K (.slice l7.p l7.n l7.c) H14)
 (
FnH Tryz.prog 37 #[.pointer (some ⟨n, no, none⟩)] H12 fun r13 H15 =>
∃ l8 : Sl,
r13 = .slice l8.p l8.n l8.c ∧
K (.slice l8.p l8.n l8.c) H15))
 (
∃ n8 : Int,
cellH H12 ⟨n, no + 8, none⟩ = some (.int .i64 n8) ∧
br ((n8 : Int) == (-1)) (
FnH Tryz.prog 38 #[.pointer (some ⟨n, no, none⟩), .int .i64 now] H12 fun r14 H16 =>
r14 = .tuple #[] ∧
∃ n9 : Int,
cellH H16 ⟨n, no + 8, none⟩ = some (.int .i64 n9) ∧
br (decide ((now : Int) ≥ n9)) (
FnH Tryz.prog 39 #[.pointer (some ⟨n, no, none⟩), .int .i64 now] H16 fun r15 H17 =>
r15 = .tuple #[] ∧
FnH Tryz.prog 37 #[.pointer (some ⟨n, no, none⟩)] H17 fun r16 H18 =>
∃ l9 : Sl,
r16 = .slice l9.p l9.n l9.c ∧
K (.slice l9.p l9.n l9.c) H18)
 (
FnH Tryz.prog 37 #[.pointer (some ⟨n, no, none⟩)] H16 fun r17 H19 =>
∃ l10 : Sl,
r17 = .slice l10.p l10.n l10.c ∧
K (.slice l10.p l10.n l10.c) H19))
 (
∃ n10 : Int,
cellH H12 ⟨n, no + 8, none⟩ = some (.int .i64 n10) ∧
br (decide ((now : Int) ≥ n10)) (
FnH Tryz.prog 39 #[.pointer (some ⟨n, no, none⟩), .int .i64 now] H12 fun r18 H20 =>
r18 = .tuple #[] ∧
FnH Tryz.prog 37 #[.pointer (some ⟨n, no, none⟩)] H20 fun r19 H21 =>
∃ l11 : Sl,
r19 = .slice l11.p l11.n l11.c ∧
K (.slice l11.p l11.n l11.c) H21)
 (
FnH Tryz.prog 37 #[.pointer (some ⟨n, no, none⟩)] H12 fun r20 H22 =>
∃ l12 : Sl,
r20 = .slice l12.p l12.n l12.c ∧
K (.slice l12.p l12.n l12.c) H22))))
theorem raft_Node_Tick_fn (n no : Nat) (now draw : Int) {H : Heap} {K : Value → Heap → Prop} (h : raft_Node_Tick_vc n no now draw H K) : FnH Tryz.prog 11 #[.pointer (some ⟨n, no, none⟩), .int .i64 now, .int .i64 draw] H K :=
  denFn_fn Tryz.mixed raft_Node_Tick_ann Tryz.func11 (bodyOf_spec (by kernel_rfl)) (by kernel_rfl) h
def IndexFunc_Step_ann : Anns := { hid := [], loops := [(0, { slots := [(8, .int .i64)], kept := [0, 1, 7], locs := [], keptL := [] })], joins := [], mix := [] }
def IndexFunc_Step_vc (s : Sl) (f_c0 : Nat) (H : Heap) (K : Value → Heap → Prop) : Prop :=
∃ I1 : Int → Heap → Prop,
∃ M1 : Int → Heap → Nat,
I1 0 H ∧
∀ n_1 : Int,
∀ H1 : Heap,
I1 n_1 H1 →
br (decide ((n_1 : Int) < (s.n : Nat))) (
∃ q1 o1 : Nat,
 (s.p : Option Addr) = some ⟨q1, o1, none⟩ ∧
0 ≤ (n_1 : Int) ∧
 (n_1 : Int) < (s.n : Nat) ∧
∃ p1 : Option Addr,
cellH H1 ⟨q1, o1 + Int.toNat n_1, none⟩ = some (.pointer p1) ∧
FnH Tryz.prog 44 #[.pointer p1, .pointer (some ⟨f_c0, 0, none⟩)] H1 fun r1 H2 =>
∃ b1 : Bool,
r1 = .bool b1 ∧
br (b1) (
K (.int .i64 n_1) H2)
 (
SelfEq ([.v (.slice s.p s.n s.c), .v (.func (.func 44) #[] #[.pointer (some ⟨f_c0, 0, none⟩)]), .v (.int .i64 (s.n : Nat))], [], []) ∧
I1 (IntKind.wrap .i64 (n_1 + 1)) H2 ∧
M1 (IntKind.wrap .i64 (n_1 + 1)) H2 < M1 n_1 H1))
 (
K (.int .i64 (-1)) H1)
theorem IndexFunc_Step_fn (s : Sl) (f_c0 : Nat) {H : Heap} {K : Value → Heap → Prop} (h : IndexFunc_Step_vc s f_c0 H K) : FnH Tryz.prog 43 #[.slice s.p s.n s.c, .func (.func 44) #[] #[.pointer (some ⟨f_c0, 0, none⟩)]] H K :=
  denFn_fn Tryz.mixed IndexFunc_Step_ann Tryz.func43 (bodyOf_spec (by kernel_rfl)) (by kernel_rfl) h
def raft_Node_voteAsk_ann : Anns := { hid := [7], loops := [], joins := [((0, 3), { slots := [(11, .bool)], kept := [0, 1, 7], locs := [], keptL := [0] })], mix := [(4, [16])] }
def raft_Node_voteAsk_vc (n no : Nat) (now : Int) (p po : Nat) (m_0 m_1 m_2 m_3 m_4 m_5 m_6 m_7 m_8 m_9 m_10 m_11 m_12 m_13 m_14 m_15 : Int) (m_16 m_17 : ByteArray) (m_18 m_19 m_20 : Sl) (H : Heap) (K : Value → Heap → Prop) : Prop :=
∃ p1 : Option Addr,
cellH H ⟨n, no + 2, none⟩ = some (.pointer p1) ∧
ptrm p1 fun q1 o1 =>
FnH Tryz.prog 33 #[.pointer (some ⟨q1, o1, none⟩)] H fun r1 H1 =>
∃ n1 n2 : Int,
r1 = .tuple #[.int .i64 n1, .int .i64 n2] ∧
∃ p2 : Option Addr,
cellH H1 ⟨n, no + 2, none⟩ = some (.pointer p2) ∧
ptrm p2 fun q2 o2 =>
FnH Tryz.prog 35 #[.pointer (some ⟨q2, o2, none⟩)] H1 fun r2 H2 =>
∃ n3 : Int,
r2 = .int .i64 n3 ∧
∃ J1 : Bool → Heap → Prop,
 (br (decide ((m_7 : Int) > n2)) (
∃ n4 : Int,
cellH H2 ⟨n, no + 3, none⟩ = some (.int .i64 n4) ∧
br ((n4 : Int) != 2) (
br ((n3 : Int) == 0) (
SelfEq ([.v (.pointer (some ⟨n, no, none⟩)), .v (.int .i64 now), .loc 0 0], [some (33, [.int .i64 m_0, .int .i64 m_1, .int .i64 m_2, .int .i64 m_3, .int .i64 m_4, .int .i64 m_5, .int .i64 m_6, .int .i64 m_7, .int .i64 m_8, .int .i64 m_9, .int .i64 m_10, .int .i64 m_11, .int .i64 m_12, .int .i64 m_13, .int .i64 m_14, .int .i64 m_15, .string m_16, .string m_17, .slice m_18.p m_18.n m_18.c, .slice m_19.p m_19.n m_19.c, .slice m_20.p m_20.n m_20.c])], []) ∧
J1 true H2)
 (
SelfEq ([.v (.pointer (some ⟨n, no, none⟩)), .v (.int .i64 now), .loc 0 0], [some (33, [.int .i64 m_0, .int .i64 m_1, .int .i64 m_2, .int .i64 m_3, .int .i64 m_4, .int .i64 m_5, .int .i64 m_6, .int .i64 m_7, .int .i64 m_8, .int .i64 m_9, .int .i64 m_10, .int .i64 m_11, .int .i64 m_12, .int .i64 m_13, .int .i64 m_14, .int .i64 m_15, .string m_16, .string m_17, .slice m_18.p m_18.n m_18.c, .slice m_19.p m_19.n m_19.c, .slice m_20.p m_20.n m_20.c])], []) ∧
J1 ((n3 : Int) == m_1) H2))
 (
SelfEq ([.v (.pointer (some ⟨n, no, none⟩)), .v (.int .i64 now), .loc 0 0], [some (33, [.int .i64 m_0, .int .i64 m_1, .int .i64 m_2, .int .i64 m_3, .int .i64 m_4, .int .i64 m_5, .int .i64 m_6, .int .i64 m_7, .int .i64 m_8, .int .i64 m_9, .int .i64 m_10, .int .i64 m_11, .int .i64 m_12, .int .i64 m_13, .int .i64 m_14, .int .i64 m_15, .string m_16, .string m_17, .slice m_18.p m_18.n m_18.c, .slice m_19.p m_19.n m_19.c, .slice m_20.p m_20.n m_20.c])], []) ∧
J1 false H2))
 (
br ((m_7 : Int) == n2) (
br (decide ((m_11 : Int) ≥ n1)) (
∃ n5 : Int,
cellH H2 ⟨n, no + 3, none⟩ = some (.int .i64 n5) ∧
br ((n5 : Int) != 2) (
br ((n3 : Int) == 0) (
SelfEq ([.v (.pointer (some ⟨n, no, none⟩)), .v (.int .i64 now), .loc 0 0], [some (33, [.int .i64 m_0, .int .i64 m_1, .int .i64 m_2, .int .i64 m_3, .int .i64 m_4, .int .i64 m_5, .int .i64 m_6, .int .i64 m_7, .int .i64 m_8, .int .i64 m_9, .int .i64 m_10, .int .i64 m_11, .int .i64 m_12, .int .i64 m_13, .int .i64 m_14, .int .i64 m_15, .string m_16, .string m_17, .slice m_18.p m_18.n m_18.c, .slice m_19.p m_19.n m_19.c, .slice m_20.p m_20.n m_20.c])], []) ∧
J1 true H2)
 (
SelfEq ([.v (.pointer (some ⟨n, no, none⟩)), .v (.int .i64 now), .loc 0 0], [some (33, [.int .i64 m_0, .int .i64 m_1, .int .i64 m_2, .int .i64 m_3, .int .i64 m_4, .int .i64 m_5, .int .i64 m_6, .int .i64 m_7, .int .i64 m_8, .int .i64 m_9, .int .i64 m_10, .int .i64 m_11, .int .i64 m_12, .int .i64 m_13, .int .i64 m_14, .int .i64 m_15, .string m_16, .string m_17, .slice m_18.p m_18.n m_18.c, .slice m_19.p m_19.n m_19.c, .slice m_20.p m_20.n m_20.c])], []) ∧
J1 ((n3 : Int) == m_1) H2))
 (
SelfEq ([.v (.pointer (some ⟨n, no, none⟩)), .v (.int .i64 now), .loc 0 0], [some (33, [.int .i64 m_0, .int .i64 m_1, .int .i64 m_2, .int .i64 m_3, .int .i64 m_4, .int .i64 m_5, .int .i64 m_6, .int .i64 m_7, .int .i64 m_8, .int .i64 m_9, .int .i64 m_10, .int .i64 m_11, .int .i64 m_12, .int .i64 m_13, .int .i64 m_14, .int .i64 m_15, .string m_16, .string m_17, .slice m_18.p m_18.n m_18.c, .slice m_19.p m_19.n m_19.c, .slice m_20.p m_20.n m_20.c])], []) ∧
J1 false H2))
 (
SelfEq ([.v (.pointer (some ⟨n, no, none⟩)), .v (.int .i64 now), .loc 0 0], [some (33, [.int .i64 m_0, .int .i64 m_1, .int .i64 m_2, .int .i64 m_3, .int .i64 m_4, .int .i64 m_5, .int .i64 m_6, .int .i64 m_7, .int .i64 m_8, .int .i64 m_9, .int .i64 m_10, .int .i64 m_11, .int .i64 m_12, .int .i64 m_13, .int .i64 m_14, .int .i64 m_15, .string m_16, .string m_17, .slice m_18.p m_18.n m_18.c, .slice m_19.p m_19.n m_19.c, .slice m_20.p m_20.n m_20.c])], []) ∧
J1 false H2))
 (
SelfEq ([.v (.pointer (some ⟨n, no, none⟩)), .v (.int .i64 now), .loc 0 0], [some (33, [.int .i64 m_0, .int .i64 m_1, .int .i64 m_2, .int .i64 m_3, .int .i64 m_4, .int .i64 m_5, .int .i64 m_6, .int .i64 m_7, .int .i64 m_8, .int .i64 m_9, .int .i64 m_10, .int .i64 m_11, .int .i64 m_12, .int .i64 m_13, .int .i64 m_14, .int .i64 m_15, .string m_16, .string m_17, .slice m_18.p m_18.n m_18.c, .slice m_19.p m_19.n m_19.c, .slice m_20.p m_20.n m_20.c])], []) ∧
J1 false H2))) ∧
∀ ok_1 : Bool,
∀ H3 : Heap,
J1 ok_1 H3 →
br (!ok_1) (
FnH Tryz.prog 47 #[.pointer (some ⟨n, no, none⟩), .agg #[.int .i64 2, .int .i64 0, .int .i64 m_1, .int .i64 0, .int .i64 0, .int .i64 0, .int .i64 0, .int .i64 0, .int .i64 0, .int .i64 0, .int .i64 0, .int .i64 0, .int .i64 0, .int .i64 0, .int .i64 0, .int .i64 19, .string (⟨#[]⟩ : ByteArray), .string (⟨#[]⟩ : ByteArray), .slice none 0 0, .slice none 0 0, .slice none 0 0]] H3 fun r3 H4 =>
r3 = .tuple #[] ∧
K (.tuple #[]) H4)
 (
∃ p3 : Option Addr,
cellH H3 ⟨n, no + 2, none⟩ = some (.pointer p3) ∧
∃ p4 : Option Addr,
cellH H3 ⟨n, no + 2, none⟩ = some (.pointer p4) ∧
ptrm p4 fun q3 o3 =>
FnH Tryz.prog 42 #[.pointer (some ⟨q3, o3, none⟩)] H3 fun r4 H5 =>
∃ n6 : Int,
r4 = .int .i64 n6 ∧
Sub H3 H5 ∧
FnH Tryz.prog 45 #[.pointer p3, .int .i64 n6, .int .i64 m_1] H5 fun r5 H6 =>
∃ n7 : Int,
r5 = .int .i64 n7 ∧
br ((n7 : Int) != 0) (
FnH Tryz.prog 47 #[.pointer (some ⟨n, no, none⟩), .agg #[.int .i64 2, .int .i64 0, .int .i64 m_1, .int .i64 0, .int .i64 0, .int .i64 0, .int .i64 0, .int .i64 0, .int .i64 0, .int .i64 0, .int .i64 0, .int .i64 0, .int .i64 0, .int .i64 0, .int .i64 0, .int .i64 19, .string (⟨#[]⟩ : ByteArray), .string (⟨#[]⟩ : ByteArray), .slice none 0 0, .slice none 0 0, .slice none 0 0]] H6 fun r6 H7 =>
r6 = .tuple #[] ∧
K (.tuple #[]) H7)
 (
FnH Tryz.prog 47 #[.pointer (some ⟨n, no, none⟩), .agg #[.int .i64 2, .int .i64 0, .int .i64 m_1, .int .i64 0, .int .i64 0, .int .i64 0, .int .i64 0, .int .i64 0, .int .i64 0, .int .i64 0, .int .i64 0, .int .i64 0, .int .i64 0, .int .i64 0, .int .i64 0, .int .i64 0, .string (⟨#[]⟩ : ByteArray), .string (⟨#[]⟩ : ByteArray), .slice none 0 0, .slice none 0 0, .slice none 0 0]] H6 fun r7 H8 =>
r7 = .tuple #[] ∧
FnH Tryz.prog 38 #[.pointer (some ⟨n, no, none⟩), .int .i64 now] H8 fun r8 H9 =>
r8 = .tuple #[] ∧
K (.tuple #[]) H9))
theorem raft_Node_voteAsk_fn (n no : Nat) (now : Int) (p po : Nat) (m_0 m_1 m_2 m_3 m_4 m_5 m_6 m_7 m_8 m_9 m_10 m_11 m_12 m_13 m_14 m_15 : Int) (m_16 m_17 : ByteArray) (m_18 m_19 m_20 : Sl) {H : Heap} {K : Value → Heap → Prop} (h : raft_Node_voteAsk_vc n no now p po m_0 m_1 m_2 m_3 m_4 m_5 m_6 m_7 m_8 m_9 m_10 m_11 m_12 m_13 m_14 m_15 m_16 m_17 m_18 m_19 m_20 H K) : FnH Tryz.prog 49 #[.pointer (some ⟨n, no, none⟩), .int .i64 now, .pointer (some ⟨p, po, none⟩), .agg #[.int .i64 m_0, .int .i64 m_1, .int .i64 m_2, .int .i64 m_3, .int .i64 m_4, .int .i64 m_5, .int .i64 m_6, .int .i64 m_7, .int .i64 m_8, .int .i64 m_9, .int .i64 m_10, .int .i64 m_11, .int .i64 m_12, .int .i64 m_13, .int .i64 m_14, .int .i64 m_15, .string m_16, .string m_17, .slice m_18.p m_18.n m_18.c, .slice m_19.p m_19.n m_19.c, .slice m_20.p m_20.n m_20.c]] H K :=
  denFn_fn Tryz.mixed raft_Node_voteAsk_ann Tryz.func49 (bodyOf_spec (by kernel_rfl)) (by kernel_rfl) h
def raft_Node_voteTell_ann : Anns := { hid := [7], loops := [], joins := [], mix := [] }
def raft_Node_voteTell_vc (n no : Nat) (now : Int) (p po : Nat) (m_0 m_1 m_2 m_3 m_4 m_5 m_6 m_7 m_8 m_9 m_10 m_11 m_12 m_13 m_14 m_15 : Int) (m_16 m_17 : ByteArray) (m_18 m_19 m_20 : Sl) (H : Heap) (K : Value → Heap → Prop) : Prop :=
∃ n1 : Int,
cellH H ⟨n, no + 3, none⟩ = some (.int .i64 n1) ∧
br ((n1 : Int) != 1) (
K (.tuple #[]) H)
 (
br ((m_15 : Int) != 0) (
K (.tuple #[]) H)
 (
 (∃ u, cellH H ⟨p, po + 3, none⟩ = some u) ∧
frozenH H ⟨p, po + 3, none⟩ = false ∧
letH (Heap.set H ⟨p, po + 3, none⟩ (.bool true)) fun H1 =>
FnH Tryz.prog 79 #[.pointer (some ⟨n, no, none⟩), .func (.func 80) #[] #[]] H1 fun r1 H2 =>
∃ b1 : Bool,
r1 = .bool b1 ∧
br (b1) (
FnH Tryz.prog 81 #[.pointer (some ⟨n, no, none⟩), .int .i64 now] H2 fun r2 H3 =>
r2 = .tuple #[] ∧
K (.tuple #[]) H3)
 (
K (.tuple #[]) H2)))
theorem raft_Node_voteTell_fn (n no : Nat) (now : Int) (p po : Nat) (m_0 m_1 m_2 m_3 m_4 m_5 m_6 m_7 m_8 m_9 m_10 m_11 m_12 m_13 m_14 m_15 : Int) (m_16 m_17 : ByteArray) (m_18 m_19 m_20 : Sl) {H : Heap} {K : Value → Heap → Prop} (h : raft_Node_voteTell_vc n no now p po m_0 m_1 m_2 m_3 m_4 m_5 m_6 m_7 m_8 m_9 m_10 m_11 m_12 m_13 m_14 m_15 m_16 m_17 m_18 m_19 m_20 H K) : FnH Tryz.prog 50 #[.pointer (some ⟨n, no, none⟩), .int .i64 now, .pointer (some ⟨p, po, none⟩), .agg #[.int .i64 m_0, .int .i64 m_1, .int .i64 m_2, .int .i64 m_3, .int .i64 m_4, .int .i64 m_5, .int .i64 m_6, .int .i64 m_7, .int .i64 m_8, .int .i64 m_9, .int .i64 m_10, .int .i64 m_11, .int .i64 m_12, .int .i64 m_13, .int .i64 m_14, .int .i64 m_15, .string m_16, .string m_17, .slice m_18.p m_18.n m_18.c, .slice m_19.p m_19.n m_19.c, .slice m_20.p m_20.n m_20.c]] H K :=
  denFn_fn Tryz.mixed raft_Node_voteTell_ann Tryz.func50 (bodyOf_spec (by kernel_rfl)) (by kernel_rfl) h
def raft_Node_appendAsk_ann : Anns := { hid := [7, 8], loops := [], joins := [((0, 6), { slots := [(66, .bool)], kept := [0, 7, 8, 9], locs := [], keptL := [0, 1] })], mix := [(6, []), (7, [7, 9]), (8, [8, 10]), (11, [13])] }
def raft_Node_appendAsk_vc (n no : Nat) (now : Int) (p po : Nat) (m_0 m_1 m_2 m_3 m_4 m_5 m_6 m_7 m_8 m_9 m_10 m_11 m_12 m_13 m_14 m_15 : Int) (m_16 m_17 : ByteArray) (m_18 m_19 m_20 : Sl) (H : Heap) (K : Value → Heap → Prop) : Prop :=
∃ n1 : Int,
cellH H ⟨n, no + 3, none⟩ = some (.int .i64 n1) ∧
br ((n1 : Int) == 2) (
K (.tuple #[]) H)
 (
FnH Tryz.prog 46 #[.pointer (some ⟨n, no, none⟩), .int .i64 m_1] H fun r1 H1 =>
r1 = .tuple #[] ∧
FnH Tryz.prog 38 #[.pointer (some ⟨n, no, none⟩), .int .i64 now] H1 fun r2 H2 =>
r2 = .tuple #[] ∧
∃ p1 : Option Addr,
cellH H2 ⟨n, no + 2, none⟩ = some (.pointer p1) ∧
ptrm p1 fun q1 o1 =>
FnH Tryz.prog 33 #[.pointer (some ⟨q1, o1, none⟩)] H2 fun r3 H3 =>
∃ n2 n3 : Int,
r3 = .tuple #[.int .i64 n2, .int .i64 n3] ∧
∃ J1 : Bool → Heap → Prop,
 (br (decide ((m_11 : Int) < 0)) (
SelfEq ([.v (.pointer (some ⟨n, no, none⟩)), .loc 0 0, .loc 1 0, .v (.int .i64 n2)], [some (33, [.int .i64 m_0, .int .i64 m_1, .int .i64 m_2, .int .i64 m_3, .int .i64 m_4, .int .i64 m_5, .int .i64 m_6, .int .i64 m_7, .int .i64 m_8, .int .i64 m_9, .int .i64 m_10, .int .i64 m_11, .int .i64 m_12, .int .i64 m_13, .int .i64 m_14, .int .i64 m_15, .string m_16, .string m_17, .slice m_18.p m_18.n m_18.c, .slice m_19.p m_19.n m_19.c, .slice m_20.p m_20.n m_20.c]), some (33, [.int .i64 4, .int .i64 0, .int .i64 m_1, .int .i64 0, .int .i64 0, .int .i64 0, .int .i64 0, .int .i64 0, .int .i64 0, .int .i64 0, .int .i64 0, .int .i64 0, .int .i64 0, .int .i64 0, .int .i64 0, .int .i64 0, .string (⟨#[]⟩ : ByteArray), .string (⟨#[]⟩ : ByteArray), .slice none 0 0, .slice none 0 0, .slice none 0 0])], []) ∧
J1 true H3)
 (
br (decide ((m_11 : Int) > n2)) (
SelfEq ([.v (.pointer (some ⟨n, no, none⟩)), .loc 0 0, .loc 1 0, .v (.int .i64 n2)], [some (33, [.int .i64 m_0, .int .i64 m_1, .int .i64 m_2, .int .i64 m_3, .int .i64 m_4, .int .i64 m_5, .int .i64 m_6, .int .i64 m_7, .int .i64 m_8, .int .i64 m_9, .int .i64 m_10, .int .i64 m_11, .int .i64 m_12, .int .i64 m_13, .int .i64 m_14, .int .i64 m_15, .string m_16, .string m_17, .slice m_18.p m_18.n m_18.c, .slice m_19.p m_19.n m_19.c, .slice m_20.p m_20.n m_20.c]), some (33, [.int .i64 4, .int .i64 0, .int .i64 m_1, .int .i64 0, .int .i64 0, .int .i64 0, .int .i64 0, .int .i64 0, .int .i64 0, .int .i64 0, .int .i64 0, .int .i64 0, .int .i64 0, .int .i64 0, .int .i64 0, .int .i64 0, .string (⟨#[]⟩ : ByteArray), .string (⟨#[]⟩ : ByteArray), .slice none 0 0, .slice none 0 0, .slice none 0 0])], []) ∧
J1 true H3)
 (
∃ p2 : Option Addr,
cellH H3 ⟨n, no + 2, none⟩ = some (.pointer p2) ∧
ptrm p2 fun q2 o2 =>
FnH Tryz.prog 89 #[.pointer (some ⟨q2, o2, none⟩)] H3 fun r4 H4 =>
∃ n4 : Int,
r4 = .int .i64 n4 ∧
Sub H3 H4 ∧
br (decide ((m_11 : Int) ≥ (IntKind.wrap .i64 (n4 - 1)))) (
FnH Tryz.prog 90 #[.pointer (some ⟨n, no, none⟩), .int .i64 m_11] H4 fun r5 H5 =>
∃ n5 : Int,
r5 = .int .i64 n5 ∧
Sub H3 H5 ∧
SelfEq ([.v (.pointer (some ⟨n, no, none⟩)), .loc 0 0, .loc 1 0, .v (.int .i64 n2)], [some (33, [.int .i64 m_0, .int .i64 m_1, .int .i64 m_2, .int .i64 m_3, .int .i64 m_4, .int .i64 m_5, .int .i64 m_6, .int .i64 m_7, .int .i64 m_8, .int .i64 m_9, .int .i64 m_10, .int .i64 m_11, .int .i64 m_12, .int .i64 m_13, .int .i64 m_14, .int .i64 m_15, .string m_16, .string m_17, .slice m_18.p m_18.n m_18.c, .slice m_19.p m_19.n m_19.c, .slice m_20.p m_20.n m_20.c]), some (33, [.int .i64 4, .int .i64 0, .int .i64 m_1, .int .i64 0, .int .i64 0, .int .i64 0, .int .i64 0, .int .i64 0, .int .i64 0, .int .i64 0, .int .i64 0, .int .i64 0, .int .i64 0, .int .i64 0, .int .i64 0, .int .i64 0, .string (⟨#[]⟩ : ByteArray), .string (⟨#[]⟩ : ByteArray), .slice none 0 0, .slice none 0 0, .slice none 0 0])], []) ∧
J1 ((n5 : Int) != m_7) H5)
 (
SelfEq ([.v (.pointer (some ⟨n, no, none⟩)), .loc 0 0, .loc 1 0, .v (.int .i64 n2)], [some (33, [.int .i64 m_0, .int .i64 m_1, .int .i64 m_2, .int .i64 m_3, .int .i64 m_4, .int .i64 m_5, .int .i64 m_6, .int .i64 m_7, .int .i64 m_8, .int .i64 m_9, .int .i64 m_10, .int .i64 m_11, .int .i64 m_12, .int .i64 m_13, .int .i64 m_14, .int .i64 m_15, .string m_16, .string m_17, .slice m_18.p m_18.n m_18.c, .slice m_19.p m_19.n m_19.c, .slice m_20.p m_20.n m_20.c]), some (33, [.int .i64 4, .int .i64 0, .int .i64 m_1, .int .i64 0, .int .i64 0, .int .i64 0, .int .i64 0, .int .i64 0, .int .i64 0, .int .i64 0, .int .i64 0, .int .i64 0, .int .i64 0, .int .i64 0, .int .i64 0, .int .i64 0, .string (⟨#[]⟩ : ByteArray), .string (⟨#[]⟩ : ByteArray), .slice none 0 0, .slice none 0 0, .slice none 0 0])], []) ∧
J1 false H4)))) ∧
∀ b_1 : Bool,
∀ H6 : Heap,
J1 b_1 H6 →
br (b_1) (
 (Sub H6 H6 ∧
 (Sub H6 H6 ∧
 (Sub H6 H6 ∧
FnH Tryz.prog 47 #[.pointer (some ⟨n, no, none⟩), .agg #[.int .i64 4, .int .i64 0, .int .i64 m_1, .int .i64 0, .int .i64 0, .int .i64 0, .int .i64 0, .int .i64 0, .int .i64 0, .int .i64 0, .int .i64 0, .int .i64 (if (if (IntKind.wrap .i64 (m_11 - 1)) < n2 then (IntKind.wrap .i64 (m_11 - 1)) else n2) > 0 then (if (IntKind.wrap .i64 (m_11 - 1)) < n2 then (IntKind.wrap .i64 (m_11 - 1)) else n2) else 0), .int .i64 0, .int .i64 0, .int .i64 0, .int .i64 11, .string (⟨#[]⟩ : ByteArray), .string (⟨#[]⟩ : ByteArray), .slice none 0 0, .slice none 0 0, .slice none 0 0]] H6 fun r6 H7 =>
r6 = .tuple #[] ∧
K (.tuple #[]) H7) ∧
FnH Tryz.prog 47 #[.pointer (some ⟨n, no, none⟩), .agg #[.int .i64 4, .int .i64 0, .int .i64 m_1, .int .i64 0, .int .i64 0, .int .i64 0, .int .i64 0, .int .i64 0, .int .i64 0, .int .i64 0, .int .i64 0, .int .i64 (if (if (IntKind.wrap .i64 (m_11 - 1)) < n2 then (IntKind.wrap .i64 (m_11 - 1)) else n2) > 0 then (if (IntKind.wrap .i64 (m_11 - 1)) < n2 then (IntKind.wrap .i64 (m_11 - 1)) else n2) else 0), .int .i64 0, .int .i64 0, .int .i64 0, .int .i64 11, .string (⟨#[]⟩ : ByteArray), .string (⟨#[]⟩ : ByteArray), .slice none 0 0, .slice none 0 0, .slice none 0 0]] H6 fun r7 H8 =>
r7 = .tuple #[] ∧
K (.tuple #[]) H8) ∧
FnH Tryz.prog 47 #[.pointer (some ⟨n, no, none⟩), .agg #[.int .i64 4, .int .i64 0, .int .i64 m_1, .int .i64 0, .int .i64 0, .int .i64 0, .int .i64 0, .int .i64 0, .int .i64 0, .int .i64 0, .int .i64 0, .int .i64 (if (if (IntKind.wrap .i64 (m_11 - 1)) < n2 then (IntKind.wrap .i64 (m_11 - 1)) else n2) > 0 then (if (IntKind.wrap .i64 (m_11 - 1)) < n2 then (IntKind.wrap .i64 (m_11 - 1)) else n2) else 0), .int .i64 0, .int .i64 0, .int .i64 0, .int .i64 11, .string (⟨#[]⟩ : ByteArray), .string (⟨#[]⟩ : ByteArray), .slice none 0 0, .slice none 0 0, .slice none 0 0]] H6 fun r8 H9 =>
r8 = .tuple #[] ∧
K (.tuple #[]) H9) ∧
FnH Tryz.prog 47 #[.pointer (some ⟨n, no, none⟩), .agg #[.int .i64 4, .int .i64 0, .int .i64 m_1, .int .i64 0, .int .i64 0, .int .i64 0, .int .i64 0, .int .i64 0, .int .i64 0, .int .i64 0, .int .i64 0, .int .i64 (if (if (IntKind.wrap .i64 (m_11 - 1)) < n2 then (IntKind.wrap .i64 (m_11 - 1)) else n2) > 0 then (if (IntKind.wrap .i64 (m_11 - 1)) < n2 then (IntKind.wrap .i64 (m_11 - 1)) else n2) else 0), .int .i64 0, .int .i64 0, .int .i64 0, .int .i64 11, .string (⟨#[]⟩ : ByteArray), .string (⟨#[]⟩ : ByteArray), .slice none 0 0, .slice none 0 0, .slice none 0 0]] H6 fun r9 H10 =>
r9 = .tuple #[] ∧
K (.tuple #[]) H10)
 (
∃ p3 : Option Addr,
cellH H6 ⟨n, no + 2, none⟩ = some (.pointer p3) ∧
FnH Tryz.prog 91 #[.pointer p3, .int .i64 m_11, .slice m_19.p m_19.n m_19.c] H6 fun r10 H11 =>
∃ n6 : Int,
r10 = .int .i64 n6 ∧
br ((n6 : Int) == 0) (
∃ n7 : Int,
cellH H11 ⟨n, no + 6, none⟩ = some (.int .i64 n7) ∧
 (∃ u, cellH H11 ⟨n, no + 6, none⟩ = some u) ∧
frozenH H11 ⟨n, no + 6, none⟩ = false ∧
letH (Heap.set H11 ⟨n, no + 6, none⟩ (.int .i64 (if (if m_9 < (IntKind.wrap .i64 (m_11 + (m_19.n : Nat))) then m_9 else (IntKind.wrap .i64 (m_11 + (m_19.n : Nat)))) > n7 then (if m_9 < (IntKind.wrap .i64 (m_11 + (m_19.n : Nat))) then m_9 else (IntKind.wrap .i64 (m_11 + (m_19.n : Nat)))) else n7))) fun H12 =>
FnH Tryz.prog 47 #[.pointer (some ⟨n, no, none⟩), .agg #[.int .i64 4, .int .i64 0, .int .i64 m_1, .int .i64 0, .int .i64 0, .int .i64 0, .int .i64 0, .int .i64 0, .int .i64 0, .int .i64 0, .int .i64 0, .int .i64 (IntKind.wrap .i64 (m_11 + (m_19.n : Nat))), .int .i64 0, .int .i64 0, .int .i64 0, .int .i64 n6, .string (⟨#[]⟩ : ByteArray), .string (⟨#[]⟩ : ByteArray), .slice none 0 0, .slice none 0 0, .slice none 0 0]] H12 fun r11 H13 =>
r11 = .tuple #[] ∧
K (.tuple #[]) H13)
 (
FnH Tryz.prog 47 #[.pointer (some ⟨n, no, none⟩), .agg #[.int .i64 4, .int .i64 0, .int .i64 m_1, .int .i64 0, .int .i64 0, .int .i64 0, .int .i64 0, .int .i64 0, .int .i64 0, .int .i64 0, .int .i64 0, .int .i64 0, .int .i64 0, .int .i64 0, .int .i64 0, .int .i64 n6, .string (⟨#[]⟩ : ByteArray), .string (⟨#[]⟩ : ByteArray), .slice none 0 0, .slice none 0 0, .slice none 0 0]] H11 fun r12 H14 =>
r12 = .tuple #[] ∧
K (.tuple #[]) H14)))
theorem raft_Node_appendAsk_fn (n no : Nat) (now : Int) (p po : Nat) (m_0 m_1 m_2 m_3 m_4 m_5 m_6 m_7 m_8 m_9 m_10 m_11 m_12 m_13 m_14 m_15 : Int) (m_16 m_17 : ByteArray) (m_18 m_19 m_20 : Sl) {H : Heap} {K : Value → Heap → Prop} (h : raft_Node_appendAsk_vc n no now p po m_0 m_1 m_2 m_3 m_4 m_5 m_6 m_7 m_8 m_9 m_10 m_11 m_12 m_13 m_14 m_15 m_16 m_17 m_18 m_19 m_20 H K) : FnH Tryz.prog 51 #[.pointer (some ⟨n, no, none⟩), .int .i64 now, .pointer (some ⟨p, po, none⟩), .agg #[.int .i64 m_0, .int .i64 m_1, .int .i64 m_2, .int .i64 m_3, .int .i64 m_4, .int .i64 m_5, .int .i64 m_6, .int .i64 m_7, .int .i64 m_8, .int .i64 m_9, .int .i64 m_10, .int .i64 m_11, .int .i64 m_12, .int .i64 m_13, .int .i64 m_14, .int .i64 m_15, .string m_16, .string m_17, .slice m_18.p m_18.n m_18.c, .slice m_19.p m_19.n m_19.c, .slice m_20.p m_20.n m_20.c]] H K :=
  denFn_fn Tryz.mixed raft_Node_appendAsk_ann Tryz.func51 (bodyOf_spec (by kernel_rfl)) (by kernel_rfl) h
def raft_Node_snapAsk_ann : Anns := { hid := [7, 8], loops := [], joins := [], mix := [(6, [10])] }
def raft_Node_snapAsk_vc (n no : Nat) (now : Int) (p po : Nat) (m_0 m_1 m_2 m_3 m_4 m_5 m_6 m_7 m_8 m_9 m_10 m_11 m_12 m_13 m_14 m_15 : Int) (m_16 m_17 : ByteArray) (m_18 m_19 m_20 : Sl) (H : Heap) (K : Value → Heap → Prop) : Prop :=
∃ n1 : Int,
cellH H ⟨n, no + 3, none⟩ = some (.int .i64 n1) ∧
br ((n1 : Int) == 2) (
K (.tuple #[]) H)
 (
FnH Tryz.prog 46 #[.pointer (some ⟨n, no, none⟩), .int .i64 m_1] H fun r1 H1 =>
r1 = .tuple #[] ∧
FnH Tryz.prog 38 #[.pointer (some ⟨n, no, none⟩), .int .i64 now] H1 fun r2 H2 =>
r2 = .tuple #[] ∧
∃ n2 : Int,
cellH H2 ⟨n, no + 6, none⟩ = some (.int .i64 n2) ∧
br (decide ((m_11 : Int) > n2)) (
∃ p1 : Option Addr,
cellH H2 ⟨n, no + 2, none⟩ = some (.pointer p1) ∧
FnH Tryz.prog 92 #[.pointer p1, .int .i64 m_11, .int .i64 m_7, .string m_17] H2 fun r3 H3 =>
∃ n3 : Int,
r3 = .int .i64 n3 ∧
br ((n3 : Int) != 0) (
FnH Tryz.prog 47 #[.pointer (some ⟨n, no, none⟩), .agg #[.int .i64 6, .int .i64 0, .int .i64 m_1, .int .i64 0, .int .i64 0, .int .i64 0, .int .i64 0, .int .i64 0, .int .i64 0, .int .i64 0, .int .i64 0, .int .i64 0, .int .i64 0, .int .i64 0, .int .i64 0, .int .i64 n3, .string (⟨#[]⟩ : ByteArray), .string (⟨#[]⟩ : ByteArray), .slice none 0 0, .slice none 0 0, .slice none 0 0]] H3 fun r4 H4 =>
r4 = .tuple #[] ∧
K (.tuple #[]) H4)
 (
 (∃ u, cellH H3 ⟨n, no + 6, none⟩ = some u) ∧
frozenH H3 ⟨n, no + 6, none⟩ = false ∧
letH (Heap.set H3 ⟨n, no + 6, none⟩ (.int .i64 m_11)) fun H5 =>
FnH Tryz.prog 47 #[.pointer (some ⟨n, no, none⟩), .agg #[.int .i64 6, .int .i64 0, .int .i64 m_1, .int .i64 0, .int .i64 0, .int .i64 0, .int .i64 0, .int .i64 0, .int .i64 0, .int .i64 0, .int .i64 0, .int .i64 m_11, .int .i64 0, .int .i64 0, .int .i64 0, .int .i64 0, .string (⟨#[]⟩ : ByteArray), .string (⟨#[]⟩ : ByteArray), .slice none 0 0, .slice none 0 0, .slice none 0 0]] H5 fun r5 H6 =>
r5 = .tuple #[] ∧
K (.tuple #[]) H6))
 (
FnH Tryz.prog 47 #[.pointer (some ⟨n, no, none⟩), .agg #[.int .i64 6, .int .i64 0, .int .i64 m_1, .int .i64 0, .int .i64 0, .int .i64 0, .int .i64 0, .int .i64 0, .int .i64 0, .int .i64 0, .int .i64 0, .int .i64 m_11, .int .i64 0, .int .i64 0, .int .i64 0, .int .i64 0, .string (⟨#[]⟩ : ByteArray), .string (⟨#[]⟩ : ByteArray), .slice none 0 0, .slice none 0 0, .slice none 0 0]] H2 fun r6 H7 =>
r6 = .tuple #[] ∧
K (.tuple #[]) H7))
theorem raft_Node_snapAsk_fn (n no : Nat) (now : Int) (p po : Nat) (m_0 m_1 m_2 m_3 m_4 m_5 m_6 m_7 m_8 m_9 m_10 m_11 m_12 m_13 m_14 m_15 : Int) (m_16 m_17 : ByteArray) (m_18 m_19 m_20 : Sl) {H : Heap} {K : Value → Heap → Prop} (h : raft_Node_snapAsk_vc n no now p po m_0 m_1 m_2 m_3 m_4 m_5 m_6 m_7 m_8 m_9 m_10 m_11 m_12 m_13 m_14 m_15 m_16 m_17 m_18 m_19 m_20 H K) : FnH Tryz.prog 52 #[.pointer (some ⟨n, no, none⟩), .int .i64 now, .pointer (some ⟨p, po, none⟩), .agg #[.int .i64 m_0, .int .i64 m_1, .int .i64 m_2, .int .i64 m_3, .int .i64 m_4, .int .i64 m_5, .int .i64 m_6, .int .i64 m_7, .int .i64 m_8, .int .i64 m_9, .int .i64 m_10, .int .i64 m_11, .int .i64 m_12, .int .i64 m_13, .int .i64 m_14, .int .i64 m_15, .string m_16, .string m_17, .slice m_18.p m_18.n m_18.c, .slice m_19.p m_19.n m_19.c, .slice m_20.p m_20.n m_20.c]] H K :=
  denFn_fn Tryz.mixed raft_Node_snapAsk_ann Tryz.func52 (bodyOf_spec (by kernel_rfl)) (by kernel_rfl) h
def raft_Node_matched_ann : Anns := { hid := [7], loops := [], joins := [((0, 9), { slots := [(60, .bool)], kept := [0, 2, 7], locs := [], keptL := [0] })], mix := [(4, [12]), (10, [18])] }
def raft_Node_matched_vc (n no : Nat) (now : Int) (p po : Nat) (m_0 m_1 m_2 m_3 m_4 m_5 m_6 m_7 m_8 m_9 m_10 m_11 m_12 m_13 m_14 m_15 : Int) (m_16 m_17 : ByteArray) (m_18 m_19 m_20 : Sl) (H : Heap) (K : Value → Heap → Prop) : Prop :=
∃ n1 : Int,
cellH H ⟨n, no + 3, none⟩ = some (.int .i64 n1) ∧
br ((n1 : Int) != 2) (
K (.tuple #[]) H)
 (
∃ p1 : Option Addr,
cellH H ⟨n, no + 2, none⟩ = some (.pointer p1) ∧
ptrm p1 fun q1 o1 =>
FnH Tryz.prog 33 #[.pointer (some ⟨q1, o1, none⟩)] H fun r1 H1 =>
∃ n2 n3 : Int,
r1 = .tuple #[.int .i64 n2, .int .i64 n3] ∧
br ((m_15 : Int) == 0) (
∃ n4 : Int,
cellH H1 ⟨p, po + 2, none⟩ = some (.int .i64 n4) ∧
 (∃ u, cellH H1 ⟨p, po + 2, none⟩ = some u) ∧
frozenH H1 ⟨p, po + 2, none⟩ = false ∧
letH (Heap.set H1 ⟨p, po + 2, none⟩ (.int .i64 (if (if n2 < m_11 then n2 else m_11) > n4 then (if n2 < m_11 then n2 else m_11) else n4))) fun H2 =>
∃ n5 : Int,
cellH H2 ⟨p, po + 2, none⟩ = some (.int .i64 n5) ∧
 (∃ u, cellH H2 ⟨p, po + 1, none⟩ = some u) ∧
frozenH H2 ⟨p, po + 1, none⟩ = false ∧
letH (Heap.set H2 ⟨p, po + 1, none⟩ (.int .i64 (IntKind.wrap .i64 (n5 + 1)))) fun H3 =>
FnH Tryz.prog 54 #[.pointer (some ⟨n, no, none⟩)] H3 fun r2 H4 =>
r2 = .tuple #[] ∧
∃ n6 : Int,
cellH H4 ⟨p, po + 1, none⟩ = some (.int .i64 n6) ∧
br (decide ((n6 : Int) ≤ n2)) (
FnH Tryz.prog 88 #[.pointer (some ⟨n, no, none⟩), .pointer (some ⟨p, po, none⟩)] H4 fun r3 H5 =>
r3 = .tuple #[] ∧
K (.tuple #[]) H5)
 (
K (.tuple #[]) H4))
 (
∃ J1 : Bool → Heap → Prop,
 (br ((m_15 : Int) == 11) (
SelfEq ([.v (.pointer (some ⟨n, no, none⟩)), .v (.pointer (some ⟨p, po, none⟩)), .loc 0 0], [some (33, [.int .i64 m_0, .int .i64 m_1, .int .i64 m_2, .int .i64 m_3, .int .i64 m_4, .int .i64 m_5, .int .i64 m_6, .int .i64 m_7, .int .i64 m_8, .int .i64 m_9, .int .i64 m_10, .int .i64 m_11, .int .i64 m_12, .int .i64 m_13, .int .i64 m_14, .int .i64 m_15, .string m_16, .string m_17, .slice m_18.p m_18.n m_18.c, .slice m_19.p m_19.n m_19.c, .slice m_20.p m_20.n m_20.c])], []) ∧
J1 ((m_0 : Int) == 4) H1)
 (
SelfEq ([.v (.pointer (some ⟨n, no, none⟩)), .v (.pointer (some ⟨p, po, none⟩)), .loc 0 0], [some (33, [.int .i64 m_0, .int .i64 m_1, .int .i64 m_2, .int .i64 m_3, .int .i64 m_4, .int .i64 m_5, .int .i64 m_6, .int .i64 m_7, .int .i64 m_8, .int .i64 m_9, .int .i64 m_10, .int .i64 m_11, .int .i64 m_12, .int .i64 m_13, .int .i64 m_14, .int .i64 m_15, .string m_16, .string m_17, .slice m_18.p m_18.n m_18.c, .slice m_19.p m_19.n m_19.c, .slice m_20.p m_20.n m_20.c])], []) ∧
J1 false H1)) ∧
∀ b_1 : Bool,
∀ H6 : Heap,
J1 b_1 H6 →
br (b_1) (
∃ n7 : Int,
cellH H6 ⟨p, po + 2, none⟩ = some (.int .i64 n7) ∧
∃ n8 : Int,
cellH H6 ⟨p, po + 1, none⟩ = some (.int .i64 n8) ∧
 (∃ u, cellH H6 ⟨p, po + 1, none⟩ = some u) ∧
frozenH H6 ⟨p, po + 1, none⟩ = false ∧
letH (Heap.set H6 ⟨p, po + 1, none⟩ (.int .i64 (if (if (IntKind.wrap .i64 (m_11 + 1)) < (IntKind.wrap .i64 (n8 - 1)) then (IntKind.wrap .i64 (m_11 + 1)) else (IntKind.wrap .i64 (n8 - 1))) > (if (IntKind.wrap .i64 (n7 + 1)) > 1 then (IntKind.wrap .i64 (n7 + 1)) else 1) then (if (IntKind.wrap .i64 (m_11 + 1)) < (IntKind.wrap .i64 (n8 - 1)) then (IntKind.wrap .i64 (m_11 + 1)) else (IntKind.wrap .i64 (n8 - 1))) else (if (IntKind.wrap .i64 (n7 + 1)) > 1 then (IntKind.wrap .i64 (n7 + 1)) else 1)))) fun H7 =>
FnH Tryz.prog 88 #[.pointer (some ⟨n, no, none⟩), .pointer (some ⟨p, po, none⟩)] H7 fun r4 H8 =>
r4 = .tuple #[] ∧
K (.tuple #[]) H8)
 (
K (.tuple #[]) H6)))
theorem raft_Node_matched_fn (n no : Nat) (now : Int) (p po : Nat) (m_0 m_1 m_2 m_3 m_4 m_5 m_6 m_7 m_8 m_9 m_10 m_11 m_12 m_13 m_14 m_15 : Int) (m_16 m_17 : ByteArray) (m_18 m_19 m_20 : Sl) {H : Heap} {K : Value → Heap → Prop} (h : raft_Node_matched_vc n no now p po m_0 m_1 m_2 m_3 m_4 m_5 m_6 m_7 m_8 m_9 m_10 m_11 m_12 m_13 m_14 m_15 m_16 m_17 m_18 m_19 m_20 H K) : FnH Tryz.prog 48 #[.pointer (some ⟨n, no, none⟩), .int .i64 now, .pointer (some ⟨p, po, none⟩), .agg #[.int .i64 m_0, .int .i64 m_1, .int .i64 m_2, .int .i64 m_3, .int .i64 m_4, .int .i64 m_5, .int .i64 m_6, .int .i64 m_7, .int .i64 m_8, .int .i64 m_9, .int .i64 m_10, .int .i64 m_11, .int .i64 m_12, .int .i64 m_13, .int .i64 m_14, .int .i64 m_15, .string m_16, .string m_17, .slice m_18.p m_18.n m_18.c, .slice m_19.p m_19.n m_19.c, .slice m_20.p m_20.n m_20.c]] H K :=
  denFn_fn Tryz.mixed raft_Node_matched_ann Tryz.func48 (bodyOf_spec (by kernel_rfl)) (by kernel_rfl) h
def raft_Node_Step_ann : Anns := { hid := [], loops := [], joins := [((11, 5), { slots := [], kept := [0, 1, 5, 7], locs := [], keptL := [] }), ((12, 0), { slots := [(8, .fn)], kept := [0, 1, 5, 7], locs := [], keptL := [] })], mix := [(4, []), (5, [6]), (8, []), (22, [10])] }
def raft_Node_Step_vc (n no : Nat) (now m_0 m_1 m_2 m_3 m_4 m_5 m_6 m_7 m_8 m_9 m_10 m_11 m_12 m_13 m_14 m_15 : Int) (m_16 m_17 : ByteArray) (m_18 m_19 m_20 : Sl) (H : Heap) (K : Value → Heap → Prop) : Prop :=
∀ q1 : Nat,
H q1 = none →
letH (Heap.upd H q1 (.cells #[.int .i64 m_0, .int .i64 m_1, .int .i64 m_2, .int .i64 m_3, .int .i64 m_4, .int .i64 m_5, .int .i64 m_6, .int .i64 m_7, .int .i64 m_8, .int .i64 m_9, .int .i64 m_10, .int .i64 m_11, .int .i64 m_12, .int .i64 m_13, .int .i64 m_14, .int .i64 m_15, .string m_16, .string m_17, .slice m_18.p m_18.n m_18.c, .slice m_19.p m_19.n m_19.c, .slice m_20.p m_20.n m_20.c] 33 (0, 0))) fun H1 =>
∃ l1 : Sl,
cellH H1 ⟨n, no + 5, none⟩ = some (.slice l1.p l1.n l1.c) ∧
FnH Tryz.prog 43 #[.slice l1.p l1.n l1.c, .func (.func 44) #[] #[.pointer (some ⟨q1, 0, none⟩)]] H1 fun r1 H2 =>
∃ n1 : Int,
r1 = .int .i64 n1 ∧
∃ n2 : Int,
cellH H2 ⟨q1, 2, none⟩ = some (.int .i64 n2) ∧
∃ n3 : Int,
cellH H2 ⟨n, no, none⟩ = some (.int .i64 n3) ∧
br ((n2 : Int) != n3) (
K (.slice none 0 0) H2)
 (
br (decide ((n1 : Int) < 0)) (
K (.slice none 0 0) H2)
 (
∃ n4 : Int,
cellH H2 ⟨q1, 0, none⟩ = some (.int .i64 n4) ∧
br (decide ((n4 : Int) < 1)) (
K (.slice none 0 0) H2)
 (
∃ n5 : Int,
cellH H2 ⟨q1, 0, none⟩ = some (.int .i64 n5) ∧
br (decide ((n5 : Int) > 6)) (
K (.slice none 0 0) H2)
 (
∃ n6 : Int,
cellH H2 ⟨q1, 10, none⟩ = some (.int .i64 n6) ∧
br (decide ((n6 : Int) < 0)) (
K (.slice none 0 0) H2)
 (
∃ J1 : Heap → Prop,
 (∃ n7 : Int,
cellH H2 ⟨q1, 10, none⟩ = some (.int .i64 n7) ∧
∃ p1 : Option Addr,
cellH H2 ⟨n, no + 2, none⟩ = some (.pointer p1) ∧
ptrm p1 fun q2 o1 =>
FnH Tryz.prog 42 #[.pointer (some ⟨q2, o1, none⟩)] H2 fun r2 H3 =>
∃ n8 : Int,
r2 = .int .i64 n8 ∧
Sub H2 H3 ∧
br (decide ((n7 : Int) > n8)) (
∃ p2 : Option Addr,
cellH H3 ⟨n, no + 2, none⟩ = some (.pointer p2) ∧
∃ n9 : Int,
cellH H3 ⟨q1, 10, none⟩ = some (.int .i64 n9) ∧
FnH Tryz.prog 45 #[.pointer p2, .int .i64 n9, .int .i64 0] H3 fun r3 H4 =>
∃ n10 : Int,
r3 = .int .i64 n10 ∧
br ((n10 : Int) != 0) (
K (.slice none 0 0) H4)
 (
FnH Tryz.prog 46 #[.pointer (some ⟨n, no, none⟩), .int .i64 0] H4 fun r4 H5 =>
r4 = .tuple #[] ∧
SelfEq ([.v (.pointer (some ⟨n, no, none⟩)), .v (.int .i64 now), .v (.pointer (some ⟨q1, 0, none⟩)), .v (.int .i64 n1)], [], []) ∧
J1 H5))
 (
SelfEq ([.v (.pointer (some ⟨n, no, none⟩)), .v (.int .i64 now), .v (.pointer (some ⟨q1, 0, none⟩)), .v (.int .i64 n1)], [], []) ∧
J1 H3)) ∧
∀ H6 : Heap,
J1 H6 →
∃ n11 : Int,
cellH H6 ⟨q1, 10, none⟩ = some (.int .i64 n11) ∧
∃ p3 : Option Addr,
cellH H6 ⟨n, no + 2, none⟩ = some (.pointer p3) ∧
ptrm p3 fun q3 o2 =>
FnH Tryz.prog 42 #[.pointer (some ⟨q3, o2, none⟩)] H6 fun r5 H7 =>
∃ n12 : Int,
r5 = .int .i64 n12 ∧
Sub H6 H7 ∧
br (decide ((n11 : Int) < n12)) (
∃ n13 : Int,
cellH H7 ⟨q1, 0, none⟩ = some (.int .i64 n13) ∧
 (2 : Int) ≠ 0 ∧
br (((Int.tmod n13 2) : Int) == 1) (
∃ n14 : Int,
cellH H7 ⟨q1, 0, none⟩ = some (.int .i64 n14) ∧
∃ n15 : Int,
cellH H7 ⟨q1, 1, none⟩ = some (.int .i64 n15) ∧
FnH Tryz.prog 47 #[.pointer (some ⟨n, no, none⟩), .agg #[.int .i64 (IntKind.wrap .i64 (n14 + 1)), .int .i64 0, .int .i64 n15, .int .i64 0, .int .i64 0, .int .i64 0, .int .i64 0, .int .i64 0, .int .i64 0, .int .i64 0, .int .i64 0, .int .i64 0, .int .i64 0, .int .i64 0, .int .i64 0, .int .i64 13, .string (⟨#[]⟩ : ByteArray), .string (⟨#[]⟩ : ByteArray), .slice none 0 0, .slice none 0 0, .slice none 0 0]] H7 fun r6 H8 =>
r6 = .tuple #[] ∧
FnH Tryz.prog 37 #[.pointer (some ⟨n, no, none⟩)] H8 fun r7 H9 =>
∃ l2 : Sl,
r7 = .slice l2.p l2.n l2.c ∧
K (.slice l2.p l2.n l2.c) H9)
 (
FnH Tryz.prog 37 #[.pointer (some ⟨n, no, none⟩)] H7 fun r8 H10 =>
∃ l3 : Sl,
r8 = .slice l3.p l3.n l3.c ∧
K (.slice l3.p l3.n l3.c) H10))
 (
∃ J2 : Fv → Heap → Prop,
 (∃ n16 : Int,
cellH H7 ⟨q1, 0, none⟩ = some (.int .i64 n16) ∧
br ((n16 : Int) == 1) (
SelfEq ([.v (.pointer (some ⟨n, no, none⟩)), .v (.int .i64 now), .v (.pointer (some ⟨q1, 0, none⟩)), .v (.int .i64 n1)], [], []) ∧
J2 ⟨49, #[.pointer (some ⟨n, no, none⟩)], #[]⟩ H7)
 (
br ((n16 : Int) == 2) (
SelfEq ([.v (.pointer (some ⟨n, no, none⟩)), .v (.int .i64 now), .v (.pointer (some ⟨q1, 0, none⟩)), .v (.int .i64 n1)], [], []) ∧
J2 ⟨50, #[.pointer (some ⟨n, no, none⟩)], #[]⟩ H7)
 (
br ((n16 : Int) == 3) (
SelfEq ([.v (.pointer (some ⟨n, no, none⟩)), .v (.int .i64 now), .v (.pointer (some ⟨q1, 0, none⟩)), .v (.int .i64 n1)], [], []) ∧
J2 ⟨51, #[.pointer (some ⟨n, no, none⟩)], #[]⟩ H7)
 (
br ((n16 : Int) == 5) (
SelfEq ([.v (.pointer (some ⟨n, no, none⟩)), .v (.int .i64 now), .v (.pointer (some ⟨q1, 0, none⟩)), .v (.int .i64 n1)], [], []) ∧
J2 ⟨52, #[.pointer (some ⟨n, no, none⟩)], #[]⟩ H7)
 (
SelfEq ([.v (.pointer (some ⟨n, no, none⟩)), .v (.int .i64 now), .v (.pointer (some ⟨q1, 0, none⟩)), .v (.int .i64 n1)], [], []) ∧
J2 ⟨48, #[.pointer (some ⟨n, no, none⟩)], #[]⟩ H7))))) ∧
∀ does_1 : Fv,
∀ H11 : Heap,
J2 does_1 H11 →
∃ l4 : Sl,
cellH H11 ⟨n, no + 5, none⟩ = some (.slice l4.p l4.n l4.c) ∧
∃ q4 o3 : Nat,
 (l4.p : Option Addr) = some ⟨q4, o3, none⟩ ∧
0 ≤ (n1 : Int) ∧
 (n1 : Int) < (l4.n : Nat) ∧
∃ p4 : Option Addr,
cellH H11 ⟨q4, o3 + Int.toNat n1, none⟩ = some (.pointer p4) ∧
∃ n17 : Int,
cellH H11 ⟨q1, 0, none⟩ = some (.int .i64 n17) ∧
∃ n18 : Int,
cellH H11 ⟨q1, 1, none⟩ = some (.int .i64 n18) ∧
∃ n19 : Int,
cellH H11 ⟨q1, 2, none⟩ = some (.int .i64 n19) ∧
∃ n20 : Int,
cellH H11 ⟨q1, 3, none⟩ = some (.int .i64 n20) ∧
∃ n21 : Int,
cellH H11 ⟨q1, 4, none⟩ = some (.int .i64 n21) ∧
∃ n22 : Int,
cellH H11 ⟨q1, 5, none⟩ = some (.int .i64 n22) ∧
∃ n23 : Int,
cellH H11 ⟨q1, 6, none⟩ = some (.int .i64 n23) ∧
∃ n24 : Int,
cellH H11 ⟨q1, 7, none⟩ = some (.int .i64 n24) ∧
∃ n25 : Int,
cellH H11 ⟨q1, 8, none⟩ = some (.int .i64 n25) ∧
∃ n26 : Int,
cellH H11 ⟨q1, 9, none⟩ = some (.int .i64 n26) ∧
∃ n27 : Int,
cellH H11 ⟨q1, 10, none⟩ = some (.int .i64 n27) ∧
∃ n28 : Int,
cellH H11 ⟨q1, 11, none⟩ = some (.int .i64 n28) ∧
∃ n29 : Int,
cellH H11 ⟨q1, 12, none⟩ = some (.int .i64 n29) ∧
∃ n30 : Int,
cellH H11 ⟨q1, 13, none⟩ = some (.int .i64 n30) ∧
∃ n31 : Int,
cellH H11 ⟨q1, 14, none⟩ = some (.int .i64 n31) ∧
∃ n32 : Int,
cellH H11 ⟨q1, 15, none⟩ = some (.int .i64 n32) ∧
∃ s1 : ByteArray,
cellH H11 ⟨q1, 16, none⟩ = some (.string s1) ∧
∃ s2 : ByteArray,
cellH H11 ⟨q1, 17, none⟩ = some (.string s2) ∧
∃ l5 : Sl,
cellH H11 ⟨q1, 18, none⟩ = some (.slice l5.p l5.n l5.c) ∧
∃ l6 : Sl,
cellH H11 ⟨q1, 19, none⟩ = some (.slice l6.p l6.n l6.c) ∧
∃ l7 : Sl,
cellH H11 ⟨q1, 20, none⟩ = some (.slice l7.p l7.n l7.c) ∧
callV Tryz.prog (.v (.func (.func does_1.k) does_1.first does_1.cap)) fun g1 f1 t1 => FnH Tryz.prog g1 (f1 ++ ([.int .i64 now, .pointer p4, .agg #[.int .i64 n17, .int .i64 n18, .int .i64 n19, .int .i64 n20, .int .i64 n21, .int .i64 n22, .int .i64 n23, .int .i64 n24, .int .i64 n25, .int .i64 n26, .int .i64 n27, .int .i64 n28, .int .i64 n29, .int .i64 n30, .int .i64 n31, .int .i64 n32, .string s1, .string s2, .slice l5.p l5.n l5.c, .slice l6.p l6.n l6.c, .slice l7.p l7.n l7.c]] ++ t1 : List Value)).toArray H11 fun r9 H12 =>
r9 = .tuple #[] ∧
FnH Tryz.prog 37 #[.pointer (some ⟨n, no, none⟩)] H12 fun r10 H13 =>
∃ l8 : Sl,
r10 = .slice l8.p l8.n l8.c ∧
K (.slice l8.p l8.n l8.c) H13))))))
theorem raft_Node_Step_fn (n no : Nat) (now m_0 m_1 m_2 m_3 m_4 m_5 m_6 m_7 m_8 m_9 m_10 m_11 m_12 m_13 m_14 m_15 : Int) (m_16 m_17 : ByteArray) (m_18 m_19 m_20 : Sl) {H : Heap} {K : Value → Heap → Prop} (h : raft_Node_Step_vc n no now m_0 m_1 m_2 m_3 m_4 m_5 m_6 m_7 m_8 m_9 m_10 m_11 m_12 m_13 m_14 m_15 m_16 m_17 m_18 m_19 m_20 H K) : FnH Tryz.prog 15 #[.pointer (some ⟨n, no, none⟩), .int .i64 now, .agg #[.int .i64 m_0, .int .i64 m_1, .int .i64 m_2, .int .i64 m_3, .int .i64 m_4, .int .i64 m_5, .int .i64 m_6, .int .i64 m_7, .int .i64 m_8, .int .i64 m_9, .int .i64 m_10, .int .i64 m_11, .int .i64 m_12, .int .i64 m_13, .int .i64 m_14, .int .i64 m_15, .string m_16, .string m_17, .slice m_18.p m_18.n m_18.c, .slice m_19.p m_19.n m_19.c, .slice m_20.p m_20.n m_20.c]] H K :=
  denFn_fn Tryz.mixed raft_Node_Step_ann Tryz.func15 (bodyOf_spec (by kernel_rfl)) (by kernel_rfl) h
def raft_Node_Propose_ann : Anns := { hid := [], loops := [], joins := [], mix := [] }
def raft_Node_Propose_vc (n no : Nat) (now : Int) (data : ByteArray) (H : Heap) (K : Value → Heap → Prop) : Prop :=
∃ n1 : Int,
cellH H ⟨n, no + 3, none⟩ = some (.int .i64 n1) ∧
br ((n1 : Int) != 2) (
K (.tuple #[.int .i64 0, .slice none 0 0, .int .i64 15]) H)
 (
FnH Tryz.prog 53 #[.pointer (some ⟨n, no, none⟩), .string data] H fun r1 H1 =>
∃ n2 n3 : Int,
r1 = .tuple #[.int .i64 n2, .int .i64 n3] ∧
br ((n3 : Int) != 0) (
K (.tuple #[.int .i64 0, .slice none 0 0, .int .i64 n3]) H1)
 (
FnH Tryz.prog 54 #[.pointer (some ⟨n, no, none⟩)] H1 fun r2 H2 =>
r2 = .tuple #[] ∧
FnH Tryz.prog 55 #[.pointer (some ⟨n, no, none⟩)] H2 fun r3 H3 =>
r3 = .tuple #[] ∧
FnH Tryz.prog 37 #[.pointer (some ⟨n, no, none⟩)] H3 fun r4 H4 =>
∃ l1 : Sl,
r4 = .slice l1.p l1.n l1.c ∧
K (.tuple #[.int .i64 n2, .slice l1.p l1.n l1.c, .int .i64 0]) H4))
theorem raft_Node_Propose_fn (n no : Nat) (now : Int) (data : ByteArray) {H : Heap} {K : Value → Heap → Prop} (h : raft_Node_Propose_vc n no now data H K) : FnH Tryz.prog 17 #[.pointer (some ⟨n, no, none⟩), .int .i64 now, .string data] H K :=
  denFn_fn Tryz.mixed raft_Node_Propose_ann Tryz.func17 (bodyOf_spec (by kernel_rfl)) (by kernel_rfl) h
def raft_Node_Take_ann : Anns := { hid := [], loops := [], joins := [], mix := [(8, [22])] }
def raft_Node_Take_vc (n no : Nat) (H : Heap) (K : Value → Heap → Prop) : Prop :=
∃ p1 : Option Addr,
cellH H ⟨n, no + 2, none⟩ = some (.pointer p1) ∧
ptrm p1 fun q1 o1 =>
FnH Tryz.prog 56 #[.pointer (some ⟨q1, o1, none⟩)] H fun r1 H1 =>
∃ n1 n2 : Int,
∃ s1 : ByteArray,
r1 = .tuple #[.int .i64 n1, .int .i64 n2, .string s1] ∧
∃ n3 : Int,
cellH H1 ⟨n, no + 7, none⟩ = some (.int .i64 n3) ∧
br (decide ((n1 : Int) > n3)) (
∀ q2 : Nat,
H1 q2 = none →
letH (Heap.upd H1 q2 (.cells #[.int .i64 n2, .int .i64 n1, .string s1] 51 (0, 0))) fun H2 =>
runH Tryz.prog (Builtin.append_ #[29, 29] 29 #[.slice none 0 0, .slice (some ⟨q2, 0, none⟩) 1 1]) H2 fun r2 H3 =>
∃ l1 : Sl,
r2 = .slice l1.p l1.n l1.c ∧
 (∃ u, cellH H3 ⟨n, no + 7, none⟩ = some u) ∧
frozenH H3 ⟨n, no + 7, none⟩ = false ∧
letH (Heap.set H3 ⟨n, no + 7, none⟩ (.int .i64 n1)) fun H4 =>
∃ n4 : Int,
cellH H4 ⟨n, no + 7, none⟩ = some (.int .i64 n4) ∧
∃ n5 : Int,
cellH H4 ⟨n, no + 6, none⟩ = some (.int .i64 n5) ∧
br (decide ((n4 : Int) < n5)) (
∃ p2 : Option Addr,
cellH H4 ⟨n, no + 2, none⟩ = some (.pointer p2) ∧
ptrm p2 fun q3 o2 =>
∃ n6 : Int,
cellH H4 ⟨n, no + 7, none⟩ = some (.int .i64 n6) ∧
∃ n7 : Int,
cellH H4 ⟨n, no + 6, none⟩ = some (.int .i64 n7) ∧
∃ n8 : Int,
cellH H4 ⟨n, no + 7, none⟩ = some (.int .i64 n8) ∧
FnH Tryz.prog 57 #[.pointer (some ⟨q3, o2, none⟩), .int .i64 (IntKind.wrap .i64 (n6 + 1)), .int .i64 (IntKind.wrap .i64 (n7 - n8))] H4 fun r3 H5 =>
∃ l2 : Sl,
r3 = .slice l2.p l2.n l2.c ∧
Sub H4 H5 ∧
runH Tryz.prog (Builtin.append_ #[29, 29] 29 #[.slice l1.p l1.n l1.c, .slice l2.p l2.n l2.c]) H5 fun r4 H6 =>
∃ l3 : Sl,
r4 = .slice l3.p l3.n l3.c ∧
∃ n9 : Int,
cellH H6 ⟨n, no + 6, none⟩ = some (.int .i64 n9) ∧
 (∃ u, cellH H6 ⟨n, no + 7, none⟩ = some u) ∧
frozenH H6 ⟨n, no + 7, none⟩ = false ∧
letH (Heap.set H6 ⟨n, no + 7, none⟩ (.int .i64 n9)) fun H7 =>
K (.tuple #[.slice l3.p l3.n l3.c, .bool (decide ((n1 : Int) > n3))]) H7)
 (
K (.tuple #[.slice l1.p l1.n l1.c, .bool (decide ((n1 : Int) > n3))]) H4))
 (
∃ n10 : Int,
cellH H1 ⟨n, no + 7, none⟩ = some (.int .i64 n10) ∧
∃ n11 : Int,
cellH H1 ⟨n, no + 6, none⟩ = some (.int .i64 n11) ∧
br (decide ((n10 : Int) < n11)) (
∃ p3 : Option Addr,
cellH H1 ⟨n, no + 2, none⟩ = some (.pointer p3) ∧
ptrm p3 fun q4 o3 =>
∃ n12 : Int,
cellH H1 ⟨n, no + 7, none⟩ = some (.int .i64 n12) ∧
∃ n13 : Int,
cellH H1 ⟨n, no + 6, none⟩ = some (.int .i64 n13) ∧
∃ n14 : Int,
cellH H1 ⟨n, no + 7, none⟩ = some (.int .i64 n14) ∧
FnH Tryz.prog 57 #[.pointer (some ⟨q4, o3, none⟩), .int .i64 (IntKind.wrap .i64 (n12 + 1)), .int .i64 (IntKind.wrap .i64 (n13 - n14))] H1 fun r5 H8 =>
∃ l4 : Sl,
r5 = .slice l4.p l4.n l4.c ∧
Sub H1 H8 ∧
runH Tryz.prog (Builtin.append_ #[29, 29] 29 #[.slice none 0 0, .slice l4.p l4.n l4.c]) H8 fun r6 H9 =>
∃ l5 : Sl,
r6 = .slice l5.p l5.n l5.c ∧
∃ n15 : Int,
cellH H9 ⟨n, no + 6, none⟩ = some (.int .i64 n15) ∧
 (∃ u, cellH H9 ⟨n, no + 7, none⟩ = some u) ∧
frozenH H9 ⟨n, no + 7, none⟩ = false ∧
letH (Heap.set H9 ⟨n, no + 7, none⟩ (.int .i64 n15)) fun H10 =>
K (.tuple #[.slice l5.p l5.n l5.c, .bool (decide ((n1 : Int) > n3))]) H10)
 (
K (.tuple #[.slice none 0 0, .bool (decide ((n1 : Int) > n3))]) H1))
theorem raft_Node_Take_fn (n no : Nat) {H : Heap} {K : Value → Heap → Prop} (h : raft_Node_Take_vc n no H K) : FnH Tryz.prog 19 #[.pointer (some ⟨n, no, none⟩)] H K :=
  denFn_fn Tryz.mixed raft_Node_Take_ann Tryz.func19 (bodyOf_spec (by kernel_rfl)) (by kernel_rfl) h
def raft_New_ann : Anns := { hid := [], loops := [(0, { slots := [(54, .int .i64)], kept := [0, 1, 13, 52, 53], locs := [], keptL := [] })], joins := [], mix := [] }
def raft_New_vc (id : Int) (voters : Sl) (l lo : Nat) (wait : Int) (H : Heap) (K : Value → Heap → Prop) : Prop :=
br (((voters.n : Nat) : Int) == 0) (
K (.tuple #[.pointer none, .int .i64 1]) H)
 (
br (decide (((voters.n : Nat) : Int) > 7)) (
K (.tuple #[.pointer none, .int .i64 1]) H)
 (
FnH Tryz.prog 71 #[.slice voters.p voters.n voters.c, .int .i64 id] H fun r1 H1 =>
∃ b1 : Bool,
r1 = .bool b1 ∧
br (!b1) (
K (.tuple #[.pointer none, .int .i64 1]) H1)
 (
br (decide ((wait : Int) < 1)) (
K (.tuple #[.pointer none, .int .i64 1]) H1)
 (
br (decide ((wait : Int) > 1000000)) (
K (.tuple #[.pointer none, .int .i64 1]) H1)
 (
FnH Tryz.prog 56 #[.pointer (some ⟨l, lo, none⟩)] H1 fun r2 H2 =>
∃ n1 n2 : Int,
∃ s1 : ByteArray,
r2 = .tuple #[.int .i64 n1, .int .i64 n2, .string s1] ∧
∀ q1 : Nat,
H2 q1 = none →
letH (Heap.upd H2 q1 (.cells #[.int .i64 id, .int .i64 wait, .pointer (some ⟨l, lo, none⟩), .int .i64 0, .int .i64 0, .slice none 0 0, .int .i64 n1, .int .i64 0, .int .i64 (-1), .int .i64 0, .int .i64 0, .slice none 0 0] 96 (0, 0))) fun H3 =>
∃ I1 : Int → Heap → Prop,
∃ M1 : Int → Heap → Nat,
I1 0 H3 ∧
∀ n_1 : Int,
∀ H4 : Heap,
I1 n_1 H4 →
br (decide ((n_1 : Int) < (voters.n : Nat))) (
∃ q2 o1 : Nat,
 (voters.p : Option Addr) = some ⟨q2, o1, none⟩ ∧
0 ≤ (n_1 : Int) ∧
 (n_1 : Int) < (voters.n : Nat) ∧
∃ n3 : Int,
cellH H4 ⟨q2, o1 + Int.toNat n_1, none⟩ = some (.int .i64 n3) ∧
br (decide ((n3 : Int) < 1)) (
K (.tuple #[.pointer none, .int .i64 1]) H4)
 (
br (decide ((n3 : Int) > 7)) (
K (.tuple #[.pointer none, .int .i64 1]) H4)
 (
br (decide ((n_1 : Int) > 0)) (
∃ q3 o2 : Nat,
 (voters.p : Option Addr) = some ⟨q3, o2, none⟩ ∧
0 ≤ ((IntKind.wrap .i64 (n_1 - 1)) : Int) ∧
 ((IntKind.wrap .i64 (n_1 - 1)) : Int) < (voters.n : Nat) ∧
∃ n4 : Int,
cellH H4 ⟨q3, o2 + Int.toNat (IntKind.wrap .i64 (n_1 - 1)), none⟩ = some (.int .i64 n4) ∧
br (decide ((n3 : Int) ≤ n4)) (
K (.tuple #[.pointer none, .int .i64 1]) H4)
 (
br ((n3 : Int) != id) (
∃ l1 : Sl,
cellH H4 ⟨q1, 5, none⟩ = some (.slice l1.p l1.n l1.c) ∧
∀ q4 : Nat,
H4 q4 = none →
letH (Heap.upd H4 q4 (.cells #[.int .i64 n3, .int .i64 0, .int .i64 0, .bool false] 109 (0, 0))) fun H5 =>
∀ q5 : Nat,
H5 q5 = none →
letH (Heap.upd H5 q5 (.cells #[.pointer (some ⟨q4, 0, none⟩)] 107 (0, 0))) fun H6 =>
runH Tryz.prog (Builtin.append_ #[94, 94] 94 #[.slice l1.p l1.n l1.c, .slice (some ⟨q5, 0, none⟩) 1 1]) H6 fun r3 H7 =>
∃ l2 : Sl,
r3 = .slice l2.p l2.n l2.c ∧
 (∃ u, cellH H7 ⟨q1, 5, none⟩ = some u) ∧
frozenH H7 ⟨q1, 5, none⟩ = false ∧
letH (Heap.set H7 ⟨q1, 5, none⟩ (.slice l2.p l2.n l2.c)) fun H8 =>
SelfEq ([.v (.int .i64 id), .v (.slice voters.p voters.n voters.c), .v (.pointer (some ⟨q1, 0, none⟩)), .v (.slice voters.p voters.n voters.c), .v (.int .i64 (voters.n : Nat))], [], []) ∧
I1 (IntKind.wrap .i64 (n_1 + 1)) H8 ∧
M1 (IntKind.wrap .i64 (n_1 + 1)) H8 < M1 n_1 H4)
 (
SelfEq ([.v (.int .i64 id), .v (.slice voters.p voters.n voters.c), .v (.pointer (some ⟨q1, 0, none⟩)), .v (.slice voters.p voters.n voters.c), .v (.int .i64 (voters.n : Nat))], [], []) ∧
I1 (IntKind.wrap .i64 (n_1 + 1)) H4 ∧
M1 (IntKind.wrap .i64 (n_1 + 1)) H4 < M1 n_1 H4)))
 (
br ((n3 : Int) != id) (
∃ l3 : Sl,
cellH H4 ⟨q1, 5, none⟩ = some (.slice l3.p l3.n l3.c) ∧
∀ q6 : Nat,
H4 q6 = none →
letH (Heap.upd H4 q6 (.cells #[.int .i64 n3, .int .i64 0, .int .i64 0, .bool false] 109 (0, 0))) fun H9 =>
∀ q7 : Nat,
H9 q7 = none →
letH (Heap.upd H9 q7 (.cells #[.pointer (some ⟨q6, 0, none⟩)] 107 (0, 0))) fun H10 =>
runH Tryz.prog (Builtin.append_ #[94, 94] 94 #[.slice l3.p l3.n l3.c, .slice (some ⟨q7, 0, none⟩) 1 1]) H10 fun r4 H11 =>
∃ l4 : Sl,
r4 = .slice l4.p l4.n l4.c ∧
 (∃ u, cellH H11 ⟨q1, 5, none⟩ = some u) ∧
frozenH H11 ⟨q1, 5, none⟩ = false ∧
letH (Heap.set H11 ⟨q1, 5, none⟩ (.slice l4.p l4.n l4.c)) fun H12 =>
SelfEq ([.v (.int .i64 id), .v (.slice voters.p voters.n voters.c), .v (.pointer (some ⟨q1, 0, none⟩)), .v (.slice voters.p voters.n voters.c), .v (.int .i64 (voters.n : Nat))], [], []) ∧
I1 (IntKind.wrap .i64 (n_1 + 1)) H12 ∧
M1 (IntKind.wrap .i64 (n_1 + 1)) H12 < M1 n_1 H4)
 (
SelfEq ([.v (.int .i64 id), .v (.slice voters.p voters.n voters.c), .v (.pointer (some ⟨q1, 0, none⟩)), .v (.slice voters.p voters.n voters.c), .v (.int .i64 (voters.n : Nat))], [], []) ∧
I1 (IntKind.wrap .i64 (n_1 + 1)) H4 ∧
M1 (IntKind.wrap .i64 (n_1 + 1)) H4 < M1 n_1 H4)))))
 (
K (.tuple #[.pointer (some ⟨q1, 0, none⟩), .int .i64 0]) H4))))))
theorem raft_New_fn (id : Int) (voters : Sl) (l lo : Nat) (wait : Int) {H : Heap} {K : Value → Heap → Prop} (h : raft_New_vc id voters l lo wait H K) : FnH Tryz.prog 28 #[.int .i64 id, .slice voters.p voters.n voters.c, .pointer (some ⟨l, lo, none⟩), .int .i64 wait] H K :=
  denFn_fn Tryz.mixed raft_New_ann Tryz.func28 (bodyOf_spec (by kernel_rfl)) (by kernel_rfl) h
end Go.Proofs.YthldclmeojkboaaGreatDoor
