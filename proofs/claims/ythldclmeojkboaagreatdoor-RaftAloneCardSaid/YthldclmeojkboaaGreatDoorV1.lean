import Derived.Test.YthldclmeojkboaaGreatDoorProg
import Derived.KernelRfl
import Derived.Test.YthldclmeojkboaaGreatDoorHlFn
import Derived.Test.YthldclmeojkboaaGreatDoorF1
namespace Go.Proofs.YthldclmeojkboaaGreatDoor
open Go.HL
set_option maxRecDepth 100000
def raftlog_Open_ann : Anns := { hid := [8], loops := [(0, { slots := [(24, .int .i64)], kept := [0, 1, 6, 22, 23], locs := [], keptL := [] })], joins := [], mix := [] }
def raftlog_Open_vc (d0 d0o : Nat) (prefix0 : ByteArray) (H : Heap) (K : Value → Heap → Prop) : Prop :=
∀ q1 : Nat,
H q1 = none →
letH (Heap.upd H q1 (.cells #[.int .i64 0, .int .i64 0, .int .i64 0, .int .i64 0, .string (⟨#[]⟩ : ByteArray), .slice none 0 0, .pointer (some ⟨d0, d0o, none⟩), .string prefix0] 89 (0, 0))) fun H1 =>
∀ q2 : Nat,
H1 q2 = none →
letH (Heap.upd H1 q2 (.cells #[.string (⟨#[46, 116, 101, 114, 109]⟩ : ByteArray), .func (.func 60) #[.pointer (some ⟨q1, 0, none⟩)] #[], .string (⟨#[46, 115, 110, 97, 112]⟩ : ByteArray), .func (.func 61) #[.pointer (some ⟨q1, 0, none⟩)] #[]] 125 (0, 0))) fun H2 =>
∃ I1 : Int → Heap → Prop,
∃ M1 : Int → Heap → Nat,
I1 0 H2 ∧
∀ n_1 : Int,
∀ H3 : Heap,
I1 n_1 H3 →
br (decide ((n_1 : Int) < (2 : Nat))) (
∃ q3 o1 : Nat,
 ((some ⟨q2, 0, none⟩) : Option Addr) = some ⟨q3, o1, none⟩ ∧
0 ≤ (n_1 : Int) ∧
 (n_1 : Int) < (2 : Nat) ∧
∃ s1 : ByteArray,
cellH H3 ⟨q3, o1 + Int.toNat n_1 * 2, none⟩ = some (.string s1) ∧
∃ w1 : Fv,
cellH H3 ⟨q3, o1 + Int.toNat n_1 * 2 + 1, none⟩ = some (.func (.func w1.k) w1.first w1.cap) ∧
prefix0.size + s1.size < 9223372036854775808 ∧
FnH Tryz.prog 62 #[.pointer (some ⟨d0, d0o, none⟩), .string (prefix0 ++ s1)] H3 fun r1 H4 =>
∃ s2 : ByteArray,
∃ n1 : Int,
r1 = .tuple #[.string s2, .int .i64 n1] ∧
br ((n1 : Int) != 0) (
SelfEq ([.v (.pointer (some ⟨d0, d0o, none⟩)), .v (.string prefix0), .v (.pointer (some ⟨q1, 0, none⟩)), .v (.slice (some ⟨q2, 0, none⟩) 2 2), .v (.int .i64 (2 : Nat))], [], []) ∧
I1 (IntKind.wrap .i64 (n_1 + 1)) H4 ∧
M1 (IntKind.wrap .i64 (n_1 + 1)) H4 < M1 n_1 H3)
 (
FnH Tryz.prog 63 #[.string s2] H4 fun r2 H5 =>
∃ s3 : ByteArray,
∃ n2 : Int,
r2 = .tuple #[.string s3, .int .i64 n2] ∧
br ((n2 : Int) != 0) (
K (.tuple #[.pointer none, .int .i64 n2]) H5)
 (
callV Tryz.prog (.v (.func (.func w1.k) w1.first w1.cap)) fun g1 f1 t1 => FnH Tryz.prog g1 (f1 ++ ([.string s3] ++ t1 : List Value)).toArray H5 fun r3 H6 =>
∃ b1 : Bool,
r3 = .bool b1 ∧
br (!b1) (
K (.tuple #[.pointer none, .int .i64 4]) H6)
 (
SelfEq ([.v (.pointer (some ⟨d0, d0o, none⟩)), .v (.string prefix0), .v (.pointer (some ⟨q1, 0, none⟩)), .v (.slice (some ⟨q2, 0, none⟩) 2 2), .v (.int .i64 (2 : Nat))], [], []) ∧
I1 (IntKind.wrap .i64 (n_1 + 1)) H6 ∧
M1 (IntKind.wrap .i64 (n_1 + 1)) H6 < M1 n_1 H3))))
 (
FnH Tryz.prog 64 #[.pointer (some ⟨q1, 0, none⟩)] H3 fun r4 H7 =>
∃ n3 : Int,
r4 = .int .i64 n3 ∧
br ((n3 : Int) != 0) (
K (.tuple #[.pointer none, .int .i64 n3]) H7)
 (
K (.tuple #[.pointer (some ⟨q1, 0, none⟩), .int .i64 0]) H7))
theorem raftlog_Open_fn (d0 d0o : Nat) (prefix0 : ByteArray) {H : Heap} {K : Value → Heap → Prop} (h : raftlog_Open_vc d0 d0o prefix0 H K) : FnH Tryz.prog 26 #[.pointer (some ⟨d0, d0o, none⟩), .string prefix0] H K :=
  denFn_fn Tryz.mixed raftlog_Open_ann Tryz.func26 (bodyOf_spec (by kernel_rfl)) (by kernel_rfl) h
def raftlog_state_Last_ann : Anns := { hid := [], loops := [], joins := [], mix := [] }
def raftlog_state_Last_vc (s so : Nat) (H : Heap) (K : Value → Heap → Prop) : Prop :=
∃ l1 : Sl,
cellH H ⟨s, so + 5, none⟩ = some (.slice l1.p l1.n l1.c) ∧
br (decide (((l1.n : Nat) : Int) > 0)) (
∃ l2 : Sl,
cellH H ⟨s, so + 5, none⟩ = some (.slice l2.p l2.n l2.c) ∧
∃ q1 o1 : Nat,
 (l2.p : Option Addr) = some ⟨q1, o1, none⟩ ∧
0 ≤ ((IntKind.wrap .i64 ((l1.n : Nat) - 1)) : Int) ∧
 ((IntKind.wrap .i64 ((l1.n : Nat) - 1)) : Int) < (l2.n : Nat) ∧
∃ n1 : Int,
cellH H ⟨q1, o1 + Int.toNat (IntKind.wrap .i64 ((l1.n : Nat) - 1)) * 3 + 1, none⟩ = some (.int .i64 n1) ∧
∃ l3 : Sl,
cellH H ⟨s, so + 5, none⟩ = some (.slice l3.p l3.n l3.c) ∧
∃ q2 o2 : Nat,
 (l3.p : Option Addr) = some ⟨q2, o2, none⟩ ∧
0 ≤ ((IntKind.wrap .i64 ((l1.n : Nat) - 1)) : Int) ∧
 ((IntKind.wrap .i64 ((l1.n : Nat) - 1)) : Int) < (l3.n : Nat) ∧
∃ n2 : Int,
cellH H ⟨q2, o2 + Int.toNat (IntKind.wrap .i64 ((l1.n : Nat) - 1)) * 3, none⟩ = some (.int .i64 n2) ∧
K (.tuple #[.int .i64 n1, .int .i64 n2]) H)
 (
∃ n3 : Int,
cellH H ⟨s, so + 2, none⟩ = some (.int .i64 n3) ∧
∃ n4 : Int,
cellH H ⟨s, so + 3, none⟩ = some (.int .i64 n4) ∧
K (.tuple #[.int .i64 n3, .int .i64 n4]) H)
theorem raftlog_state_Last_fn (s so : Nat) {H : Heap} {K : Value → Heap → Prop} (h : raftlog_state_Last_vc s so H K) : FnH Tryz.prog 33 #[.pointer (some ⟨s, so, none⟩)] H K :=
  denFn_fn Tryz.mixed raftlog_state_Last_ann Tryz.func33 (bodyOf_spec (by kernel_rfl)) (by kernel_rfl) h
def raftlog_state_Vote_ann : Anns := { hid := [], loops := [], joins := [], mix := [] }
def raftlog_state_Vote_vc (s so : Nat) (H : Heap) (K : Value → Heap → Prop) : Prop :=
∃ n1 : Int,
cellH H ⟨s, so + 1, none⟩ = some (.int .i64 n1) ∧
K (.int .i64 n1) H
theorem raftlog_state_Vote_fn (s so : Nat) {H : Heap} {K : Value → Heap → Prop} (h : raftlog_state_Vote_vc s so H K) : FnH Tryz.prog 35 #[.pointer (some ⟨s, so, none⟩)] H K :=
  denFn_fn Tryz.mixed raftlog_state_Vote_ann Tryz.func35 (bodyOf_spec (by kernel_rfl)) (by kernel_rfl) h
def raftlog_state_Term_ann : Anns := { hid := [], loops := [], joins := [], mix := [] }
def raftlog_state_Term_vc (s so : Nat) (H : Heap) (K : Value → Heap → Prop) : Prop :=
∃ n1 : Int,
cellH H ⟨s, so, none⟩ = some (.int .i64 n1) ∧
K (.int .i64 n1) H
theorem raftlog_state_Term_fn (s so : Nat) {H : Heap} {K : Value → Heap → Prop} (h : raftlog_state_Term_vc s so H K) : FnH Tryz.prog 42 #[.pointer (some ⟨s, so, none⟩)] H K :=
  denFn_fn Tryz.mixed raftlog_state_Term_ann Tryz.func42 (bodyOf_spec (by kernel_rfl)) (by kernel_rfl) h
def raftlog_Log_Turn_ann : Anns := { hid := [], loops := [], joins := [((0, 2), { slots := [(16, .bool)], kept := [0, 1, 2, 7], locs := [], keptL := [] }), ((0, 6), { slots := [(33, .bool)], kept := [0, 1, 2, 7], locs := [], keptL := [] })], mix := [(10, [15])] }
def raftlog_Log_Turn_vc (l lo : Nat) (term0 vote : Int) (H : Heap) (K : Value → Heap → Prop) : Prop :=
∃ n1 : Int,
cellH H ⟨l, lo, none⟩ = some (.int .i64 n1) ∧
∃ J1 : Bool → Heap → Prop,
 (FnH Tryz.prog 84 #[.int .i64 term0, .int .i64 0] H fun r1 H1 =>
∃ b1 : Bool,
r1 = .bool b1 ∧
br (!b1) (
SelfEq ([.v (.pointer (some ⟨l, lo, none⟩)), .v (.int .i64 term0), .v (.int .i64 vote), .v (.bool ((term0 : Int) == n1))], [], []) ∧
J1 true H1)
 (
FnH Tryz.prog 84 #[.int .i64 vote, .int .i64 0] H1 fun r2 H2 =>
∃ b2 : Bool,
r2 = .bool b2 ∧
SelfEq ([.v (.pointer (some ⟨l, lo, none⟩)), .v (.int .i64 term0), .v (.int .i64 vote), .v (.bool ((term0 : Int) == n1))], [], []) ∧
J1 (!b2) H2)) ∧
∀ b_1 : Bool,
∀ H3 : Heap,
J1 b_1 H3 →
br (b_1) (
K (.int .i64 1) H3)
 (
∃ n2 : Int,
cellH H3 ⟨l, lo, none⟩ = some (.int .i64 n2) ∧
br (decide ((term0 : Int) < n2)) (
K (.int .i64 13) H3)
 (
∃ J2 : Bool → Heap → Prop,
 (br ((term0 : Int) == n1) (
∃ n3 : Int,
cellH H3 ⟨l, lo + 1, none⟩ = some (.int .i64 n3) ∧
SelfEq ([.v (.pointer (some ⟨l, lo, none⟩)), .v (.int .i64 term0), .v (.int .i64 vote), .v (.bool ((term0 : Int) == n1))], [], []) ∧
J2 ((vote : Int) == n3) H3)
 (
SelfEq ([.v (.pointer (some ⟨l, lo, none⟩)), .v (.int .i64 term0), .v (.int .i64 vote), .v (.bool ((term0 : Int) == n1))], [], []) ∧
J2 false H3)) ∧
∀ b_2 : Bool,
∀ H4 : Heap,
J2 b_2 H4 →
br (b_2) (
K (.int .i64 0) H4)
 (
br ((term0 : Int) == n1) (
∃ n4 : Int,
cellH H4 ⟨l, lo + 1, none⟩ = some (.int .i64 n4) ∧
br ((n4 : Int) != 0) (
K (.int .i64 19) H4)
 (
∃ p1 : Option Addr,
cellH H4 ⟨l, lo + 6, none⟩ = some (.pointer p1) ∧
∃ s1 : ByteArray,
cellH H4 ⟨l, lo + 7, none⟩ = some (.string s1) ∧
s1.size + (⟨#[46, 116, 101, 114, 109]⟩ : ByteArray).size < 9223372036854775808 ∧
FnH Tryz.prog 87 #[.int .i64 term0] H4 fun r3 H5 =>
∃ s2 : ByteArray,
r3 = .string s2 ∧
Sub H4 H5 ∧
FnH Tryz.prog 87 #[.int .i64 vote] H5 fun r4 H6 =>
∃ s3 : ByteArray,
r4 = .string s3 ∧
Sub H4 H6 ∧
s2.size + s3.size < 9223372036854775808 ∧
FnH Tryz.prog 86 #[.string (s2 ++ s3)] H6 fun r5 H7 =>
∃ s4 : ByteArray,
r5 = .string s4 ∧
Sub H4 H7 ∧
FnH Tryz.prog 85 #[.pointer p1, .string (s1 ++ (⟨#[46, 116, 101, 114, 109]⟩ : ByteArray)), .string s4] H7 fun r6 H8 =>
∃ n5 : Int,
r6 = .int .i64 n5 ∧
br ((n5 : Int) != 0) (
K (.int .i64 n5) H8)
 (
 (∃ u, cellH H8 ⟨l, lo, none⟩ = some u) ∧
frozenH H8 ⟨l, lo, none⟩ = false ∧
letH (Heap.set H8 ⟨l, lo, none⟩ (.int .i64 term0)) fun H9 =>
 (∃ u, cellH H9 ⟨l, lo + 1, none⟩ = some u) ∧
frozenH H9 ⟨l, lo + 1, none⟩ = false ∧
letH (Heap.set H9 ⟨l, lo + 1, none⟩ (.int .i64 vote)) fun H10 =>
K (.int .i64 0) H10)))
 (
∃ p2 : Option Addr,
cellH H4 ⟨l, lo + 6, none⟩ = some (.pointer p2) ∧
∃ s5 : ByteArray,
cellH H4 ⟨l, lo + 7, none⟩ = some (.string s5) ∧
s5.size + (⟨#[46, 116, 101, 114, 109]⟩ : ByteArray).size < 9223372036854775808 ∧
FnH Tryz.prog 87 #[.int .i64 term0] H4 fun r7 H11 =>
∃ s6 : ByteArray,
r7 = .string s6 ∧
Sub H4 H11 ∧
FnH Tryz.prog 87 #[.int .i64 vote] H11 fun r8 H12 =>
∃ s7 : ByteArray,
r8 = .string s7 ∧
Sub H4 H12 ∧
s6.size + s7.size < 9223372036854775808 ∧
FnH Tryz.prog 86 #[.string (s6 ++ s7)] H12 fun r9 H13 =>
∃ s8 : ByteArray,
r9 = .string s8 ∧
Sub H4 H13 ∧
FnH Tryz.prog 85 #[.pointer p2, .string (s5 ++ (⟨#[46, 116, 101, 114, 109]⟩ : ByteArray)), .string s8] H13 fun r10 H14 =>
∃ n6 : Int,
r10 = .int .i64 n6 ∧
br ((n6 : Int) != 0) (
K (.int .i64 n6) H14)
 (
 (∃ u, cellH H14 ⟨l, lo, none⟩ = some u) ∧
frozenH H14 ⟨l, lo, none⟩ = false ∧
letH (Heap.set H14 ⟨l, lo, none⟩ (.int .i64 term0)) fun H15 =>
 (∃ u, cellH H15 ⟨l, lo + 1, none⟩ = some u) ∧
frozenH H15 ⟨l, lo + 1, none⟩ = false ∧
letH (Heap.set H15 ⟨l, lo + 1, none⟩ (.int .i64 vote)) fun H16 =>
K (.int .i64 0) H16)))))
theorem raftlog_Log_Turn_fn (l lo : Nat) (term0 vote : Int) {H : Heap} {K : Value → Heap → Prop} (h : raftlog_Log_Turn_vc l lo term0 vote H K) : FnH Tryz.prog 45 #[.pointer (some ⟨l, lo, none⟩), .int .i64 term0, .int .i64 vote] H K :=
  denFn_fn Tryz.mixed raftlog_Log_Turn_ann Tryz.func45 (bodyOf_spec (by kernel_rfl)) (by kernel_rfl) h
def raftlog_state_Snapshot_ann : Anns := { hid := [], loops := [], joins := [], mix := [] }
def raftlog_state_Snapshot_vc (s so : Nat) (H : Heap) (K : Value → Heap → Prop) : Prop :=
∃ n1 : Int,
cellH H ⟨s, so + 2, none⟩ = some (.int .i64 n1) ∧
∃ n2 : Int,
cellH H ⟨s, so + 3, none⟩ = some (.int .i64 n2) ∧
∃ s1 : ByteArray,
cellH H ⟨s, so + 4, none⟩ = some (.string s1) ∧
K (.tuple #[.int .i64 n1, .int .i64 n2, .string s1]) H
theorem raftlog_state_Snapshot_fn (s so : Nat) {H : Heap} {K : Value → Heap → Prop} (h : raftlog_state_Snapshot_vc s so H K) : FnH Tryz.prog 56 #[.pointer (some ⟨s, so, none⟩)] H K :=
  denFn_fn Tryz.mixed raftlog_state_Snapshot_ann Tryz.func56 (bodyOf_spec (by kernel_rfl)) (by kernel_rfl) h
def raftlog_state_From_ann : Anns := { hid := [7], loops := [], joins := [], mix := [] }
def raftlog_state_From_vc (s so : Nat) (index most : Int) (H : Heap) (K : Value → Heap → Prop) : Prop :=
FnH Tryz.prog 94 #[.pointer (some ⟨s, so, none⟩), .int .i64 index] H fun r1 H1 =>
∃ n1 n2 : Int,
∃ s1 : ByteArray,
∃ b1 : Bool,
r1 = .tuple #[.agg #[.int .i64 n1, .int .i64 n2, .string s1], .bool b1] ∧
br (!b1) (
K (.slice none 0 0) H1)
 (
br (decide ((most : Int) < 1)) (
K (.slice none 0 0) H1)
 (
∃ l1 : Sl,
cellH H1 ⟨s, so + 5, none⟩ = some (.slice l1.p l1.n l1.c) ∧
∃ n3 : Int,
cellH H1 ⟨s, so + 2, none⟩ = some (.int .i64 n3) ∧
0 ≤ (IntKind.wrap .i64 ((IntKind.wrap .i64 (index - n3)) - 1) : Int) ∧
 (IntKind.wrap .i64 ((IntKind.wrap .i64 (index - n3)) - 1) : Int) ≤ (l1.n : Nat) ∧
0 ≤ (if ((Int.toNat ((l1.n : Nat) - (IntKind.wrap .i64 ((IntKind.wrap .i64 (index - n3)) - 1))) : Nat) : Int) < most then ((Int.toNat ((l1.n : Nat) - (IntKind.wrap .i64 ((IntKind.wrap .i64 (index - n3)) - 1))) : Nat) : Int) else most : Int) ∧
 (if ((Int.toNat ((l1.n : Nat) - (IntKind.wrap .i64 ((IntKind.wrap .i64 (index - n3)) - 1))) : Nat) : Int) < most then ((Int.toNat ((l1.n : Nat) - (IntKind.wrap .i64 ((IntKind.wrap .i64 (index - n3)) - 1))) : Nat) : Int) else most : Int) ≤ (Int.toNat ((l1.c : Nat) - (IntKind.wrap .i64 ((IntKind.wrap .i64 (index - n3)) - 1))) : Nat) ∧
FnH Tryz.prog 95 #[.slice (slP (slP l1.p l1.c (IntKind.wrap .i64 ((IntKind.wrap .i64 (index - n3)) - 1)) 3) (Int.toNat ((l1.c : Nat) - (IntKind.wrap .i64 ((IntKind.wrap .i64 (index - n3)) - 1)))) (0 : Int) 3) (Int.toNat ((if ((Int.toNat ((l1.n : Nat) - (IntKind.wrap .i64 ((IntKind.wrap .i64 (index - n3)) - 1))) : Nat) : Int) < most then ((Int.toNat ((l1.n : Nat) - (IntKind.wrap .i64 ((IntKind.wrap .i64 (index - n3)) - 1))) : Nat) : Int) else most) - (0 : Int))) (Int.toNat ((Int.toNat ((l1.c : Nat) - (IntKind.wrap .i64 ((IntKind.wrap .i64 (index - n3)) - 1))) : Nat) - (0 : Int)))] H1 fun r2 H2 =>
∃ l2 : Sl,
r2 = .slice l2.p l2.n l2.c ∧
K (.slice l2.p l2.n l2.c) H2))
theorem raftlog_state_From_fn (s so : Nat) (index most : Int) {H : Heap} {K : Value → Heap → Prop} (h : raftlog_state_From_vc s so index most H K) : FnH Tryz.prog 57 #[.pointer (some ⟨s, so, none⟩), .int .i64 index, .int .i64 most] H K :=
  denFn_fn Tryz.mixed raftlog_state_From_ann Tryz.func57 (bodyOf_spec (by kernel_rfl)) (by kernel_rfl) h
def raftlog_Log_readTerm_ann : Anns := { hid := [], loops := [], joins := [], mix := [] }
def raftlog_Log_readTerm_vc (l lo : Nat) (s : ByteArray) (H : Heap) (K : Value → Heap → Prop) : Prop :=
FnH Tryz.prog 97 #[.string s, .int .i64 0] H fun r1 H1 =>
∃ n1 n2 : Int,
∃ s1 : ByteArray,
∃ b1 : Bool,
r1 = .tuple #[.int .i64 n1, .int .i64 n2, .string s1, .bool b1] ∧
 (∃ u, cellH H1 ⟨l, lo, none⟩ = some u) ∧
frozenH H1 ⟨l, lo, none⟩ = false ∧
letH (Heap.set H1 ⟨l, lo, none⟩ (.int .i64 n1)) fun H2 =>
 (∃ u, cellH H2 ⟨l, lo + 1, none⟩ = some u) ∧
frozenH H2 ⟨l, lo + 1, none⟩ = false ∧
letH (Heap.set H2 ⟨l, lo + 1, none⟩ (.int .i64 n2)) fun H3 =>
br (b1) (
K (.bool (s1.toList == (⟨#[]⟩ : ByteArray).toList)) H3)
 (
K (.bool false) H3)
theorem raftlog_Log_readTerm_fn (l lo : Nat) (s : ByteArray) {H : Heap} {K : Value → Heap → Prop} (h : raftlog_Log_readTerm_vc l lo s H K) : FnH Tryz.prog 60 #[.pointer (some ⟨l, lo, none⟩), .string s] H K :=
  denFn_fn Tryz.mixed raftlog_Log_readTerm_ann Tryz.func60 (bodyOf_spec (by kernel_rfl)) (by kernel_rfl) h
def raftlog_Log_readSnap_ann : Anns := { hid := [], loops := [], joins := [], mix := [] }
def raftlog_Log_readSnap_vc (l lo : Nat) (s : ByteArray) (H : Heap) (K : Value → Heap → Prop) : Prop :=
FnH Tryz.prog 97 #[.string s, .int .i64 1] H fun r1 H1 =>
∃ n1 n2 : Int,
∃ s1 : ByteArray,
∃ b1 : Bool,
r1 = .tuple #[.int .i64 n1, .int .i64 n2, .string s1, .bool b1] ∧
 (∃ u, cellH H1 ⟨l, lo + 2, none⟩ = some u) ∧
frozenH H1 ⟨l, lo + 2, none⟩ = false ∧
letH (Heap.set H1 ⟨l, lo + 2, none⟩ (.int .i64 n1)) fun H2 =>
 (∃ u, cellH H2 ⟨l, lo + 3, none⟩ = some u) ∧
frozenH H2 ⟨l, lo + 3, none⟩ = false ∧
letH (Heap.set H2 ⟨l, lo + 3, none⟩ (.int .i64 n2)) fun H3 =>
FnH Tryz.prog 98 #[.string s1, .int .i64 60000] H3 fun r2 H4 =>
∃ s2 : ByteArray,
∃ b2 : Bool,
r2 = .tuple #[.string s2, .bool b2] ∧
 (∃ u, cellH H4 ⟨l, lo + 4, none⟩ = some u) ∧
frozenH H4 ⟨l, lo + 4, none⟩ = false ∧
letH (Heap.set H4 ⟨l, lo + 4, none⟩ (.string s2)) fun H5 =>
br (b1) (
K (.bool b2) H5)
 (
K (.bool false) H5)
theorem raftlog_Log_readSnap_fn (l lo : Nat) (s : ByteArray) {H : Heap} {K : Value → Heap → Prop} (h : raftlog_Log_readSnap_vc l lo s H K) : FnH Tryz.prog 61 #[.pointer (some ⟨l, lo, none⟩), .string s] H K :=
  denFn_fn Tryz.mixed raftlog_Log_readSnap_ann Tryz.func61 (bodyOf_spec (by kernel_rfl)) (by kernel_rfl) h
def raftlog_unsummed_ann : Anns := { hid := [], loops := [], joins := [], mix := [(3, [])] }
def raftlog_unsummed_vc (s : ByteArray) (H : Heap) (K : Value → Heap → Prop) : Prop :=
br (decide (((s.size : Nat) : Int) < 4)) (
K (.tuple #[.string (⟨#[]⟩ : ByteArray), .int .i64 5]) H)
 (
0 ≤ (4 : Int) ∧
 (4 : Int) ≤ (s.size : Nat) ∧
FnH Tryz.prog 99 #[.string s] H fun r1 H1 =>
∃ n1 : Int,
r1 = .int .i64 n1 ∧
Sub H H1 ∧
FnH Tryz.prog 100 #[.string (s.extract (Int.toNat 4) (Int.toNat (s.size : Nat)))] H1 fun r2 H2 =>
∃ n2 : Int,
r2 = .int .i64 n2 ∧
Sub H H2 ∧
br ((n1 : Int) != n2) (
K (.tuple #[.string (⟨#[]⟩ : ByteArray), .int .i64 6]) H2)
 (
0 ≤ (4 : Int) ∧
 (4 : Int) ≤ (s.size : Nat) ∧
K (.tuple #[.string (s.extract (Int.toNat 4) (Int.toNat (s.size : Nat))), .int .i64 0]) H2))
theorem raftlog_unsummed_fn (s : ByteArray) {H : Heap} {K : Value → Heap → Prop} (h : raftlog_unsummed_vc s H K) : FnH Tryz.prog 63 #[.string s] H K :=
  denFn_fn Tryz.mixed raftlog_unsummed_ann Tryz.func63 (bodyOf_spec (by kernel_rfl)) (by kernel_rfl) h
def raftlog_Log_readEntries_ann : Anns := { hid := [5, 9], loops := [(0, { slots := [(6, .bool), (7, .int .i64), (8, .bool)], kept := [0, 3, 5], locs := [(0, [.int .i64, .int .i64, .str])], keptL := [] })], joins := [], mix := [(1, []), (11, [10]), (16, [8, 12]), (21, [15])] }
def raftlog_Log_readEntries_vc (l lo : Nat) (H : Heap) (K : Value → Heap → Prop) : Prop :=
∃ p1 : Option Addr,
cellH H ⟨l, lo + 6, none⟩ = some (.pointer p1) ∧
∃ s1 : ByteArray,
cellH H ⟨l, lo + 7, none⟩ = some (.string s1) ∧
s1.size + (⟨#[46, 108, 111, 103]⟩ : ByteArray).size < 9223372036854775808 ∧
FnH Tryz.prog 62 #[.pointer p1, .string (s1 ++ (⟨#[46, 108, 111, 103]⟩ : ByteArray))] H fun r1 H1 =>
∃ s2 : ByteArray,
∃ n1 : Int,
r1 = .tuple #[.string s2, .int .i64 n1] ∧
Sub H H1 ∧
br ((n1 : Int) != 0) (
K (.int .i64 0) H1)
 (
∃ I1 : Bool → Int → Bool → Int → Int → ByteArray → Heap → Prop,
∃ M1 : Bool → Int → Bool → Int → Int → ByteArray → Heap → Nat,
I1 false 0 false 0 0 (⟨#[]⟩ : ByteArray) H1 ∧
∀ left_1 : Bool,
∀ at_1 : Int,
∀ torn_1 : Bool,
∀ n2 n3 : Int,
∀ s3 : ByteArray,
∀ H2 : Heap,
I1 left_1 at_1 torn_1 n2 n3 s3 H2 →
br (decide ((at_1 : Int) < (s2.size : Nat))) (
br (!torn_1) (
0 ≤ (at_1 : Int) ∧
 (at_1 : Int) ≤ (s2.size : Nat) ∧
FnH Tryz.prog 101 #[.string (s2.extract (Int.toNat at_1) (Int.toNat (s2.size : Nat)))] H2 fun r2 H3 =>
∃ n4 n5 : Int,
∃ s4 : ByteArray,
∃ n6 n7 : Int,
r2 = .tuple #[.agg #[.int .i64 n4, .int .i64 n5, .string s4], .int .i64 n6, .int .i64 n7] ∧
br ((n7 : Int) != 0) (
K (.int .i64 n7) H3)
 (
br ((n6 : Int) == 0) (
∃ p2 : Option Addr,
cellH H3 ⟨l, lo + 6, none⟩ = some (.pointer p2) ∧
∃ s5 : ByteArray,
cellH H3 ⟨l, lo + 7, none⟩ = some (.string s5) ∧
s5.size + (⟨#[46, 108, 111, 103]⟩ : ByteArray).size < 9223372036854775808 ∧
FnH Tryz.prog 102 #[.pointer p2, .string (s5 ++ (⟨#[46, 108, 111, 103]⟩ : ByteArray)), .int .i64 at_1] H3 fun r3 H4 =>
∃ n8 : Int,
r3 = .int .i64 n8 ∧
SelfEq ([.v (.pointer (some ⟨l, lo, none⟩)), .v (.string s2), .loc 0 0], [], [51]) ∧
I1 left_1 at_1 true n2 n3 s3 H4 ∧
M1 left_1 at_1 true n2 n3 s3 H4 < M1 left_1 at_1 torn_1 n2 n3 s3 H2)
 (
br ((at_1 : Int) == 0) (
∃ n9 : Int,
cellH H3 ⟨l, lo + 2, none⟩ = some (.int .i64 n9) ∧
br (decide ((n5 : Int) > (IntKind.wrap .i64 (n9 + 1)))) (
K (.int .i64 4) H3)
 (
br (decide ((at_1 : Int) > 0)) (
br ((n5 : Int) != (IntKind.wrap .i64 (n3 + 1))) (
K (.int .i64 4) H3)
 (
br (decide ((n4 : Int) < n2)) (
K (.int .i64 4) H3)
 (
∃ n10 : Int,
cellH H3 ⟨l, lo + 2, none⟩ = some (.int .i64 n10) ∧
br (decide ((n5 : Int) > n10)) (
∃ l1 : Sl,
cellH H3 ⟨l, lo + 5, none⟩ = some (.slice l1.p l1.n l1.c) ∧
∀ q1 : Nat,
H3 q1 = none →
letH (Heap.upd H3 q1 (.cells #[.int .i64 n4, .int .i64 n5, .string s4] 51 (0, 0))) fun H5 =>
Sub H3 H5 ∧
runH Tryz.prog (Builtin.append_ #[29, 29] 29 #[.slice l1.p l1.n l1.c, .slice (some ⟨q1, 0, none⟩) 1 1]) H5 fun r4 H6 =>
∃ l2 : Sl,
r4 = .slice l2.p l2.n l2.c ∧
 (∃ u, cellH H6 ⟨l, lo + 5, none⟩ = some u) ∧
frozenH H6 ⟨l, lo + 5, none⟩ = false ∧
letH (Heap.set H6 ⟨l, lo + 5, none⟩ (.slice l2.p l2.n l2.c)) fun H7 =>
SelfEq ([.v (.pointer (some ⟨l, lo, none⟩)), .v (.string s2), .loc 0 0], [], [51]) ∧
I1 left_1 (IntKind.wrap .i64 (at_1 + n6)) torn_1 n4 n5 s4 H7 ∧
M1 left_1 (IntKind.wrap .i64 (at_1 + n6)) torn_1 n4 n5 s4 H7 < M1 left_1 at_1 torn_1 n2 n3 s3 H2)
 (
SelfEq ([.v (.pointer (some ⟨l, lo, none⟩)), .v (.string s2), .loc 0 0], [], [51]) ∧
I1 true (IntKind.wrap .i64 (at_1 + n6)) torn_1 n4 n5 s4 H3 ∧
M1 true (IntKind.wrap .i64 (at_1 + n6)) torn_1 n4 n5 s4 H3 < M1 left_1 at_1 torn_1 n2 n3 s3 H2))))
 (
∃ n11 : Int,
cellH H3 ⟨l, lo + 2, none⟩ = some (.int .i64 n11) ∧
br (decide ((n5 : Int) > n11)) (
∃ l3 : Sl,
cellH H3 ⟨l, lo + 5, none⟩ = some (.slice l3.p l3.n l3.c) ∧
∀ q2 : Nat,
H3 q2 = none →
letH (Heap.upd H3 q2 (.cells #[.int .i64 n4, .int .i64 n5, .string s4] 51 (0, 0))) fun H8 =>
Sub H3 H8 ∧
runH Tryz.prog (Builtin.append_ #[29, 29] 29 #[.slice l3.p l3.n l3.c, .slice (some ⟨q2, 0, none⟩) 1 1]) H8 fun r5 H9 =>
∃ l4 : Sl,
r5 = .slice l4.p l4.n l4.c ∧
 (∃ u, cellH H9 ⟨l, lo + 5, none⟩ = some u) ∧
frozenH H9 ⟨l, lo + 5, none⟩ = false ∧
letH (Heap.set H9 ⟨l, lo + 5, none⟩ (.slice l4.p l4.n l4.c)) fun H10 =>
SelfEq ([.v (.pointer (some ⟨l, lo, none⟩)), .v (.string s2), .loc 0 0], [], [51]) ∧
I1 left_1 (IntKind.wrap .i64 (at_1 + n6)) torn_1 n4 n5 s4 H10 ∧
M1 left_1 (IntKind.wrap .i64 (at_1 + n6)) torn_1 n4 n5 s4 H10 < M1 left_1 at_1 torn_1 n2 n3 s3 H2)
 (
SelfEq ([.v (.pointer (some ⟨l, lo, none⟩)), .v (.string s2), .loc 0 0], [], [51]) ∧
I1 true (IntKind.wrap .i64 (at_1 + n6)) torn_1 n4 n5 s4 H3 ∧
M1 true (IntKind.wrap .i64 (at_1 + n6)) torn_1 n4 n5 s4 H3 < M1 left_1 at_1 torn_1 n2 n3 s3 H2))))
 (
br (decide ((at_1 : Int) > 0)) (
br ((n5 : Int) != (IntKind.wrap .i64 (n3 + 1))) (
K (.int .i64 4) H3)
 (
br (decide ((n4 : Int) < n2)) (
K (.int .i64 4) H3)
 (
∃ n12 : Int,
cellH H3 ⟨l, lo + 2, none⟩ = some (.int .i64 n12) ∧
br (decide ((n5 : Int) > n12)) (
∃ l5 : Sl,
cellH H3 ⟨l, lo + 5, none⟩ = some (.slice l5.p l5.n l5.c) ∧
∀ q3 : Nat,
H3 q3 = none →
letH (Heap.upd H3 q3 (.cells #[.int .i64 n4, .int .i64 n5, .string s4] 51 (0, 0))) fun H11 =>
Sub H3 H11 ∧
runH Tryz.prog (Builtin.append_ #[29, 29] 29 #[.slice l5.p l5.n l5.c, .slice (some ⟨q3, 0, none⟩) 1 1]) H11 fun r6 H12 =>
∃ l6 : Sl,
r6 = .slice l6.p l6.n l6.c ∧
 (∃ u, cellH H12 ⟨l, lo + 5, none⟩ = some u) ∧
frozenH H12 ⟨l, lo + 5, none⟩ = false ∧
letH (Heap.set H12 ⟨l, lo + 5, none⟩ (.slice l6.p l6.n l6.c)) fun H13 =>
SelfEq ([.v (.pointer (some ⟨l, lo, none⟩)), .v (.string s2), .loc 0 0], [], [51]) ∧
I1 left_1 (IntKind.wrap .i64 (at_1 + n6)) torn_1 n4 n5 s4 H13 ∧
M1 left_1 (IntKind.wrap .i64 (at_1 + n6)) torn_1 n4 n5 s4 H13 < M1 left_1 at_1 torn_1 n2 n3 s3 H2)
 (
SelfEq ([.v (.pointer (some ⟨l, lo, none⟩)), .v (.string s2), .loc 0 0], [], [51]) ∧
I1 true (IntKind.wrap .i64 (at_1 + n6)) torn_1 n4 n5 s4 H3 ∧
M1 true (IntKind.wrap .i64 (at_1 + n6)) torn_1 n4 n5 s4 H3 < M1 left_1 at_1 torn_1 n2 n3 s3 H2))))
 (
∃ n13 : Int,
cellH H3 ⟨l, lo + 2, none⟩ = some (.int .i64 n13) ∧
br (decide ((n5 : Int) > n13)) (
∃ l7 : Sl,
cellH H3 ⟨l, lo + 5, none⟩ = some (.slice l7.p l7.n l7.c) ∧
∀ q4 : Nat,
H3 q4 = none →
letH (Heap.upd H3 q4 (.cells #[.int .i64 n4, .int .i64 n5, .string s4] 51 (0, 0))) fun H14 =>
Sub H3 H14 ∧
runH Tryz.prog (Builtin.append_ #[29, 29] 29 #[.slice l7.p l7.n l7.c, .slice (some ⟨q4, 0, none⟩) 1 1]) H14 fun r7 H15 =>
∃ l8 : Sl,
r7 = .slice l8.p l8.n l8.c ∧
 (∃ u, cellH H15 ⟨l, lo + 5, none⟩ = some u) ∧
frozenH H15 ⟨l, lo + 5, none⟩ = false ∧
letH (Heap.set H15 ⟨l, lo + 5, none⟩ (.slice l8.p l8.n l8.c)) fun H16 =>
SelfEq ([.v (.pointer (some ⟨l, lo, none⟩)), .v (.string s2), .loc 0 0], [], [51]) ∧
I1 left_1 (IntKind.wrap .i64 (at_1 + n6)) torn_1 n4 n5 s4 H16 ∧
M1 left_1 (IntKind.wrap .i64 (at_1 + n6)) torn_1 n4 n5 s4 H16 < M1 left_1 at_1 torn_1 n2 n3 s3 H2)
 (
SelfEq ([.v (.pointer (some ⟨l, lo, none⟩)), .v (.string s2), .loc 0 0], [], [51]) ∧
I1 true (IntKind.wrap .i64 (at_1 + n6)) torn_1 n4 n5 s4 H3 ∧
M1 true (IntKind.wrap .i64 (at_1 + n6)) torn_1 n4 n5 s4 H3 < M1 left_1 at_1 torn_1 n2 n3 s3 H2))))))
 (
br (left_1) (
∃ p3 : Option Addr,
cellH H2 ⟨l, lo + 6, none⟩ = some (.pointer p3) ∧
∃ s6 : ByteArray,
cellH H2 ⟨l, lo + 7, none⟩ = some (.string s6) ∧
s6.size + (⟨#[46, 108, 111, 103]⟩ : ByteArray).size < 9223372036854775808 ∧
∃ l9 : Sl,
cellH H2 ⟨l, lo + 5, none⟩ = some (.slice l9.p l9.n l9.c) ∧
FnH Tryz.prog 103 #[.slice l9.p l9.n l9.c] H2 fun r8 H17 =>
∃ s7 : ByteArray,
r8 = .string s7 ∧
Sub H2 H17 ∧
FnH Tryz.prog 85 #[.pointer p3, .string (s6 ++ (⟨#[46, 108, 111, 103]⟩ : ByteArray)), .string s7] H17 fun r9 H18 =>
∃ n14 : Int,
r9 = .int .i64 n14 ∧
K (.int .i64 0) H18)
 (
K (.int .i64 0) H2)))
 (
br (left_1) (
∃ p4 : Option Addr,
cellH H2 ⟨l, lo + 6, none⟩ = some (.pointer p4) ∧
∃ s8 : ByteArray,
cellH H2 ⟨l, lo + 7, none⟩ = some (.string s8) ∧
s8.size + (⟨#[46, 108, 111, 103]⟩ : ByteArray).size < 9223372036854775808 ∧
∃ l10 : Sl,
cellH H2 ⟨l, lo + 5, none⟩ = some (.slice l10.p l10.n l10.c) ∧
FnH Tryz.prog 103 #[.slice l10.p l10.n l10.c] H2 fun r10 H19 =>
∃ s9 : ByteArray,
r10 = .string s9 ∧
Sub H2 H19 ∧
FnH Tryz.prog 85 #[.pointer p4, .string (s8 ++ (⟨#[46, 108, 111, 103]⟩ : ByteArray)), .string s9] H19 fun r11 H20 =>
∃ n15 : Int,
r11 = .int .i64 n15 ∧
K (.int .i64 0) H20)
 (
K (.int .i64 0) H2)))
theorem raftlog_Log_readEntries_fn (l lo : Nat) {H : Heap} {K : Value → Heap → Prop} (h : raftlog_Log_readEntries_vc l lo H K) : FnH Tryz.prog 64 #[.pointer (some ⟨l, lo, none⟩)] H K :=
  denFn_fn Tryz.mixed raftlog_Log_readEntries_ann Tryz.func64 (bodyOf_spec (by kernel_rfl)) (by kernel_rfl) h
def raftlog_within_ann : Anns := { hid := [], loops := [], joins := [], mix := [] }
def raftlog_within_vc (n least : Int) (H : Heap) (K : Value → Heap → Prop) : Prop :=
br (decide ((n : Int) ≥ least)) (
K (.bool (decide ((n : Int) ≤ 1000000000))) H)
 (
K (.bool false) H)
theorem raftlog_within_fn (n least : Int) {H : Heap} {K : Value → Heap → Prop} (h : raftlog_within_vc n least H K) : FnH Tryz.prog 84 #[.int .i64 n, .int .i64 least] H K :=
  denFn_fn Tryz.mixed raftlog_within_ann Tryz.func84 (bodyOf_spec (by kernel_rfl)) (by kernel_rfl) h
def raftlog_summed_ann : Anns := { hid := [], loops := [], joins := [], mix := [] }
def raftlog_summed_vc (s : ByteArray) (H : Heap) (K : Value → Heap → Prop) : Prop :=
FnH Tryz.prog 100 #[.string s] H fun r1 H1 =>
∃ n1 : Int,
r1 = .int .i64 n1 ∧
FnH Tryz.prog 140 #[.int .i64 n1] H1 fun r2 H2 =>
∃ s1 : ByteArray,
r2 = .string s1 ∧
s1.size + s.size < 9223372036854775808 ∧
K (.string (s1 ++ s)) H2
theorem raftlog_summed_fn (s : ByteArray) {H : Heap} {K : Value → Heap → Prop} (h : raftlog_summed_vc s H K) : FnH Tryz.prog 86 #[.string s] H K :=
  denFn_fn Tryz.mixed raftlog_summed_ann Tryz.func86 (bodyOf_spec (by kernel_rfl)) (by kernel_rfl) h
def raftlog_state_First_ann : Anns := { hid := [], loops := [], joins := [], mix := [] }
def raftlog_state_First_vc (s so : Nat) (H : Heap) (K : Value → Heap → Prop) : Prop :=
∃ n1 : Int,
cellH H ⟨s, so + 2, none⟩ = some (.int .i64 n1) ∧
K (.int .i64 (IntKind.wrap .i64 (n1 + 1))) H
theorem raftlog_state_First_fn (s so : Nat) {H : Heap} {K : Value → Heap → Prop} (h : raftlog_state_First_vc s so H K) : FnH Tryz.prog 89 #[.pointer (some ⟨s, so, none⟩)] H K :=
  denFn_fn Tryz.mixed raftlog_state_First_ann Tryz.func89 (bodyOf_spec (by kernel_rfl)) (by kernel_rfl) h
def raftlog_Log_Snap_ann : Anns := { hid := [11], loops := [], joins := [((0, 1), { slots := [(15, .bool)], kept := [0, 1, 2, 3], locs := [], keptL := [] }), ((0, 14), { slots := [(83, .bool)], kept := [0, 1, 2, 3, 10], locs := [], keptL := [0] })], mix := [(9, [21]), (15, []), (17, []), (19, [11])] }
def raftlog_Log_Snap_vc (l lo : Nat) (index term0 : Int) (data : ByteArray) (H : Heap) (K : Value → Heap → Prop) : Prop :=
∃ J1 : Bool → Heap → Prop,
 (FnH Tryz.prog 84 #[.int .i64 index, .int .i64 1] H fun r1 H1 =>
∃ b1 : Bool,
r1 = .bool b1 ∧
br (!b1) (
SelfEq ([.v (.pointer (some ⟨l, lo, none⟩)), .v (.int .i64 index), .v (.int .i64 term0), .v (.string data)], [], []) ∧
J1 true H1)
 (
FnH Tryz.prog 84 #[.int .i64 term0, .int .i64 1] H1 fun r2 H2 =>
∃ b2 : Bool,
r2 = .bool b2 ∧
SelfEq ([.v (.pointer (some ⟨l, lo, none⟩)), .v (.int .i64 index), .v (.int .i64 term0), .v (.string data)], [], []) ∧
J1 (!b2) H2)) ∧
∀ b_1 : Bool,
∀ H3 : Heap,
J1 b_1 H3 →
br (b_1) (
K (.int .i64 1) H3)
 (
br (decide (((data.size : Nat) : Int) > 60000)) (
K (.int .i64 2) H3)
 (
∃ n1 : Int,
cellH H3 ⟨l, lo + 2, none⟩ = some (.int .i64 n1) ∧
br (decide ((index : Int) ≤ n1)) (
K (.int .i64 10) H3)
 (
∃ n2 : Int,
cellH H3 ⟨l, lo + 3, none⟩ = some (.int .i64 n2) ∧
br (decide ((term0 : Int) < n2)) (
K (.int .i64 1) H3)
 (
∃ p1 : Option Addr,
cellH H3 ⟨l, lo + 6, none⟩ = some (.pointer p1) ∧
∃ s1 : ByteArray,
cellH H3 ⟨l, lo + 7, none⟩ = some (.string s1) ∧
s1.size + (⟨#[46, 115, 110, 97, 112]⟩ : ByteArray).size < 9223372036854775808 ∧
FnH Tryz.prog 87 #[.int .i64 index] H3 fun r3 H4 =>
∃ s2 : ByteArray,
r3 = .string s2 ∧
Sub H3 H4 ∧
FnH Tryz.prog 87 #[.int .i64 term0] H4 fun r4 H5 =>
∃ s3 : ByteArray,
r4 = .string s3 ∧
Sub H3 H5 ∧
s2.size + s3.size < 9223372036854775808 ∧
FnH Tryz.prog 87 #[.int .i64 (data.size : Nat)] H5 fun r5 H6 =>
∃ s4 : ByteArray,
r5 = .string s4 ∧
Sub H3 H6 ∧
 (s2 ++ s3).size + s4.size < 9223372036854775808 ∧
 ((s2 ++ s3) ++ s4).size + data.size < 9223372036854775808 ∧
FnH Tryz.prog 86 #[.string (((s2 ++ s3) ++ s4) ++ data)] H6 fun r6 H7 =>
∃ s5 : ByteArray,
r6 = .string s5 ∧
Sub H3 H7 ∧
FnH Tryz.prog 85 #[.pointer p1, .string (s1 ++ (⟨#[46, 115, 110, 97, 112]⟩ : ByteArray)), .string s5] H7 fun r7 H8 =>
∃ n3 : Int,
r7 = .int .i64 n3 ∧
br ((n3 : Int) != 0) (
K (.int .i64 n3) H8)
 (
FnH Tryz.prog 94 #[.pointer (some ⟨l, lo, none⟩), .int .i64 index] H8 fun r8 H9 =>
∃ n4 n5 : Int,
∃ s6 : ByteArray,
∃ b3 : Bool,
r8 = .tuple #[.agg #[.int .i64 n4, .int .i64 n5, .string s6], .bool b3] ∧
∃ J2 : Bool → Heap → Prop,
 (br (b3) (
SelfEq ([.v (.pointer (some ⟨l, lo, none⟩)), .v (.int .i64 index), .v (.int .i64 term0), .v (.string data), .v (.slice none 0 0)], [some (51, [.int .i64 n4, .int .i64 n5, .string s6])], []) ∧
J2 ((n4 : Int) == term0) H9)
 (
SelfEq ([.v (.pointer (some ⟨l, lo, none⟩)), .v (.int .i64 index), .v (.int .i64 term0), .v (.string data), .v (.slice none 0 0)], [some (51, [.int .i64 n4, .int .i64 n5, .string s6])], []) ∧
J2 false H9)) ∧
∀ b_2 : Bool,
∀ H10 : Heap,
J2 b_2 H10 →
br (b_2) (
∃ l1 : Sl,
cellH H10 ⟨l, lo + 5, none⟩ = some (.slice l1.p l1.n l1.c) ∧
∃ n6 : Int,
cellH H10 ⟨l, lo + 2, none⟩ = some (.int .i64 n6) ∧
0 ≤ (IntKind.wrap .i64 (index - n6) : Int) ∧
 (IntKind.wrap .i64 (index - n6) : Int) ≤ (l1.n : Nat) ∧
FnH Tryz.prog 95 #[.slice (slP l1.p l1.c (IntKind.wrap .i64 (index - n6)) 3) (Int.toNat ((l1.n : Nat) - (IntKind.wrap .i64 (index - n6)))) (Int.toNat ((l1.c : Nat) - (IntKind.wrap .i64 (index - n6))))] H10 fun r9 H11 =>
∃ l2 : Sl,
r9 = .slice l2.p l2.n l2.c ∧
Sub H10 H11 ∧
 (∃ u, cellH H11 ⟨l, lo + 2, none⟩ = some u) ∧
frozenH H11 ⟨l, lo + 2, none⟩ = false ∧
letH (Heap.set H11 ⟨l, lo + 2, none⟩ (.int .i64 index)) fun H12 =>
 (∃ u, cellH H12 ⟨l, lo + 3, none⟩ = some u) ∧
frozenH H12 ⟨l, lo + 3, none⟩ = false ∧
letH (Heap.set H12 ⟨l, lo + 3, none⟩ (.int .i64 term0)) fun H13 =>
 (∃ u, cellH H13 ⟨l, lo + 4, none⟩ = some u) ∧
frozenH H13 ⟨l, lo + 4, none⟩ = false ∧
letH (Heap.set H13 ⟨l, lo + 4, none⟩ (.string data)) fun H14 =>
 (∃ u, cellH H14 ⟨l, lo + 5, none⟩ = some u) ∧
frozenH H14 ⟨l, lo + 5, none⟩ = false ∧
letH (Heap.set H14 ⟨l, lo + 5, none⟩ (.slice l2.p l2.n l2.c)) fun H15 =>
∃ p2 : Option Addr,
cellH H15 ⟨l, lo + 6, none⟩ = some (.pointer p2) ∧
∃ s7 : ByteArray,
cellH H15 ⟨l, lo + 7, none⟩ = some (.string s7) ∧
s7.size + (⟨#[46, 108, 111, 103]⟩ : ByteArray).size < 9223372036854775808 ∧
FnH Tryz.prog 62 #[.pointer p2, .string (s7 ++ (⟨#[46, 108, 111, 103]⟩ : ByteArray))] H15 fun r10 H16 =>
∃ s8 : ByteArray,
∃ n7 : Int,
r10 = .tuple #[.string s8, .int .i64 n7] ∧
Sub H15 H16 ∧
br ((n7 : Int) == 0) (
∃ p3 : Option Addr,
cellH H16 ⟨l, lo + 6, none⟩ = some (.pointer p3) ∧
∃ s9 : ByteArray,
cellH H16 ⟨l, lo + 7, none⟩ = some (.string s9) ∧
s9.size + (⟨#[46, 108, 111, 103]⟩ : ByteArray).size < 9223372036854775808 ∧
FnH Tryz.prog 103 #[.slice l2.p l2.n l2.c] H16 fun r11 H17 =>
∃ s10 : ByteArray,
r11 = .string s10 ∧
Sub H16 H17 ∧
FnH Tryz.prog 85 #[.pointer p3, .string (s9 ++ (⟨#[46, 108, 111, 103]⟩ : ByteArray)), .string s10] H17 fun r12 H18 =>
∃ n8 : Int,
r12 = .int .i64 n8 ∧
K (.int .i64 0) H18)
 (
K (.int .i64 0) H16))
 (
 (∃ u, cellH H10 ⟨l, lo + 2, none⟩ = some u) ∧
frozenH H10 ⟨l, lo + 2, none⟩ = false ∧
letH (Heap.set H10 ⟨l, lo + 2, none⟩ (.int .i64 index)) fun H19 =>
 (∃ u, cellH H19 ⟨l, lo + 3, none⟩ = some u) ∧
frozenH H19 ⟨l, lo + 3, none⟩ = false ∧
letH (Heap.set H19 ⟨l, lo + 3, none⟩ (.int .i64 term0)) fun H20 =>
 (∃ u, cellH H20 ⟨l, lo + 4, none⟩ = some u) ∧
frozenH H20 ⟨l, lo + 4, none⟩ = false ∧
letH (Heap.set H20 ⟨l, lo + 4, none⟩ (.string data)) fun H21 =>
 (∃ u, cellH H21 ⟨l, lo + 5, none⟩ = some u) ∧
frozenH H21 ⟨l, lo + 5, none⟩ = false ∧
letH (Heap.set H21 ⟨l, lo + 5, none⟩ (.slice none 0 0)) fun H22 =>
∃ p4 : Option Addr,
cellH H22 ⟨l, lo + 6, none⟩ = some (.pointer p4) ∧
∃ s11 : ByteArray,
cellH H22 ⟨l, lo + 7, none⟩ = some (.string s11) ∧
s11.size + (⟨#[46, 108, 111, 103]⟩ : ByteArray).size < 9223372036854775808 ∧
FnH Tryz.prog 62 #[.pointer p4, .string (s11 ++ (⟨#[46, 108, 111, 103]⟩ : ByteArray))] H22 fun r13 H23 =>
∃ s12 : ByteArray,
∃ n9 : Int,
r13 = .tuple #[.string s12, .int .i64 n9] ∧
Sub H22 H23 ∧
br ((n9 : Int) == 0) (
∃ p5 : Option Addr,
cellH H23 ⟨l, lo + 6, none⟩ = some (.pointer p5) ∧
∃ s13 : ByteArray,
cellH H23 ⟨l, lo + 7, none⟩ = some (.string s13) ∧
s13.size + (⟨#[46, 108, 111, 103]⟩ : ByteArray).size < 9223372036854775808 ∧
FnH Tryz.prog 103 #[.slice none 0 0] H23 fun r14 H24 =>
∃ s14 : ByteArray,
r14 = .string s14 ∧
Sub H23 H24 ∧
FnH Tryz.prog 85 #[.pointer p5, .string (s13 ++ (⟨#[46, 108, 111, 103]⟩ : ByteArray)), .string s14] H24 fun r15 H25 =>
∃ n10 : Int,
r15 = .int .i64 n10 ∧
K (.int .i64 0) H25)
 (
K (.int .i64 0) H23)))))))
theorem raftlog_Log_Snap_fn (l lo : Nat) (index term0 : Int) (data : ByteArray) {H : Heap} {K : Value → Heap → Prop} (h : raftlog_Log_Snap_vc l lo index term0 data H K) : FnH Tryz.prog 92 #[.pointer (some ⟨l, lo, none⟩), .int .i64 index, .int .i64 term0, .string data] H K :=
  denFn_fn Tryz.mixed raftlog_Log_Snap_ann Tryz.func92 (bodyOf_spec (by kernel_rfl)) (by kernel_rfl) h
def raftlog_state_At_ann : Anns := { hid := [4], loops := [], joins := [], mix := [] }
def raftlog_state_At_vc (s so : Nat) (index : Int) (H : Heap) (K : Value → Heap → Prop) : Prop :=
∃ n1 : Int,
cellH H ⟨s, so + 2, none⟩ = some (.int .i64 n1) ∧
∃ n2 : Int,
cellH H ⟨s, so + 2, none⟩ = some (.int .i64 n2) ∧
br (decide ((index : Int) ≤ n2)) (
K (.tuple #[.agg #[.int .i64 0, .int .i64 0, .string (⟨#[]⟩ : ByteArray)], .bool false]) H)
 (
∃ l1 : Sl,
cellH H ⟨s, so + 5, none⟩ = some (.slice l1.p l1.n l1.c) ∧
br (decide (((IntKind.wrap .i64 ((IntKind.wrap .i64 (index - n1)) - 1)) : Int) ≥ (l1.n : Nat))) (
K (.tuple #[.agg #[.int .i64 0, .int .i64 0, .string (⟨#[]⟩ : ByteArray)], .bool false]) H)
 (
∃ l2 : Sl,
cellH H ⟨s, so + 5, none⟩ = some (.slice l2.p l2.n l2.c) ∧
∃ q1 o1 : Nat,
 (l2.p : Option Addr) = some ⟨q1, o1, none⟩ ∧
0 ≤ ((IntKind.wrap .i64 ((IntKind.wrap .i64 (index - n1)) - 1)) : Int) ∧
 ((IntKind.wrap .i64 ((IntKind.wrap .i64 (index - n1)) - 1)) : Int) < (l2.n : Nat) ∧
∃ n3 : Int,
cellH H ⟨q1, o1 + Int.toNat (IntKind.wrap .i64 ((IntKind.wrap .i64 (index - n1)) - 1)) * 3, none⟩ = some (.int .i64 n3) ∧
∃ n4 : Int,
cellH H ⟨q1, o1 + Int.toNat (IntKind.wrap .i64 ((IntKind.wrap .i64 (index - n1)) - 1)) * 3 + 1, none⟩ = some (.int .i64 n4) ∧
∃ s1 : ByteArray,
cellH H ⟨q1, o1 + Int.toNat (IntKind.wrap .i64 ((IntKind.wrap .i64 (index - n1)) - 1)) * 3 + 2, none⟩ = some (.string s1) ∧
K (.tuple #[.agg #[.int .i64 n3, .int .i64 n4, .string s1], .bool true]) H))
theorem raftlog_state_At_fn (s so : Nat) (index : Int) {H : Heap} {K : Value → Heap → Prop} (h : raftlog_state_At_vc s so index H K) : FnH Tryz.prog 94 #[.pointer (some ⟨s, so, none⟩), .int .i64 index] H K :=
  denFn_fn Tryz.mixed raftlog_state_At_ann Tryz.func94 (bodyOf_spec (by kernel_rfl)) (by kernel_rfl) h
def slices_Clone_Lapi_Entry_api_Entry_ann : Anns := { hid := [], loops := [], joins := [], mix := [] }
def slices_Clone_Lapi_Entry_api_Entry_vc (s : Sl) (H : Heap) (K : Value → Heap → Prop) : Prop :=
br (Option.isNone s.p) (
K (.slice none 0 0) H)
 (
∀ q1 : Nat,
H q1 = none →
letH (Heap.upd H q1 (.cells #[] 51 (0, 0))) fun H1 =>
runH Tryz.prog (Builtin.append_ #[29, 29] 29 #[.slice (some ⟨q1, 0, none⟩) 0 0, .slice s.p s.n s.c]) H1 fun r1 H2 =>
∃ l1 : Sl,
r1 = .slice l1.p l1.n l1.c ∧
K (.slice l1.p l1.n l1.c) H2)
theorem slices_Clone_Lapi_Entry_api_Entry_fn (s : Sl) {H : Heap} {K : Value → Heap → Prop} (h : slices_Clone_Lapi_Entry_api_Entry_vc s H K) : FnH Tryz.prog 95 #[.slice s.p s.n s.c] H K :=
  denFn_fn Tryz.mixed slices_Clone_Lapi_Entry_api_Entry_ann Tryz.func95 (bodyOf_spec (by kernel_rfl)) (by kernel_rfl) h
def raftlog_numbers_ann : Anns := { hid := [], loops := [], joins := [], mix := [(5, [])] }
def raftlog_numbers_vc (s : ByteArray) (least : Int) (H : Heap) (K : Value → Heap → Prop) : Prop :=
FnH Tryz.prog 145 #[.string s] H fun r1 H1 =>
∃ n1 n2 n3 : Int,
r1 = .tuple #[.int .i64 n1, .int .i64 n2, .int .i64 n3] ∧
br ((n3 : Int) != 0) (
K (.tuple #[.int .i64 0, .int .i64 0, .string (⟨#[]⟩ : ByteArray), .bool false]) H1)
 (
0 ≤ (n2 : Int) ∧
 (n2 : Int) ≤ (s.size : Nat) ∧
FnH Tryz.prog 145 #[.string (s.extract (Int.toNat n2) (Int.toNat (s.size : Nat)))] H1 fun r2 H2 =>
∃ n4 n5 n6 : Int,
r2 = .tuple #[.int .i64 n4, .int .i64 n5, .int .i64 n6] ∧
0 ≤ (if ((s.size : Nat) : Int) < (IntKind.wrap .i64 (n2 + n5)) then ((s.size : Nat) : Int) else (IntKind.wrap .i64 (n2 + n5)) : Int) ∧
 (if ((s.size : Nat) : Int) < (IntKind.wrap .i64 (n2 + n5)) then ((s.size : Nat) : Int) else (IntKind.wrap .i64 (n2 + n5)) : Int) ≤ (s.size : Nat) ∧
br ((n6 : Int) == 0) (
FnH Tryz.prog 84 #[.int .i64 n1, .int .i64 least] H2 fun r3 H3 =>
∃ b1 : Bool,
r3 = .bool b1 ∧
Sub H2 H3 ∧
br (b1) (
FnH Tryz.prog 84 #[.int .i64 n4, .int .i64 least] H3 fun r4 H4 =>
∃ b2 : Bool,
r4 = .bool b2 ∧
Sub H2 H4 ∧
K (.tuple #[.int .i64 n1, .int .i64 n4, .string (s.extract (Int.toNat (if ((s.size : Nat) : Int) < (IntKind.wrap .i64 (n2 + n5)) then ((s.size : Nat) : Int) else (IntKind.wrap .i64 (n2 + n5)))) (Int.toNat (s.size : Nat))), .bool b2]) H4)
 (
K (.tuple #[.int .i64 n1, .int .i64 n4, .string (s.extract (Int.toNat (if ((s.size : Nat) : Int) < (IntKind.wrap .i64 (n2 + n5)) then ((s.size : Nat) : Int) else (IntKind.wrap .i64 (n2 + n5)))) (Int.toNat (s.size : Nat))), .bool false]) H3))
 (
K (.tuple #[.int .i64 n1, .int .i64 n4, .string (s.extract (Int.toNat (if ((s.size : Nat) : Int) < (IntKind.wrap .i64 (n2 + n5)) then ((s.size : Nat) : Int) else (IntKind.wrap .i64 (n2 + n5)))) (Int.toNat (s.size : Nat))), .bool false]) H2))
theorem raftlog_numbers_fn (s : ByteArray) (least : Int) {H : Heap} {K : Value → Heap → Prop} (h : raftlog_numbers_vc s least H K) : FnH Tryz.prog 97 #[.string s, .int .i64 least] H K :=
  denFn_fn Tryz.mixed raftlog_numbers_ann Tryz.func97 (bodyOf_spec (by kernel_rfl)) (by kernel_rfl) h
def raftlog_text_ann : Anns := { hid := [], loops := [], joins := [], mix := [] }
def raftlog_text_vc (s : ByteArray) (most : Int) (H : Heap) (K : Value → Heap → Prop) : Prop :=
FnH Tryz.prog 145 #[.string s] H fun r1 H1 =>
∃ n1 n2 n3 : Int,
r1 = .tuple #[.int .i64 n1, .int .i64 n2, .int .i64 n3] ∧
br ((n3 : Int) != 0) (
K (.tuple #[.string (⟨#[]⟩ : ByteArray), .bool false]) H1)
 (
br (decide ((n1 : Int) < 0)) (
K (.tuple #[.string (⟨#[]⟩ : ByteArray), .bool false]) H1)
 (
br (decide ((n1 : Int) > most)) (
K (.tuple #[.string (⟨#[]⟩ : ByteArray), .bool false]) H1)
 (
br (((IntKind.wrap .i64 ((s.size : Nat) - n2)) : Int) != n1) (
K (.tuple #[.string (⟨#[]⟩ : ByteArray), .bool false]) H1)
 (
0 ≤ (n2 : Int) ∧
 (n2 : Int) ≤ (s.size : Nat) ∧
K (.tuple #[.string (s.extract (Int.toNat n2) (Int.toNat (s.size : Nat))), .bool true]) H1))))
theorem raftlog_text_fn (s : ByteArray) (most : Int) {H : Heap} {K : Value → Heap → Prop} (h : raftlog_text_vc s most H K) : FnH Tryz.prog 98 #[.string s, .int .i64 most] H K :=
  denFn_fn Tryz.mixed raftlog_text_ann Tryz.func98 (bodyOf_spec (by kernel_rfl)) (by kernel_rfl) h
def raftlog_fourth_ann : Anns := { hid := [], loops := [], joins := [], mix := [] }
def raftlog_fourth_vc (s : ByteArray) (H : Heap) (K : Value → Heap → Prop) : Prop :=
0 ≤ (0 : Int) ∧
∃ c1 : UInt8,
s[Int.toNat 0]? = some c1 ∧
0 ≤ (1 : Int) ∧
∃ c2 : UInt8,
s[Int.toNat 1]? = some c2 ∧
0 ≤ (2 : Int) ∧
∃ c3 : UInt8,
s[Int.toNat 2]? = some c3 ∧
0 ≤ (3 : Int) ∧
∃ c4 : UInt8,
s[Int.toNat 3]? = some c4 ∧
K (.int .i64 (orI .i64 (orI .i64 (orI .i64 (shlI .i64 (IntKind.wrap .i64 (c1.toNat : Int)) 24) (shlI .i64 (IntKind.wrap .i64 (c2.toNat : Int)) 16)) (shlI .i64 (IntKind.wrap .i64 (c3.toNat : Int)) 8)) (IntKind.wrap .i64 (c4.toNat : Int)))) H
theorem raftlog_fourth_fn (s : ByteArray) {H : Heap} {K : Value → Heap → Prop} (h : raftlog_fourth_vc s H K) : FnH Tryz.prog 99 #[.string s] H K :=
  denFn_fn Tryz.mixed raftlog_fourth_ann Tryz.func99 (bodyOf_spec (by kernel_rfl)) (by kernel_rfl) h
def raftlog_one_ann : Anns := { hid := [2], loops := [], joins := [], mix := [] }
def raftlog_one_vc (s : ByteArray) (H : Heap) (K : Value → Heap → Prop) : Prop :=
br (decide (((s.size : Nat) : Int) < 8)) (
K (.tuple #[.agg #[.int .i64 0, .int .i64 0, .string (⟨#[]⟩ : ByteArray)], .int .i64 0, .int .i64 0]) H)
 (
FnH Tryz.prog 99 #[.string s] H fun r1 H1 =>
∃ n1 : Int,
r1 = .int .i64 n1 ∧
br (decide ((n1 : Int) > 2100)) (
K (.tuple #[.agg #[.int .i64 0, .int .i64 0, .string (⟨#[]⟩ : ByteArray)], .int .i64 0, .int .i64 4]) H1)
 (
br (decide (((s.size : Nat) : Int) < (IntKind.wrap .i64 (8 + n1)))) (
K (.tuple #[.agg #[.int .i64 0, .int .i64 0, .string (⟨#[]⟩ : ByteArray)], .int .i64 0, .int .i64 0]) H1)
 (
0 ≤ (IntKind.wrap .i64 (8 + n1) : Int) ∧
 (IntKind.wrap .i64 (8 + n1) : Int) ≤ (s.size : Nat) ∧
0 ≤ (4 : Int) ∧
 (4 : Int) ≤ (IntKind.wrap .i64 (8 + n1)) ∧
FnH Tryz.prog 63 #[.string (s.extract (Int.toNat 4) (Int.toNat (IntKind.wrap .i64 (8 + n1))))] H1 fun r2 H2 =>
∃ s1 : ByteArray,
∃ n2 : Int,
r2 = .tuple #[.string s1, .int .i64 n2] ∧
br ((n2 : Int) != 0) (
K (.tuple #[.agg #[.int .i64 0, .int .i64 0, .string (⟨#[]⟩ : ByteArray)], .int .i64 0, .int .i64 n2]) H2)
 (
FnH Tryz.prog 97 #[.string s1, .int .i64 1] H2 fun r3 H3 =>
∃ n3 n4 : Int,
∃ s2 : ByteArray,
∃ b1 : Bool,
r3 = .tuple #[.int .i64 n3, .int .i64 n4, .string s2, .bool b1] ∧
FnH Tryz.prog 98 #[.string s2, .int .i64 2048] H3 fun r4 H4 =>
∃ s3 : ByteArray,
∃ b2 : Bool,
r4 = .tuple #[.string s3, .bool b2] ∧
br (!b1) (
K (.tuple #[.agg #[.int .i64 0, .int .i64 0, .string (⟨#[]⟩ : ByteArray)], .int .i64 0, .int .i64 4]) H4)
 (
br (!b2) (
K (.tuple #[.agg #[.int .i64 0, .int .i64 0, .string (⟨#[]⟩ : ByteArray)], .int .i64 0, .int .i64 4]) H4)
 (
K (.tuple #[.agg #[.int .i64 n3, .int .i64 n4, .string s3], .int .i64 (IntKind.wrap .i64 (8 + n1)), .int .i64 0]) H4))))))
theorem raftlog_one_fn (s : ByteArray) {H : Heap} {K : Value → Heap → Prop} (h : raftlog_one_vc s H K) : FnH Tryz.prog 101 #[.string s] H K :=
  denFn_fn Tryz.mixed raftlog_one_ann Tryz.func101 (bodyOf_spec (by kernel_rfl)) (by kernel_rfl) h
def raftlog_bytes_ann : Anns := { hid := [5], loops := [(0, { slots := [(3, .slice), (9, .int .i64)], kept := [7, 8], locs := [], keptL := [] })], joins := [], mix := [] }
def raftlog_bytes_vc (l : Sl) (H : Heap) (K : Value → Heap → Prop) : Prop :=
∃ I1 : Sl → Int → Heap → Prop,
∃ M1 : Sl → Int → Heap → Nat,
I1 ⟨none, 0, 0⟩ 0 H ∧
∀ b_1 : Sl,
∀ n_1 : Int,
∀ H1 : Heap,
I1 b_1 n_1 H1 →
br (decide ((n_1 : Int) < (l.n : Nat))) (
∃ q1 o1 : Nat,
 (l.p : Option Addr) = some ⟨q1, o1, none⟩ ∧
0 ≤ (n_1 : Int) ∧
 (n_1 : Int) < (l.n : Nat) ∧
∃ n1 : Int,
cellH H1 ⟨q1, o1 + Int.toNat n_1 * 3, none⟩ = some (.int .i64 n1) ∧
∃ n2 : Int,
cellH H1 ⟨q1, o1 + Int.toNat n_1 * 3 + 1, none⟩ = some (.int .i64 n2) ∧
∃ s1 : ByteArray,
cellH H1 ⟨q1, o1 + Int.toNat n_1 * 3 + 2, none⟩ = some (.string s1) ∧
FnH Tryz.prog 146 #[.agg #[.int .i64 n1, .int .i64 n2, .string s1]] H1 fun r1 H2 =>
∃ s2 : ByteArray,
r1 = .string s2 ∧
FnH Tryz.prog 140 #[.int .i64 (s2.size : Nat)] H2 fun r2 H3 =>
∃ s3 : ByteArray,
r2 = .string s3 ∧
runH Tryz.prog (Builtin.append_ #[119, 9] 119 #[.slice b_1.p b_1.n b_1.c, .string s3]) H3 fun r3 H4 =>
∃ l1 : Sl,
r3 = .slice l1.p l1.n l1.c ∧
FnH Tryz.prog 86 #[.string s2] H4 fun r4 H5 =>
∃ s4 : ByteArray,
r4 = .string s4 ∧
runH Tryz.prog (Builtin.append_ #[119, 9] 119 #[.slice l1.p l1.n l1.c, .string s4]) H5 fun r5 H6 =>
∃ l2 : Sl,
r5 = .slice l2.p l2.n l2.c ∧
SelfEq ([.v (.slice l.p l.n l.c), .v (.int .i64 (l.n : Nat))], [], []) ∧
I1 l2 (IntKind.wrap .i64 (n_1 + 1)) H6 ∧
M1 l2 (IntKind.wrap .i64 (n_1 + 1)) H6 < M1 b_1 n_1 H1)
 (
runH Tryz.prog (convert 119 9 (.slice b_1.p b_1.n b_1.c)) H1 fun r6 H7 =>
∃ s5 : ByteArray,
r6 = .string s5 ∧
K (.string s5) H7)
theorem raftlog_bytes_fn (l : Sl) {H : Heap} {K : Value → Heap → Prop} (h : raftlog_bytes_vc l H K) : FnH Tryz.prog 103 #[.slice l.p l.n l.c] H K :=
  denFn_fn Tryz.mixed raftlog_bytes_ann Tryz.func103 (bodyOf_spec (by kernel_rfl)) (by kernel_rfl) h
def raftlog_four_ann : Anns := { hid := [], loops := [], joins := [], mix := [] }
def raftlog_four_vc (n : Int) (H : Heap) (K : Value → Heap → Prop) : Prop :=
∀ q1 : Nat,
H q1 = none →
letH (Heap.upd H q1 (.cells #[.int .u8 (IntKind.wrap .u8 (shrI .i64 n 24)), .int .u8 (IntKind.wrap .u8 (shrI .i64 n 16)), .int .u8 (IntKind.wrap .u8 (shrI .i64 n 8)), .int .u8 (IntKind.wrap .u8 n)] 5 (0, 0))) fun H1 =>
runH Tryz.prog (convert 119 9 (.slice (some ⟨q1, 0, none⟩) 4 4)) H1 fun r1 H2 =>
∃ s1 : ByteArray,
r1 = .string s1 ∧
K (.string s1) H2
theorem raftlog_four_fn (n : Int) {H : Heap} {K : Value → Heap → Prop} (h : raftlog_four_vc n H K) : FnH Tryz.prog 140 #[.int .i64 n] H K :=
  denFn_fn Tryz.mixed raftlog_four_ann Tryz.func140 (bodyOf_spec (by kernel_rfl)) (by kernel_rfl) h
def raftlog_right_ann : Anns := { hid := [6], loops := [(0, { slots := [(9, .int .i64)], kept := [0, 1, 7, 8], locs := [], keptL := [] })], joins := [((0, 4), { slots := [(14, .bool)], kept := [0, 1, 6, 7, 8, 9], locs := [], keptL := [0] })], mix := [(4, [])] }
def raftlog_right_vc (after : Int) (l : Sl) (H : Heap) (K : Value → Heap → Prop) : Prop :=
∃ I1 : Int → Heap → Prop,
∃ M1 : Int → Heap → Nat,
I1 0 H ∧
∀ n_1 : Int,
∀ H1 : Heap,
I1 n_1 H1 →
br (decide ((n_1 : Int) < (l.n : Nat))) (
∃ q1 o1 : Nat,
 (l.p : Option Addr) = some ⟨q1, o1, none⟩ ∧
0 ≤ (n_1 : Int) ∧
 (n_1 : Int) < (l.n : Nat) ∧
∃ n1 : Int,
cellH H1 ⟨q1, o1 + Int.toNat n_1 * 3, none⟩ = some (.int .i64 n1) ∧
∃ n2 : Int,
cellH H1 ⟨q1, o1 + Int.toNat n_1 * 3 + 1, none⟩ = some (.int .i64 n2) ∧
∃ s1 : ByteArray,
cellH H1 ⟨q1, o1 + Int.toNat n_1 * 3 + 2, none⟩ = some (.string s1) ∧
∃ J1 : Bool → Heap → Prop,
 (br ((n2 : Int) != (IntKind.wrap .i64 ((IntKind.wrap .i64 (after + 1)) + n_1))) (
SelfEq ([.v (.int .i64 after), .v (.slice l.p l.n l.c), .loc 0 0, .v (.slice l.p l.n l.c), .v (.int .i64 (l.n : Nat)), .v (.int .i64 n_1)], [some (51, [.int .i64 n1, .int .i64 n2, .string s1])], []) ∧
J1 true H1)
 (
br (decide ((n2 : Int) > 1000000000)) (
SelfEq ([.v (.int .i64 after), .v (.slice l.p l.n l.c), .loc 0 0, .v (.slice l.p l.n l.c), .v (.int .i64 (l.n : Nat)), .v (.int .i64 n_1)], [some (51, [.int .i64 n1, .int .i64 n2, .string s1])], []) ∧
J1 true H1)
 (
FnH Tryz.prog 84 #[.int .i64 n1, .int .i64 1] H1 fun r1 H2 =>
∃ b1 : Bool,
r1 = .bool b1 ∧
Sub H1 H2 ∧
br (!b1) (
SelfEq ([.v (.int .i64 after), .v (.slice l.p l.n l.c), .loc 0 0, .v (.slice l.p l.n l.c), .v (.int .i64 (l.n : Nat)), .v (.int .i64 n_1)], [some (51, [.int .i64 n1, .int .i64 n2, .string s1])], []) ∧
J1 true H2)
 (
br (decide ((n_1 : Int) > 0)) (
∃ q2 o2 : Nat,
 (l.p : Option Addr) = some ⟨q2, o2, none⟩ ∧
0 ≤ ((IntKind.wrap .i64 (n_1 - 1)) : Int) ∧
 ((IntKind.wrap .i64 (n_1 - 1)) : Int) < (l.n : Nat) ∧
∃ n3 : Int,
cellH H1 ⟨q2, o2 + Int.toNat (IntKind.wrap .i64 (n_1 - 1)) * 3, none⟩ = some (.int .i64 n3) ∧
SelfEq ([.v (.int .i64 after), .v (.slice l.p l.n l.c), .loc 0 0, .v (.slice l.p l.n l.c), .v (.int .i64 (l.n : Nat)), .v (.int .i64 n_1)], [some (51, [.int .i64 n1, .int .i64 n2, .string s1])], []) ∧
J1 (decide ((n1 : Int) < n3)) H2)
 (
SelfEq ([.v (.int .i64 after), .v (.slice l.p l.n l.c), .loc 0 0, .v (.slice l.p l.n l.c), .v (.int .i64 (l.n : Nat)), .v (.int .i64 n_1)], [some (51, [.int .i64 n1, .int .i64 n2, .string s1])], []) ∧
J1 false H2))))) ∧
∀ b_1 : Bool,
∀ H3 : Heap,
J1 b_1 H3 →
br (b_1) (
K (.int .i64 1) H3)
 (
br (decide (((s1.size : Nat) : Int) > 2048)) (
K (.int .i64 2) H3)
 (
SelfEq ([.v (.int .i64 after), .v (.slice l.p l.n l.c), .v (.slice l.p l.n l.c), .v (.int .i64 (l.n : Nat))], [], []) ∧
I1 (IntKind.wrap .i64 (n_1 + 1)) H3 ∧
M1 (IntKind.wrap .i64 (n_1 + 1)) H3 < M1 n_1 H1)))
 (
K (.int .i64 0) H1)
theorem raftlog_right_fn (after : Int) (l : Sl) {H : Heap} {K : Value → Heap → Prop} (h : raftlog_right_vc after l H K) : FnH Tryz.prog 142 #[.int .i64 after, .slice l.p l.n l.c] H K :=
  denFn_fn Tryz.mixed raftlog_right_ann Tryz.func142 (bodyOf_spec (by kernel_rfl)) (by kernel_rfl) h
def raftlog_body_ann : Anns := { hid := [1], loops := [], joins := [], mix := [(1, [])] }
def raftlog_body_vc (x_0 x_1 : Int) (x_2 : ByteArray) (H : Heap) (K : Value → Heap → Prop) : Prop :=
FnH Tryz.prog 87 #[.int .i64 x_0] H fun r1 H1 =>
∃ s1 : ByteArray,
r1 = .string s1 ∧
Sub H H1 ∧
FnH Tryz.prog 87 #[.int .i64 x_1] H1 fun r2 H2 =>
∃ s2 : ByteArray,
r2 = .string s2 ∧
Sub H H2 ∧
s1.size + s2.size < 9223372036854775808 ∧
FnH Tryz.prog 87 #[.int .i64 (x_2.size : Nat)] H2 fun r3 H3 =>
∃ s3 : ByteArray,
r3 = .string s3 ∧
Sub H H3 ∧
 (s1 ++ s2).size + s3.size < 9223372036854775808 ∧
 ((s1 ++ s2) ++ s3).size + x_2.size < 9223372036854775808 ∧
K (.string (((s1 ++ s2) ++ s3) ++ x_2)) H3
theorem raftlog_body_fn (x_0 x_1 : Int) (x_2 : ByteArray) {H : Heap} {K : Value → Heap → Prop} (h : raftlog_body_vc x_0 x_1 x_2 H K) : FnH Tryz.prog 146 #[.agg #[.int .i64 x_0, .int .i64 x_1, .string x_2]] H K :=
  denFn_fn Tryz.mixed raftlog_body_ann Tryz.func146 (bodyOf_spec (by kernel_rfl)) (by kernel_rfl) h
end Go.Proofs.YthldclmeojkboaaGreatDoor
