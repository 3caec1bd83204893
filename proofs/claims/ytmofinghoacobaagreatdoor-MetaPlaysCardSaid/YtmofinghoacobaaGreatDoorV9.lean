import Derived.Test.YtmofinghoacobaaGreatDoorProg
import Derived.KernelRfl
import Derived.Test.YtmofinghoacobaaGreatDoorHlFn
import Derived.Test.YtmofinghoacobaaGreatDoorV8
namespace Go.Proofs.YtmofinghoacobaaGreatDoor
open Go.HL
set_option maxRecDepth 100000
def meta_reader_int_ann : Anns := { hid := [], loops := [], joins := [], mix := [] }
def meta_reader_int_vc (r ro : Nat) (least most : Int) (H : Heap) (K : Value → Heap → Prop) : Prop :=
∃ s1 : ByteArray,
cellH H ⟨r, ro, none⟩ = some (.string s1) ∧
FnH Tryz.prog 84 #[.string s1] H fun r1 H1 =>
∃ n1 n2 n3 : Int,
r1 = .tuple #[.int .i64 n1, .int .i64 n2, .int .i64 n3] ∧
∃ b1 : Bool,
cellH H1 ⟨r, ro + 1, none⟩ = some (.bool b1) ∧
br (b1) (
 (∃ u, cellH H1 ⟨r, ro + 1, none⟩ = some u) ∧
frozenH H1 ⟨r, ro + 1, none⟩ = false ∧
letH (Heap.set H1 ⟨r, ro + 1, none⟩ (.bool true)) fun H2 =>
K (.int .i64 0) H2)
 (
br ((n3 : Int) != 0) (
 (∃ u, cellH H1 ⟨r, ro + 1, none⟩ = some u) ∧
frozenH H1 ⟨r, ro + 1, none⟩ = false ∧
letH (Heap.set H1 ⟨r, ro + 1, none⟩ (.bool true)) fun H3 =>
K (.int .i64 0) H3)
 (
br (decide ((n1 : Int) < least)) (
 (∃ u, cellH H1 ⟨r, ro + 1, none⟩ = some u) ∧
frozenH H1 ⟨r, ro + 1, none⟩ = false ∧
letH (Heap.set H1 ⟨r, ro + 1, none⟩ (.bool true)) fun H4 =>
K (.int .i64 0) H4)
 (
br (decide ((n1 : Int) > most)) (
 (∃ u, cellH H1 ⟨r, ro + 1, none⟩ = some u) ∧
frozenH H1 ⟨r, ro + 1, none⟩ = false ∧
letH (Heap.set H1 ⟨r, ro + 1, none⟩ (.bool true)) fun H5 =>
K (.int .i64 0) H5)
 (
∃ s2 : ByteArray,
cellH H1 ⟨r, ro, none⟩ = some (.string s2) ∧
0 ≤ (n2 : Int) ∧
 (n2 : Int) ≤ (s2.size : Nat) ∧
 (∃ u, cellH H1 ⟨r, ro, none⟩ = some u) ∧
frozenH H1 ⟨r, ro, none⟩ = false ∧
letH (Heap.set H1 ⟨r, ro, none⟩ (.string (s2.extract (Int.toNat n2) (Int.toNat (s2.size : Nat))))) fun H6 =>
K (.int .i64 n1) H6))))
theorem meta_reader_int_fn (r ro : Nat) (least most : Int) {H : Heap} {K : Value → Heap → Prop} (h : meta_reader_int_vc r ro least most H K) : FnH Tryz.prog 47 #[.pointer (some ⟨r, ro, none⟩), .int .i64 least, .int .i64 most] H K :=
  denFn_fn Tryz.mixed meta_reader_int_ann Tryz.func47 (bodyOf_spec (by kernel_rfl)) (by kernel_rfl) h
def meta_reader_list_ann : Anns := { hid := [], loops := [(0, { slots := [(9, .slice)], kept := [0, 2, 3, 10], locs := [], keptL := [] })], joins := [], mix := [] }
def meta_reader_list_vc (r ro : Nat) (many least most : Int) (H : Heap) (K : Value → Heap → Prop) : Prop :=
FnH Tryz.prog 47 #[.pointer (some ⟨r, ro, none⟩), .int .i64 0, .int .i64 many] H fun r1 H1 =>
∃ n1 : Int,
r1 = .int .i64 n1 ∧
∃ I1 : Sl → Heap → Prop,
∃ M1 : Sl → Heap → Nat,
I1 ⟨none, 0, 0⟩ H1 ∧
∀ l_1 : Sl,
∀ H2 : Heap,
I1 l_1 H2 →
br (decide (((l_1.n : Nat) : Int) < n1)) (
∃ b1 : Bool,
cellH H2 ⟨r, ro + 1, none⟩ = some (.bool b1) ∧
br (!b1) (
FnH Tryz.prog 47 #[.pointer (some ⟨r, ro, none⟩), .int .i64 least, .int .i64 most] H2 fun r2 H3 =>
∃ n2 : Int,
r2 = .int .i64 n2 ∧
∀ q1 : Nat,
H3 q1 = none →
letH (Heap.upd H3 q1 (.cells #[.int .i64 n2] 3 (0, 0))) fun H4 =>
runH Tryz.prog (Builtin.append_ #[22, 22] 22 #[.slice l_1.p l_1.n l_1.c, .slice (some ⟨q1, 0, none⟩) 1 1]) H4 fun r3 H5 =>
∃ l1 : Sl,
r3 = .slice l1.p l1.n l1.c ∧
SelfEq ([.v (.pointer (some ⟨r, ro, none⟩)), .v (.int .i64 least), .v (.int .i64 most), .v (.int .i64 n1)], [], []) ∧
I1 l1 H5 ∧
M1 l1 H5 < M1 l_1 H2)
 (
K (.slice l_1.p l_1.n l_1.c) H2))
 (
K (.slice l_1.p l_1.n l_1.c) H2)
theorem meta_reader_list_fn (r ro : Nat) (many least most : Int) {H : Heap} {K : Value → Heap → Prop} (h : meta_reader_list_vc r ro many least most H K) : FnH Tryz.prog 49 #[.pointer (some ⟨r, ro, none⟩), .int .i64 many, .int .i64 least, .int .i64 most] H K :=
  denFn_fn Tryz.mixed meta_reader_list_ann Tryz.func49 (bodyOf_spec (by kernel_rfl)) (by kernel_rfl) h
def meta_reader_ask_ann : Anns := { hid := [], loops := [], joins := [], mix := [] }
def meta_reader_ask_vc (r ro : Nat) (is0 : Bool) (H : Heap) (K : Value → Heap → Prop) : Prop :=
∃ b1 : Bool,
cellH H ⟨r, ro + 1, none⟩ = some (.bool b1) ∧
br (b1) (
 (∃ u, cellH H ⟨r, ro + 1, none⟩ = some u) ∧
frozenH H ⟨r, ro + 1, none⟩ = false ∧
letH (Heap.set H ⟨r, ro + 1, none⟩ (.bool true)) fun H1 =>
K (.tuple #[]) H1)
 (
 (∃ u, cellH H ⟨r, ro + 1, none⟩ = some u) ∧
frozenH H ⟨r, ro + 1, none⟩ = false ∧
letH (Heap.set H ⟨r, ro + 1, none⟩ (.bool (!is0))) fun H2 =>
K (.tuple #[]) H2)
theorem meta_reader_ask_fn (r ro : Nat) (is0 : Bool) {H : Heap} {K : Value → Heap → Prop} (h : meta_reader_ask_vc r ro is0 H K) : FnH Tryz.prog 50 #[.pointer (some ⟨r, ro, none⟩), .bool is0] H K :=
  denFn_fn Tryz.mixed meta_reader_ask_ann Tryz.func50 (bodyOf_spec (by kernel_rfl)) (by kernel_rfl) h
def meta_reader_topics_ann : Anns := { hid := [8], loops := [(0, { slots := [(5, .int .i64), (6, .int .i64)], kept := [0, 1], locs := [], keptL := [] })], joins := [((0, 11), { slots := [], kept := [0, 1, 5, 6, 8], locs := [], keptL := [0] })], mix := [(12, [7, 10])] }
def meta_reader_topics_vc (r ro m mo : Nat) (H : Heap) (K : Value → Heap → Prop) : Prop :=
FnH Tryz.prog 47 #[.pointer (some ⟨r, ro, none⟩), .int .i64 0, .int .i64 16] H fun r1 H1 =>
∃ n1 : Int,
r1 = .int .i64 n1 ∧
∃ I1 : Int → Int → Heap → Prop,
∃ M1 : Int → Int → Heap → Nat,
I1 1 n1 H1 ∧
∀ next_1 n_1 : Int,
∀ H2 : Heap,
I1 next_1 n_1 H2 →
br (decide ((n_1 : Int) > 0)) (
∃ b1 : Bool,
cellH H2 ⟨r, ro + 1, none⟩ = some (.bool b1) ∧
br (!b1) (
FnH Tryz.prog 47 #[.pointer (some ⟨r, ro, none⟩), .int .i64 1, .int .i64 32] H2 fun r2 H3 =>
∃ n2 : Int,
r2 = .int .i64 n2 ∧
∃ s1 : ByteArray,
cellH H3 ⟨r, ro, none⟩ = some (.string s1) ∧
br (decide ((n2 : Int) > (s1.size : Nat))) (
 (∃ u, cellH H3 ⟨r, ro + 1, none⟩ = some u) ∧
frozenH H3 ⟨r, ro + 1, none⟩ = false ∧
letH (Heap.set H3 ⟨r, ro + 1, none⟩ (.bool true)) fun H4 =>
K (.int .i64 next_1) H4)
 (
∃ s2 : ByteArray,
cellH H3 ⟨r, ro, none⟩ = some (.string s2) ∧
0 ≤ (n2 : Int) ∧
 (n2 : Int) ≤ (s2.size : Nat) ∧
∃ s3 : ByteArray,
cellH H3 ⟨r, ro, none⟩ = some (.string s3) ∧
0 ≤ (n2 : Int) ∧
 (n2 : Int) ≤ (s3.size : Nat) ∧
 (∃ u, cellH H3 ⟨r, ro, none⟩ = some u) ∧
frozenH H3 ⟨r, ro, none⟩ = false ∧
letH (Heap.set H3 ⟨r, ro, none⟩ (.string (s3.extract (Int.toNat n2) (Int.toNat (s3.size : Nat))))) fun H5 =>
FnH Tryz.prog 47 #[.pointer (some ⟨r, ro, none⟩), .int .i64 1, .int .i64 16] H5 fun r3 H6 =>
∃ n3 : Int,
r3 = .int .i64 n3 ∧
FnH Tryz.prog 47 #[.pointer (some ⟨r, ro, none⟩), .int .i64 1, .int .i64 16] H6 fun r4 H7 =>
∃ n4 : Int,
r4 = .int .i64 n4 ∧
∃ J1 : Heap → Prop,
 (FnH Tryz.prog 71 #[.string (s2.extract (Int.toNat (0 : Int)) (Int.toNat n2))] H7 fun r5 H8 =>
∃ b2 : Bool,
r5 = .bool b2 ∧
br (b2) (
FnH Tryz.prog 16 #[.pointer (some ⟨m, mo, none⟩), .string (s2.extract (Int.toNat (0 : Int)) (Int.toNat n2))] H8 fun r6 H9 =>
∃ l1 : Sl,
r6 = .slice l1.p l1.n l1.c ∧
br (Option.isNone l1.p) (
FnH Tryz.prog 50 #[.pointer (some ⟨r, ro, none⟩), .bool ((n3 : Int) == next_1)] H9 fun r7 H10 =>
r7 = .tuple #[] ∧
SelfEq ([.v (.pointer (some ⟨r, ro, none⟩)), .v (.pointer (some ⟨m, mo, none⟩)), .v (.int .i64 next_1), .v (.int .i64 n_1), .loc 0 0], [some (74, [.string (s2.extract (Int.toNat (0 : Int)) (Int.toNat n2)), .int .i64 n3, .int .i64 n4])], []) ∧
J1 H10)
 (
FnH Tryz.prog 50 #[.pointer (some ⟨r, ro, none⟩), .bool false] H9 fun r8 H11 =>
r8 = .tuple #[] ∧
SelfEq ([.v (.pointer (some ⟨r, ro, none⟩)), .v (.pointer (some ⟨m, mo, none⟩)), .v (.int .i64 next_1), .v (.int .i64 n_1), .loc 0 0], [some (74, [.string (s2.extract (Int.toNat (0 : Int)) (Int.toNat n2)), .int .i64 n3, .int .i64 n4])], []) ∧
J1 H11))
 (
FnH Tryz.prog 50 #[.pointer (some ⟨r, ro, none⟩), .bool false] H8 fun r9 H12 =>
r9 = .tuple #[] ∧
SelfEq ([.v (.pointer (some ⟨r, ro, none⟩)), .v (.pointer (some ⟨m, mo, none⟩)), .v (.int .i64 next_1), .v (.int .i64 n_1), .loc 0 0], [some (74, [.string (s2.extract (Int.toNat (0 : Int)) (Int.toNat n2)), .int .i64 n3, .int .i64 n4])], []) ∧
J1 H12)) ∧
∀ H13 : Heap,
J1 H13 →
∃ l2 : Sl,
cellH H13 ⟨m, mo + 2, none⟩ = some (.slice l2.p l2.n l2.c) ∧
∀ q1 : Nat,
H13 q1 = none →
letH (Heap.upd H13 q1 (.cells #[.string (s2.extract (Int.toNat (0 : Int)) (Int.toNat n2)), .int .i64 n3, .int .i64 n4] 74 (0, 0))) fun H14 =>
Sub H13 H14 ∧
runH Tryz.prog (Builtin.append_ #[68, 68] 68 #[.slice l2.p l2.n l2.c, .slice (some ⟨q1, 0, none⟩) 1 1]) H14 fun r10 H15 =>
∃ l3 : Sl,
r10 = .slice l3.p l3.n l3.c ∧
 (∃ u, cellH H15 ⟨m, mo + 2, none⟩ = some u) ∧
frozenH H15 ⟨m, mo + 2, none⟩ = false ∧
letH (Heap.set H15 ⟨m, mo + 2, none⟩ (.slice l3.p l3.n l3.c)) fun H16 =>
SelfEq ([.v (.pointer (some ⟨r, ro, none⟩)), .v (.pointer (some ⟨m, mo, none⟩))], [], []) ∧
I1 (IntKind.wrap .i64 (next_1 + n4)) (IntKind.wrap .i64 (n_1 - 1)) H16 ∧
M1 (IntKind.wrap .i64 (next_1 + n4)) (IntKind.wrap .i64 (n_1 - 1)) H16 < M1 next_1 n_1 H2))
 (
K (.int .i64 next_1) H2))
 (
K (.int .i64 next_1) H2)
theorem meta_reader_topics_fn (r ro m mo : Nat) {H : Heap} {K : Value → Heap → Prop} (h : meta_reader_topics_vc r ro m mo H K) : FnH Tryz.prog 48 #[.pointer (some ⟨r, ro, none⟩), .pointer (some ⟨m, mo, none⟩)] H K :=
  denFn_fn Tryz.mixed meta_reader_topics_ann Tryz.func48 (bodyOf_spec (by kernel_rfl)) (by kernel_rfl) h
def meta_Load_ann : Anns := { hid := [30], loops := [(0, { slots := [(6, .int .i64), (7, .int .i64)], kept := [4, 5], locs := [(0, [.str, .bool])], keptL := [] }), (2, { slots := [(11, .int .i64)], kept := [4, 5, 10], locs := [(0, [.str, .bool])], keptL := [] }), (4, { slots := [(104, .int .i64)], kept := [4, 5, 10, 11, 12, 102, 103], locs := [(0, [.str, .bool])], keptL := [] })], joins := [((12, 0), { slots := [], kept := [4, 5], locs := [(0, [.str, .bool])], keptL := [] }), ((12, 2), { slots := [], kept := [4, 5, 10], locs := [(0, [.str, .bool])], keptL := [] })], mix := [(1, []), (12, [7, 10]), (18, [16]), (25, [7, 10])], free := [18] }
def meta_Load_vc (s : ByteArray) (H : Heap) (K : Value → Heap → Prop) : Prop :=
br (decide (((s.size : Nat) : Int) < 4)) (
K (.tuple #[.pointer none, .int .i64 4]) H)
 (
0 ≤ (4 : Int) ∧
 (4 : Int) ≤ (s.size : Nat) ∧
0 ≤ (4 : Int) ∧
 (4 : Int) ≤ (s.size : Nat) ∧
FnH Tryz.prog 44 #[.string (s.extract (Int.toNat 4) (Int.toNat (s.size : Nat)))] H fun r1 H1 =>
∃ n1 : Int,
r1 = .int .i64 n1 ∧
Sub H H1 ∧
FnH Tryz.prog 43 #[.int .i64 n1] H1 fun r2 H2 =>
∃ s1 : ByteArray,
r2 = .string s1 ∧
Sub H H2 ∧
br (!(s1.toList == (s.extract (Int.toNat (0 : Int)) (Int.toNat 4)).toList)) (
K (.tuple #[.pointer none, .int .i64 4]) H2)
 (
0 ≤ (4 : Int) ∧
 (4 : Int) ≤ (s.size : Nat) ∧
FnH Tryz.prog 10 #[] H2 fun r3 H3 =>
∃ p1 : Option Addr,
r3 = .pointer p1 ∧
∀ q1 : Nat,
H3 q1 = none →
FnH Tryz.prog 47 #[.pointer (some ⟨q1, 0, none⟩), .int .i64 0, .int .i64 9223372036854775807] (Heap.upd H3 q1 (.cells #[.string (s.extract (Int.toNat 4) (Int.toNat (s.size : Nat))), .bool false] 86 (0, 0))) fun r4 H4 =>
∃ n2 : Int,
r4 = .int .i64 n2 ∧
∃ s2 : ByteArray,
∃ b1 : Bool,
H4 q1 = some (.cells #[.string s2, .bool b1] 86 (0, 0)) ∧
letH (Heap.del H4 q1) fun H5 =>
ptrm p1 fun q2 o1 =>
 (∃ u, cellH H5 ⟨q2, o1, none⟩ = some u) ∧
frozenH H5 ⟨q2, o1, none⟩ = false ∧
letH (Heap.set H5 ⟨q2, o1, none⟩ (.int .i64 n2)) fun H6 =>
∃ J1 : ByteArray → Bool → Heap → Prop,
 (∀ q3 : Nat,
H6 q3 = none →
FnH Tryz.prog 47 #[.pointer (some ⟨q3, 0, none⟩), .int .i64 0, .int .i64 7] (Heap.upd H6 q3 (.cells #[.string s2, .bool b1] 86 (0, 0))) fun r5 H7 =>
∃ n3 : Int,
r5 = .int .i64 n3 ∧
∃ s3 : ByteArray,
∃ b2 : Bool,
H7 q3 = some (.cells #[.string s3, .bool b2] 86 (0, 0)) ∧
letH (Heap.del H7 q3) fun H8 =>
∃ I1 : Int → Int → ByteArray → Bool → Heap → Prop,
∃ M1 : Int → Int → ByteArray → Bool → Heap → Nat,
I1 0 n3 s3 b2 H8 ∧
∀ last_1 n_1 : Int,
∀ s4 : ByteArray,
∀ b3 : Bool,
∀ H9 : Heap,
I1 last_1 n_1 s4 b3 H9 →
br (decide ((n_1 : Int) > 0)) (
br (!b3) (
∀ q4 : Nat,
H9 q4 = none →
FnH Tryz.prog 47 #[.pointer (some ⟨q4, 0, none⟩), .int .i64 (IntKind.wrap .i64 (last_1 + 1)), .int .i64 7] (Heap.upd H9 q4 (.cells #[.string s4, .bool b3] 86 (0, 0))) fun r6 H10 =>
∃ n4 : Int,
r6 = .int .i64 n4 ∧
∃ s5 : ByteArray,
∃ b4 : Bool,
H10 q4 = some (.cells #[.string s5, .bool b4] 86 (0, 0)) ∧
letH (Heap.del H10 q4) fun H11 =>
∀ q5 : Nat,
H11 q5 = none →
FnH Tryz.prog 47 #[.pointer (some ⟨q5, 0, none⟩), .int .i64 1, .int .i64 1000000000] (Heap.upd H11 q5 (.cells #[.string s5, .bool b4] 86 (0, 0))) fun r7 H12 =>
∃ n5 : Int,
r7 = .int .i64 n5 ∧
∃ s6 : ByteArray,
∃ b5 : Bool,
H12 q5 = some (.cells #[.string s6, .bool b5] 86 (0, 0)) ∧
letH (Heap.del H12 q5) fun H13 =>
ptrm p1 fun q6 o2 =>
 (∃ m1 : Option Nat,
cellH H13 ⟨q6, o2 + 1, none⟩ = some (.map m1) ∧
Sub H13 H13 ∧
∀ q7 : Nat,
H13 q7 = none →
FnH Tryz.prog 47 #[.pointer (some ⟨q7, 0, none⟩), .int .i64 0, .int .i64 1] (Heap.upd H13 q7 (.cells #[.string s6, .bool b5] 86 (0, 0))) fun r8 H14 =>
∃ n6 : Int,
r8 = .int .i64 n6 ∧
∃ s7 : ByteArray,
∃ b6 : Bool,
H14 q7 = some (.cells #[.string s7, .bool b6] 86 (0, 0)) ∧
letH (Heap.del H14 q7) fun H15 =>
runH Tryz.prog (Instr.mapUpdate 67 (.map m1) (.int .i64 n4) (.agg #[.int .i64 n5, .bool ((n6 : Int) == 1)])) H15 fun _ H16 =>
SelfEq ([.loc 0 0, .v (.pointer p1)], [], [86]) ∧
I1 n4 (IntKind.wrap .i64 (n_1 - 1)) s7 b6 H16 ∧
M1 n4 (IntKind.wrap .i64 (n_1 - 1)) s7 b6 H16 < M1 last_1 n_1 s4 b3 H9) ∧
∀ q8 : Nat,
H13 q8 = none →
FnH Tryz.prog 47 #[.pointer (some ⟨q8, 0, none⟩), .int .i64 0, .int .i64 1] (Heap.upd H13 q8 (.cells #[.string s6, .bool b5] 86 (0, 0))) fun r9 H17 =>
∃ n7 : Int,
r9 = .int .i64 n7 ∧
∃ s8 : ByteArray,
∃ b7 : Bool,
H17 q8 = some (.cells #[.string s8, .bool b7] 86 (0, 0)) ∧
letH (Heap.del H17 q8) fun H18 =>
∃ m2 : Option Nat,
cellH H18 ⟨q6, o2 + 1, none⟩ = some (.map m2) ∧
runH Tryz.prog (Instr.mapUpdate 67 (.map m2) (.int .i64 n4) (.agg #[.int .i64 n5, .bool ((n7 : Int) == 1)])) H18 fun _ H19 =>
SelfEq ([.loc 0 0, .v (.pointer p1)], [], [86]) ∧
I1 n4 (IntKind.wrap .i64 (n_1 - 1)) s8 b7 H19 ∧
M1 n4 (IntKind.wrap .i64 (n_1 - 1)) s8 b7 H19 < M1 last_1 n_1 s4 b3 H9)
 (
SelfEq ([.loc 0 0, .v (.pointer p1)], [], [86]) ∧
J1 s4 b3 H9))
 (
SelfEq ([.loc 0 0, .v (.pointer p1)], [], [86]) ∧
J1 s4 b3 H9)) ∧
∀ s9 : ByteArray,
∀ b8 : Bool,
∀ H20 : Heap,
J1 s9 b8 H20 →
∀ q9 : Nat,
H20 q9 = none →
FnH Tryz.prog 48 #[.pointer (some ⟨q9, 0, none⟩), .pointer p1] (Heap.upd H20 q9 (.cells #[.string s9, .bool b8] 86 (0, 0))) fun r10 H21 =>
∃ n8 : Int,
r10 = .int .i64 n8 ∧
∃ s10 : ByteArray,
∃ b9 : Bool,
H21 q9 = some (.cells #[.string s10, .bool b9] 86 (0, 0)) ∧
letH (Heap.del H21 q9) fun H22 =>
∃ J2 : ByteArray → Bool → Heap → Prop,
 (∀ q10 : Nat,
H22 q10 = none →
FnH Tryz.prog 47 #[.pointer (some ⟨q10, 0, none⟩), .int .i64 0, .int .i64 16] (Heap.upd H22 q10 (.cells #[.string s10, .bool b9] 86 (0, 0))) fun r11 H23 =>
∃ n9 : Int,
r11 = .int .i64 n9 ∧
∃ s11 : ByteArray,
∃ b10 : Bool,
H23 q10 = some (.cells #[.string s11, .bool b10] 86 (0, 0)) ∧
letH (Heap.del H23 q10) fun H24 =>
∃ I2 : Int → ByteArray → Bool → Heap → Prop,
∃ M2 : Int → ByteArray → Bool → Heap → Nat,
I2 n9 s11 b10 H24 ∧
∀ n_2 : Int,
∀ s12 : ByteArray,
∀ b11 : Bool,
∀ H25 : Heap,
I2 n_2 s12 b11 H25 →
br (decide ((n_2 : Int) > 0)) (
br (!b11) (
ptrm p1 fun q11 o3 =>
∃ l1 : Sl,
cellH H25 ⟨q11, o3 + 3, none⟩ = some (.slice l1.p l1.n l1.c) ∧
 (∀ q12 : Nat,
H25 q12 = none →
FnH Tryz.prog 47 #[.pointer (some ⟨q12, 0, none⟩), .int .i64 0, .int .i64 7] (Heap.upd H25 q12 (.cells #[.string s12, .bool b11] 86 (0, 0))) fun r12 H26 =>
∃ n10 : Int,
r12 = .int .i64 n10 ∧
∃ s13 : ByteArray,
∃ b12 : Bool,
H26 q12 = some (.cells #[.string s13, .bool b12] 86 (0, 0)) ∧
letH (Heap.del H26 q12) fun H27 =>
Sub H25 H27 ∧
 (∀ q13 : Nat,
H27 q13 = none →
FnH Tryz.prog 47 #[.pointer (some ⟨q13, 0, none⟩), .int .i64 1, .int .i64 1000000000] (Heap.upd H27 q13 (.cells #[.string s13, .bool b12] 86 (0, 0))) fun r13 H28 =>
∃ n11 : Int,
r13 = .int .i64 n11 ∧
∃ s14 : ByteArray,
∃ b13 : Bool,
H28 q13 = some (.cells #[.string s14, .bool b13] 86 (0, 0)) ∧
letH (Heap.del H28 q13) fun H29 =>
Sub H25 H29 ∧
 (∀ q14 : Nat,
H29 q14 = none →
FnH Tryz.prog 47 #[.pointer (some ⟨q14, 0, none⟩), .int .i64 1, .int .i64 1000000000] (Heap.upd H29 q14 (.cells #[.string s14, .bool b13] 86 (0, 0))) fun r14 H30 =>
∃ n12 : Int,
r14 = .int .i64 n12 ∧
∃ s15 : ByteArray,
∃ b14 : Bool,
H30 q14 = some (.cells #[.string s15, .bool b14] 86 (0, 0)) ∧
letH (Heap.del H30 q14) fun H31 =>
Sub H25 H31 ∧
 (∀ q15 : Nat,
H31 q15 = none →
FnH Tryz.prog 47 #[.pointer (some ⟨q15, 0, none⟩), .int .i64 1, .int .i64 5] (Heap.upd H31 q15 (.cells #[.string s15, .bool b14] 86 (0, 0))) fun r15 H32 =>
∃ n13 : Int,
r15 = .int .i64 n13 ∧
∃ s16 : ByteArray,
∃ b15 : Bool,
H32 q15 = some (.cells #[.string s16, .bool b15] 86 (0, 0)) ∧
letH (Heap.del H32 q15) fun H33 =>
Sub H25 H33 ∧
∀ q16 : Nat,
H33 q16 = none →
letH (Heap.upd H33 q16 (.cells #[.int .i64 0, .int .i64 0, .int .i64 0, .int .i64 0, .slice none 0 0, .slice none 0 0, .slice none 0 0, .slice none 0 0, .int .i64 0] 41 (0, 0))) fun H34 =>
Sub H25 H34 ∧
 (∃ u, cellH H34 ⟨q16, 0, none⟩ = some u) ∧
frozenH H34 ⟨q16, 0, none⟩ = false ∧
letH (Heap.set H34 ⟨q16, 0, none⟩ (.int .i64 (IntKind.wrap .i64 ((l1.n : Nat) + 1)))) fun H35 =>
 (∃ u, cellH H35 ⟨q16, 1, none⟩ = some u) ∧
frozenH H35 ⟨q16, 1, none⟩ = false ∧
letH (Heap.set H35 ⟨q16, 1, none⟩ (.int .i64 n10)) fun H36 =>
 (∃ u, cellH H36 ⟨q16, 2, none⟩ = some u) ∧
frozenH H36 ⟨q16, 2, none⟩ = false ∧
letH (Heap.set H36 ⟨q16, 2, none⟩ (.int .i64 n11)) fun H37 =>
 (∃ u, cellH H37 ⟨q16, 3, none⟩ = some u) ∧
frozenH H37 ⟨q16, 3, none⟩ = false ∧
letH (Heap.set H37 ⟨q16, 3, none⟩ (.int .i64 n12)) fun H38 =>
 (∃ u, cellH H38 ⟨q16, 4, none⟩ = some u) ∧
frozenH H38 ⟨q16, 4, none⟩ = false ∧
letH (Heap.set H38 ⟨q16, 4, none⟩ (.slice none 0 0)) fun H39 =>
 (∃ u, cellH H39 ⟨q16, 5, none⟩ = some u) ∧
frozenH H39 ⟨q16, 5, none⟩ = false ∧
letH (Heap.set H39 ⟨q16, 5, none⟩ (.slice none 0 0)) fun H40 =>
 (∃ u, cellH H40 ⟨q16, 6, none⟩ = some u) ∧
frozenH H40 ⟨q16, 6, none⟩ = false ∧
letH (Heap.set H40 ⟨q16, 6, none⟩ (.slice none 0 0)) fun H41 =>
 (∃ u, cellH H41 ⟨q16, 7, none⟩ = some u) ∧
frozenH H41 ⟨q16, 7, none⟩ = false ∧
letH (Heap.set H41 ⟨q16, 7, none⟩ (.slice none 0 0)) fun H42 =>
 (∃ u, cellH H42 ⟨q16, 8, none⟩ = some u) ∧
frozenH H42 ⟨q16, 8, none⟩ = false ∧
letH (Heap.set H42 ⟨q16, 8, none⟩ (.int .i64 n13)) fun H43 =>
∀ q17 : Nat,
H43 q17 = none →
letH (Heap.upd H43 q17 (.cells #[.pointer (some ⟨q16, 4, none⟩), .pointer (some ⟨q16, 5, none⟩), .pointer (some ⟨q16, 6, none⟩), .pointer (some ⟨q16, 7, none⟩)] 88 (0, 0))) fun H44 =>
∃ I3 : Int → ByteArray → Bool → Heap → Prop,
∃ M3 : Int → ByteArray → Bool → Heap → Nat,
I3 0 s16 b15 H44 ∧
∀ n_3 : Int,
∀ s17 : ByteArray,
∀ b16 : Bool,
∀ H45 : Heap,
I3 n_3 s17 b16 H45 →
br (decide ((n_3 : Int) < (4 : Nat))) (
∃ q18 o4 : Nat,
 ((some ⟨q17, 0, none⟩) : Option Addr) = some ⟨q18, o4, none⟩ ∧
0 ≤ (n_3 : Int) ∧
 (n_3 : Int) < (4 : Nat) ∧
∃ p2 : Option Addr,
cellH H45 ⟨q18, o4 + Int.toNat n_3, none⟩ = some (.pointer p2) ∧
∀ q19 : Nat,
H45 q19 = none →
FnH Tryz.prog 49 #[.pointer (some ⟨q19, 0, none⟩), .int .i64 7, .int .i64 1, .int .i64 7] (Heap.upd H45 q19 (.cells #[.string s17, .bool b16] 86 (0, 0))) fun r16 H46 =>
∃ l2 : Sl,
r16 = .slice l2.p l2.n l2.c ∧
∃ s18 : ByteArray,
∃ b17 : Bool,
H46 q19 = some (.cells #[.string s18, .bool b17] 86 (0, 0)) ∧
letH (Heap.del H46 q19) fun H47 =>
ptrm p2 fun q20 o5 =>
 (∃ u, cellH H47 ⟨q20, o5, none⟩ = some u) ∧
frozenH H47 ⟨q20, o5, none⟩ = false ∧
letH (Heap.set H47 ⟨q20, o5, none⟩ (.slice l2.p l2.n l2.c)) fun H48 =>
SelfEq ([.loc 0 0, .v (.pointer p1), .v (.int .i64 n8), .v (.int .i64 n_2), .v (.pointer (some ⟨q16, 0, none⟩)), .v (.slice (some ⟨q17, 0, none⟩) 4 4), .v (.int .i64 (4 : Nat))], [], [86]) ∧
I3 (IntKind.wrap .i64 (n_3 + 1)) s18 b17 H48 ∧
M3 (IntKind.wrap .i64 (n_3 + 1)) s18 b17 H48 < M3 n_3 s17 b16 H45)
 (
∃ n14 : Int,
cellH H45 ⟨q16, 0, none⟩ = some (.int .i64 n14) ∧
∃ n15 : Int,
cellH H45 ⟨q16, 1, none⟩ = some (.int .i64 n15) ∧
∃ n16 : Int,
cellH H45 ⟨q16, 2, none⟩ = some (.int .i64 n16) ∧
∃ n17 : Int,
cellH H45 ⟨q16, 3, none⟩ = some (.int .i64 n17) ∧
∃ l3 : Sl,
cellH H45 ⟨q16, 4, none⟩ = some (.slice l3.p l3.n l3.c) ∧
∃ l4 : Sl,
cellH H45 ⟨q16, 5, none⟩ = some (.slice l4.p l4.n l4.c) ∧
∃ l5 : Sl,
cellH H45 ⟨q16, 6, none⟩ = some (.slice l5.p l5.n l5.c) ∧
∃ l6 : Sl,
cellH H45 ⟨q16, 7, none⟩ = some (.slice l6.p l6.n l6.c) ∧
∃ n18 : Int,
cellH H45 ⟨q16, 8, none⟩ = some (.int .i64 n18) ∧
FnH Tryz.prog 51 #[.agg #[.int .i64 n14, .int .i64 n15, .int .i64 n16, .int .i64 n17, .slice l3.p l3.n l3.c, .slice l4.p l4.n l4.c, .slice l5.p l5.n l5.c, .slice l6.p l6.n l6.c, .int .i64 n18]] H45 fun r17 H49 =>
∃ b18 : Bool,
r17 = .bool b18 ∧
∀ q21 : Nat,
H49 q21 = none →
FnH Tryz.prog 50 #[.pointer (some ⟨q21, 0, none⟩), .bool b18] (Heap.upd H49 q21 (.cells #[.string s17, .bool b16] 86 (0, 0))) fun r18 H50 =>
r18 = .tuple #[] ∧
∃ s19 : ByteArray,
∃ b19 : Bool,
H50 q21 = some (.cells #[.string s19, .bool b19] 86 (0, 0)) ∧
letH (Heap.del H50 q21) fun H51 =>
ptrm p1 fun q22 o6 =>
∃ l7 : Sl,
cellH H51 ⟨q22, o6 + 3, none⟩ = some (.slice l7.p l7.n l7.c) ∧
∃ n19 : Int,
cellH H51 ⟨q16, 0, none⟩ = some (.int .i64 n19) ∧
∃ n20 : Int,
cellH H51 ⟨q16, 1, none⟩ = some (.int .i64 n20) ∧
∃ n21 : Int,
cellH H51 ⟨q16, 2, none⟩ = some (.int .i64 n21) ∧
∃ n22 : Int,
cellH H51 ⟨q16, 3, none⟩ = some (.int .i64 n22) ∧
∃ l8 : Sl,
cellH H51 ⟨q16, 4, none⟩ = some (.slice l8.p l8.n l8.c) ∧
∃ l9 : Sl,
cellH H51 ⟨q16, 5, none⟩ = some (.slice l9.p l9.n l9.c) ∧
∃ l10 : Sl,
cellH H51 ⟨q16, 6, none⟩ = some (.slice l10.p l10.n l10.c) ∧
∃ l11 : Sl,
cellH H51 ⟨q16, 7, none⟩ = some (.slice l11.p l11.n l11.c) ∧
∃ n23 : Int,
cellH H51 ⟨q16, 8, none⟩ = some (.int .i64 n23) ∧
∀ q23 : Nat,
H51 q23 = none →
letH (Heap.upd H51 q23 (.cells #[.int .i64 n19, .int .i64 n20, .int .i64 n21, .int .i64 n22, .slice l8.p l8.n l8.c, .slice l9.p l9.n l9.c, .slice l10.p l10.n l10.c, .slice l11.p l11.n l11.c, .int .i64 n23] 41 (0, 0))) fun H52 =>
Sub H51 H52 ∧
runH Tryz.prog (Builtin.append_ #[35, 35] 35 #[.slice l7.p l7.n l7.c, .slice (some ⟨q23, 0, none⟩) 1 1]) H52 fun r19 H53 =>
∃ l12 : Sl,
r19 = .slice l12.p l12.n l12.c ∧
ptrm p1 fun q24 o7 =>
 (∃ u, cellH H53 ⟨q24, o7 + 3, none⟩ = some u) ∧
frozenH H53 ⟨q24, o7 + 3, none⟩ = false ∧
letH (Heap.set H53 ⟨q24, o7 + 3, none⟩ (.slice l12.p l12.n l12.c)) fun H54 =>
SelfEq ([.loc 0 0, .v (.pointer p1), .v (.int .i64 n8)], [], [86]) ∧
I2 (IntKind.wrap .i64 (n_2 - 1)) s19 b19 H54 ∧
M2 (IntKind.wrap .i64 (n_2 - 1)) s19 b19 H54 < M2 n_2 s12 b11 H25)) ∧
∀ q25 : Nat,
H31 q25 = none →
letH (Heap.upd H31 q25 (.cells #[.int .i64 0, .int .i64 0, .int .i64 0, .int .i64 0, .slice none 0 0, .slice none 0 0, .slice none 0 0, .slice none 0 0, .int .i64 0] 41 (0, 0))) fun H55 =>
Sub H25 H55 ∧
∀ q26 : Nat,
H55 q26 = none →
FnH Tryz.prog 47 #[.pointer (some ⟨q26, 0, none⟩), .int .i64 1, .int .i64 5] (Heap.upd H55 q26 (.cells #[.string s15, .bool b14] 86 (0, 0))) fun r20 H56 =>
∃ n24 : Int,
r20 = .int .i64 n24 ∧
∃ s20 : ByteArray,
∃ b20 : Bool,
H56 q26 = some (.cells #[.string s20, .bool b20] 86 (0, 0)) ∧
letH (Heap.del H56 q26) fun H57 =>
Sub H25 H57 ∧
 (∃ u, cellH H57 ⟨q25, 0, none⟩ = some u) ∧
frozenH H57 ⟨q25, 0, none⟩ = false ∧
letH (Heap.set H57 ⟨q25, 0, none⟩ (.int .i64 (IntKind.wrap .i64 ((l1.n : Nat) + 1)))) fun H58 =>
 (∃ u, cellH H58 ⟨q25, 1, none⟩ = some u) ∧
frozenH H58 ⟨q25, 1, none⟩ = false ∧
letH (Heap.set H58 ⟨q25, 1, none⟩ (.int .i64 n10)) fun H59 =>
 (∃ u, cellH H59 ⟨q25, 2, none⟩ = some u) ∧
frozenH H59 ⟨q25, 2, none⟩ = false ∧
letH (Heap.set H59 ⟨q25, 2, none⟩ (.int .i64 n11)) fun H60 =>
 (∃ u, cellH H60 ⟨q25, 3, none⟩ = some u) ∧
frozenH H60 ⟨q25, 3, none⟩ = false ∧
letH (Heap.set H60 ⟨q25, 3, none⟩ (.int .i64 n12)) fun H61 =>
 (∃ u, cellH H61 ⟨q25, 4, none⟩ = some u) ∧
frozenH H61 ⟨q25, 4, none⟩ = false ∧
letH (Heap.set H61 ⟨q25, 4, none⟩ (.slice none 0 0)) fun H62 =>
 (∃ u, cellH H62 ⟨q25, 5, none⟩ = some u) ∧
frozenH H62 ⟨q25, 5, none⟩ = false ∧
letH (Heap.set H62 ⟨q25, 5, none⟩ (.slice none 0 0)) fun H63 =>
 (∃ u, cellH H63 ⟨q25, 6, none⟩ = some u) ∧
frozenH H63 ⟨q25, 6, none⟩ = false ∧
letH (Heap.set H63 ⟨q25, 6, none⟩ (.slice none 0 0)) fun H64 =>
 (∃ u, cellH H64 ⟨q25, 7, none⟩ = some u) ∧
frozenH H64 ⟨q25, 7, none⟩ = false ∧
letH (Heap.set H64 ⟨q25, 7, none⟩ (.slice none 0 0)) fun H65 =>
 (∃ u, cellH H65 ⟨q25, 8, none⟩ = some u) ∧
frozenH H65 ⟨q25, 8, none⟩ = false ∧
letH (Heap.set H65 ⟨q25, 8, none⟩ (.int .i64 n24)) fun H66 =>
∀ q27 : Nat,
H66 q27 = none →
letH (Heap.upd H66 q27 (.cells #[.pointer (some ⟨q25, 4, none⟩), .pointer (some ⟨q25, 5, none⟩), .pointer (some ⟨q25, 6, none⟩), .pointer (some ⟨q25, 7, none⟩)] 88 (0, 0))) fun H67 =>
∃ I4 : Int → ByteArray → Bool → Heap → Prop,
∃ M4 : Int → ByteArray → Bool → Heap → Nat,
I4 0 s20 b20 H67 ∧
∀ n_4 : Int,
∀ s21 : ByteArray,
∀ b21 : Bool,
∀ H68 : Heap,
I4 n_4 s21 b21 H68 →
br (decide ((n_4 : Int) < (4 : Nat))) (
∃ q28 o8 : Nat,
 ((some ⟨q27, 0, none⟩) : Option Addr) = some ⟨q28, o8, none⟩ ∧
0 ≤ (n_4 : Int) ∧
 (n_4 : Int) < (4 : Nat) ∧
∃ p3 : Option Addr,
cellH H68 ⟨q28, o8 + Int.toNat n_4, none⟩ = some (.pointer p3) ∧
∀ q29 : Nat,
H68 q29 = none →
FnH Tryz.prog 49 #[.pointer (some ⟨q29, 0, none⟩), .int .i64 7, .int .i64 1, .int .i64 7] (Heap.upd H68 q29 (.cells #[.string s21, .bool b21] 86 (0, 0))) fun r21 H69 =>
∃ l13 : Sl,
r21 = .slice l13.p l13.n l13.c ∧
∃ s22 : ByteArray,
∃ b22 : Bool,
H69 q29 = some (.cells #[.string s22, .bool b22] 86 (0, 0)) ∧
letH (Heap.del H69 q29) fun H70 =>
ptrm p3 fun q30 o9 =>
 (∃ u, cellH H70 ⟨q30, o9, none⟩ = some u) ∧
frozenH H70 ⟨q30, o9, none⟩ = false ∧
letH (Heap.set H70 ⟨q30, o9, none⟩ (.slice l13.p l13.n l13.c)) fun H71 =>
SelfEq ([.loc 0 0, .v (.pointer p1), .v (.int .i64 n8), .v (.int .i64 n_2), .v (.pointer (some ⟨q25, 0, none⟩)), .v (.slice (some ⟨q27, 0, none⟩) 4 4), .v (.int .i64 (4 : Nat))], [], [86]) ∧
I4 (IntKind.wrap .i64 (n_4 + 1)) s22 b22 H71 ∧
M4 (IntKind.wrap .i64 (n_4 + 1)) s22 b22 H71 < M4 n_4 s21 b21 H68)
 (
∃ n25 : Int,
cellH H68 ⟨q25, 0, none⟩ = some (.int .i64 n25) ∧
∃ n26 : Int,
cellH H68 ⟨q25, 1, none⟩ = some (.int .i64 n26) ∧
∃ n27 : Int,
cellH H68 ⟨q25, 2, none⟩ = some (.int .i64 n27) ∧
∃ n28 : Int,
cellH H68 ⟨q25, 3, none⟩ = some (.int .i64 n28) ∧
∃ l14 : Sl,
cellH H68 ⟨q25, 4, none⟩ = some (.slice l14.p l14.n l14.c) ∧
∃ l15 : Sl,
cellH H68 ⟨q25, 5, none⟩ = some (.slice l15.p l15.n l15.c) ∧
∃ l16 : Sl,
cellH H68 ⟨q25, 6, none⟩ = some (.slice l16.p l16.n l16.c) ∧
∃ l17 : Sl,
cellH H68 ⟨q25, 7, none⟩ = some (.slice l17.p l17.n l17.c) ∧
∃ n29 : Int,
cellH H68 ⟨q25, 8, none⟩ = some (.int .i64 n29) ∧
FnH Tryz.prog 51 #[.agg #[.int .i64 n25, .int .i64 n26, .int .i64 n27, .int .i64 n28, .slice l14.p l14.n l14.c, .slice l15.p l15.n l15.c, .slice l16.p l16.n l16.c, .slice l17.p l17.n l17.c, .int .i64 n29]] H68 fun r22 H72 =>
∃ b23 : Bool,
r22 = .bool b23 ∧
∀ q31 : Nat,
H72 q31 = none →
FnH Tryz.prog 50 #[.pointer (some ⟨q31, 0, none⟩), .bool b23] (Heap.upd H72 q31 (.cells #[.string s21, .bool b21] 86 (0, 0))) fun r23 H73 =>
r23 = .tuple #[] ∧
∃ s23 : ByteArray,
∃ b24 : Bool,
H73 q31 = some (.cells #[.string s23, .bool b24] 86 (0, 0)) ∧
letH (Heap.del H73 q31) fun H74 =>
ptrm p1 fun q32 o10 =>
∃ l18 : Sl,
cellH H74 ⟨q32, o10 + 3, none⟩ = some (.slice l18.p l18.n l18.c) ∧
∃ n30 : Int,
cellH H74 ⟨q25, 0, none⟩ = some (.int .i64 n30) ∧
∃ n31 : Int,
cellH H74 ⟨q25, 1, none⟩ = some (.int .i64 n31) ∧
∃ n32 : Int,
cellH H74 ⟨q25, 2, none⟩ = some (.int .i64 n32) ∧
∃ n33 : Int,
cellH H74 ⟨q25, 3, none⟩ = some (.int .i64 n33) ∧
∃ l19 : Sl,
cellH H74 ⟨q25, 4, none⟩ = some (.slice l19.p l19.n l19.c) ∧
∃ l20 : Sl,
cellH H74 ⟨q25, 5, none⟩ = some (.slice l20.p l20.n l20.c) ∧
∃ l21 : Sl,
cellH H74 ⟨q25, 6, none⟩ = some (.slice l21.p l21.n l21.c) ∧
∃ l22 : Sl,
cellH H74 ⟨q25, 7, none⟩ = some (.slice l22.p l22.n l22.c) ∧
∃ n34 : Int,
cellH H74 ⟨q25, 8, none⟩ = some (.int .i64 n34) ∧
∀ q33 : Nat,
H74 q33 = none →
letH (Heap.upd H74 q33 (.cells #[.int .i64 n30, .int .i64 n31, .int .i64 n32, .int .i64 n33, .slice l19.p l19.n l19.c, .slice l20.p l20.n l20.c, .slice l21.p l21.n l21.c, .slice l22.p l22.n l22.c, .int .i64 n34] 41 (0, 0))) fun H75 =>
Sub H74 H75 ∧
runH Tryz.prog (Builtin.append_ #[35, 35] 35 #[.slice l18.p l18.n l18.c, .slice (some ⟨q33, 0, none⟩) 1 1]) H75 fun r24 H76 =>
∃ l23 : Sl,
r24 = .slice l23.p l23.n l23.c ∧
ptrm p1 fun q34 o11 =>
 (∃ u, cellH H76 ⟨q34, o11 + 3, none⟩ = some u) ∧
frozenH H76 ⟨q34, o11 + 3, none⟩ = false ∧
letH (Heap.set H76 ⟨q34, o11 + 3, none⟩ (.slice l23.p l23.n l23.c)) fun H77 =>
SelfEq ([.loc 0 0, .v (.pointer p1), .v (.int .i64 n8)], [], [86]) ∧
I2 (IntKind.wrap .i64 (n_2 - 1)) s23 b24 H77 ∧
M2 (IntKind.wrap .i64 (n_2 - 1)) s23 b24 H77 < M2 n_2 s12 b11 H25)) ∧
∀ q35 : Nat,
H29 q35 = none →
letH (Heap.upd H29 q35 (.cells #[.int .i64 0, .int .i64 0, .int .i64 0, .int .i64 0, .slice none 0 0, .slice none 0 0, .slice none 0 0, .slice none 0 0, .int .i64 0] 41 (0, 0))) fun H78 =>
Sub H25 H78 ∧
∀ q36 : Nat,
H78 q36 = none →
FnH Tryz.prog 47 #[.pointer (some ⟨q36, 0, none⟩), .int .i64 1, .int .i64 1000000000] (Heap.upd H78 q36 (.cells #[.string s14, .bool b13] 86 (0, 0))) fun r25 H79 =>
∃ n35 : Int,
r25 = .int .i64 n35 ∧
∃ s24 : ByteArray,
∃ b25 : Bool,
H79 q36 = some (.cells #[.string s24, .bool b25] 86 (0, 0)) ∧
letH (Heap.del H79 q36) fun H80 =>
Sub H25 H80 ∧
∀ q37 : Nat,
H80 q37 = none →
FnH Tryz.prog 47 #[.pointer (some ⟨q37, 0, none⟩), .int .i64 1, .int .i64 5] (Heap.upd H80 q37 (.cells #[.string s24, .bool b25] 86 (0, 0))) fun r26 H81 =>
∃ n36 : Int,
r26 = .int .i64 n36 ∧
∃ s25 : ByteArray,
∃ b26 : Bool,
H81 q37 = some (.cells #[.string s25, .bool b26] 86 (0, 0)) ∧
letH (Heap.del H81 q37) fun H82 =>
Sub H25 H82 ∧
 (∃ u, cellH H82 ⟨q35, 0, none⟩ = some u) ∧
frozenH H82 ⟨q35, 0, none⟩ = false ∧
letH (Heap.set H82 ⟨q35, 0, none⟩ (.int .i64 (IntKind.wrap .i64 ((l1.n : Nat) + 1)))) fun H83 =>
 (∃ u, cellH H83 ⟨q35, 1, none⟩ = some u) ∧
frozenH H83 ⟨q35, 1, none⟩ = false ∧
letH (Heap.set H83 ⟨q35, 1, none⟩ (.int .i64 n10)) fun H84 =>
 (∃ u, cellH H84 ⟨q35, 2, none⟩ = some u) ∧
frozenH H84 ⟨q35, 2, none⟩ = false ∧
letH (Heap.set H84 ⟨q35, 2, none⟩ (.int .i64 n11)) fun H85 =>
 (∃ u, cellH H85 ⟨q35, 3, none⟩ = some u) ∧
frozenH H85 ⟨q35, 3, none⟩ = false ∧
letH (Heap.set H85 ⟨q35, 3, none⟩ (.int .i64 n35)) fun H86 =>
 (∃ u, cellH H86 ⟨q35, 4, none⟩ = some u) ∧
frozenH H86 ⟨q35, 4, none⟩ = false ∧
letH (Heap.set H86 ⟨q35, 4, none⟩ (.slice none 0 0)) fun H87 =>
 (∃ u, cellH H87 ⟨q35, 5, none⟩ = some u) ∧
frozenH H87 ⟨q35, 5, none⟩ = false ∧
letH (Heap.set H87 ⟨q35, 5, none⟩ (.slice none 0 0)) fun H88 =>
 (∃ u, cellH H88 ⟨q35, 6, none⟩ = some u) ∧
frozenH H88 ⟨q35, 6, none⟩ = false ∧
letH (Heap.set H88 ⟨q35, 6, none⟩ (.slice none 0 0)) fun H89 =>
 (∃ u, cellH H89 ⟨q35, 7, none⟩ = some u) ∧
frozenH H89 ⟨q35, 7, none⟩ = false ∧
letH (Heap.set H89 ⟨q35, 7, none⟩ (.slice none 0 0)) fun H90 =>
 (∃ u, cellH H90 ⟨q35, 8, none⟩ = some u) ∧
frozenH H90 ⟨q35, 8, none⟩ = false ∧
letH (Heap.set H90 ⟨q35, 8, none⟩ (.int .i64 n36)) fun H91 =>
∀ q38 : Nat,
H91 q38 = none →
letH (Heap.upd H91 q38 (.cells #[.pointer (some ⟨q35, 4, none⟩), .pointer (some ⟨q35, 5, none⟩), .pointer (some ⟨q35, 6, none⟩), .pointer (some ⟨q35, 7, none⟩)] 88 (0, 0))) fun H92 =>
∃ I5 : Int → ByteArray → Bool → Heap → Prop,
∃ M5 : Int → ByteArray → Bool → Heap → Nat,
I5 0 s25 b26 H92 ∧
∀ n_5 : Int,
∀ s26 : ByteArray,
∀ b27 : Bool,
∀ H93 : Heap,
I5 n_5 s26 b27 H93 →
br (decide ((n_5 : Int) < (4 : Nat))) (
∃ q39 o12 : Nat,
 ((some ⟨q38, 0, none⟩) : Option Addr) = some ⟨q39, o12, none⟩ ∧
0 ≤ (n_5 : Int) ∧
 (n_5 : Int) < (4 : Nat) ∧
∃ p4 : Option Addr,
cellH H93 ⟨q39, o12 + Int.toNat n_5, none⟩ = some (.pointer p4) ∧
∀ q40 : Nat,
H93 q40 = none →
FnH Tryz.prog 49 #[.pointer (some ⟨q40, 0, none⟩), .int .i64 7, .int .i64 1, .int .i64 7] (Heap.upd H93 q40 (.cells #[.string s26, .bool b27] 86 (0, 0))) fun r27 H94 =>
∃ l24 : Sl,
r27 = .slice l24.p l24.n l24.c ∧
∃ s27 : ByteArray,
∃ b28 : Bool,
H94 q40 = some (.cells #[.string s27, .bool b28] 86 (0, 0)) ∧
letH (Heap.del H94 q40) fun H95 =>
ptrm p4 fun q41 o13 =>
 (∃ u, cellH H95 ⟨q41, o13, none⟩ = some u) ∧
frozenH H95 ⟨q41, o13, none⟩ = false ∧
letH (Heap.set H95 ⟨q41, o13, none⟩ (.slice l24.p l24.n l24.c)) fun H96 =>
SelfEq ([.loc 0 0, .v (.pointer p1), .v (.int .i64 n8), .v (.int .i64 n_2), .v (.pointer (some ⟨q35, 0, none⟩)), .v (.slice (some ⟨q38, 0, none⟩) 4 4), .v (.int .i64 (4 : Nat))], [], [86]) ∧
I5 (IntKind.wrap .i64 (n_5 + 1)) s27 b28 H96 ∧
M5 (IntKind.wrap .i64 (n_5 + 1)) s27 b28 H96 < M5 n_5 s26 b27 H93)
 (
∃ n37 : Int,
cellH H93 ⟨q35, 0, none⟩ = some (.int .i64 n37) ∧
∃ n38 : Int,
cellH H93 ⟨q35, 1, none⟩ = some (.int .i64 n38) ∧
∃ n39 : Int,
cellH H93 ⟨q35, 2, none⟩ = some (.int .i64 n39) ∧
∃ n40 : Int,
cellH H93 ⟨q35, 3, none⟩ = some (.int .i64 n40) ∧
∃ l25 : Sl,
cellH H93 ⟨q35, 4, none⟩ = some (.slice l25.p l25.n l25.c) ∧
∃ l26 : Sl,
cellH H93 ⟨q35, 5, none⟩ = some (.slice l26.p l26.n l26.c) ∧
∃ l27 : Sl,
cellH H93 ⟨q35, 6, none⟩ = some (.slice l27.p l27.n l27.c) ∧
∃ l28 : Sl,
cellH H93 ⟨q35, 7, none⟩ = some (.slice l28.p l28.n l28.c) ∧
∃ n41 : Int,
cellH H93 ⟨q35, 8, none⟩ = some (.int .i64 n41) ∧
FnH Tryz.prog 51 #[.agg #[.int .i64 n37, .int .i64 n38, .int .i64 n39, .int .i64 n40, .slice l25.p l25.n l25.c, .slice l26.p l26.n l26.c, .slice l27.p l27.n l27.c, .slice l28.p l28.n l28.c, .int .i64 n41]] H93 fun r28 H97 =>
∃ b29 : Bool,
r28 = .bool b29 ∧
∀ q42 : Nat,
H97 q42 = none →
FnH Tryz.prog 50 #[.pointer (some ⟨q42, 0, none⟩), .bool b29] (Heap.upd H97 q42 (.cells #[.string s26, .bool b27] 86 (0, 0))) fun r29 H98 =>
r29 = .tuple #[] ∧
∃ s28 : ByteArray,
∃ b30 : Bool,
H98 q42 = some (.cells #[.string s28, .bool b30] 86 (0, 0)) ∧
letH (Heap.del H98 q42) fun H99 =>
ptrm p1 fun q43 o14 =>
∃ l29 : Sl,
cellH H99 ⟨q43, o14 + 3, none⟩ = some (.slice l29.p l29.n l29.c) ∧
∃ n42 : Int,
cellH H99 ⟨q35, 0, none⟩ = some (.int .i64 n42) ∧
∃ n43 : Int,
cellH H99 ⟨q35, 1, none⟩ = some (.int .i64 n43) ∧
∃ n44 : Int,
cellH H99 ⟨q35, 2, none⟩ = some (.int .i64 n44) ∧
∃ n45 : Int,
cellH H99 ⟨q35, 3, none⟩ = some (.int .i64 n45) ∧
∃ l30 : Sl,
cellH H99 ⟨q35, 4, none⟩ = some (.slice l30.p l30.n l30.c) ∧
∃ l31 : Sl,
cellH H99 ⟨q35, 5, none⟩ = some (.slice l31.p l31.n l31.c) ∧
∃ l32 : Sl,
cellH H99 ⟨q35, 6, none⟩ = some (.slice l32.p l32.n l32.c) ∧
∃ l33 : Sl,
cellH H99 ⟨q35, 7, none⟩ = some (.slice l33.p l33.n l33.c) ∧
∃ n46 : Int,
cellH H99 ⟨q35, 8, none⟩ = some (.int .i64 n46) ∧
∀ q44 : Nat,
H99 q44 = none →
letH (Heap.upd H99 q44 (.cells #[.int .i64 n42, .int .i64 n43, .int .i64 n44, .int .i64 n45, .slice l30.p l30.n l30.c, .slice l31.p l31.n l31.c, .slice l32.p l32.n l32.c, .slice l33.p l33.n l33.c, .int .i64 n46] 41 (0, 0))) fun H100 =>
Sub H99 H100 ∧
runH Tryz.prog (Builtin.append_ #[35, 35] 35 #[.slice l29.p l29.n l29.c, .slice (some ⟨q44, 0, none⟩) 1 1]) H100 fun r30 H101 =>
∃ l34 : Sl,
r30 = .slice l34.p l34.n l34.c ∧
ptrm p1 fun q45 o15 =>
 (∃ u, cellH H101 ⟨q45, o15 + 3, none⟩ = some u) ∧
frozenH H101 ⟨q45, o15 + 3, none⟩ = false ∧
letH (Heap.set H101 ⟨q45, o15 + 3, none⟩ (.slice l34.p l34.n l34.c)) fun H102 =>
SelfEq ([.loc 0 0, .v (.pointer p1), .v (.int .i64 n8)], [], [86]) ∧
I2 (IntKind.wrap .i64 (n_2 - 1)) s28 b30 H102 ∧
M2 (IntKind.wrap .i64 (n_2 - 1)) s28 b30 H102 < M2 n_2 s12 b11 H25)) ∧
∀ q46 : Nat,
H27 q46 = none →
letH (Heap.upd H27 q46 (.cells #[.int .i64 0, .int .i64 0, .int .i64 0, .int .i64 0, .slice none 0 0, .slice none 0 0, .slice none 0 0, .slice none 0 0, .int .i64 0] 41 (0, 0))) fun H103 =>
Sub H25 H103 ∧
∀ q47 : Nat,
H103 q47 = none →
FnH Tryz.prog 47 #[.pointer (some ⟨q47, 0, none⟩), .int .i64 1, .int .i64 1000000000] (Heap.upd H103 q47 (.cells #[.string s13, .bool b12] 86 (0, 0))) fun r31 H104 =>
∃ n47 : Int,
r31 = .int .i64 n47 ∧
∃ s29 : ByteArray,
∃ b31 : Bool,
H104 q47 = some (.cells #[.string s29, .bool b31] 86 (0, 0)) ∧
letH (Heap.del H104 q47) fun H105 =>
Sub H25 H105 ∧
∀ q48 : Nat,
H105 q48 = none →
FnH Tryz.prog 47 #[.pointer (some ⟨q48, 0, none⟩), .int .i64 1, .int .i64 1000000000] (Heap.upd H105 q48 (.cells #[.string s29, .bool b31] 86 (0, 0))) fun r32 H106 =>
∃ n48 : Int,
r32 = .int .i64 n48 ∧
∃ s30 : ByteArray,
∃ b32 : Bool,
H106 q48 = some (.cells #[.string s30, .bool b32] 86 (0, 0)) ∧
letH (Heap.del H106 q48) fun H107 =>
Sub H25 H107 ∧
∀ q49 : Nat,
H107 q49 = none →
FnH Tryz.prog 47 #[.pointer (some ⟨q49, 0, none⟩), .int .i64 1, .int .i64 5] (Heap.upd H107 q49 (.cells #[.string s30, .bool b32] 86 (0, 0))) fun r33 H108 =>
∃ n49 : Int,
r33 = .int .i64 n49 ∧
∃ s31 : ByteArray,
∃ b33 : Bool,
H108 q49 = some (.cells #[.string s31, .bool b33] 86 (0, 0)) ∧
letH (Heap.del H108 q49) fun H109 =>
Sub H25 H109 ∧
 (∃ u, cellH H109 ⟨q46, 0, none⟩ = some u) ∧
frozenH H109 ⟨q46, 0, none⟩ = false ∧
letH (Heap.set H109 ⟨q46, 0, none⟩ (.int .i64 (IntKind.wrap .i64 ((l1.n : Nat) + 1)))) fun H110 =>
 (∃ u, cellH H110 ⟨q46, 1, none⟩ = some u) ∧
frozenH H110 ⟨q46, 1, none⟩ = false ∧
letH (Heap.set H110 ⟨q46, 1, none⟩ (.int .i64 n10)) fun H111 =>
 (∃ u, cellH H111 ⟨q46, 2, none⟩ = some u) ∧
frozenH H111 ⟨q46, 2, none⟩ = false ∧
letH (Heap.set H111 ⟨q46, 2, none⟩ (.int .i64 n47)) fun H112 =>
 (∃ u, cellH H112 ⟨q46, 3, none⟩ = some u) ∧
frozenH H112 ⟨q46, 3, none⟩ = false ∧
letH (Heap.set H112 ⟨q46, 3, none⟩ (.int .i64 n48)) fun H113 =>
 (∃ u, cellH H113 ⟨q46, 4, none⟩ = some u) ∧
frozenH H113 ⟨q46, 4, none⟩ = false ∧
letH (Heap.set H113 ⟨q46, 4, none⟩ (.slice none 0 0)) fun H114 =>
 (∃ u, cellH H114 ⟨q46, 5, none⟩ = some u) ∧
frozenH H114 ⟨q46, 5, none⟩ = false ∧
letH (Heap.set H114 ⟨q46, 5, none⟩ (.slice none 0 0)) fun H115 =>
 (∃ u, cellH H115 ⟨q46, 6, none⟩ = some u) ∧
frozenH H115 ⟨q46, 6, none⟩ = false ∧
letH (Heap.set H115 ⟨q46, 6, none⟩ (.slice none 0 0)) fun H116 =>
 (∃ u, cellH H116 ⟨q46, 7, none⟩ = some u) ∧
frozenH H116 ⟨q46, 7, none⟩ = false ∧
letH (Heap.set H116 ⟨q46, 7, none⟩ (.slice none 0 0)) fun H117 =>
 (∃ u, cellH H117 ⟨q46, 8, none⟩ = some u) ∧
frozenH H117 ⟨q46, 8, none⟩ = false ∧
letH (Heap.set H117 ⟨q46, 8, none⟩ (.int .i64 n49)) fun H118 =>
∀ q50 : Nat,
H118 q50 = none →
letH (Heap.upd H118 q50 (.cells #[.pointer (some ⟨q46, 4, none⟩), .pointer (some ⟨q46, 5, none⟩), .pointer (some ⟨q46, 6, none⟩), .pointer (some ⟨q46, 7, none⟩)] 88 (0, 0))) fun H119 =>
∃ I6 : Int → ByteArray → Bool → Heap → Prop,
∃ M6 : Int → ByteArray → Bool → Heap → Nat,
I6 0 s31 b33 H119 ∧
∀ n_6 : Int,
∀ s32 : ByteArray,
∀ b34 : Bool,
∀ H120 : Heap,
I6 n_6 s32 b34 H120 →
br (decide ((n_6 : Int) < (4 : Nat))) (
∃ q51 o16 : Nat,
 ((some ⟨q50, 0, none⟩) : Option Addr) = some ⟨q51, o16, none⟩ ∧
0 ≤ (n_6 : Int) ∧
 (n_6 : Int) < (4 : Nat) ∧
∃ p5 : Option Addr,
cellH H120 ⟨q51, o16 + Int.toNat n_6, none⟩ = some (.pointer p5) ∧
∀ q52 : Nat,
H120 q52 = none →
FnH Tryz.prog 49 #[.pointer (some ⟨q52, 0, none⟩), .int .i64 7, .int .i64 1, .int .i64 7] (Heap.upd H120 q52 (.cells #[.string s32, .bool b34] 86 (0, 0))) fun r34 H121 =>
∃ l35 : Sl,
r34 = .slice l35.p l35.n l35.c ∧
∃ s33 : ByteArray,
∃ b35 : Bool,
H121 q52 = some (.cells #[.string s33, .bool b35] 86 (0, 0)) ∧
letH (Heap.del H121 q52) fun H122 =>
ptrm p5 fun q53 o17 =>
 (∃ u, cellH H122 ⟨q53, o17, none⟩ = some u) ∧
frozenH H122 ⟨q53, o17, none⟩ = false ∧
letH (Heap.set H122 ⟨q53, o17, none⟩ (.slice l35.p l35.n l35.c)) fun H123 =>
SelfEq ([.loc 0 0, .v (.pointer p1), .v (.int .i64 n8), .v (.int .i64 n_2), .v (.pointer (some ⟨q46, 0, none⟩)), .v (.slice (some ⟨q50, 0, none⟩) 4 4), .v (.int .i64 (4 : Nat))], [], [86]) ∧
I6 (IntKind.wrap .i64 (n_6 + 1)) s33 b35 H123 ∧
M6 (IntKind.wrap .i64 (n_6 + 1)) s33 b35 H123 < M6 n_6 s32 b34 H120)
 (
∃ n50 : Int,
cellH H120 ⟨q46, 0, none⟩ = some (.int .i64 n50) ∧
∃ n51 : Int,
cellH H120 ⟨q46, 1, none⟩ = some (.int .i64 n51) ∧
∃ n52 : Int,
cellH H120 ⟨q46, 2, none⟩ = some (.int .i64 n52) ∧
∃ n53 : Int,
cellH H120 ⟨q46, 3, none⟩ = some (.int .i64 n53) ∧
∃ l36 : Sl,
cellH H120 ⟨q46, 4, none⟩ = some (.slice l36.p l36.n l36.c) ∧
∃ l37 : Sl,
cellH H120 ⟨q46, 5, none⟩ = some (.slice l37.p l37.n l37.c) ∧
∃ l38 : Sl,
cellH H120 ⟨q46, 6, none⟩ = some (.slice l38.p l38.n l38.c) ∧
∃ l39 : Sl,
cellH H120 ⟨q46, 7, none⟩ = some (.slice l39.p l39.n l39.c) ∧
∃ n54 : Int,
cellH H120 ⟨q46, 8, none⟩ = some (.int .i64 n54) ∧
FnH Tryz.prog 51 #[.agg #[.int .i64 n50, .int .i64 n51, .int .i64 n52, .int .i64 n53, .slice l36.p l36.n l36.c, .slice l37.p l37.n l37.c, .slice l38.p l38.n l38.c, .slice l39.p l39.n l39.c, .int .i64 n54]] H120 fun r35 H124 =>
∃ b36 : Bool,
r35 = .bool b36 ∧
∀ q54 : Nat,
H124 q54 = none →
FnH Tryz.prog 50 #[.pointer (some ⟨q54, 0, none⟩), .bool b36] (Heap.upd H124 q54 (.cells #[.string s32, .bool b34] 86 (0, 0))) fun r36 H125 =>
r36 = .tuple #[] ∧
∃ s34 : ByteArray,
∃ b37 : Bool,
H125 q54 = some (.cells #[.string s34, .bool b37] 86 (0, 0)) ∧
letH (Heap.del H125 q54) fun H126 =>
ptrm p1 fun q55 o18 =>
∃ l40 : Sl,
cellH H126 ⟨q55, o18 + 3, none⟩ = some (.slice l40.p l40.n l40.c) ∧
∃ n55 : Int,
cellH H126 ⟨q46, 0, none⟩ = some (.int .i64 n55) ∧
∃ n56 : Int,
cellH H126 ⟨q46, 1, none⟩ = some (.int .i64 n56) ∧
∃ n57 : Int,
cellH H126 ⟨q46, 2, none⟩ = some (.int .i64 n57) ∧
∃ n58 : Int,
cellH H126 ⟨q46, 3, none⟩ = some (.int .i64 n58) ∧
∃ l41 : Sl,
cellH H126 ⟨q46, 4, none⟩ = some (.slice l41.p l41.n l41.c) ∧
∃ l42 : Sl,
cellH H126 ⟨q46, 5, none⟩ = some (.slice l42.p l42.n l42.c) ∧
∃ l43 : Sl,
cellH H126 ⟨q46, 6, none⟩ = some (.slice l43.p l43.n l43.c) ∧
∃ l44 : Sl,
cellH H126 ⟨q46, 7, none⟩ = some (.slice l44.p l44.n l44.c) ∧
∃ n59 : Int,
cellH H126 ⟨q46, 8, none⟩ = some (.int .i64 n59) ∧
∀ q56 : Nat,
H126 q56 = none →
letH (Heap.upd H126 q56 (.cells #[.int .i64 n55, .int .i64 n56, .int .i64 n57, .int .i64 n58, .slice l41.p l41.n l41.c, .slice l42.p l42.n l42.c, .slice l43.p l43.n l43.c, .slice l44.p l44.n l44.c, .int .i64 n59] 41 (0, 0))) fun H127 =>
Sub H126 H127 ∧
runH Tryz.prog (Builtin.append_ #[35, 35] 35 #[.slice l40.p l40.n l40.c, .slice (some ⟨q56, 0, none⟩) 1 1]) H127 fun r37 H128 =>
∃ l45 : Sl,
r37 = .slice l45.p l45.n l45.c ∧
ptrm p1 fun q57 o19 =>
 (∃ u, cellH H128 ⟨q57, o19 + 3, none⟩ = some u) ∧
frozenH H128 ⟨q57, o19 + 3, none⟩ = false ∧
letH (Heap.set H128 ⟨q57, o19 + 3, none⟩ (.slice l45.p l45.n l45.c)) fun H129 =>
SelfEq ([.loc 0 0, .v (.pointer p1), .v (.int .i64 n8)], [], [86]) ∧
I2 (IntKind.wrap .i64 (n_2 - 1)) s34 b37 H129 ∧
M2 (IntKind.wrap .i64 (n_2 - 1)) s34 b37 H129 < M2 n_2 s12 b11 H25)) ∧
∀ q58 : Nat,
H25 q58 = none →
letH (Heap.upd H25 q58 (.cells #[.int .i64 0, .int .i64 0, .int .i64 0, .int .i64 0, .slice none 0 0, .slice none 0 0, .slice none 0 0, .slice none 0 0, .int .i64 0] 41 (0, 0))) fun H130 =>
Sub H25 H130 ∧
∀ q59 : Nat,
H130 q59 = none →
FnH Tryz.prog 47 #[.pointer (some ⟨q59, 0, none⟩), .int .i64 0, .int .i64 7] (Heap.upd H130 q59 (.cells #[.string s12, .bool b11] 86 (0, 0))) fun r38 H131 =>
∃ n60 : Int,
r38 = .int .i64 n60 ∧
∃ s35 : ByteArray,
∃ b38 : Bool,
H131 q59 = some (.cells #[.string s35, .bool b38] 86 (0, 0)) ∧
letH (Heap.del H131 q59) fun H132 =>
Sub H25 H132 ∧
∀ q60 : Nat,
H132 q60 = none →
FnH Tryz.prog 47 #[.pointer (some ⟨q60, 0, none⟩), .int .i64 1, .int .i64 1000000000] (Heap.upd H132 q60 (.cells #[.string s35, .bool b38] 86 (0, 0))) fun r39 H133 =>
∃ n61 : Int,
r39 = .int .i64 n61 ∧
∃ s36 : ByteArray,
∃ b39 : Bool,
H133 q60 = some (.cells #[.string s36, .bool b39] 86 (0, 0)) ∧
letH (Heap.del H133 q60) fun H134 =>
Sub H25 H134 ∧
∀ q61 : Nat,
H134 q61 = none →
FnH Tryz.prog 47 #[.pointer (some ⟨q61, 0, none⟩), .int .i64 1, .int .i64 1000000000] (Heap.upd H134 q61 (.cells #[.string s36, .bool b39] 86 (0, 0))) fun r40 H135 =>
∃ n62 : Int,
r40 = .int .i64 n62 ∧
∃ s37 : ByteArray,
∃ b40 : Bool,
H135 q61 = some (.cells #[.string s37, .bool b40] 86 (0, 0)) ∧
letH (Heap.del H135 q61) fun H136 =>
Sub H25 H136 ∧
∀ q62 : Nat,
H136 q62 = none →
FnH Tryz.prog 47 #[.pointer (some ⟨q62, 0, none⟩), .int .i64 1, .int .i64 5] (Heap.upd H136 q62 (.cells #[.string s37, .bool b40] 86 (0, 0))) fun r41 H137 =>
∃ n63 : Int,
r41 = .int .i64 n63 ∧
∃ s38 : ByteArray,
∃ b41 : Bool,
H137 q62 = some (.cells #[.string s38, .bool b41] 86 (0, 0)) ∧
letH (Heap.del H137 q62) fun H138 =>
Sub H25 H138 ∧
 (∃ u, cellH H138 ⟨q58, 0, none⟩ = some u) ∧
frozenH H138 ⟨q58, 0, none⟩ = false ∧
letH (Heap.set H138 ⟨q58, 0, none⟩ (.int .i64 (IntKind.wrap .i64 ((l1.n : Nat) + 1)))) fun H139 =>
 (∃ u, cellH H139 ⟨q58, 1, none⟩ = some u) ∧
frozenH H139 ⟨q58, 1, none⟩ = false ∧
letH (Heap.set H139 ⟨q58, 1, none⟩ (.int .i64 n60)) fun H140 =>
 (∃ u, cellH H140 ⟨q58, 2, none⟩ = some u) ∧
frozenH H140 ⟨q58, 2, none⟩ = false ∧
letH (Heap.set H140 ⟨q58, 2, none⟩ (.int .i64 n61)) fun H141 =>
 (∃ u, cellH H141 ⟨q58, 3, none⟩ = some u) ∧
frozenH H141 ⟨q58, 3, none⟩ = false ∧
letH (Heap.set H141 ⟨q58, 3, none⟩ (.int .i64 n62)) fun H142 =>
 (∃ u, cellH H142 ⟨q58, 4, none⟩ = some u) ∧
frozenH H142 ⟨q58, 4, none⟩ = false ∧
letH (Heap.set H142 ⟨q58, 4, none⟩ (.slice none 0 0)) fun H143 =>
 (∃ u, cellH H143 ⟨q58, 5, none⟩ = some u) ∧
frozenH H143 ⟨q58, 5, none⟩ = false ∧
letH (Heap.set H143 ⟨q58, 5, none⟩ (.slice none 0 0)) fun H144 =>
 (∃ u, cellH H144 ⟨q58, 6, none⟩ = some u) ∧
frozenH H144 ⟨q58, 6, none⟩ = false ∧
letH (Heap.set H144 ⟨q58, 6, none⟩ (.slice none 0 0)) fun H145 =>
 (∃ u, cellH H145 ⟨q58, 7, none⟩ = some u) ∧
frozenH H145 ⟨q58, 7, none⟩ = false ∧
letH (Heap.set H145 ⟨q58, 7, none⟩ (.slice none 0 0)) fun H146 =>
 (∃ u, cellH H146 ⟨q58, 8, none⟩ = some u) ∧
frozenH H146 ⟨q58, 8, none⟩ = false ∧
letH (Heap.set H146 ⟨q58, 8, none⟩ (.int .i64 n63)) fun H147 =>
∀ q63 : Nat,
H147 q63 = none →
letH (Heap.upd H147 q63 (.cells #[.pointer (some ⟨q58, 4, none⟩), .pointer (some ⟨q58, 5, none⟩), .pointer (some ⟨q58, 6, none⟩), .pointer (some ⟨q58, 7, none⟩)] 88 (0, 0))) fun H148 =>
∃ I7 : Int → ByteArray → Bool → Heap → Prop,
∃ M7 : Int → ByteArray → Bool → Heap → Nat,
I7 0 s38 b41 H148 ∧
∀ n_7 : Int,
∀ s39 : ByteArray,
∀ b42 : Bool,
∀ H149 : Heap,
I7 n_7 s39 b42 H149 →
br (decide ((n_7 : Int) < (4 : Nat))) (
∃ q64 o20 : Nat,
 ((some ⟨q63, 0, none⟩) : Option Addr) = some ⟨q64, o20, none⟩ ∧
0 ≤ (n_7 : Int) ∧
 (n_7 : Int) < (4 : Nat) ∧
∃ p6 : Option Addr,
cellH H149 ⟨q64, o20 + Int.toNat n_7, none⟩ = some (.pointer p6) ∧
∀ q65 : Nat,
H149 q65 = none →
FnH Tryz.prog 49 #[.pointer (some ⟨q65, 0, none⟩), .int .i64 7, .int .i64 1, .int .i64 7] (Heap.upd H149 q65 (.cells #[.string s39, .bool b42] 86 (0, 0))) fun r42 H150 =>
∃ l46 : Sl,
r42 = .slice l46.p l46.n l46.c ∧
∃ s40 : ByteArray,
∃ b43 : Bool,
H150 q65 = some (.cells #[.string s40, .bool b43] 86 (0, 0)) ∧
letH (Heap.del H150 q65) fun H151 =>
ptrm p6 fun q66 o21 =>
 (∃ u, cellH H151 ⟨q66, o21, none⟩ = some u) ∧
frozenH H151 ⟨q66, o21, none⟩ = false ∧
letH (Heap.set H151 ⟨q66, o21, none⟩ (.slice l46.p l46.n l46.c)) fun H152 =>
SelfEq ([.loc 0 0, .v (.pointer p1), .v (.int .i64 n8), .v (.int .i64 n_2), .v (.pointer (some ⟨q58, 0, none⟩)), .v (.slice (some ⟨q63, 0, none⟩) 4 4), .v (.int .i64 (4 : Nat))], [], [86]) ∧
I7 (IntKind.wrap .i64 (n_7 + 1)) s40 b43 H152 ∧
M7 (IntKind.wrap .i64 (n_7 + 1)) s40 b43 H152 < M7 n_7 s39 b42 H149)
 (
∃ n64 : Int,
cellH H149 ⟨q58, 0, none⟩ = some (.int .i64 n64) ∧
∃ n65 : Int,
cellH H149 ⟨q58, 1, none⟩ = some (.int .i64 n65) ∧
∃ n66 : Int,
cellH H149 ⟨q58, 2, none⟩ = some (.int .i64 n66) ∧
∃ n67 : Int,
cellH H149 ⟨q58, 3, none⟩ = some (.int .i64 n67) ∧
∃ l47 : Sl,
cellH H149 ⟨q58, 4, none⟩ = some (.slice l47.p l47.n l47.c) ∧
∃ l48 : Sl,
cellH H149 ⟨q58, 5, none⟩ = some (.slice l48.p l48.n l48.c) ∧
∃ l49 : Sl,
cellH H149 ⟨q58, 6, none⟩ = some (.slice l49.p l49.n l49.c) ∧
∃ l50 : Sl,
cellH H149 ⟨q58, 7, none⟩ = some (.slice l50.p l50.n l50.c) ∧
∃ n68 : Int,
cellH H149 ⟨q58, 8, none⟩ = some (.int .i64 n68) ∧
FnH Tryz.prog 51 #[.agg #[.int .i64 n64, .int .i64 n65, .int .i64 n66, .int .i64 n67, .slice l47.p l47.n l47.c, .slice l48.p l48.n l48.c, .slice l49.p l49.n l49.c, .slice l50.p l50.n l50.c, .int .i64 n68]] H149 fun r43 H153 =>
∃ b44 : Bool,
r43 = .bool b44 ∧
∀ q67 : Nat,
H153 q67 = none →
FnH Tryz.prog 50 #[.pointer (some ⟨q67, 0, none⟩), .bool b44] (Heap.upd H153 q67 (.cells #[.string s39, .bool b42] 86 (0, 0))) fun r44 H154 =>
r44 = .tuple #[] ∧
∃ s41 : ByteArray,
∃ b45 : Bool,
H154 q67 = some (.cells #[.string s41, .bool b45] 86 (0, 0)) ∧
letH (Heap.del H154 q67) fun H155 =>
ptrm p1 fun q68 o22 =>
∃ l51 : Sl,
cellH H155 ⟨q68, o22 + 3, none⟩ = some (.slice l51.p l51.n l51.c) ∧
∃ n69 : Int,
cellH H155 ⟨q58, 0, none⟩ = some (.int .i64 n69) ∧
∃ n70 : Int,
cellH H155 ⟨q58, 1, none⟩ = some (.int .i64 n70) ∧
∃ n71 : Int,
cellH H155 ⟨q58, 2, none⟩ = some (.int .i64 n71) ∧
∃ n72 : Int,
cellH H155 ⟨q58, 3, none⟩ = some (.int .i64 n72) ∧
∃ l52 : Sl,
cellH H155 ⟨q58, 4, none⟩ = some (.slice l52.p l52.n l52.c) ∧
∃ l53 : Sl,
cellH H155 ⟨q58, 5, none⟩ = some (.slice l53.p l53.n l53.c) ∧
∃ l54 : Sl,
cellH H155 ⟨q58, 6, none⟩ = some (.slice l54.p l54.n l54.c) ∧
∃ l55 : Sl,
cellH H155 ⟨q58, 7, none⟩ = some (.slice l55.p l55.n l55.c) ∧
∃ n73 : Int,
cellH H155 ⟨q58, 8, none⟩ = some (.int .i64 n73) ∧
∀ q69 : Nat,
H155 q69 = none →
letH (Heap.upd H155 q69 (.cells #[.int .i64 n69, .int .i64 n70, .int .i64 n71, .int .i64 n72, .slice l52.p l52.n l52.c, .slice l53.p l53.n l53.c, .slice l54.p l54.n l54.c, .slice l55.p l55.n l55.c, .int .i64 n73] 41 (0, 0))) fun H156 =>
Sub H155 H156 ∧
runH Tryz.prog (Builtin.append_ #[35, 35] 35 #[.slice l51.p l51.n l51.c, .slice (some ⟨q69, 0, none⟩) 1 1]) H156 fun r45 H157 =>
∃ l56 : Sl,
r45 = .slice l56.p l56.n l56.c ∧
ptrm p1 fun q70 o23 =>
 (∃ u, cellH H157 ⟨q70, o23 + 3, none⟩ = some u) ∧
frozenH H157 ⟨q70, o23 + 3, none⟩ = false ∧
letH (Heap.set H157 ⟨q70, o23 + 3, none⟩ (.slice l56.p l56.n l56.c)) fun H158 =>
SelfEq ([.loc 0 0, .v (.pointer p1), .v (.int .i64 n8)], [], [86]) ∧
I2 (IntKind.wrap .i64 (n_2 - 1)) s41 b45 H158 ∧
M2 (IntKind.wrap .i64 (n_2 - 1)) s41 b45 H158 < M2 n_2 s12 b11 H25))
 (
SelfEq ([.loc 0 0, .v (.pointer p1), .v (.int .i64 n8)], [], [86]) ∧
J2 s12 b11 H25))
 (
SelfEq ([.loc 0 0, .v (.pointer p1), .v (.int .i64 n8)], [], [86]) ∧
J2 s12 b11 H25)) ∧
∀ s42 : ByteArray,
∀ b46 : Bool,
∀ H159 : Heap,
J2 s42 b46 H159 →
∀ q71 : Nat,
H159 q71 = none →
FnH Tryz.prog 49 #[.pointer (some ⟨q71, 0, none⟩), .int .i64 1000, .int .i64 0, .int .i64 1000000000] (Heap.upd H159 q71 (.cells #[.string s42, .bool b46] 86 (0, 0))) fun r46 H160 =>
∃ l57 : Sl,
r46 = .slice l57.p l57.n l57.c ∧
∃ s43 : ByteArray,
∃ b47 : Bool,
H160 q71 = some (.cells #[.string s43, .bool b47] 86 (0, 0)) ∧
letH (Heap.del H160 q71) fun H161 =>
ptrm p1 fun q72 o24 =>
 (∃ u, cellH H161 ⟨q72, o24 + 4, none⟩ = some u) ∧
frozenH H161 ⟨q72, o24 + 4, none⟩ = false ∧
letH (Heap.set H161 ⟨q72, o24 + 4, none⟩ (.slice l57.p l57.n l57.c)) fun H162 =>
br (b47) (
K (.tuple #[.pointer none, .int .i64 4]) H162)
 (
br (!(s43.toList == (⟨#[]⟩ : ByteArray).toList)) (
K (.tuple #[.pointer none, .int .i64 4]) H162)
 (
ptrm p1 fun q73 o25 =>
∃ l58 : Sl,
cellH H162 ⟨q73, o25 + 3, none⟩ = some (.slice l58.p l58.n l58.c) ∧
br ((n8 : Int) != (IntKind.wrap .i64 ((l58.n : Nat) + 1))) (
K (.tuple #[.pointer none, .int .i64 4]) H162)
 (
K (.tuple #[.pointer p1, .int .i64 0]) H162)))))
theorem meta_Load_fn (s : ByteArray) {H : Heap} {K : Value → Heap → Prop} (h : meta_Load_vc s H K) : FnH Tryz.prog 21 #[.string s] H K :=
  denFn_fn Tryz.mixed meta_Load_ann Tryz.func21 (bodyOf_spec (by kernel_rfl)) (by kernel_rfl) h
end Go.Proofs.YtmofinghoacobaaGreatDoor
