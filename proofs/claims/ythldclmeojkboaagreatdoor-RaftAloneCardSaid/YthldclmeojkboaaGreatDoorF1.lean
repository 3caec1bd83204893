import Derived.Test.YthldclmeojkboaaGreatDoorProg
import Derived.KernelRfl
import Derived.Test.YthldclmeojkboaaGreatDoorHlFn
namespace Go.Proofs.YthldclmeojkboaaGreatDoor
open Go.HL
set_option maxRecDepth 100000
theorem Tryz.mixed : Tryz.prog.follows .mixedOrders = true := by kernel_rfl
def disk_Disk_Crash_ann : Anns := { hid := [6], loops := [(0, { slots := [(1, .slice), (12, .int .i64)], kept := [0, 10, 11], locs := [], keptL := [] })], joins := [], mix := [] }
def disk_Disk_Crash_vc (d0 d0o : Nat) (keep : Sl) (H : Heap) (K : Value → Heap → Prop) : Prop :=
FnH Tryz.prog 40 #[.pointer (some ⟨d0, d0o, none⟩)] H fun r1 H1 =>
∃ l1 : Sl,
r1 = .slice l1.p l1.n l1.c ∧
∃ I1 : Sl → Int → Heap → Prop,
∃ M1 : Sl → Int → Heap → Nat,
I1 keep 0 H1 ∧
∀ keep_1 : Sl,
∀ n_1 : Int,
∀ H2 : Heap,
I1 keep_1 n_1 H2 →
br (decide ((n_1 : Int) < (l1.n : Nat))) (
∃ q1 o1 : Nat,
 (l1.p : Option Addr) = some ⟨q1, o1, none⟩ ∧
0 ≤ (n_1 : Int) ∧
 (n_1 : Int) < (l1.n : Nat) ∧
∃ s1 : ByteArray,
cellH H2 ⟨q1, o1 + Int.toNat n_1, none⟩ = some (.string s1) ∧
∃ m1 : Option Nat,
cellH H2 ⟨d0, d0o + 2, none⟩ = some (.map m1) ∧
runH Tryz.prog (Instr.lookup 102 (.map m1) (.string s1) false) H2 fun r2 H3 =>
∃ s2 : ByteArray,
∃ n1 : Int,
r2 = .agg #[.string s2, .int .i64 n1] ∧
br (((IntKind.wrap .i64 ((s2.size : Nat) - n1)) : Int) == 0) (
SelfEq ([.v (.pointer (some ⟨d0, d0o, none⟩)), .v (.slice l1.p l1.n l1.c), .v (.int .i64 (l1.n : Nat))], [], []) ∧
I1 keep_1 (IntKind.wrap .i64 (n_1 + 1)) H3 ∧
M1 keep_1 (IntKind.wrap .i64 (n_1 + 1)) H3 < M1 keep_1 n_1 H2)
 (
br (decide (((keep_1.n : Nat) : Int) > 0)) (
∃ q2 o2 : Nat,
 (keep_1.p : Option Addr) = some ⟨q2, o2, none⟩ ∧
0 ≤ (0 : Int) ∧
 (0 : Int) < (keep_1.n : Nat) ∧
∃ n2 : Int,
cellH H3 ⟨q2, o2 + Int.toNat 0, none⟩ = some (.int .i64 n2) ∧
0 ≤ (1 : Int) ∧
 (1 : Int) ≤ (keep_1.n : Nat) ∧
br (decide ((n2 : Int) < 0)) (
 ((IntKind.wrap .i64 ((IntKind.wrap .i64 ((s2.size : Nat) - n1)) + 1)) : Int) ≠ 0 ∧
0 ≤ (IntKind.wrap .i64 (n1 + (Int.tmod (IntKind.wrap .i64 (0 - (IntKind.wrap .i64 (n2 + 1)))) (IntKind.wrap .i64 ((IntKind.wrap .i64 ((s2.size : Nat) - n1)) + 1)))) : Int) ∧
 (IntKind.wrap .i64 (n1 + (Int.tmod (IntKind.wrap .i64 (0 - (IntKind.wrap .i64 (n2 + 1)))) (IntKind.wrap .i64 ((IntKind.wrap .i64 ((s2.size : Nat) - n1)) + 1)))) : Int) ≤ (s2.size : Nat) ∧
FnH Tryz.prog 41 #[.pointer (some ⟨d0, d0o, none⟩), .string s1, .agg #[.string (s2.extract (Int.toNat (0 : Int)) (Int.toNat (IntKind.wrap .i64 (n1 + (Int.tmod (IntKind.wrap .i64 (0 - (IntKind.wrap .i64 (n2 + 1)))) (IntKind.wrap .i64 ((IntKind.wrap .i64 ((s2.size : Nat) - n1)) + 1))))))), .int .i64 (IntKind.wrap .i64 (n1 + (Int.tmod (IntKind.wrap .i64 (0 - (IntKind.wrap .i64 (n2 + 1)))) (IntKind.wrap .i64 ((IntKind.wrap .i64 ((s2.size : Nat) - n1)) + 1)))))]] H3 fun r3 H4 =>
r3 = .tuple #[] ∧
SelfEq ([.v (.pointer (some ⟨d0, d0o, none⟩)), .v (.slice l1.p l1.n l1.c), .v (.int .i64 (l1.n : Nat))], [], []) ∧
I1 ⟨(slP keep_1.p keep_1.c 1 1), Int.toNat ((keep_1.n : Nat) - 1), Int.toNat ((keep_1.c : Nat) - 1)⟩ (IntKind.wrap .i64 (n_1 + 1)) H4 ∧
M1 ⟨(slP keep_1.p keep_1.c 1 1), Int.toNat ((keep_1.n : Nat) - 1), Int.toNat ((keep_1.c : Nat) - 1)⟩ (IntKind.wrap .i64 (n_1 + 1)) H4 < M1 keep_1 n_1 H2)
 (
 ((IntKind.wrap .i64 ((IntKind.wrap .i64 ((s2.size : Nat) - n1)) + 1)) : Int) ≠ 0 ∧
0 ≤ (IntKind.wrap .i64 (n1 + (Int.tmod n2 (IntKind.wrap .i64 ((IntKind.wrap .i64 ((s2.size : Nat) - n1)) + 1)))) : Int) ∧
 (IntKind.wrap .i64 (n1 + (Int.tmod n2 (IntKind.wrap .i64 ((IntKind.wrap .i64 ((s2.size : Nat) - n1)) + 1)))) : Int) ≤ (s2.size : Nat) ∧
FnH Tryz.prog 41 #[.pointer (some ⟨d0, d0o, none⟩), .string s1, .agg #[.string (s2.extract (Int.toNat (0 : Int)) (Int.toNat (IntKind.wrap .i64 (n1 + (Int.tmod n2 (IntKind.wrap .i64 ((IntKind.wrap .i64 ((s2.size : Nat) - n1)) + 1))))))), .int .i64 (IntKind.wrap .i64 (n1 + (Int.tmod n2 (IntKind.wrap .i64 ((IntKind.wrap .i64 ((s2.size : Nat) - n1)) + 1)))))]] H3 fun r4 H5 =>
r4 = .tuple #[] ∧
SelfEq ([.v (.pointer (some ⟨d0, d0o, none⟩)), .v (.slice l1.p l1.n l1.c), .v (.int .i64 (l1.n : Nat))], [], []) ∧
I1 ⟨(slP keep_1.p keep_1.c 1 1), Int.toNat ((keep_1.n : Nat) - 1), Int.toNat ((keep_1.c : Nat) - 1)⟩ (IntKind.wrap .i64 (n_1 + 1)) H5 ∧
M1 ⟨(slP keep_1.p keep_1.c 1 1), Int.toNat ((keep_1.n : Nat) - 1), Int.toNat ((keep_1.c : Nat) - 1)⟩ (IntKind.wrap .i64 (n_1 + 1)) H5 < M1 keep_1 n_1 H2))
 (
br (decide ((0 : Int) < 0)) (
 ((IntKind.wrap .i64 ((IntKind.wrap .i64 ((s2.size : Nat) - n1)) + 1)) : Int) ≠ 0 ∧
0 ≤ (IntKind.wrap .i64 (n1 + (Int.tmod (IntKind.wrap .i64 (0 - (IntKind.wrap .i64 (0 + 1)))) (IntKind.wrap .i64 ((IntKind.wrap .i64 ((s2.size : Nat) - n1)) + 1)))) : Int) ∧
 (IntKind.wrap .i64 (n1 + (Int.tmod (IntKind.wrap .i64 (0 - (IntKind.wrap .i64 (0 + 1)))) (IntKind.wrap .i64 ((IntKind.wrap .i64 ((s2.size : Nat) - n1)) + 1)))) : Int) ≤ (s2.size : Nat) ∧
FnH Tryz.prog 41 #[.pointer (some ⟨d0, d0o, none⟩), .string s1, .agg #[.string (s2.extract (Int.toNat (0 : Int)) (Int.toNat (IntKind.wrap .i64 (n1 + (Int.tmod (IntKind.wrap .i64 (0 - (IntKind.wrap .i64 (0 + 1)))) (IntKind.wrap .i64 ((IntKind.wrap .i64 ((s2.size : Nat) - n1)) + 1))))))), .int .i64 (IntKind.wrap .i64 (n1 + (Int.tmod (IntKind.wrap .i64 (0 - (IntKind.wrap .i64 (0 + 1)))) (IntKind.wrap .i64 ((IntKind.wrap .i64 ((s2.size : Nat) - n1)) + 1)))))]] H3 fun r5 H6 =>
r5 = .tuple #[] ∧
SelfEq ([.v (.pointer (some ⟨d0, d0o, none⟩)), .v (.slice l1.p l1.n l1.c), .v (.int .i64 (l1.n : Nat))], [], []) ∧
I1 keep_1 (IntKind.wrap .i64 (n_1 + 1)) H6 ∧
M1 keep_1 (IntKind.wrap .i64 (n_1 + 1)) H6 < M1 keep_1 n_1 H2)
 (
 ((IntKind.wrap .i64 ((IntKind.wrap .i64 ((s2.size : Nat) - n1)) + 1)) : Int) ≠ 0 ∧
0 ≤ (IntKind.wrap .i64 (n1 + (Int.tmod 0 (IntKind.wrap .i64 ((IntKind.wrap .i64 ((s2.size : Nat) - n1)) + 1)))) : Int) ∧
 (IntKind.wrap .i64 (n1 + (Int.tmod 0 (IntKind.wrap .i64 ((IntKind.wrap .i64 ((s2.size : Nat) - n1)) + 1)))) : Int) ≤ (s2.size : Nat) ∧
FnH Tryz.prog 41 #[.pointer (some ⟨d0, d0o, none⟩), .string s1, .agg #[.string (s2.extract (Int.toNat (0 : Int)) (Int.toNat (IntKind.wrap .i64 (n1 + (Int.tmod 0 (IntKind.wrap .i64 ((IntKind.wrap .i64 ((s2.size : Nat) - n1)) + 1))))))), .int .i64 (IntKind.wrap .i64 (n1 + (Int.tmod 0 (IntKind.wrap .i64 ((IntKind.wrap .i64 ((s2.size : Nat) - n1)) + 1)))))]] H3 fun r6 H7 =>
r6 = .tuple #[] ∧
SelfEq ([.v (.pointer (some ⟨d0, d0o, none⟩)), .v (.slice l1.p l1.n l1.c), .v (.int .i64 (l1.n : Nat))], [], []) ∧
I1 keep_1 (IntKind.wrap .i64 (n_1 + 1)) H7 ∧
M1 keep_1 (IntKind.wrap .i64 (n_1 + 1)) H7 < M1 keep_1 n_1 H2))))
 (
K (.tuple #[]) H2)
theorem disk_Disk_Crash_fn (d0 d0o : Nat) (keep : Sl) {H : Heap} {K : Value → Heap → Prop} (h : disk_Disk_Crash_vc d0 d0o keep H K) : FnH Tryz.prog 12 #[.pointer (some ⟨d0, d0o, none⟩), .slice keep.p keep.n keep.c] H K :=
  denFn_fn Tryz.mixed disk_Disk_Crash_ann Tryz.func12 (bodyOf_spec (by kernel_rfl)) (by kernel_rfl) h
def disk_New_ann : Anns := { hid := [], loops := [], joins := [], mix := [] }
def disk_New_vc (size : Int) (H : Heap) (K : Value → Heap → Prop) : Prop :=
br (decide ((size : Int) < 1)) (
K (.tuple #[.pointer none, .int .i64 1]) H)
 (
br (decide ((size : Int) > 16777216)) (
K (.tuple #[.pointer none, .int .i64 1]) H)
 (
∀ q1 : Nat,
H q1 = none →
letH (Heap.upd H q1 (.map #[] 0)) fun H1 =>
∀ q2 : Nat,
H1 q2 = none →
letH (Heap.upd H1 q2 (.cells #[.int .i64 size, .int .i64 0, .map (some q1)] 104 (0, 0))) fun H2 =>
K (.tuple #[.pointer (some ⟨q2, 0, none⟩), .int .i64 0]) H2))
theorem disk_New_fn (size : Int) {H : Heap} {K : Value → Heap → Prop} (h : disk_New_vc size H K) : FnH Tryz.prog 24 #[.int .i64 size] H K :=
  denFn_fn Tryz.mixed disk_New_ann Tryz.func24 (bodyOf_spec (by kernel_rfl)) (by kernel_rfl) h
def disk_Disk_Names_ann : Anns := { hid := [], loops := [], joins := [], mix := [] }
def disk_Disk_Names_vc (d0 d0o : Nat) (H : Heap) (K : Value → Heap → Prop) : Prop :=
∃ m1 : Option Nat,
cellH H ⟨d0, d0o + 2, none⟩ = some (.map m1) ∧
FnH Tryz.prog 83 #[.map m1] H fun r1 H1 =>
∃ w1 : Fv,
r1 = .func (.func w1.k) w1.first w1.cap ∧
FnH Tryz.prog 82 #[.func (.func w1.k) w1.first w1.cap] H1 fun r2 H2 =>
∃ l1 : Sl,
r2 = .slice l1.p l1.n l1.c ∧
K (.slice l1.p l1.n l1.c) H2
theorem disk_Disk_Names_fn (d0 d0o : Nat) {H : Heap} {K : Value → Heap → Prop} (h : disk_Disk_Names_vc d0 d0o H K) : FnH Tryz.prog 40 #[.pointer (some ⟨d0, d0o, none⟩)] H K :=
  denFn_fn Tryz.mixed disk_Disk_Names_ann Tryz.func40 (bodyOf_spec (by kernel_rfl)) (by kernel_rfl) h
def disk_Disk_put_ann : Anns := { hid := [5], loops := [], joins := [], mix := [(1, [19]), (2, [6])] }
def disk_Disk_put_vc (d0 d0o : Nat) (name f_0 : ByteArray) (f_1 : Int) (H : Heap) (K : Value → Heap → Prop) : Prop :=
∃ n1 : Int,
cellH H ⟨d0, d0o + 1, none⟩ = some (.int .i64 n1) ∧
∃ m1 : Option Nat,
cellH H ⟨d0, d0o + 2, none⟩ = some (.map m1) ∧
runH Tryz.prog (Instr.lookup 102 (.map m1) (.string name) false) H fun r1 H1 =>
∃ s1 : ByteArray,
∃ n2 : Int,
r1 = .agg #[.string s1, .int .i64 n2] ∧
Sub H H1 ∧
 (∃ u, cellH H1 ⟨d0, d0o + 1, none⟩ = some u) ∧
frozenH H1 ⟨d0, d0o + 1, none⟩ = false ∧
letH (Heap.set H1 ⟨d0, d0o + 1, none⟩ (.int .i64 (IntKind.wrap .i64 (n1 + (IntKind.wrap .i64 ((f_0.size : Nat) - (s1.size : Nat))))))) fun H2 =>
∃ m2 : Option Nat,
cellH H2 ⟨d0, d0o + 2, none⟩ = some (.map m2) ∧
runH Tryz.prog (Instr.mapUpdate 102 (.map m2) (.string name) (.agg #[.string f_0, .int .i64 f_1])) H2 fun _ H3 =>
K (.tuple #[]) H3
theorem disk_Disk_put_fn (d0 d0o : Nat) (name f_0 : ByteArray) (f_1 : Int) {H : Heap} {K : Value → Heap → Prop} (h : disk_Disk_put_vc d0 d0o name f_0 f_1 H K) : FnH Tryz.prog 41 #[.pointer (some ⟨d0, d0o, none⟩), .string name, .agg #[.string f_0, .int .i64 f_1]] H K :=
  denFn_fn Tryz.mixed disk_Disk_put_ann Tryz.func41 (bodyOf_spec (by kernel_rfl)) (by kernel_rfl) h
def disk_Disk_Read_ann : Anns := { hid := [6], loops := [], joins := [], mix := [] }
def disk_Disk_Read_vc (d0 d0o : Nat) (name : ByteArray) (H : Heap) (K : Value → Heap → Prop) : Prop :=
∃ m1 : Option Nat,
cellH H ⟨d0, d0o + 2, none⟩ = some (.map m1) ∧
runH Tryz.prog (Instr.lookup 102 (.map m1) (.string name) true) H fun r1 H1 =>
∃ s1 : ByteArray,
∃ n1 : Int,
∃ b1 : Bool,
r1 = .tuple #[.agg #[.string s1, .int .i64 n1], .bool b1] ∧
br (!b1) (
K (.tuple #[.string (⟨#[]⟩ : ByteArray), .int .i64 8]) H1)
 (
K (.tuple #[.string s1, .int .i64 0]) H1)
theorem disk_Disk_Read_fn (d0 d0o : Nat) (name : ByteArray) {H : Heap} {K : Value → Heap → Prop} (h : disk_Disk_Read_vc d0 d0o name H K) : FnH Tryz.prog 62 #[.pointer (some ⟨d0, d0o, none⟩), .string name] H K :=
  denFn_fn Tryz.mixed disk_Disk_Read_ann Tryz.func62 (bodyOf_spec (by kernel_rfl)) (by kernel_rfl) h
def disk_Disk_Replace_ann : Anns := { hid := [], loops := [], joins := [], mix := [] }
def disk_Disk_Replace_vc (d0 d0o : Nat) (name b : ByteArray) (H : Heap) (K : Value → Heap → Prop) : Prop :=
FnH Tryz.prog 137 #[.pointer (some ⟨d0, d0o, none⟩), .string name] H fun r1 H1 =>
∃ n1 : Int,
r1 = .int .i64 n1 ∧
br ((n1 : Int) != 0) (
K (.int .i64 n1) H1)
 (
FnH Tryz.prog 138 #[.pointer (some ⟨d0, d0o, none⟩)] H1 fun r2 H2 =>
∃ n2 : Int,
r2 = .int .i64 n2 ∧
FnH Tryz.prog 139 #[.pointer (some ⟨d0, d0o, none⟩), .string name] H2 fun r3 H3 =>
∃ n3 : Int,
r3 = .int .i64 n3 ∧
br (decide (((b.size : Nat) : Int) > (IntKind.wrap .i64 (n2 + n3)))) (
K (.int .i64 7) H3)
 (
FnH Tryz.prog 41 #[.pointer (some ⟨d0, d0o, none⟩), .string name, .agg #[.string b, .int .i64 (b.size : Nat)]] H3 fun r4 H4 =>
r4 = .tuple #[] ∧
K (.int .i64 0) H4))
theorem disk_Disk_Replace_fn (d0 d0o : Nat) (name b : ByteArray) {H : Heap} {K : Value → Heap → Prop} (h : disk_Disk_Replace_vc d0 d0o name b H K) : FnH Tryz.prog 85 #[.pointer (some ⟨d0, d0o, none⟩), .string name, .string b] H K :=
  denFn_fn Tryz.mixed disk_Disk_Replace_ann Tryz.func85 (bodyOf_spec (by kernel_rfl)) (by kernel_rfl) h
def wire_Int_ann : Anns := { hid := [], loops := [], joins := [], mix := [] }
def wire_Int_vc (n : Int) (H : Heap) (K : Value → Heap → Prop) : Prop :=
FnH Tryz.prog 141 #[.slice none 0 0, .int .i64 n] H fun r1 H1 =>
∃ l1 : Sl,
r1 = .slice l1.p l1.n l1.c ∧
runH Tryz.prog (convert 119 9 (.slice l1.p l1.n l1.c)) H1 fun r2 H2 =>
∃ s1 : ByteArray,
r2 = .string s1 ∧
K (.string s1) H2
theorem wire_Int_fn (n : Int) {H : Heap} {K : Value → Heap → Prop} (h : wire_Int_vc n H K) : FnH Tryz.prog 87 #[.int .i64 n] H K :=
  denFn_fn Tryz.mixed wire_Int_ann Tryz.func87 (bodyOf_spec (by kernel_rfl)) (by kernel_rfl) h
def wire_Crc_ann : Anns := { hid := [], loops := [(0, { slots := [(3, .int .u32), (7, .int .i64)], kept := [0, 6], locs := [], keptL := [] }), (2, { slots := [(3, .int .u32), (16, .int .i64)], kept := [0, 6, 7], locs := [], keptL := [] })], joins := [], mix := [] }
def wire_Crc_vc (b : ByteArray) (H : Heap) (K : Value → Heap → Prop) : Prop :=
∃ I1 : Int → Int → Heap → Prop,
∃ M1 : Int → Int → Heap → Nat,
I1 4294967295 0 H ∧
∀ c_1 n_1 : Int,
∀ H1 : Heap,
I1 c_1 n_1 H1 →
br (decide ((n_1 : Int) < (b.size : Nat))) (
0 ≤ (n_1 : Int) ∧
∃ c1 : UInt8,
b[Int.toNat n_1]? = some c1 ∧
∃ I2 : Int → Int → Heap → Prop,
∃ M2 : Int → Int → Heap → Nat,
I2 (xorI .u32 c_1 (IntKind.wrap .u32 (c1.toNat : Int))) 0 H1 ∧
∀ c_2 n_2 : Int,
∀ H2 : Heap,
I2 c_2 n_2 H2 →
br (decide ((n_2 : Int) < 8)) (
SelfEq ([.v (.string b), .v (.int .i64 (b.size : Nat)), .v (.int .i64 n_1)], [], []) ∧
I2 (xorI .u32 (shrI .u32 c_2 1) (andI .u32 2197175160 (IntKind.wrap .u32 (0 - (andI .u32 c_2 1))))) (IntKind.wrap .i64 (n_2 + 1)) H2 ∧
M2 (xorI .u32 (shrI .u32 c_2 1) (andI .u32 2197175160 (IntKind.wrap .u32 (0 - (andI .u32 c_2 1))))) (IntKind.wrap .i64 (n_2 + 1)) H2 < M2 c_2 n_2 H2)
 (
SelfEq ([.v (.string b), .v (.int .i64 (b.size : Nat))], [], []) ∧
I1 c_2 (IntKind.wrap .i64 (n_1 + 1)) H2 ∧
M1 c_2 (IntKind.wrap .i64 (n_1 + 1)) H2 < M1 c_1 n_1 H1))
 (
K (.int .i64 (IntKind.wrap .i64 (xorI .u32 4294967295 c_1))) H1)
theorem wire_Crc_fn (b : ByteArray) {H : Heap} {K : Value → Heap → Prop} (h : wire_Crc_vc b H K) : FnH Tryz.prog 100 #[.string b] H K :=
  denFn_fn Tryz.mixed wire_Crc_ann Tryz.func100 (bodyOf_spec (by kernel_rfl)) (by kernel_rfl) h
def disk_Disk_Cut_ann : Anns := { hid := [7], loops := [], joins := [], mix := [(6, [11])] }
def disk_Disk_Cut_vc (d0 d0o : Nat) (name : ByteArray) (n : Int) (H : Heap) (K : Value → Heap → Prop) : Prop :=
∃ m1 : Option Nat,
cellH H ⟨d0, d0o + 2, none⟩ = some (.map m1) ∧
runH Tryz.prog (Instr.lookup 102 (.map m1) (.string name) true) H fun r1 H1 =>
∃ s1 : ByteArray,
∃ n1 : Int,
∃ b1 : Bool,
r1 = .tuple #[.agg #[.string s1, .int .i64 n1], .bool b1] ∧
br (!b1) (
K (.int .i64 8) H1)
 (
br (decide ((n : Int) < 0)) (
K (.int .i64 1) H1)
 (
br (decide ((n : Int) > (s1.size : Nat))) (
K (.int .i64 1) H1)
 (
0 ≤ (n : Int) ∧
 (n : Int) ≤ (s1.size : Nat) ∧
FnH Tryz.prog 41 #[.pointer (some ⟨d0, d0o, none⟩), .string name, .agg #[.string (s1.extract (Int.toNat (0 : Int)) (Int.toNat n)), .int .i64 (if n < n1 then n else n1)]] H1 fun r2 H2 =>
r2 = .tuple #[] ∧
K (.int .i64 0) H2)))
theorem disk_Disk_Cut_fn (d0 d0o : Nat) (name : ByteArray) (n : Int) {H : Heap} {K : Value → Heap → Prop} (h : disk_Disk_Cut_vc d0 d0o name n H K) : FnH Tryz.prog 102 #[.pointer (some ⟨d0, d0o, none⟩), .string name, .int .i64 n] H K :=
  denFn_fn Tryz.mixed disk_Disk_Cut_ann Tryz.func102 (bodyOf_spec (by kernel_rfl)) (by kernel_rfl) h
def disk_Disk_room_ann : Anns := { hid := [5], loops := [], joins := [], mix := [] }
def disk_Disk_room_vc (d0 d0o : Nat) (name : ByteArray) (H : Heap) (K : Value → Heap → Prop) : Prop :=
FnH Tryz.prog 161 #[.string name] H fun r1 H1 =>
∃ b1 : Bool,
r1 = .bool b1 ∧
br (!b1) (
K (.int .i64 1) H1)
 (
∃ m1 : Option Nat,
cellH H1 ⟨d0, d0o + 2, none⟩ = some (.map m1) ∧
runH Tryz.prog (Instr.lookup 102 (.map m1) (.string name) true) H1 fun r2 H2 =>
∃ s1 : ByteArray,
∃ n1 : Int,
∃ b2 : Bool,
r2 = .tuple #[.agg #[.string s1, .int .i64 n1], .bool b2] ∧
br (!b2) (
∃ m2 : Option Nat,
cellH H2 ⟨d0, d0o + 2, none⟩ = some (.map m2) ∧
lenM H2 m2 fun n2 =>
br (decide (((n2 : Nat) : Int) ≥ 256)) (
K (.int .i64 3) H2)
 (
K (.int .i64 0) H2))
 (
K (.int .i64 0) H2))
theorem disk_Disk_room_fn (d0 d0o : Nat) (name : ByteArray) {H : Heap} {K : Value → Heap → Prop} (h : disk_Disk_room_vc d0 d0o name H K) : FnH Tryz.prog 137 #[.pointer (some ⟨d0, d0o, none⟩), .string name] H K :=
  denFn_fn Tryz.mixed disk_Disk_room_ann Tryz.func137 (bodyOf_spec (by kernel_rfl)) (by kernel_rfl) h
def disk_Disk_Free_ann : Anns := { hid := [], loops := [], joins := [], mix := [] }
def disk_Disk_Free_vc (d0 d0o : Nat) (H : Heap) (K : Value → Heap → Prop) : Prop :=
∃ n1 : Int,
cellH H ⟨d0, d0o, none⟩ = some (.int .i64 n1) ∧
∃ n2 : Int,
cellH H ⟨d0, d0o + 1, none⟩ = some (.int .i64 n2) ∧
K (.int .i64 (IntKind.wrap .i64 (n1 - n2))) H
theorem disk_Disk_Free_fn (d0 d0o : Nat) {H : Heap} {K : Value → Heap → Prop} (h : disk_Disk_Free_vc d0 d0o H K) : FnH Tryz.prog 138 #[.pointer (some ⟨d0, d0o, none⟩)] H K :=
  denFn_fn Tryz.mixed disk_Disk_Free_ann Tryz.func138 (bodyOf_spec (by kernel_rfl)) (by kernel_rfl) h
def disk_Disk_Size_ann : Anns := { hid := [], loops := [], joins := [], mix := [] }
def disk_Disk_Size_vc (d0 d0o : Nat) (name : ByteArray) (H : Heap) (K : Value → Heap → Prop) : Prop :=
∃ m1 : Option Nat,
cellH H ⟨d0, d0o + 2, none⟩ = some (.map m1) ∧
runH Tryz.prog (Instr.lookup 102 (.map m1) (.string name) false) H fun r1 H1 =>
∃ s1 : ByteArray,
∃ n1 : Int,
r1 = .agg #[.string s1, .int .i64 n1] ∧
K (.int .i64 (s1.size : Nat)) H1
theorem disk_Disk_Size_fn (d0 d0o : Nat) (name : ByteArray) {H : Heap} {K : Value → Heap → Prop} (h : disk_Disk_Size_vc d0 d0o name H K) : FnH Tryz.prog 139 #[.pointer (some ⟨d0, d0o, none⟩), .string name] H K :=
  denFn_fn Tryz.mixed disk_Disk_Size_ann Tryz.func139 (bodyOf_spec (by kernel_rfl)) (by kernel_rfl) h
def wire_appendInt_ann : Anns := { hid := [], loops := [(0, { slots := [(0, .slice), (5, .int .u64)], kept := [], locs := [], keptL := [] })], joins := [], mix := [] }
def wire_appendInt_vc (b : Sl) (n : Int) (H : Heap) (K : Value → Heap → Prop) : Prop :=
∃ I1 : Sl → Int → Heap → Prop,
∃ M1 : Sl → Int → Heap → Nat,
I1 b (IntKind.wrap .u64 (xorI .i64 (shlI .i64 n 1) (shrI .i64 n 63))) H ∧
∀ b_1 : Sl,
∀ z_1 : Int,
∀ H1 : Heap,
I1 b_1 z_1 H1 →
br (decide ((z_1 : Int) ≥ 128)) (
∀ q1 : Nat,
H1 q1 = none →
letH (Heap.upd H1 q1 (.cells #[.int .u8 (orI .u8 (IntKind.wrap .u8 z_1) 128)] 5 (0, 0))) fun H2 =>
runH Tryz.prog (Builtin.append_ #[119, 119] 119 #[.slice b_1.p b_1.n b_1.c, .slice (some ⟨q1, 0, none⟩) 1 1]) H2 fun r1 H3 =>
∃ l1 : Sl,
r1 = .slice l1.p l1.n l1.c ∧
SelfEq ([], [], []) ∧
I1 l1 (shrI .u64 z_1 7) H3 ∧
M1 l1 (shrI .u64 z_1 7) H3 < M1 b_1 z_1 H1)
 (
∀ q2 : Nat,
H1 q2 = none →
letH (Heap.upd H1 q2 (.cells #[.int .u8 (IntKind.wrap .u8 z_1)] 5 (0, 0))) fun H4 =>
runH Tryz.prog (Builtin.append_ #[119, 119] 119 #[.slice b_1.p b_1.n b_1.c, .slice (some ⟨q2, 0, none⟩) 1 1]) H4 fun r2 H5 =>
∃ l2 : Sl,
r2 = .slice l2.p l2.n l2.c ∧
K (.slice l2.p l2.n l2.c) H5)
theorem wire_appendInt_fn (b : Sl) (n : Int) {H : Heap} {K : Value → Heap → Prop} (h : wire_appendInt_vc b n H K) : FnH Tryz.prog 141 #[.slice b.p b.n b.c, .int .i64 n] H K :=
  denFn_fn Tryz.mixed wire_appendInt_ann Tryz.func141 (bodyOf_spec (by kernel_rfl)) (by kernel_rfl) h
def disk_Disk_Append_ann : Anns := { hid := [8], loops := [], joins := [], mix := [(6, [11])] }
def disk_Disk_Append_vc (d0 d0o : Nat) (name b : ByteArray) (H : Heap) (K : Value → Heap → Prop) : Prop :=
FnH Tryz.prog 137 #[.pointer (some ⟨d0, d0o, none⟩), .string name] H fun r1 H1 =>
∃ n1 : Int,
r1 = .int .i64 n1 ∧
br ((n1 : Int) != 0) (
K (.int .i64 n1) H1)
 (
∃ m1 : Option Nat,
cellH H1 ⟨d0, d0o + 2, none⟩ = some (.map m1) ∧
runH Tryz.prog (Instr.lookup 102 (.map m1) (.string name) false) H1 fun r2 H2 =>
∃ s1 : ByteArray,
∃ n2 : Int,
r2 = .agg #[.string s1, .int .i64 n2] ∧
FnH Tryz.prog 138 #[.pointer (some ⟨d0, d0o, none⟩)] H2 fun r3 H3 =>
∃ n3 : Int,
r3 = .int .i64 n3 ∧
0 ≤ (if n3 < ((b.size : Nat) : Int) then n3 else ((b.size : Nat) : Int) : Int) ∧
 (if n3 < ((b.size : Nat) : Int) then n3 else ((b.size : Nat) : Int) : Int) ≤ (b.size : Nat) ∧
s1.size + (b.extract (Int.toNat (0 : Int)) (Int.toNat (if n3 < ((b.size : Nat) : Int) then n3 else ((b.size : Nat) : Int)))).size < 9223372036854775808 ∧
FnH Tryz.prog 41 #[.pointer (some ⟨d0, d0o, none⟩), .string name, .agg #[.string (s1 ++ (b.extract (Int.toNat (0 : Int)) (Int.toNat (if n3 < ((b.size : Nat) : Int) then n3 else ((b.size : Nat) : Int))))), .int .i64 n2]] H3 fun r4 H4 =>
r4 = .tuple #[] ∧
br (decide (((if n3 < ((b.size : Nat) : Int) then n3 else ((b.size : Nat) : Int)) : Int) < (b.size : Nat))) (
K (.int .i64 7) H4)
 (
K (.int .i64 0) H4))
theorem disk_Disk_Append_fn (d0 d0o : Nat) (name b : ByteArray) {H : Heap} {K : Value → Heap → Prop} (h : disk_Disk_Append_vc d0 d0o name b H K) : FnH Tryz.prog 143 #[.pointer (some ⟨d0, d0o, none⟩), .string name, .string b] H K :=
  denFn_fn Tryz.mixed disk_Disk_Append_ann Tryz.func143 (bodyOf_spec (by kernel_rfl)) (by kernel_rfl) h
def disk_Disk_Sync_ann : Anns := { hid := [5], loops := [], joins := [], mix := [] }
def disk_Disk_Sync_vc (d0 d0o : Nat) (name : ByteArray) (H : Heap) (K : Value → Heap → Prop) : Prop :=
∃ m1 : Option Nat,
cellH H ⟨d0, d0o + 2, none⟩ = some (.map m1) ∧
runH Tryz.prog (Instr.lookup 102 (.map m1) (.string name) true) H fun r1 H1 =>
∃ s1 : ByteArray,
∃ n1 : Int,
∃ b1 : Bool,
r1 = .tuple #[.agg #[.string s1, .int .i64 n1], .bool b1] ∧
br (!b1) (
K (.int .i64 8) H1)
 (
FnH Tryz.prog 41 #[.pointer (some ⟨d0, d0o, none⟩), .string name, .agg #[.string s1, .int .i64 (s1.size : Nat)]] H1 fun r2 H2 =>
r2 = .tuple #[] ∧
K (.int .i64 0) H2)
theorem disk_Disk_Sync_fn (d0 d0o : Nat) (name : ByteArray) {H : Heap} {K : Value → Heap → Prop} (h : disk_Disk_Sync_vc d0 d0o name H K) : FnH Tryz.prog 144 #[.pointer (some ⟨d0, d0o, none⟩), .string name] H K :=
  denFn_fn Tryz.mixed disk_Disk_Sync_ann Tryz.func144 (bodyOf_spec (by kernel_rfl)) (by kernel_rfl) h
def wire_ReadInt_ann : Anns := { hid := [], loops := [(0, { slots := [(5, .int .u64), (7, .int .i64)], kept := [0], locs := [], keptL := [] })], joins := [((0, 12), { slots := [(49, .bool)], kept := [5, 6], locs := [], keptL := [] })], mix := [] }
def wire_ReadInt_vc (b : ByteArray) (H : Heap) (K : Value → Heap → Prop) : Prop :=
∃ I1 : Int → Int → Heap → Prop,
∃ M1 : Int → Int → Heap → Nat,
I1 0 0 H ∧
∀ z_1 n_1 : Int,
∀ H1 : Heap,
I1 z_1 n_1 H1 →
br (decide ((n_1 : Int) < 10)) (
br ((n_1 : Int) == (b.size : Nat)) (
K (.tuple #[.int .i64 0, .int .i64 0, .int .i64 5]) H1)
 (
br ((n_1 : Int) == 9) (
0 ≤ (n_1 : Int) ∧
∃ c1 : UInt8,
b[Int.toNat n_1]? = some c1 ∧
br (decide (((c1.toNat : Int) : Int) > 1)) (
K (.tuple #[.int .i64 0, .int .i64 0, .int .i64 4]) H1)
 (
0 ≤ (n_1 : Int) ∧
∃ c2 : UInt8,
b[Int.toNat n_1]? = some c2 ∧
shG (decide (((IntKind.wrap .i64 (7 * n_1)) : Int) < 0)) (
0 ≤ (n_1 : Int) ∧
∃ c3 : UInt8,
b[Int.toNat n_1]? = some c3 ∧
br (decide (((c3.toNat : Int) : Int) > 127)) (
SelfEq ([.v (.string b)], [], []) ∧
I1 (orI .u64 z_1 (shlI .u64 (IntKind.wrap .u64 (andI .u8 (c2.toNat : Int) 127)) (IntKind.wrap .i64 (7 * n_1)))) (IntKind.wrap .i64 (n_1 + 1)) H1 ∧
M1 (orI .u64 z_1 (shlI .u64 (IntKind.wrap .u64 (andI .u8 (c2.toNat : Int) 127)) (IntKind.wrap .i64 (7 * n_1)))) (IntKind.wrap .i64 (n_1 + 1)) H1 < M1 z_1 n_1 H1)
 (
∃ J1 : Bool → Heap → Prop,
 (br (decide ((n_1 : Int) > 0)) (
0 ≤ (n_1 : Int) ∧
∃ c4 : UInt8,
b[Int.toNat n_1]? = some c4 ∧
SelfEq ([.v (.int .u64 (orI .u64 z_1 (shlI .u64 (IntKind.wrap .u64 (andI .u8 (c2.toNat : Int) 127)) (IntKind.wrap .i64 (7 * n_1))))), .v (.int .i64 n_1)], [], []) ∧
J1 (((c4.toNat : Int) : Int) == 0) H1)
 (
SelfEq ([.v (.int .u64 (orI .u64 z_1 (shlI .u64 (IntKind.wrap .u64 (andI .u8 (c2.toNat : Int) 127)) (IntKind.wrap .i64 (7 * n_1))))), .v (.int .i64 n_1)], [], []) ∧
J1 false H1)) ∧
∀ b_1 : Bool,
∀ H2 : Heap,
J1 b_1 H2 →
br (b_1) (
K (.tuple #[.int .i64 0, .int .i64 0, .int .i64 4]) H2)
 (
K (.tuple #[.int .i64 (xorI .i64 (IntKind.wrap .i64 (shrI .u64 (orI .u64 z_1 (shlI .u64 (IntKind.wrap .u64 (andI .u8 (c2.toNat : Int) 127)) (IntKind.wrap .i64 (7 * n_1)))) 1)) (IntKind.wrap .i64 (0 - (IntKind.wrap .i64 (andI .u64 (orI .u64 z_1 (shlI .u64 (IntKind.wrap .u64 (andI .u8 (c2.toNat : Int) 127)) (IntKind.wrap .i64 (7 * n_1)))) 1))))), .int .i64 (IntKind.wrap .i64 (n_1 + 1)), .int .i64 0]) H2)))))
 (
0 ≤ (n_1 : Int) ∧
∃ c5 : UInt8,
b[Int.toNat n_1]? = some c5 ∧
shG (decide (((IntKind.wrap .i64 (7 * n_1)) : Int) < 0)) (
0 ≤ (n_1 : Int) ∧
∃ c6 : UInt8,
b[Int.toNat n_1]? = some c6 ∧
br (decide (((c6.toNat : Int) : Int) > 127)) (
SelfEq ([.v (.string b)], [], []) ∧
I1 (orI .u64 z_1 (shlI .u64 (IntKind.wrap .u64 (andI .u8 (c5.toNat : Int) 127)) (IntKind.wrap .i64 (7 * n_1)))) (IntKind.wrap .i64 (n_1 + 1)) H1 ∧
M1 (orI .u64 z_1 (shlI .u64 (IntKind.wrap .u64 (andI .u8 (c5.toNat : Int) 127)) (IntKind.wrap .i64 (7 * n_1)))) (IntKind.wrap .i64 (n_1 + 1)) H1 < M1 z_1 n_1 H1)
 (
∃ J2 : Bool → Heap → Prop,
 (br (decide ((n_1 : Int) > 0)) (
0 ≤ (n_1 : Int) ∧
∃ c7 : UInt8,
b[Int.toNat n_1]? = some c7 ∧
SelfEq ([.v (.int .u64 (orI .u64 z_1 (shlI .u64 (IntKind.wrap .u64 (andI .u8 (c5.toNat : Int) 127)) (IntKind.wrap .i64 (7 * n_1))))), .v (.int .i64 n_1)], [], []) ∧
J2 (((c7.toNat : Int) : Int) == 0) H1)
 (
SelfEq ([.v (.int .u64 (orI .u64 z_1 (shlI .u64 (IntKind.wrap .u64 (andI .u8 (c5.toNat : Int) 127)) (IntKind.wrap .i64 (7 * n_1))))), .v (.int .i64 n_1)], [], []) ∧
J2 false H1)) ∧
∀ b_2 : Bool,
∀ H3 : Heap,
J2 b_2 H3 →
br (b_2) (
K (.tuple #[.int .i64 0, .int .i64 0, .int .i64 4]) H3)
 (
K (.tuple #[.int .i64 (xorI .i64 (IntKind.wrap .i64 (shrI .u64 (orI .u64 z_1 (shlI .u64 (IntKind.wrap .u64 (andI .u8 (c5.toNat : Int) 127)) (IntKind.wrap .i64 (7 * n_1)))) 1)) (IntKind.wrap .i64 (0 - (IntKind.wrap .i64 (andI .u64 (orI .u64 z_1 (shlI .u64 (IntKind.wrap .u64 (andI .u8 (c5.toNat : Int) 127)) (IntKind.wrap .i64 (7 * n_1)))) 1))))), .int .i64 (IntKind.wrap .i64 (n_1 + 1)), .int .i64 0]) H3))))))
 (
K (.tuple #[.int .i64 0, .int .i64 0, .int .i64 4]) H1)
theorem wire_ReadInt_fn (b : ByteArray) {H : Heap} {K : Value → Heap → Prop} (h : wire_ReadInt_vc b H K) : FnH Tryz.prog 145 #[.string b] H K :=
  denFn_fn Tryz.mixed wire_ReadInt_ann Tryz.func145 (bodyOf_spec (by kernel_rfl)) (by kernel_rfl) h
def disk_named_ann : Anns := { hid := [], loops := [], joins := [], mix := [] }
def disk_named_vc (s : ByteArray) (H : Heap) (K : Value → Heap → Prop) : Prop :=
br (!(s.toList == (⟨#[]⟩ : ByteArray).toList)) (
br (decide (((s.size : Nat) : Int) ≤ 64)) (
FnH Tryz.prog 178 #[.string s, .string (⟨#[97, 98, 99, 100, 101, 102, 103, 104, 105, 106, 107, 108, 109, 110, 111, 112, 113, 114, 115, 116, 117, 118, 119, 120, 121, 122, 48, 49, 50, 51, 52, 53, 54, 55, 56, 57, 45, 46]⟩ : ByteArray)] H fun r1 H1 =>
∃ s1 : ByteArray,
r1 = .string s1 ∧
K (.bool (s1.toList == (⟨#[]⟩ : ByteArray).toList)) H1)
 (
K (.bool false) H))
 (
K (.bool false) H)
theorem disk_named_fn (s : ByteArray) {H : Heap} {K : Value → Heap → Prop} (h : disk_named_vc s H K) : FnH Tryz.prog 161 #[.string s] H K :=
  denFn_fn Tryz.mixed disk_named_ann Tryz.func161 (bodyOf_spec (by kernel_rfl)) (by kernel_rfl) h
end Go.Proofs.YthldclmeojkboaaGreatDoor
