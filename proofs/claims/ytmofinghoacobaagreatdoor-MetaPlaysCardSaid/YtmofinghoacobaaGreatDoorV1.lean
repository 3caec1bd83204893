import Derived.Test.YtmofinghoacobaaGreatDoorProg
import Derived.KernelRfl
import Derived.Test.YtmofinghoacobaaGreatDoorHlFn
namespace Go.Proofs.YtmofinghoacobaaGreatDoor
open Go.HL
set_option maxRecDepth 100000
theorem Tryz.mixed : Tryz.prog.follows .mixedOrders = true := by kernel_rfl
def wire_Int_ann : Anns := { hid := [], loops := [], joins := [], mix := [] }
def wire_Int_vc (n : Int) (H : Heap) (K : Value → Heap → Prop) : Prop :=
FnH Tryz.prog 82 #[.slice none 0 0, .int .i64 n] H fun r1 H1 =>
∃ l1 : Sl,
r1 = .slice l1.p l1.n l1.c ∧
runH Tryz.prog (convert 58 9 (.slice l1.p l1.n l1.c)) H1 fun r2 H2 =>
∃ s1 : ByteArray,
r2 = .string s1 ∧
K (.string s1) H2
theorem wire_Int_fn (n : Int) {H : Heap} {K : Value → Heap → Prop} (h : wire_Int_vc n H K) : FnH Tryz.prog 41 #[.int .i64 n] H K :=
  denFn_fn Tryz.mixed wire_Int_ann Tryz.func41 (bodyOf_spec (by kernel_rfl)) (by kernel_rfl) h
def wire_Crc_ann : Anns := { hid := [], loops := [(0, { slots := [(3, .int .u32), (7, .int .i64)], kept := [0, 6], locs := [], keptL := [] }), (2, { slots := [(3, .int .u32), (16, .int .i64)], kept := [0, 6, 7], locs := [], keptL := [] })], joins := [], mix := [] }
def wire_Crc_vc (b : ByteArray) (H : Heap) (K : Value → Heap → Prop) : Prop :=
∃ I1 : Int → Int → Heap → Prop,
∃ M1 : Int → Int → Heap → Nat,
I1 4294967295 0 H ∧
∀ c_1 n_1 : Int,
∀ H1 : Heap,
I1 c_1 n_1 H1 →
br (decide ((n_1 : Int) < (b.size : Nat))) (
0 ≤ (n_1 : Int) ∧
∃ c1 : UInt8,
b[Int.toNat n_1]? = some c1 ∧
∃ I2 : Int → Int → Heap → Prop,
∃ M2 : Int → Int → Heap → Nat,
I2 (xorI .u32 c_1 (IntKind.wrap .u32 (c1.toNat : Int))) 0 H1 ∧
∀ c_2 n_2 : Int,
∀ H2 : Heap,
I2 c_2 n_2 H2 →
br (decide ((n_2 : Int) < 8)) (
SelfEq ([.v (.string b), .v (.int .i64 (b.size : Nat)), .v (.int .i64 n_1)], [], []) ∧
I2 (xorI .u32 (shrI .u32 c_2 1) (andI .u32 2197175160 (IntKind.wrap .u32 (0 - (andI .u32 c_2 1))))) (IntKind.wrap .i64 (n_2 + 1)) H2 ∧
M2 (xorI .u32 (shrI .u32 c_2 1) (andI .u32 2197175160 (IntKind.wrap .u32 (0 - (andI .u32 c_2 1))))) (IntKind.wrap .i64 (n_2 + 1)) H2 < M2 c_2 n_2 H2)
 (
SelfEq ([.v (.string b), .v (.int .i64 (b.size : Nat))], [], []) ∧
I1 c_2 (IntKind.wrap .i64 (n_1 + 1)) H2 ∧
M1 c_2 (IntKind.wrap .i64 (n_1 + 1)) H2 < M1 c_1 n_1 H1))
 (
K (.int .i64 (IntKind.wrap .i64 (xorI .u32 4294967295 c_1))) H1)
theorem wire_Crc_fn (b : ByteArray) {H : Heap} {K : Value → Heap → Prop} (h : wire_Crc_vc b H K) : FnH Tryz.prog 44 #[.string b] H K :=
  denFn_fn Tryz.mixed wire_Crc_ann Tryz.func44 (bodyOf_spec (by kernel_rfl)) (by kernel_rfl) h
def logboomref3_Int_ann : Anns := { hid := [], loops := [(0, { slots := [(3, .int .u64), (4, .slice)], kept := [], locs := [], keptL := [] })], joins := [], mix := [] }
def logboomref3_Int_vc (n : Int) (H : Heap) (K : Value → Heap → Prop) : Prop :=
br (decide ((n : Int) < 0)) (
∃ I1 : Int → Sl → Heap → Prop,
∃ M1 : Int → Sl → Heap → Nat,
I1 (IntKind.wrap .u64 ((IntKind.wrap .u64 (2 * (IntKind.wrap .u64 (IntKind.wrap .i64 (0 - (IntKind.wrap .i64 (n + 1))))))) + 1)) ⟨none, 0, 0⟩ H ∧
∀ z_1 : Int,
∀ b_1 : Sl,
∀ H1 : Heap,
I1 z_1 b_1 H1 →
br (decide ((z_1 : Int) ≥ 128)) (
 (128 : Int) ≠ 0 ∧
∀ q1 : Nat,
H1 q1 = none →
letH (Heap.upd H1 q1 (.cells #[.int .u8 (IntKind.wrap .u8 (IntKind.wrap .u64 ((Int.tmod z_1 128) + 128)))] 5 (0, 0))) fun H2 =>
runH Tryz.prog (Builtin.append_ #[58, 58] 58 #[.slice b_1.p b_1.n b_1.c, .slice (some ⟨q1, 0, none⟩) 1 1]) H2 fun r1 H3 =>
∃ l1 : Sl,
r1 = .slice l1.p l1.n l1.c ∧
 (128 : Int) ≠ 0 ∧
SelfEq ([], [], []) ∧
I1 (IntKind.wrap .u64 (Int.tdiv z_1 128)) l1 H3 ∧
M1 (IntKind.wrap .u64 (Int.tdiv z_1 128)) l1 H3 < M1 z_1 b_1 H1)
 (
∀ q2 : Nat,
H1 q2 = none →
letH (Heap.upd H1 q2 (.cells #[.int .u8 (IntKind.wrap .u8 z_1)] 5 (0, 0))) fun H4 =>
runH Tryz.prog (Builtin.append_ #[58, 58] 58 #[.slice b_1.p b_1.n b_1.c, .slice (some ⟨q2, 0, none⟩) 1 1]) H4 fun r2 H5 =>
∃ l2 : Sl,
r2 = .slice l2.p l2.n l2.c ∧
runH Tryz.prog (convert 58 9 (.slice l2.p l2.n l2.c)) H5 fun r3 H6 =>
∃ s1 : ByteArray,
r3 = .string s1 ∧
K (.string s1) H6))
 (
∃ I2 : Int → Sl → Heap → Prop,
∃ M2 : Int → Sl → Heap → Nat,
I2 (IntKind.wrap .u64 (2 * (IntKind.wrap .u64 n))) ⟨none, 0, 0⟩ H ∧
∀ z_2 : Int,
∀ b_2 : Sl,
∀ H7 : Heap,
I2 z_2 b_2 H7 →
br (decide ((z_2 : Int) ≥ 128)) (
 (128 : Int) ≠ 0 ∧
∀ q3 : Nat,
H7 q3 = none →
letH (Heap.upd H7 q3 (.cells #[.int .u8 (IntKind.wrap .u8 (IntKind.wrap .u64 ((Int.tmod z_2 128) + 128)))] 5 (0, 0))) fun H8 =>
runH Tryz.prog (Builtin.append_ #[58, 58] 58 #[.slice b_2.p b_2.n b_2.c, .slice (some ⟨q3, 0, none⟩) 1 1]) H8 fun r4 H9 =>
∃ l3 : Sl,
r4 = .slice l3.p l3.n l3.c ∧
 (128 : Int) ≠ 0 ∧
SelfEq ([], [], []) ∧
I2 (IntKind.wrap .u64 (Int.tdiv z_2 128)) l3 H9 ∧
M2 (IntKind.wrap .u64 (Int.tdiv z_2 128)) l3 H9 < M2 z_2 b_2 H7)
 (
∀ q4 : Nat,
H7 q4 = none →
letH (Heap.upd H7 q4 (.cells #[.int .u8 (IntKind.wrap .u8 z_2)] 5 (0, 0))) fun H10 =>
runH Tryz.prog (Builtin.append_ #[58, 58] 58 #[.slice b_2.p b_2.n b_2.c, .slice (some ⟨q4, 0, none⟩) 1 1]) H10 fun r5 H11 =>
∃ l4 : Sl,
r5 = .slice l4.p l4.n l4.c ∧
runH Tryz.prog (convert 58 9 (.slice l4.p l4.n l4.c)) H11 fun r6 H12 =>
∃ s2 : ByteArray,
r6 = .string s2 ∧
K (.string s2) H12))
theorem logboomref3_Int_fn (n : Int) {H : Heap} {K : Value → Heap → Prop} (h : logboomref3_Int_vc n H K) : FnH Tryz.prog 57 #[.int .i64 n] H K :=
  denFn_fn Tryz.mixed logboomref3_Int_ann Tryz.func57 (bodyOf_spec (by kernel_rfl)) (by kernel_rfl) h
def wire_appendInt_ann : Anns := { hid := [], loops := [(0, { slots := [(0, .slice), (5, .int .u64)], kept := [], locs := [], keptL := [] })], joins := [], mix := [] }
def wire_appendInt_vc (b : Sl) (n : Int) (H : Heap) (K : Value → Heap → Prop) : Prop :=
∃ I1 : Sl → Int → Heap → Prop,
∃ M1 : Sl → Int → Heap → Nat,
I1 b (IntKind.wrap .u64 (xorI .i64 (shlI .i64 n 1) (shrI .i64 n 63))) H ∧
∀ b_1 : Sl,
∀ z_1 : Int,
∀ H1 : Heap,
I1 b_1 z_1 H1 →
br (decide ((z_1 : Int) ≥ 128)) (
∀ q1 : Nat,
H1 q1 = none →
letH (Heap.upd H1 q1 (.cells #[.int .u8 (orI .u8 (IntKind.wrap .u8 z_1) 128)] 5 (0, 0))) fun H2 =>
runH Tryz.prog (Builtin.append_ #[58, 58] 58 #[.slice b_1.p b_1.n b_1.c, .slice (some ⟨q1, 0, none⟩) 1 1]) H2 fun r1 H3 =>
∃ l1 : Sl,
r1 = .slice l1.p l1.n l1.c ∧
SelfEq ([], [], []) ∧
I1 l1 (shrI .u64 z_1 7) H3 ∧
M1 l1 (shrI .u64 z_1 7) H3 < M1 b_1 z_1 H1)
 (
∀ q2 : Nat,
H1 q2 = none →
letH (Heap.upd H1 q2 (.cells #[.int .u8 (IntKind.wrap .u8 z_1)] 5 (0, 0))) fun H4 =>
runH Tryz.prog (Builtin.append_ #[58, 58] 58 #[.slice b_1.p b_1.n b_1.c, .slice (some ⟨q2, 0, none⟩) 1 1]) H4 fun r2 H5 =>
∃ l2 : Sl,
r2 = .slice l2.p l2.n l2.c ∧
K (.slice l2.p l2.n l2.c) H5)
theorem wire_appendInt_fn (b : Sl) (n : Int) {H : Heap} {K : Value → Heap → Prop} (h : wire_appendInt_vc b n H K) : FnH Tryz.prog 82 #[.slice b.p b.n b.c, .int .i64 n] H K :=
  denFn_fn Tryz.mixed wire_appendInt_ann Tryz.func82 (bodyOf_spec (by kernel_rfl)) (by kernel_rfl) h
def wire_ReadInt_ann : Anns := { hid := [], loops := [(0, { slots := [(5, .int .u64), (7, .int .i64)], kept := [0], locs := [], keptL := [] })], joins := [((0, 12), { slots := [(49, .bool)], kept := [5, 6], locs := [], keptL := [] })], mix := [] }
def wire_ReadInt_vc (b : ByteArray) (H : Heap) (K : Value → Heap → Prop) : Prop :=
∃ I1 : Int → Int → Heap → Prop,
∃ M1 : Int → Int → Heap → Nat,
I1 0 0 H ∧
∀ z_1 n_1 : Int,
∀ H1 : Heap,
I1 z_1 n_1 H1 →
br (decide ((n_1 : Int) < 10)) (
br ((n_1 : Int) == (b.size : Nat)) (
K (.tuple #[.int .i64 0, .int .i64 0, .int .i64 5]) H1)
 (
br ((n_1 : Int) == 9) (
0 ≤ (n_1 : Int) ∧
∃ c1 : UInt8,
b[Int.toNat n_1]? = some c1 ∧
br (decide (((c1.toNat : Int) : Int) > 1)) (
K (.tuple #[.int .i64 0, .int .i64 0, .int .i64 4]) H1)
 (
0 ≤ (n_1 : Int) ∧
∃ c2 : UInt8,
b[Int.toNat n_1]? = some c2 ∧
shG (decide (((IntKind.wrap .i64 (7 * n_1)) : Int) < 0)) (
0 ≤ (n_1 : Int) ∧
∃ c3 : UInt8,
b[Int.toNat n_1]? = some c3 ∧
br (decide (((c3.toNat : Int) : Int) > 127)) (
SelfEq ([.v (.string b)], [], []) ∧
I1 (orI .u64 z_1 (shlI .u64 (IntKind.wrap .u64 (andI .u8 (c2.toNat : Int) 127)) (IntKind.wrap .i64 (7 * n_1)))) (IntKind.wrap .i64 (n_1 + 1)) H1 ∧
M1 (orI .u64 z_1 (shlI .u64 (IntKind.wrap .u64 (andI .u8 (c2.toNat : Int) 127)) (IntKind.wrap .i64 (7 * n_1)))) (IntKind.wrap .i64 (n_1 + 1)) H1 < M1 z_1 n_1 H1)
 (
∃ J1 : Bool → Heap → Prop,
 (br (decide ((n_1 : Int) > 0)) (
0 ≤ (n_1 : Int) ∧
∃ c4 : UInt8,
b[Int.toNat n_1]? = some c4 ∧
SelfEq ([.v (.int .u64 (orI .u64 z_1 (shlI .u64 (IntKind.wrap .u64 (andI .u8 (c2.toNat : Int) 127)) (IntKind.wrap .i64 (7 * n_1))))), .v (.int .i64 n_1)], [], []) ∧
J1 (((c4.toNat : Int) : Int) == 0) H1)
 (
SelfEq ([.v (.int .u64 (orI .u64 z_1 (shlI .u64 (IntKind.wrap .u64 (andI .u8 (c2.toNat : Int) 127)) (IntKind.wrap .i64 (7 * n_1))))), .v (.int .i64 n_1)], [], []) ∧
J1 false H1)) ∧
∀ b_1 : Bool,
∀ H2 : Heap,
J1 b_1 H2 →
br (b_1) (
K (.tuple #[.int .i64 0, .int .i64 0, .int .i64 4]) H2)
 (
K (.tuple #[.int .i64 (xorI .i64 (IntKind.wrap .i64 (shrI .u64 (orI .u64 z_1 (shlI .u64 (IntKind.wrap .u64 (andI .u8 (c2.toNat : Int) 127)) (IntKind.wrap .i64 (7 * n_1)))) 1)) (IntKind.wrap .i64 (0 - (IntKind.wrap .i64 (andI .u64 (orI .u64 z_1 (shlI .u64 (IntKind.wrap .u64 (andI .u8 (c2.toNat : Int) 127)) (IntKind.wrap .i64 (7 * n_1)))) 1))))), .int .i64 (IntKind.wrap .i64 (n_1 + 1)), .int .i64 0]) H2)))))
 (
0 ≤ (n_1 : Int) ∧
∃ c5 : UInt8,
b[Int.toNat n_1]? = some c5 ∧
shG (decide (((IntKind.wrap .i64 (7 * n_1)) : Int) < 0)) (
0 ≤ (n_1 : Int) ∧
∃ c6 : UInt8,
b[Int.toNat n_1]? = some c6 ∧
br (decide (((c6.toNat : Int) : Int) > 127)) (
SelfEq ([.v (.string b)], [], []) ∧
I1 (orI .u64 z_1 (shlI .u64 (IntKind.wrap .u64 (andI .u8 (c5.toNat : Int) 127)) (IntKind.wrap .i64 (7 * n_1)))) (IntKind.wrap .i64 (n_1 + 1)) H1 ∧
M1 (orI .u64 z_1 (shlI .u64 (IntKind.wrap .u64 (andI .u8 (c5.toNat : Int) 127)) (IntKind.wrap .i64 (7 * n_1)))) (IntKind.wrap .i64 (n_1 + 1)) H1 < M1 z_1 n_1 H1)
 (
∃ J2 : Bool → Heap → Prop,
 (br (decide ((n_1 : Int) > 0)) (
0 ≤ (n_1 : Int) ∧
∃ c7 : UInt8,
b[Int.toNat n_1]? = some c7 ∧
SelfEq ([.v (.int .u64 (orI .u64 z_1 (shlI .u64 (IntKind.wrap .u64 (andI .u8 (c5.toNat : Int) 127)) (IntKind.wrap .i64 (7 * n_1))))), .v (.int .i64 n_1)], [], []) ∧
J2 (((c7.toNat : Int) : Int) == 0) H1)
 (
SelfEq ([.v (.int .u64 (orI .u64 z_1 (shlI .u64 (IntKind.wrap .u64 (andI .u8 (c5.toNat : Int) 127)) (IntKind.wrap .i64 (7 * n_1))))), .v (.int .i64 n_1)], [], []) ∧
J2 false H1)) ∧
∀ b_2 : Bool,
∀ H3 : Heap,
J2 b_2 H3 →
br (b_2) (
K (.tuple #[.int .i64 0, .int .i64 0, .int .i64 4]) H3)
 (
K (.tuple #[.int .i64 (xorI .i64 (IntKind.wrap .i64 (shrI .u64 (orI .u64 z_1 (shlI .u64 (IntKind.wrap .u64 (andI .u8 (c5.toNat : Int) 127)) (IntKind.wrap .i64 (7 * n_1)))) 1)) (IntKind.wrap .i64 (0 - (IntKind.wrap .i64 (andI .u64 (orI .u64 z_1 (shlI .u64 (IntKind.wrap .u64 (andI .u8 (c5.toNat : Int) 127)) (IntKind.wrap .i64 (7 * n_1)))) 1))))), .int .i64 (IntKind.wrap .i64 (n_1 + 1)), .int .i64 0]) H3))))))
 (
K (.tuple #[.int .i64 0, .int .i64 0, .int .i64 4]) H1)
theorem wire_ReadInt_fn (b : ByteArray) {H : Heap} {K : Value → Heap → Prop} (h : wire_ReadInt_vc b H K) : FnH Tryz.prog 84 #[.string b] H K :=
  denFn_fn Tryz.mixed wire_ReadInt_ann Tryz.func84 (bodyOf_spec (by kernel_rfl)) (by kernel_rfl) h
def logboomref3_Four_ann : Anns := { hid := [], loops := [], joins := [], mix := [] }
def logboomref3_Four_vc (n : Int) (H : Heap) (K : Value → Heap → Prop) : Prop :=
 (16777216 : Int) ≠ 0 ∧
 (65536 : Int) ≠ 0 ∧
 (256 : Int) ≠ 0 ∧
 (256 : Int) ≠ 0 ∧
 (256 : Int) ≠ 0 ∧
 (256 : Int) ≠ 0 ∧
∀ q1 : Nat,
H q1 = none →
letH (Heap.upd H q1 (.cells #[.int .u8 (IntKind.wrap .u8 (IntKind.wrap .i64 (Int.tdiv n 16777216))), .int .u8 (IntKind.wrap .u8 (Int.tmod (IntKind.wrap .i64 (Int.tdiv n 65536)) 256)), .int .u8 (IntKind.wrap .u8 (Int.tmod (IntKind.wrap .i64 (Int.tdiv n 256)) 256)), .int .u8 (IntKind.wrap .u8 (Int.tmod n 256))] 5 (0, 0))) fun H1 =>
runH Tryz.prog (convert 58 9 (.slice (some ⟨q1, 0, none⟩) 4 4)) H1 fun r1 H2 =>
∃ s1 : ByteArray,
r1 = .string s1 ∧
K (.string s1) H2
theorem logboomref3_Four_fn (n : Int) {H : Heap} {K : Value → Heap → Prop} (h : logboomref3_Four_vc n H K) : FnH Tryz.prog 99 #[.int .i64 n] H K :=
  denFn_fn Tryz.mixed logboomref3_Four_ann Tryz.func99 (bodyOf_spec (by kernel_rfl)) (by kernel_rfl) h
def logboomref3_Crc_ann : Anns := { hid := [], loops := [(0, { slots := [(3, .int .u32), (4, .int .i64)], kept := [0], locs := [], keptL := [] }), (2, { slots := [(3, .int .u32), (5, .int .i64)], kept := [0, 4], locs := [], keptL := [] })], joins := [], mix := [] }
def logboomref3_Crc_vc (b : ByteArray) (H : Heap) (K : Value → Heap → Prop) : Prop :=
∃ I1 : Int → Int → Heap → Prop,
∃ M1 : Int → Int → Heap → Nat,
I1 4294967295 0 H ∧
∀ c_1 i_1 : Int,
∀ H1 : Heap,
I1 c_1 i_1 H1 →
br (decide ((i_1 : Int) < (b.size : Nat))) (
0 ≤ (i_1 : Int) ∧
∃ c1 : UInt8,
b[Int.toNat i_1]? = some c1 ∧
∃ I2 : Int → Int → Heap → Prop,
∃ M2 : Int → Int → Heap → Nat,
I2 (xorI .u32 c_1 (IntKind.wrap .u32 (c1.toNat : Int))) 0 H1 ∧
∀ c_2 k_1 : Int,
∀ H2 : Heap,
I2 c_2 k_1 H2 →
br (decide ((k_1 : Int) < 8)) (
 (2 : Int) ≠ 0 ∧
 (2 : Int) ≠ 0 ∧
br (((Int.tmod c_2 2) : Int) == 1) (
SelfEq ([.v (.string b), .v (.int .i64 i_1)], [], []) ∧
I2 (xorI .u32 (IntKind.wrap .u32 (Int.tdiv c_2 2)) 2197175160) (IntKind.wrap .i64 (k_1 + 1)) H2 ∧
M2 (xorI .u32 (IntKind.wrap .u32 (Int.tdiv c_2 2)) 2197175160) (IntKind.wrap .i64 (k_1 + 1)) H2 < M2 c_2 k_1 H2)
 (
SelfEq ([.v (.string b), .v (.int .i64 i_1)], [], []) ∧
I2 (IntKind.wrap .u32 (Int.tdiv c_2 2)) (IntKind.wrap .i64 (k_1 + 1)) H2 ∧
M2 (IntKind.wrap .u32 (Int.tdiv c_2 2)) (IntKind.wrap .i64 (k_1 + 1)) H2 < M2 c_2 k_1 H2))
 (
SelfEq ([.v (.string b)], [], []) ∧
I1 c_2 (IntKind.wrap .i64 (i_1 + 1)) H2 ∧
M1 c_2 (IntKind.wrap .i64 (i_1 + 1)) H2 < M1 c_1 i_1 H1))
 (
K (.int .i64 (IntKind.wrap .i64 (xorI .u32 c_1 4294967295))) H1)
theorem logboomref3_Crc_fn (b : ByteArray) {H : Heap} {K : Value → Heap → Prop} (h : logboomref3_Crc_vc b H K) : FnH Tryz.prog 100 #[.string b] H K :=
  denFn_fn Tryz.mixed logboomref3_Crc_ann Tryz.func100 (bodyOf_spec (by kernel_rfl)) (by kernel_rfl) h
end Go.Proofs.YtmofinghoacobaaGreatDoor
