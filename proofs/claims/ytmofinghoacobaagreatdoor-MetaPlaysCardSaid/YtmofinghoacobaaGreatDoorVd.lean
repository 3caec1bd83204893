import Derived.Test.YtmofinghoacobaaGreatDoorProg
import Derived.KernelRfl
import Derived.Test.YtmofinghoacobaaGreatDoorHlFn
import Derived.Test.YtmofinghoacobaaGreatDoorVc
namespace Go.Proofs.YtmofinghoacobaaGreatDoor
open Go.HL
set_option maxRecDepth 100000
def logboomref12_list_ann : Anns := { hid := [], loops := [(0, { slots := [(3, .str), (4, .int .i64)], kept := [0], locs := [], keptL := [] })], joins := [], mix := [] }
def logboomref12_list_vc (l : Sl) (H : Heap) (K : Value → Heap → Prop) : Prop :=
FnH Tryz.prog 57 #[.int .i64 (l.n : Nat)] H fun r1 H1 =>
∃ s1 : ByteArray,
r1 = .string s1 ∧
∃ I1 : ByteArray → Int → Heap → Prop,
∃ M1 : ByteArray → Int → Heap → Nat,
I1 s1 0 H1 ∧
∀ s_1 : ByteArray,
∀ i_1 : Int,
∀ H2 : Heap,
I1 s_1 i_1 H2 →
br (decide ((i_1 : Int) < (l.n : Nat))) (
∃ q1 o1 : Nat,
 (l.p : Option Addr) = some ⟨q1, o1, none⟩ ∧
0 ≤ (i_1 : Int) ∧
 (i_1 : Int) < (l.n : Nat) ∧
∃ n1 : Int,
cellH H2 ⟨q1, o1 + Int.toNat i_1, none⟩ = some (.int .i64 n1) ∧
FnH Tryz.prog 57 #[.int .i64 n1] H2 fun r2 H3 =>
∃ s2 : ByteArray,
r2 = .string s2 ∧
s_1.size + s2.size < 9223372036854775808 ∧
SelfEq ([.v (.slice l.p l.n l.c)], [], []) ∧
I1 (s_1 ++ s2) (IntKind.wrap .i64 (i_1 + 1)) H3 ∧
M1 (s_1 ++ s2) (IntKind.wrap .i64 (i_1 + 1)) H3 < M1 s_1 i_1 H2)
 (
K (.string s_1) H2)
theorem logboomref12_list_fn (l : Sl) {H : Heap} {K : Value → Heap → Prop} (h : logboomref12_list_vc l H K) : FnH Tryz.prog 58 #[.slice l.p l.n l.c] H K :=
  denFn_fn Tryz.mixed logboomref12_list_ann Tryz.func58 (bodyOf_spec (by kernel_rfl)) (by kernel_rfl) h
def logboomref12_Summed_ann : Anns := { hid := [], loops := [], joins := [], mix := [] }
def logboomref12_Summed_vc (s : ByteArray) (H : Heap) (K : Value → Heap → Prop) : Prop :=
FnH Tryz.prog 100 #[.string s] H fun r1 H1 =>
∃ n1 : Int,
r1 = .int .i64 n1 ∧
FnH Tryz.prog 99 #[.int .i64 n1] H1 fun r2 H2 =>
∃ s1 : ByteArray,
r2 = .string s1 ∧
s1.size + s.size < 9223372036854775808 ∧
K (.string (s1 ++ s)) H2
theorem logboomref12_Summed_fn (s : ByteArray) {H : Heap} {K : Value → Heap → Prop} (h : logboomref12_Summed_vc s H K) : FnH Tryz.prog 59 #[.string s] H K :=
  denFn_fn Tryz.mixed logboomref12_Summed_ann Tryz.func59 (bodyOf_spec (by kernel_rfl)) (by kernel_rfl) h
def logboomref12_Image_Keep_ann : Anns := { hid := [5, 8, 10], loops := [(0, { slots := [(3, .str), (4, .int .i64)], kept := [0], locs := [], keptL := [] }), (2, { slots := [(3, .str), (7, .int .i64)], kept := [0], locs := [], keptL := [] }), (4, { slots := [(3, .str), (9, .int .i64)], kept := [0], locs := [], keptL := [] })], joins := [], mix := [(1, []), (9, []), (15, []), (21, [])] }
def logboomref12_Image_Keep_vc (m mo : Nat) (H : Heap) (K : Value → Heap → Prop) : Prop :=
∃ n1 : Int,
cellH H ⟨m, mo, none⟩ = some (.int .i64 n1) ∧
∃ l1 : Sl,
cellH H ⟨m, mo + 1, none⟩ = some (.slice l1.p l1.n l1.c) ∧
FnH Tryz.prog 57 #[.int .i64 n1] H fun r1 H1 =>
∃ s1 : ByteArray,
r1 = .string s1 ∧
Sub H H1 ∧
FnH Tryz.prog 57 #[.int .i64 (l1.n : Nat)] H1 fun r2 H2 =>
∃ s2 : ByteArray,
r2 = .string s2 ∧
Sub H H2 ∧
s1.size + s2.size < 9223372036854775808 ∧
∃ I1 : ByteArray → Int → Heap → Prop,
∃ M1 : ByteArray → Int → Heap → Nat,
I1 (s1 ++ s2) 0 H2 ∧
∀ s_1 : ByteArray,
∀ i_1 : Int,
∀ H3 : Heap,
I1 s_1 i_1 H3 →
∃ l2 : Sl,
cellH H3 ⟨m, mo + 1, none⟩ = some (.slice l2.p l2.n l2.c) ∧
br (decide ((i_1 : Int) < (l2.n : Nat))) (
∃ l3 : Sl,
cellH H3 ⟨m, mo + 1, none⟩ = some (.slice l3.p l3.n l3.c) ∧
∃ q1 o1 : Nat,
 (l3.p : Option Addr) = some ⟨q1, o1, none⟩ ∧
0 ≤ (i_1 : Int) ∧
 (i_1 : Int) < (l3.n : Nat) ∧
∃ n2 : Int,
cellH H3 ⟨q1, o1 + Int.toNat i_1 * 3, none⟩ = some (.int .i64 n2) ∧
∃ n3 : Int,
cellH H3 ⟨q1, o1 + Int.toNat i_1 * 3 + 1, none⟩ = some (.int .i64 n3) ∧
∃ b1 : Bool,
cellH H3 ⟨q1, o1 + Int.toNat i_1 * 3 + 2, none⟩ = some (.bool b1) ∧
br (b1) (
FnH Tryz.prog 57 #[.int .i64 n2] H3 fun r3 H4 =>
∃ s3 : ByteArray,
r3 = .string s3 ∧
Sub H3 H4 ∧
s_1.size + s3.size < 9223372036854775808 ∧
FnH Tryz.prog 57 #[.int .i64 n3] H4 fun r4 H5 =>
∃ s4 : ByteArray,
r4 = .string s4 ∧
Sub H3 H5 ∧
 (s_1 ++ s3).size + s4.size < 9223372036854775808 ∧
FnH Tryz.prog 57 #[.int .i64 1] H5 fun r5 H6 =>
∃ s5 : ByteArray,
r5 = .string s5 ∧
Sub H3 H6 ∧
 ((s_1 ++ s3) ++ s4).size + s5.size < 9223372036854775808 ∧
SelfEq ([.v (.pointer (some ⟨m, mo, none⟩))], [], []) ∧
I1 (((s_1 ++ s3) ++ s4) ++ s5) (IntKind.wrap .i64 (i_1 + 1)) H6 ∧
M1 (((s_1 ++ s3) ++ s4) ++ s5) (IntKind.wrap .i64 (i_1 + 1)) H6 < M1 s_1 i_1 H3)
 (
FnH Tryz.prog 57 #[.int .i64 n2] H3 fun r6 H7 =>
∃ s6 : ByteArray,
r6 = .string s6 ∧
Sub H3 H7 ∧
s_1.size + s6.size < 9223372036854775808 ∧
FnH Tryz.prog 57 #[.int .i64 n3] H7 fun r7 H8 =>
∃ s7 : ByteArray,
r7 = .string s7 ∧
Sub H3 H8 ∧
 (s_1 ++ s6).size + s7.size < 9223372036854775808 ∧
FnH Tryz.prog 57 #[.int .i64 0] H8 fun r8 H9 =>
∃ s8 : ByteArray,
r8 = .string s8 ∧
Sub H3 H9 ∧
 ((s_1 ++ s6) ++ s7).size + s8.size < 9223372036854775808 ∧
SelfEq ([.v (.pointer (some ⟨m, mo, none⟩))], [], []) ∧
I1 (((s_1 ++ s6) ++ s7) ++ s8) (IntKind.wrap .i64 (i_1 + 1)) H9 ∧
M1 (((s_1 ++ s6) ++ s7) ++ s8) (IntKind.wrap .i64 (i_1 + 1)) H9 < M1 s_1 i_1 H3))
 (
∃ l4 : Sl,
cellH H3 ⟨m, mo + 2, none⟩ = some (.slice l4.p l4.n l4.c) ∧
FnH Tryz.prog 57 #[.int .i64 (l4.n : Nat)] H3 fun r9 H10 =>
∃ s9 : ByteArray,
r9 = .string s9 ∧
s_1.size + s9.size < 9223372036854775808 ∧
∃ I2 : ByteArray → Int → Heap → Prop,
∃ M2 : ByteArray → Int → Heap → Nat,
I2 (s_1 ++ s9) 0 H10 ∧
∀ s_2 : ByteArray,
∀ i_2 : Int,
∀ H11 : Heap,
I2 s_2 i_2 H11 →
∃ l5 : Sl,
cellH H11 ⟨m, mo + 2, none⟩ = some (.slice l5.p l5.n l5.c) ∧
br (decide ((i_2 : Int) < (l5.n : Nat))) (
∃ l6 : Sl,
cellH H11 ⟨m, mo + 2, none⟩ = some (.slice l6.p l6.n l6.c) ∧
∃ q2 o2 : Nat,
 (l6.p : Option Addr) = some ⟨q2, o2, none⟩ ∧
0 ≤ (i_2 : Int) ∧
 (i_2 : Int) < (l6.n : Nat) ∧
∃ s10 : ByteArray,
cellH H11 ⟨q2, o2 + Int.toNat i_2 * 3, none⟩ = some (.string s10) ∧
∃ n4 : Int,
cellH H11 ⟨q2, o2 + Int.toNat i_2 * 3 + 1, none⟩ = some (.int .i64 n4) ∧
∃ n5 : Int,
cellH H11 ⟨q2, o2 + Int.toNat i_2 * 3 + 2, none⟩ = some (.int .i64 n5) ∧
FnH Tryz.prog 57 #[.int .i64 (s10.size : Nat)] H11 fun r10 H12 =>
∃ s11 : ByteArray,
r10 = .string s11 ∧
Sub H11 H12 ∧
s_2.size + s11.size < 9223372036854775808 ∧
 (s_2 ++ s11).size + s10.size < 9223372036854775808 ∧
FnH Tryz.prog 57 #[.int .i64 n4] H12 fun r11 H13 =>
∃ s12 : ByteArray,
r11 = .string s12 ∧
Sub H11 H13 ∧
 ((s_2 ++ s11) ++ s10).size + s12.size < 9223372036854775808 ∧
FnH Tryz.prog 57 #[.int .i64 n5] H13 fun r12 H14 =>
∃ s13 : ByteArray,
r12 = .string s13 ∧
Sub H11 H14 ∧
 (((s_2 ++ s11) ++ s10) ++ s12).size + s13.size < 9223372036854775808 ∧
SelfEq ([.v (.pointer (some ⟨m, mo, none⟩))], [], []) ∧
I2 ((((s_2 ++ s11) ++ s10) ++ s12) ++ s13) (IntKind.wrap .i64 (i_2 + 1)) H14 ∧
M2 ((((s_2 ++ s11) ++ s10) ++ s12) ++ s13) (IntKind.wrap .i64 (i_2 + 1)) H14 < M2 s_2 i_2 H11)
 (
∃ l7 : Sl,
cellH H11 ⟨m, mo + 3, none⟩ = some (.slice l7.p l7.n l7.c) ∧
FnH Tryz.prog 57 #[.int .i64 (l7.n : Nat)] H11 fun r13 H15 =>
∃ s14 : ByteArray,
r13 = .string s14 ∧
s_2.size + s14.size < 9223372036854775808 ∧
∃ I3 : ByteArray → Int → Heap → Prop,
∃ M3 : ByteArray → Int → Heap → Nat,
I3 (s_2 ++ s14) 0 H15 ∧
∀ s_3 : ByteArray,
∀ i_3 : Int,
∀ H16 : Heap,
I3 s_3 i_3 H16 →
∃ l8 : Sl,
cellH H16 ⟨m, mo + 3, none⟩ = some (.slice l8.p l8.n l8.c) ∧
br (decide ((i_3 : Int) < (l8.n : Nat))) (
∃ l9 : Sl,
cellH H16 ⟨m, mo + 3, none⟩ = some (.slice l9.p l9.n l9.c) ∧
∃ q3 o3 : Nat,
 (l9.p : Option Addr) = some ⟨q3, o3, none⟩ ∧
0 ≤ (i_3 : Int) ∧
 (i_3 : Int) < (l9.n : Nat) ∧
∃ n6 : Int,
cellH H16 ⟨q3, o3 + Int.toNat i_3 * 9, none⟩ = some (.int .i64 n6) ∧
∃ n7 : Int,
cellH H16 ⟨q3, o3 + Int.toNat i_3 * 9 + 1, none⟩ = some (.int .i64 n7) ∧
∃ n8 : Int,
cellH H16 ⟨q3, o3 + Int.toNat i_3 * 9 + 2, none⟩ = some (.int .i64 n8) ∧
∃ n9 : Int,
cellH H16 ⟨q3, o3 + Int.toNat i_3 * 9 + 3, none⟩ = some (.int .i64 n9) ∧
∃ l10 : Sl,
cellH H16 ⟨q3, o3 + Int.toNat i_3 * 9 + 4, none⟩ = some (.slice l10.p l10.n l10.c) ∧
∃ l11 : Sl,
cellH H16 ⟨q3, o3 + Int.toNat i_3 * 9 + 5, none⟩ = some (.slice l11.p l11.n l11.c) ∧
∃ l12 : Sl,
cellH H16 ⟨q3, o3 + Int.toNat i_3 * 9 + 6, none⟩ = some (.slice l12.p l12.n l12.c) ∧
∃ l13 : Sl,
cellH H16 ⟨q3, o3 + Int.toNat i_3 * 9 + 7, none⟩ = some (.slice l13.p l13.n l13.c) ∧
∃ n10 : Int,
cellH H16 ⟨q3, o3 + Int.toNat i_3 * 9 + 8, none⟩ = some (.int .i64 n10) ∧
FnH Tryz.prog 57 #[.int .i64 n7] H16 fun r14 H17 =>
∃ s15 : ByteArray,
r14 = .string s15 ∧
Sub H16 H17 ∧
s_3.size + s15.size < 9223372036854775808 ∧
FnH Tryz.prog 57 #[.int .i64 n8] H17 fun r15 H18 =>
∃ s16 : ByteArray,
r15 = .string s16 ∧
Sub H16 H18 ∧
 (s_3 ++ s15).size + s16.size < 9223372036854775808 ∧
FnH Tryz.prog 57 #[.int .i64 n9] H18 fun r16 H19 =>
∃ s17 : ByteArray,
r16 = .string s17 ∧
Sub H16 H19 ∧
 ((s_3 ++ s15) ++ s16).size + s17.size < 9223372036854775808 ∧
FnH Tryz.prog 57 #[.int .i64 n10] H19 fun r17 H20 =>
∃ s18 : ByteArray,
r17 = .string s18 ∧
Sub H16 H20 ∧
 (((s_3 ++ s15) ++ s16) ++ s17).size + s18.size < 9223372036854775808 ∧
FnH Tryz.prog 58 #[.slice l10.p l10.n l10.c] H20 fun r18 H21 =>
∃ s19 : ByteArray,
r18 = .string s19 ∧
Sub H16 H21 ∧
 ((((s_3 ++ s15) ++ s16) ++ s17) ++ s18).size + s19.size < 9223372036854775808 ∧
FnH Tryz.prog 58 #[.slice l11.p l11.n l11.c] H21 fun r19 H22 =>
∃ s20 : ByteArray,
r19 = .string s20 ∧
Sub H16 H22 ∧
 (((((s_3 ++ s15) ++ s16) ++ s17) ++ s18) ++ s19).size + s20.size < 9223372036854775808 ∧
FnH Tryz.prog 58 #[.slice l12.p l12.n l12.c] H22 fun r20 H23 =>
∃ s21 : ByteArray,
r20 = .string s21 ∧
Sub H16 H23 ∧
 ((((((s_3 ++ s15) ++ s16) ++ s17) ++ s18) ++ s19) ++ s20).size + s21.size < 9223372036854775808 ∧
FnH Tryz.prog 58 #[.slice l13.p l13.n l13.c] H23 fun r21 H24 =>
∃ s22 : ByteArray,
r21 = .string s22 ∧
Sub H16 H24 ∧
 (((((((s_3 ++ s15) ++ s16) ++ s17) ++ s18) ++ s19) ++ s20) ++ s21).size + s22.size < 9223372036854775808 ∧
SelfEq ([.v (.pointer (some ⟨m, mo, none⟩))], [], []) ∧
I3 ((((((((s_3 ++ s15) ++ s16) ++ s17) ++ s18) ++ s19) ++ s20) ++ s21) ++ s22) (IntKind.wrap .i64 (i_3 + 1)) H24 ∧
M3 ((((((((s_3 ++ s15) ++ s16) ++ s17) ++ s18) ++ s19) ++ s20) ++ s21) ++ s22) (IntKind.wrap .i64 (i_3 + 1)) H24 < M3 s_3 i_3 H16)
 (
∃ l14 : Sl,
cellH H16 ⟨m, mo + 4, none⟩ = some (.slice l14.p l14.n l14.c) ∧
FnH Tryz.prog 58 #[.slice l14.p l14.n l14.c] H16 fun r22 H25 =>
∃ s23 : ByteArray,
r22 = .string s23 ∧
s_3.size + s23.size < 9223372036854775808 ∧
FnH Tryz.prog 59 #[.string (s_3 ++ s23)] H25 fun r23 H26 =>
∃ s24 : ByteArray,
r23 = .string s24 ∧
K (.string s24) H26)))
theorem logboomref12_Image_Keep_fn (m mo : Nat) {H : Heap} {K : Value → Heap → Prop} (h : logboomref12_Image_Keep_vc m mo H K) : FnH Tryz.prog 25 #[.pointer (some ⟨m, mo, none⟩)] H K :=
  denFn_fn Tryz.mixed logboomref12_Image_Keep_ann Tryz.func25 (bodyOf_spec (by kernel_rfl)) (by kernel_rfl) h
end Go.Proofs.YtmofinghoacobaaGreatDoor
