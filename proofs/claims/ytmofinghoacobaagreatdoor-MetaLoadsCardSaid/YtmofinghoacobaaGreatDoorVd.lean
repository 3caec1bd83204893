import Derived.Test.YtmofinghoacobaaGreatDoorProg
import Derived.KernelRfl
import Derived.Test.YtmofinghoacobaaGreatDoorHlFn
import Derived.Test.YtmofinghoacobaaGreatDoorVc
namespace Go.Proofs.YtmofinghoacobaaGreatDoor
open Go.HL
set_option maxRecDepth 100000
def logboomref12_list_ann : Anns := { hid := [], loops := [(0, { slots := [(3, .str), (4, .int .i64)], kept := [0], locs := [], keptL := [] })], joins := [], mix := [] }
def logboomref12_list_vc (l : Sl) (H : Heap) (K : Value → Heap → Prop) : Prop :=
FnH Tryz.prog 57 #[.int .i64 (l.n : Nat)] H fun r1 H1 =>
∃ s1 : ByteArray,
r1 = .string s1 ∧
∃ I1 : ByteArray → Int → Heap → Prop,
∃ M1 : ByteArray → Int → Heap → Nat,
I1 s1 0 H1 ∧
∀ s_1 : ByteArray,
∀ i_1 : Int,
∀ H2 : Heap,
I1 s_1 i_1 H2 →
br (decide ((i_1 : Int) < (l.n : Nat))) (
∃ q1 o1 : Nat,
 (l.p : Option Addr) = some ⟨q1, o1, none⟩ ∧
0 ≤ (i_1 : Int) ∧
 (i_1 : Int) < (l.n : Nat) ∧
∃ n1 : Int,
cellH H2 ⟨q1, o1 + Int.toNat i_1, none⟩ = some (.int .i64 n1) ∧
FnH Tryz.prog 57 #[.int .i64 n1] H2 fun r2 H3 =>
∃ s2 : ByteArray,
r2 = .string s2 ∧
s_1.size + s2.size < 9223372036854775808 ∧
SelfEq ([.v (.slice l.p l.n l.c)], [], []) ∧
I1 (s_1 ++ s2) (IntKind.wrap .i64 (i_1 + 1)) H3 ∧
M1 (s_1 ++ s2) (IntKind.wrap .i64 (i_1 + 1)) H3 < M1 s_1 i_1 H2)
 (
K (.string s_1) H2)
theorem logboomref12_list_fn (l : Sl) {H : Heap} {K : Value → Heap → Prop} (h : logboomref12_list_vc l H K) : FnH Tryz.prog 58 #[.slice l.p l.n l.c] H K :=
  denFn_fn Tryz.mixed logboomref12_list_ann Tryz.func58 (bodyOf_spec (by kernel_rfl)) (by kernel_rfl) h
def logboomref12_Summed_ann : Anns := { hid := [], loops := [], joins := [], mix := [] }
def logboomref12_Summed_vc (s : ByteArray) (H : Heap) (K : Value → Heap → Prop) : Prop :=
FnH Tryz.prog 100 #[.string s] H fun r1 H1 =>
∃ n1 : Int,
r1 = .int .i64 n1 ∧
FnH Tryz.prog 99 #[.int .i64 n1] H1 fun r2 H2 =>
∃ s1 : ByteArray,
r2 = .string s1 ∧
s1.size + s.size < 9223372036854775808 ∧
K (.string (s1 ++ s)) H2
theorem logboomref12_Summed_fn (s : ByteArray) {H : Heap} {K : Value → Heap → Prop} (h : logboomref12_Summed_vc s H K) : FnH Tryz.prog 59 #[.string s] H K :=
  denFn_fn Tryz.mixed logboomref12_Summed_ann Tryz.func59 (bodyOf_spec (by kernel_rfl)) (by kernel_rfl) h
def logboomref12_Image_Keep_ann : Anns := { hid := [5, 8, 10], loops := [(0, { slots := [(3, .str), (4, .int .i64)], kept := [0], locs := [], keptL := [] }), (2, { slots := [(3, .str), (7, .int .i64)], kept := [0], locs := [], keptL := [] }), (4, { slots := [(3, .str), (9, .int .i64)], kept := [0], locs := [], keptL := [] })], joins := [], mix := [(1, []), (9, []), (15, []), (21, [])] }
def logboomref12_Image_Keep_vc (m mo : Nat) (H : Heap) (K : Value → Heap → Prop) : Prop :=
∃ n1 : Int,
cellH H ⟨m, mo, none⟩ = some (.int .i64 n1) ∧
∃ l1 : Sl,
cellH H ⟨m, mo + 1, none⟩ = some (.slice l1.p l1.n l1.c) ∧
FnH Tryz.prog 57 #[.int .i64 n1] H fun r1 H1 =>
∃ s1 : ByteArray,
r1 = .string s1 ∧
Sub H H1 ∧
FnH Tryz.prog 57 #[.int .i64 (l1.n : Nat)] H1 fun r2 H2 =>
∃ s2 : ByteArray,
r2 = .string s2 ∧
Sub H H2 ∧
s1.size + s2.size < 9223372036854775808 ∧
∃ I1 : ByteArray → Int → Heap → Prop,
∃ M1 : ByteArray → Int → Heap → Nat,
I1 (s1 ++ s2) 0 H2 ∧
∀ s_1 : ByteArray,
∀ i_1 : Int,
∀ H3 : Heap,
I1 s_1 i_1 H3 →
∃ l2 : Sl,
cellH H3 ⟨m, mo + 1, none⟩ = some (.slice l2.p l2.n l2.c) ∧
br (decide ((i_1 : Int) < (l2.n : Nat))) (
∃ l3 : Sl,
cellH H3 ⟨m, mo + 1, none⟩ = some (.slice l3.p l3.n l3.c) ∧
∃ q1 o1 : Nat,
 (l3.p : Option Addr) = some ⟨q1, o1, none⟩ ∧
0 ≤ (i_1 : Int) ∧
 (i_1 : Int) < (l3.n : Nat) ∧
∃ n2 : Int,
cellH H3 ⟨q1, o1 + Int.toNat i_1 * 3, none⟩ = some (.int .i64 n2) ∧
∃ n3 : Int,
cellH H3 ⟨q1, o1 + Int.toNat i_1 * 3 + 1, none⟩ = some (.int .i64 n3) ∧
∃ b1 : Bool,
cellH H3 ⟨q1, o1 + Int.toNat i_1 * 3 + 2, none⟩ = some (.bool b1) ∧
br (b1) (
FnH Tryz.prog 57 #[.int .i64 n2] H3 fun r3 H4 =>
∃ s3 : ByteArray,
r3 = .string s3 ∧
Sub H3 H4 ∧
s_1.size + s3.size < 9223372036854775808 ∧
FnH Tryz.prog 57 #[.int .i64 n3] H4 fun r4 H5 =>
∃ s4 : ByteArray,
r4 = .string s4 ∧
Sub H3 H5 ∧
 (s_1 ++ s3).size + s4.size < 9223372036854775808 ∧
FnH Tryz.prog 57 #[.int .i64 1] H5 fun r5 H6 =>
∃ s5 : ByteArray,
r5 = .string s5 ∧
Sub H3 H6 ∧
 ((s_1 ++ s3) ++ s4).size + s5.size < 9223372036854775808 ∧
SelfEq ([.v (.pointer (some ⟨m, mo, none⟩))], [], []) ∧
I1 (((s_1 ++ s3) ++ s4) ++ s5) (IntKind.wrap .i64 (i_1 + 1)) H6 ∧
M1 (((s_1 ++ s3) ++ s4) ++ s5) (IntKind.wrap .i64 (i_1 + 1)) H6 < M1 s_1 i_1 H3)
 (
FnH Tryz.prog 57 #[.int .i64 n2] H3 fun r6 H7 =>
∃ s6 : ByteArray,
r6 = .string s6 ∧
Sub H3 H7 ∧
s_1.size + s6.size < 9223372036854775808 ∧
FnH Tryz.prog 57 #[.int .i64 n3] H7 fun r7 H8 =>
∃ s7 : ByteArray,
r7 = .string s7 ∧
Sub H3 H8 ∧
 (s_1 ++ s6).size + s7.size < 9223372036854775808 ∧
FnH Tryz.prog 57 #[.int .i64 0] H8 fun r8 H9 =>
∃ s8 : ByteArray,
r8 = .string s8 ∧
Sub H3 H9 ∧
 ((s_1 ++ s6) ++ s7).size + s8.size < 9223372036854775808 ∧
SelfEq ([.v (.pointer (some ⟨m, mo, none⟩))], [], []) ∧
I1 (((s_1 ++ s6) ++ s7) ++ s8) (IntKind.wrap .i64 (i_1 + 1)) H9 ∧
M1 (((s_1 ++ s6) ++ s7) ++ s8) (IntKind.wrap .i64 (i_1 + 1)) H9 < M1 s_1 i_1 H3))
 (
∃ l4 : Sl,
cellH H3 ⟨m, mo + 2, none⟩ = some (.slice l4.p l4.n l4.c) ∧
FnH Tryz.prog 57 #[.int .i64 (l4.n : Nat)] H3 fun r9 H10 =>
∃ s9 : ByteArray,
r9 = .string s9 ∧
s_1.size + s9.size < 9223372036854775808 ∧
∃ I2 : ByteArray → Int → Heap → Prop,
∃ M2 : ByteArray → Int → Heap → Nat,
I2 (s_1 ++ s9) 0 H10 ∧
∀ s_2 : ByteArray,
∀ i_2 : Int,
∀ H11 : Heap,
I2 s_2 i_2 H11 →
∃ l5 : Sl,
cellH H11 ⟨m, mo + 2, none⟩ = some (.slice l5.p l5.n l5.c) ∧
br (decide ((i_2 : Int) < (l5.n : Nat))) (
∃ l6 : Sl,
cellH H11 ⟨m, mo + 2, none⟩ = some (.slice l6.p l6.n l6.c) ∧
∃ q2 o2 : Nat,
 (l6.p : Option Addr) = some ⟨q2, o2, none⟩ ∧
0 ≤ (i_2 : Int) ∧
 (i_2 : Int) < (l6.n : Nat) ∧
∃ s10 : ByteArray,
cellH H11 ⟨q2, o2 + Int.toNat i_2 * 3, none⟩ = some (.string s10) ∧
∃ n4 : Int,
cellH H11 ⟨q2, o2 + Int.toNat i_2 * 3 + 1, none⟩ = some (.int .i64 n4) ∧
∃ n5 : Int,
cellH H11 ⟨q2, o2 + Int.toNat i_2 * 3 + 2, none⟩ = some (.int .i64 n5) ∧
FnH Tryz.prog 57 #[.int .i64 (s10.size : Nat)] H11 fun r10 H12 =>
∃ s11 : ByteArray,
r10 = .string s11 ∧
Sub H11 H12 ∧
s_2.size + s11.size < 9223372036854775808 ∧
 (s_2 ++ s11).size + s10.size < 9223372036854775808 ∧
FnH Tryz.prog 57 #[.int .i64 n4] H12 fun r11 H13 =>
∃ s12 : ByteArray,
r11 = .string s12 ∧
Sub H11 H13 ∧
 ((s_2 ++ s11) ++ s10).size + s12.size < 9223372036854775808 ∧
FnH Tryz.prog 57 #[.int .i64 n5] H13 fun r12 H14 =>
∃ s13 : ByteArray,
r12 = .string s13 ∧
Sub H11 H14 ∧
 (((s_2 ++ s11) ++ s10) ++ s12).size + s13.size < 9223372036854775808 ∧
SelfEq ([.v (.pointer (some ⟨m, mo, none⟩))], [], []) ∧
I2 ((((s_2 ++ s11) ++ s10) ++ s12) ++ s13) (IntKind.wrap .i64 (i_2 + 1)) H14 ∧
M2 ((((s_2 ++ s11) ++ s10) ++ s12) ++ s13) (IntKind.wrap .i64 (i_2 + 1)) H14 < M2 s_2 i_2 H11)
 (
∃ l7 : Sl,
cellH H11 ⟨m, mo + 3, none⟩ = some (.slice l7.p l7.n l7.c) ∧
FnH Tryz.prog 57 #[.int .i64 (l7.n : Nat)] H11 fun r13 H15 =>
∃ s14 : ByteArray,
r13 = .string s14 ∧
s_2.size + s14.size < 9223372036854775808 ∧
∃ I3 : ByteArray → Int → Heap → Prop,
∃ M3 : ByteArray → Int → Heap → Nat,
I3 (s_2 ++ s14) 0 H15 ∧
∀ s_3 : ByteArray,
∀ i_3 : Int,
∀ H16 : Heap,
I3 s_3 i_3 H16 →
∃ l8 : Sl,
cellH H16 ⟨m, mo + 3, none⟩ = some (.slice l8.p l8.n l8.c) ∧
br (decide ((i_3 : Int) < (l8.n : Nat))) (
∃ l9 : Sl,
cellH H16 ⟨m, mo + 3, none⟩ = some (.slice l9.p l9.n l9.c) ∧
∃ q3 o3 : Nat,
 (l9.p : Option Addr) = some ⟨q3, o3, none⟩ ∧
0 ≤ (i_3 : Int) ∧
 (i_3 : Int) < (l9.n : Nat) ∧
∃ n6 : Int,
cellH H16 ⟨q3, o3 + Int.toNat i_3 * 9, none⟩ = some (.int .i64 n6) ∧
∃ n7 : Int,
cellH H16 ⟨q3, o3 + Int.toNat i_3 * 9 + 1, none⟩ = some (.int .i64 n7) ∧
∃ n8 : Int,
cellH H16 ⟨q3, o3 + Int.toNat i_3 * 9 + 2, none⟩ = some (.int .i64 n8) ∧
∃ n9 : Int,
cellH H16 ⟨q3, o3 + Int.toNat i_3 * 9 + 3, none⟩ = some (.int .i64 n9) ∧
∃ l10 : Sl,
cellH H16 ⟨q3, o3 + Int.toNat i_3 * 9 + 4, none⟩ = some (.slice l10.p l10.n l10.c) ∧
∃ l11 : Sl,
cellH H16 ⟨q3, o3 + Int.toNat i_3 * 9 + 5, none⟩ = some (.slice l11.p l11.n l11.c) ∧
∃ l12 : Sl,
cellH H16 ⟨q3, o3 + Int.toNat i_3 * 9 + 6, none⟩ = some (.slice l12.p l12.n l12.c) ∧
∃ l13 : Sl,
cellH H16 ⟨q3, o3 + Int.toNat i_3 * 9 + 7, none⟩ = some (.slice l13.p l13.n l13.c) ∧
∃ n10 : Int,
cellH H16 ⟨q3, o3 + Int.toNat i_3 * 9 + 8, none⟩ = some (.int .i64 n10) ∧
FnH Tryz.prog 57 #[.int .i64 n7] H16 fun r14 H17 =>
∃ s15 : ByteArray,
r14 = .string s15 ∧
Sub H16 H17 ∧
s_3.size + s15.size < 9223372036854775808 ∧
FnH Tryz.prog 57 #[.int .i64 n8] H17 fun r15 H18 =>
∃ s16 : ByteArray,
r15 = .string s16 ∧
Sub H16 H18 ∧
 (s_3 ++ s15).size + s16.size < 9223372036854775808 ∧
FnH Tryz.prog 57 #[.int .i64 n9] H18 fun r16 H19 =>
∃ s17 : ByteArray,
r16 = .string s17 ∧
Sub H16 H19 ∧
 ((s_3 ++ s15) ++ s16).size + s17.size < 9223372036854775808 ∧
FnH Tryz.prog 57 #[.int .i64 n10] H19 fun r17 H20 =>
∃ s18 : ByteArray,
r17 = .string s18 ∧
Sub H16 H20 ∧
 (((s_3 ++ s15) ++ s16) ++ s17).size + s18.size < 9223372036854775808 ∧
FnH Tryz.prog 58 #[.slice l10.p l10.n l10.c] H20 fun r18 H21 =>
∃ s19 : ByteArray,
r18 = .string s19 ∧
Sub H16 H21 ∧
 ((((s_3 ++ s15) ++ s16) ++ s17) ++ s18).size + s19.size < 9223372036854775808 ∧
FnH Tryz.prog 58 #[.slice l11.p l11.n l11.c] H21 fun r19 H22 =>
∃ s20 : ByteArray,
r19 = .string s20 ∧
Sub H16 H22 ∧
 (((((s_3 ++ s15) ++ s16) ++ s17) ++ s18) ++ s19).size + s20.size < 9223372036854775808 ∧
FnH Tryz.prog 58 #[.slice l12.p l12.n l12.c] H22 fun r20 H23 =>
∃ s21 : ByteArray,
r20 = .string s21 ∧
Sub H16 H23 ∧
 ((((((s_3 ++ s15) ++ s16) ++ s17) ++ s18) ++ s19) ++ s20).size + s21.size < 9223372036854775808 ∧
FnH Tryz.prog 58 #[.slice l13.p l13.n l13.c] H23 fun r21 H24 =>
∃ s22 : ByteArray,
r21 = .string s22 ∧
Sub H16 H24 ∧
 (((((((s_3 ++ s15) ++ s16) ++ s17) ++ s18) ++ s19) ++ s20) ++ s21).size + s22.size < 9223372036854775808 ∧
SelfEq ([.v (.pointer (some ⟨m, mo, none⟩))], [], []) ∧
I3 ((((((((s_3 ++ s15) ++ s16) ++ s17) ++ s18) ++ s19) ++ s20) ++ s21) ++ s22) (IntKind.wrap .i64 (i_3 + 1)) H24 ∧
M3 ((((((((s_3 ++ s15) ++ s16) ++ s17) ++ s18) ++ s19) ++ s20) ++ s21) ++ s22) (IntKind.wrap .i64 (i_3 + 1)) H24 < M3 s_3 i_3 H16)
 (
∃ l14 : Sl,
cellH H16 ⟨m, mo + 4, none⟩ = some (.slice l14.p l14.n l14.c) ∧
FnH Tryz.prog 58 #[.slice l14.p l14.n l14.c] H16 fun r22 H25 =>
∃ s23 : ByteArray,
r22 = .string s23 ∧
s_3.size + s23.size < 9223372036854775808 ∧
FnH Tryz.prog 59 #[.string (s_3 ++ s23)] H25 fun r23 H26 =>
∃ s24 : ByteArray,
r23 = .string s24 ∧
K (.string s24) H26)))
theorem logboomref12_Image_Keep_fn (m mo : Nat) {H : Heap} {K : Value → Heap → Prop} (h : logboomref12_Image_Keep_vc m mo H K) : FnH Tryz.prog 25 #[.pointer (some ⟨m, mo, none⟩)] H K :=
  denFn_fn Tryz.mixed logboomref12_Image_Keep_ann Tryz.func25 (bodyOf_spec (by kernel_rfl)) (by kernel_rfl) h
def logboomref12_Reads_Int_ann : Anns := { hid := [], loops := [], joins := [], mix := [] }
def logboomref12_Reads_Int_vc (r ro : Nat) (least most : Int) (H : Heap) (K : Value → Heap → Prop) : Prop :=
∃ b1 : Bool,
cellH H ⟨r, ro + 1, none⟩ = some (.bool b1) ∧
br (b1) (
K (.int .i64 0) H)
 (
∃ s1 : ByteArray,
cellH H ⟨r, ro, none⟩ = some (.string s1) ∧
FnH Tryz.prog 143 #[.string s1] H fun r1 H1 =>
∃ n1 n2 n3 : Int,
r1 = .tuple #[.int .i64 n1, .int .i64 n2, .int .i64 n3] ∧
br ((n3 : Int) != 0) (
 (∃ u, cellH H1 ⟨r, ro + 1, none⟩ = some u) ∧
frozenH H1 ⟨r, ro + 1, none⟩ = false ∧
letH (Heap.set H1 ⟨r, ro + 1, none⟩ (.bool true)) fun H2 =>
K (.int .i64 0) H2)
 (
br (decide ((n1 : Int) < least)) (
 (∃ u, cellH H1 ⟨r, ro + 1, none⟩ = some u) ∧
frozenH H1 ⟨r, ro + 1, none⟩ = false ∧
letH (Heap.set H1 ⟨r, ro + 1, none⟩ (.bool true)) fun H3 =>
K (.int .i64 0) H3)
 (
br (decide ((n1 : Int) > most)) (
 (∃ u, cellH H1 ⟨r, ro + 1, none⟩ = some u) ∧
frozenH H1 ⟨r, ro + 1, none⟩ = false ∧
letH (Heap.set H1 ⟨r, ro + 1, none⟩ (.bool true)) fun H4 =>
K (.int .i64 0) H4)
 (
∃ s2 : ByteArray,
cellH H1 ⟨r, ro, none⟩ = some (.string s2) ∧
0 ≤ (n2 : Int) ∧
 (n2 : Int) ≤ (s2.size : Nat) ∧
 (∃ u, cellH H1 ⟨r, ro, none⟩ = some u) ∧
frozenH H1 ⟨r, ro, none⟩ = false ∧
letH (Heap.set H1 ⟨r, ro, none⟩ (.string (s2.extract (Int.toNat n2) (Int.toNat (s2.size : Nat))))) fun H5 =>
K (.int .i64 n1) H5))))
theorem logboomref12_Reads_Int_fn (r ro : Nat) (least most : Int) {H : Heap} {K : Value → Heap → Prop} (h : logboomref12_Reads_Int_vc r ro least most H K) : FnH Tryz.prog 101 #[.pointer (some ⟨r, ro, none⟩), .int .i64 least, .int .i64 most] H K :=
  denFn_fn Tryz.mixed logboomref12_Reads_Int_ann Tryz.func101 (bodyOf_spec (by kernel_rfl)) (by kernel_rfl) h
def logboomref12_Reads_List_ann : Anns := { hid := [], loops := [(0, { slots := [(10, .slice), (11, .int .i64)], kept := [0, 2, 3, 9], locs := [], keptL := [] })], joins := [], mix := [] }
def logboomref12_Reads_List_vc (r ro : Nat) (many least most : Int) (H : Heap) (K : Value → Heap → Prop) : Prop :=
FnH Tryz.prog 101 #[.pointer (some ⟨r, ro, none⟩), .int .i64 0, .int .i64 many] H fun r1 H1 =>
∃ n1 : Int,
r1 = .int .i64 n1 ∧
∃ I1 : Sl → Int → Heap → Prop,
∃ M1 : Sl → Int → Heap → Nat,
I1 ⟨none, 0, 0⟩ 0 H1 ∧
∀ out_1 : Sl,
∀ i_1 : Int,
∀ H2 : Heap,
I1 out_1 i_1 H2 →
br (decide ((i_1 : Int) < n1)) (
∃ b1 : Bool,
cellH H2 ⟨r, ro + 1, none⟩ = some (.bool b1) ∧
br (!b1) (
FnH Tryz.prog 101 #[.pointer (some ⟨r, ro, none⟩), .int .i64 least, .int .i64 most] H2 fun r2 H3 =>
∃ n2 : Int,
r2 = .int .i64 n2 ∧
∀ q1 : Nat,
H3 q1 = none →
letH (Heap.upd H3 q1 (.cells #[.int .i64 n2] 3 (0, 0))) fun H4 =>
runH Tryz.prog (Builtin.append_ #[22, 22] 22 #[.slice out_1.p out_1.n out_1.c, .slice (some ⟨q1, 0, none⟩) 1 1]) H4 fun r3 H5 =>
∃ l1 : Sl,
r3 = .slice l1.p l1.n l1.c ∧
SelfEq ([.v (.pointer (some ⟨r, ro, none⟩)), .v (.int .i64 least), .v (.int .i64 most), .v (.int .i64 n1)], [], []) ∧
I1 l1 (IntKind.wrap .i64 (i_1 + 1)) H5 ∧
M1 l1 (IntKind.wrap .i64 (i_1 + 1)) H5 < M1 out_1 i_1 H2)
 (
K (.slice out_1.p out_1.n out_1.c) H2))
 (
K (.slice out_1.p out_1.n out_1.c) H2)
theorem logboomref12_Reads_List_fn (r ro : Nat) (many least most : Int) {H : Heap} {K : Value → Heap → Prop} (h : logboomref12_Reads_List_vc r ro many least most H K) : FnH Tryz.prog 102 #[.pointer (some ⟨r, ro, none⟩), .int .i64 many, .int .i64 least, .int .i64 most] H K :=
  denFn_fn Tryz.mixed logboomref12_Reads_List_ann Tryz.func102 (bodyOf_spec (by kernel_rfl)) (by kernel_rfl) h
def logboomref12_Load_ann : Anns := { hid := [33, 8, 12, 16], loops := [(0, { slots := [(7, .int .i64)], kept := [4, 5, 6], locs := [(0, [.str, .bool])], keptL := [] }), (2, { slots := [(9, .int .i64), (10, .int .i64)], kept := [4, 5, 6], locs := [(0, [.str, .bool])], keptL := [] }), (4, { slots := [(13, .bool), (14, .int .i64)], kept := [4, 5, 6, 9, 10, 12], locs := [], keptL := [0, 1] }), (6, { slots := [(15, .int .i64)], kept := [4, 5, 6, 9], locs := [(0, [.str, .bool])], keptL := [] })], joins := [((12, 0), { slots := [], kept := [4, 5], locs := [(0, [.str, .bool])], keptL := [] }), ((12, 2), { slots := [(9, .int .i64)], kept := [4, 5], locs := [(0, [.str, .bool])], keptL := [] }), ((12, 6), { slots := [], kept := [4, 5, 9], locs := [(0, [.str, .bool])], keptL := [] })], mix := [(1, []), (12, [7, 10]), (33, [7, 10]), (46, [7, 10])] }
def logboomref12_Load_vc (s : ByteArray) (H : Heap) (K : Value → Heap → Prop) : Prop :=
br (decide (((s.size : Nat) : Int) < 4)) (
K (.tuple #[.pointer none, .int .i64 4]) H)
 (
0 ≤ (4 : Int) ∧
 (4 : Int) ≤ (s.size : Nat) ∧
0 ≤ (4 : Int) ∧
 (4 : Int) ≤ (s.size : Nat) ∧
FnH Tryz.prog 100 #[.string (s.extract (Int.toNat 4) (Int.toNat (s.size : Nat)))] H fun r1 H1 =>
∃ n1 : Int,
r1 = .int .i64 n1 ∧
Sub H H1 ∧
FnH Tryz.prog 99 #[.int .i64 n1] H1 fun r2 H2 =>
∃ s1 : ByteArray,
r2 = .string s1 ∧
Sub H H2 ∧
br (!(s1.toList == (s.extract (Int.toNat (0 : Int)) (Int.toNat 4)).toList)) (
K (.tuple #[.pointer none, .int .i64 4]) H2)
 (
0 ≤ (4 : Int) ∧
 (4 : Int) ≤ (s.size : Nat) ∧
∀ q1 : Nat,
H2 q1 = none →
FnH Tryz.prog 101 #[.pointer (some ⟨q1, 0, none⟩), .int .i64 0, .int .i64 9223372036854775807] (Heap.upd H2 q1 (.cells #[.string (s.extract (Int.toNat 4) (Int.toNat (s.size : Nat))), .bool false] 135 (0, 0))) fun r3 H3 =>
∃ n2 : Int,
r3 = .int .i64 n2 ∧
∃ s2 : ByteArray,
∃ b1 : Bool,
H3 q1 = some (.cells #[.string s2, .bool b1] 135 (0, 0)) ∧
letH (Heap.del H3 q1) fun H4 =>
∀ q2 : Nat,
H4 q2 = none →
letH (Heap.upd H4 q2 (.cells #[.int .i64 n2, .slice none 0 0, .slice none 0 0, .slice none 0 0, .slice none 0 0] 56 (0, 0))) fun H5 =>
∀ q3 : Nat,
H5 q3 = none →
FnH Tryz.prog 101 #[.pointer (some ⟨q3, 0, none⟩), .int .i64 0, .int .i64 7] (Heap.upd H5 q3 (.cells #[.string s2, .bool b1] 135 (0, 0))) fun r4 H6 =>
∃ n3 : Int,
r4 = .int .i64 n3 ∧
∃ s3 : ByteArray,
∃ b2 : Bool,
H6 q3 = some (.cells #[.string s3, .bool b2] 135 (0, 0)) ∧
letH (Heap.del H6 q3) fun H7 =>
∃ J1 : ByteArray → Bool → Heap → Prop,
 (∃ I1 : Int → ByteArray → Bool → Heap → Prop,
∃ M1 : Int → ByteArray → Bool → Heap → Nat,
I1 0 s3 b2 H7 ∧
∀ i_1 : Int,
∀ s4 : ByteArray,
∀ b3 : Bool,
∀ H8 : Heap,
I1 i_1 s4 b3 H8 →
br (decide ((i_1 : Int) < n3)) (
br (!b3) (
∀ q4 : Nat,
H8 q4 = none →
FnH Tryz.prog 101 #[.pointer (some ⟨q4, 0, none⟩), .int .i64 1, .int .i64 7] (Heap.upd H8 q4 (.cells #[.string s4, .bool b3] 135 (0, 0))) fun r5 H9 =>
∃ n4 : Int,
r5 = .int .i64 n4 ∧
∃ s5 : ByteArray,
∃ b4 : Bool,
H9 q4 = some (.cells #[.string s5, .bool b4] 135 (0, 0)) ∧
letH (Heap.del H9 q4) fun H10 =>
∀ q5 : Nat,
H10 q5 = none →
FnH Tryz.prog 101 #[.pointer (some ⟨q5, 0, none⟩), .int .i64 1, .int .i64 1000000000] (Heap.upd H10 q5 (.cells #[.string s5, .bool b4] 135 (0, 0))) fun r6 H11 =>
∃ n5 : Int,
r6 = .int .i64 n5 ∧
∃ s6 : ByteArray,
∃ b5 : Bool,
H11 q5 = some (.cells #[.string s6, .bool b5] 135 (0, 0)) ∧
letH (Heap.del H11 q5) fun H12 =>
∀ q6 : Nat,
H12 q6 = none →
FnH Tryz.prog 101 #[.pointer (some ⟨q6, 0, none⟩), .int .i64 0, .int .i64 1] (Heap.upd H12 q6 (.cells #[.string s6, .bool b5] 135 (0, 0))) fun r7 H13 =>
∃ n6 : Int,
r7 = .int .i64 n6 ∧
∃ s7 : ByteArray,
∃ b6 : Bool,
H13 q6 = some (.cells #[.string s7, .bool b6] 135 (0, 0)) ∧
letH (Heap.del H13 q6) fun H14 =>
br (decide ((i_1 : Int) > 0)) (
∃ l1 : Sl,
cellH H14 ⟨q2, 1, none⟩ = some (.slice l1.p l1.n l1.c) ∧
∃ q7 o1 : Nat,
 (l1.p : Option Addr) = some ⟨q7, o1, none⟩ ∧
0 ≤ ((IntKind.wrap .i64 (i_1 - 1)) : Int) ∧
 ((IntKind.wrap .i64 (i_1 - 1)) : Int) < (l1.n : Nat) ∧
∃ n7 : Int,
cellH H14 ⟨q7, o1 + Int.toNat (IntKind.wrap .i64 (i_1 - 1)) * 3, none⟩ = some (.int .i64 n7) ∧
br (decide ((n4 : Int) ≤ n7)) (
∃ l2 : Sl,
cellH H14 ⟨q2, 1, none⟩ = some (.slice l2.p l2.n l2.c) ∧
∀ q8 : Nat,
H14 q8 = none →
letH (Heap.upd H14 q8 (.cells #[.int .i64 n4, .int .i64 n5, .bool ((n6 : Int) == 1)] 97 (0, 0))) fun H15 =>
Sub H14 H15 ∧
runH Tryz.prog (Builtin.append_ #[53, 53] 53 #[.slice l2.p l2.n l2.c, .slice (some ⟨q8, 0, none⟩) 1 1]) H15 fun r8 H16 =>
∃ l3 : Sl,
r8 = .slice l3.p l3.n l3.c ∧
 (∃ u, cellH H16 ⟨q2, 1, none⟩ = some u) ∧
frozenH H16 ⟨q2, 1, none⟩ = false ∧
letH (Heap.set H16 ⟨q2, 1, none⟩ (.slice l3.p l3.n l3.c)) fun H17 =>
SelfEq ([.loc 0 0, .v (.pointer (some ⟨q2, 0, none⟩)), .v (.int .i64 n3)], [], [135]) ∧
I1 (IntKind.wrap .i64 (i_1 + 1)) s7 true H17 ∧
M1 (IntKind.wrap .i64 (i_1 + 1)) s7 true H17 < M1 i_1 s4 b3 H8)
 (
∃ l4 : Sl,
cellH H14 ⟨q2, 1, none⟩ = some (.slice l4.p l4.n l4.c) ∧
∀ q9 : Nat,
H14 q9 = none →
letH (Heap.upd H14 q9 (.cells #[.int .i64 n4, .int .i64 n5, .bool ((n6 : Int) == 1)] 97 (0, 0))) fun H18 =>
Sub H14 H18 ∧
runH Tryz.prog (Builtin.append_ #[53, 53] 53 #[.slice l4.p l4.n l4.c, .slice (some ⟨q9, 0, none⟩) 1 1]) H18 fun r9 H19 =>
∃ l5 : Sl,
r9 = .slice l5.p l5.n l5.c ∧
 (∃ u, cellH H19 ⟨q2, 1, none⟩ = some u) ∧
frozenH H19 ⟨q2, 1, none⟩ = false ∧
letH (Heap.set H19 ⟨q2, 1, none⟩ (.slice l5.p l5.n l5.c)) fun H20 =>
SelfEq ([.loc 0 0, .v (.pointer (some ⟨q2, 0, none⟩)), .v (.int .i64 n3)], [], [135]) ∧
I1 (IntKind.wrap .i64 (i_1 + 1)) s7 b6 H20 ∧
M1 (IntKind.wrap .i64 (i_1 + 1)) s7 b6 H20 < M1 i_1 s4 b3 H8))
 (
∃ l6 : Sl,
cellH H14 ⟨q2, 1, none⟩ = some (.slice l6.p l6.n l6.c) ∧
∀ q10 : Nat,
H14 q10 = none →
letH (Heap.upd H14 q10 (.cells #[.int .i64 n4, .int .i64 n5, .bool ((n6 : Int) == 1)] 97 (0, 0))) fun H21 =>
Sub H14 H21 ∧
runH Tryz.prog (Builtin.append_ #[53, 53] 53 #[.slice l6.p l6.n l6.c, .slice (some ⟨q10, 0, none⟩) 1 1]) H21 fun r10 H22 =>
∃ l7 : Sl,
r10 = .slice l7.p l7.n l7.c ∧
 (∃ u, cellH H22 ⟨q2, 1, none⟩ = some u) ∧
frozenH H22 ⟨q2, 1, none⟩ = false ∧
letH (Heap.set H22 ⟨q2, 1, none⟩ (.slice l7.p l7.n l7.c)) fun H23 =>
SelfEq ([.loc 0 0, .v (.pointer (some ⟨q2, 0, none⟩)), .v (.int .i64 n3)], [], [135]) ∧
I1 (IntKind.wrap .i64 (i_1 + 1)) s7 b6 H23 ∧
M1 (IntKind.wrap .i64 (i_1 + 1)) s7 b6 H23 < M1 i_1 s4 b3 H8))
 (
SelfEq ([.loc 0 0, .v (.pointer (some ⟨q2, 0, none⟩))], [], [135]) ∧
J1 s4 b3 H8))
 (
SelfEq ([.loc 0 0, .v (.pointer (some ⟨q2, 0, none⟩))], [], [135]) ∧
J1 s4 b3 H8)) ∧
∀ s8 : ByteArray,
∀ b7 : Bool,
∀ H24 : Heap,
J1 s8 b7 H24 →
∀ q11 : Nat,
H24 q11 = none →
FnH Tryz.prog 101 #[.pointer (some ⟨q11, 0, none⟩), .int .i64 0, .int .i64 16] (Heap.upd H24 q11 (.cells #[.string s8, .bool b7] 135 (0, 0))) fun r11 H25 =>
∃ n8 : Int,
r11 = .int .i64 n8 ∧
∃ s9 : ByteArray,
∃ b8 : Bool,
H25 q11 = some (.cells #[.string s9, .bool b8] 135 (0, 0)) ∧
letH (Heap.del H25 q11) fun H26 =>
∃ J2 : Int → ByteArray → Bool → Heap → Prop,
 (∃ I2 : Int → Int → ByteArray → Bool → Heap → Prop,
∃ M2 : Int → Int → ByteArray → Bool → Heap → Nat,
I2 1 0 s9 b8 H26 ∧
∀ next_1 i_2 : Int,
∀ s10 : ByteArray,
∀ b9 : Bool,
∀ H27 : Heap,
I2 next_1 i_2 s10 b9 H27 →
br (decide ((i_2 : Int) < n8)) (
br (!b9) (
∀ q12 : Nat,
H27 q12 = none →
FnH Tryz.prog 101 #[.pointer (some ⟨q12, 0, none⟩), .int .i64 1, .int .i64 32] (Heap.upd H27 q12 (.cells #[.string s10, .bool b9] 135 (0, 0))) fun r12 H28 =>
∃ n9 : Int,
r12 = .int .i64 n9 ∧
∃ s11 : ByteArray,
∃ b10 : Bool,
H28 q12 = some (.cells #[.string s11, .bool b10] 135 (0, 0)) ∧
letH (Heap.del H28 q12) fun H29 =>
br (decide ((n9 : Int) > (s11.size : Nat))) (
SelfEq ([.loc 0 0, .v (.pointer (some ⟨q2, 0, none⟩))], [], [135]) ∧
J2 next_1 s11 true H29)
 (
0 ≤ (n9 : Int) ∧
 (n9 : Int) ≤ (s11.size : Nat) ∧
0 ≤ (n9 : Int) ∧
 (n9 : Int) ≤ (s11.size : Nat) ∧
∀ q13 : Nat,
H29 q13 = none →
FnH Tryz.prog 101 #[.pointer (some ⟨q13, 0, none⟩), .int .i64 1, .int .i64 16] (Heap.upd H29 q13 (.cells #[.string (s11.extract (Int.toNat n9) (Int.toNat (s11.size : Nat))), .bool b10] 135 (0, 0))) fun r13 H30 =>
∃ n10 : Int,
r13 = .int .i64 n10 ∧
∃ s12 : ByteArray,
∃ b11 : Bool,
H30 q13 = some (.cells #[.string s12, .bool b11] 135 (0, 0)) ∧
letH (Heap.del H30 q13) fun H31 =>
∀ q14 : Nat,
H31 q14 = none →
FnH Tryz.prog 101 #[.pointer (some ⟨q14, 0, none⟩), .int .i64 1, .int .i64 16] (Heap.upd H31 q14 (.cells #[.string s12, .bool b11] 135 (0, 0))) fun r14 H32 =>
∃ n11 : Int,
r14 = .int .i64 n11 ∧
∃ s13 : ByteArray,
∃ b12 : Bool,
H32 q14 = some (.cells #[.string s13, .bool b12] 135 (0, 0)) ∧
letH (Heap.del H32 q14) fun H33 =>
FnH Tryz.prog 92 #[.string (s11.extract (Int.toNat (0 : Int)) (Int.toNat n9))] H33 fun r15 H34 =>
∃ b13 : Bool,
r15 = .bool b13 ∧
∃ I3 : Bool → Int → Heap → Prop,
∃ M3 : Bool → Int → Heap → Nat,
I3 b13 0 H34 ∧
∀ good_1 : Bool,
∀ j_1 : Int,
∀ H35 : Heap,
I3 good_1 j_1 H35 →
br (decide ((j_1 : Int) < i_2)) (
br (good_1) (
∃ l8 : Sl,
cellH H35 ⟨q2, 2, none⟩ = some (.slice l8.p l8.n l8.c) ∧
∃ q15 o2 : Nat,
 (l8.p : Option Addr) = some ⟨q15, o2, none⟩ ∧
0 ≤ (j_1 : Int) ∧
 (j_1 : Int) < (l8.n : Nat) ∧
∃ s14 : ByteArray,
cellH H35 ⟨q15, o2 + Int.toNat j_1 * 3, none⟩ = some (.string s14) ∧
SelfEq ([.loc 0 0, .v (.pointer (some ⟨q2, 0, none⟩)), .v (.int .i64 n8), .v (.int .i64 next_1), .v (.int .i64 i_2), .loc 1 0], [some (135, [.string s13, .bool b12]), some (99, [.string (s11.extract (Int.toNat (0 : Int)) (Int.toNat n9)), .int .i64 n10, .int .i64 n11])], []) ∧
I3 (!(s14.toList == (s11.extract (Int.toNat (0 : Int)) (Int.toNat n9)).toList)) (IntKind.wrap .i64 (j_1 + 1)) H35 ∧
M3 (!(s14.toList == (s11.extract (Int.toNat (0 : Int)) (Int.toNat n9)).toList)) (IntKind.wrap .i64 (j_1 + 1)) H35 < M3 good_1 j_1 H35)
 (
SelfEq ([.loc 0 0, .v (.pointer (some ⟨q2, 0, none⟩)), .v (.int .i64 n8), .v (.int .i64 next_1), .v (.int .i64 i_2), .loc 1 0], [some (135, [.string s13, .bool b12]), some (99, [.string (s11.extract (Int.toNat (0 : Int)) (Int.toNat n9)), .int .i64 n10, .int .i64 n11])], []) ∧
I3 false (IntKind.wrap .i64 (j_1 + 1)) H35 ∧
M3 false (IntKind.wrap .i64 (j_1 + 1)) H35 < M3 good_1 j_1 H35))
 (
br (!good_1) (
∃ l9 : Sl,
cellH H35 ⟨q2, 2, none⟩ = some (.slice l9.p l9.n l9.c) ∧
∀ q16 : Nat,
H35 q16 = none →
letH (Heap.upd H35 q16 (.cells #[.string (s11.extract (Int.toNat (0 : Int)) (Int.toNat n9)), .int .i64 n10, .int .i64 n11] 99 (0, 0))) fun H36 =>
Sub H35 H36 ∧
runH Tryz.prog (Builtin.append_ #[54, 54] 54 #[.slice l9.p l9.n l9.c, .slice (some ⟨q16, 0, none⟩) 1 1]) H36 fun r16 H37 =>
∃ l10 : Sl,
r16 = .slice l10.p l10.n l10.c ∧
 (∃ u, cellH H37 ⟨q2, 2, none⟩ = some u) ∧
frozenH H37 ⟨q2, 2, none⟩ = false ∧
letH (Heap.set H37 ⟨q2, 2, none⟩ (.slice l10.p l10.n l10.c)) fun H38 =>
SelfEq ([.loc 0 0, .v (.pointer (some ⟨q2, 0, none⟩)), .v (.int .i64 n8)], [], [135]) ∧
I2 (IntKind.wrap .i64 (next_1 + n11)) (IntKind.wrap .i64 (i_2 + 1)) s13 true H38 ∧
M2 (IntKind.wrap .i64 (next_1 + n11)) (IntKind.wrap .i64 (i_2 + 1)) s13 true H38 < M2 next_1 i_2 s10 b9 H27)
 (
br ((n10 : Int) != next_1) (
∃ l11 : Sl,
cellH H35 ⟨q2, 2, none⟩ = some (.slice l11.p l11.n l11.c) ∧
∀ q17 : Nat,
H35 q17 = none →
letH (Heap.upd H35 q17 (.cells #[.string (s11.extract (Int.toNat (0 : Int)) (Int.toNat n9)), .int .i64 n10, .int .i64 n11] 99 (0, 0))) fun H39 =>
Sub H35 H39 ∧
runH Tryz.prog (Builtin.append_ #[54, 54] 54 #[.slice l11.p l11.n l11.c, .slice (some ⟨q17, 0, none⟩) 1 1]) H39 fun r17 H40 =>
∃ l12 : Sl,
r17 = .slice l12.p l12.n l12.c ∧
 (∃ u, cellH H40 ⟨q2, 2, none⟩ = some u) ∧
frozenH H40 ⟨q2, 2, none⟩ = false ∧
letH (Heap.set H40 ⟨q2, 2, none⟩ (.slice l12.p l12.n l12.c)) fun H41 =>
SelfEq ([.loc 0 0, .v (.pointer (some ⟨q2, 0, none⟩)), .v (.int .i64 n8)], [], [135]) ∧
I2 (IntKind.wrap .i64 (next_1 + n11)) (IntKind.wrap .i64 (i_2 + 1)) s13 true H41 ∧
M2 (IntKind.wrap .i64 (next_1 + n11)) (IntKind.wrap .i64 (i_2 + 1)) s13 true H41 < M2 next_1 i_2 s10 b9 H27)
 (
∃ l13 : Sl,
cellH H35 ⟨q2, 2, none⟩ = some (.slice l13.p l13.n l13.c) ∧
∀ q18 : Nat,
H35 q18 = none →
letH (Heap.upd H35 q18 (.cells #[.string (s11.extract (Int.toNat (0 : Int)) (Int.toNat n9)), .int .i64 n10, .int .i64 n11] 99 (0, 0))) fun H42 =>
Sub H35 H42 ∧
runH Tryz.prog (Builtin.append_ #[54, 54] 54 #[.slice l13.p l13.n l13.c, .slice (some ⟨q18, 0, none⟩) 1 1]) H42 fun r18 H43 =>
∃ l14 : Sl,
r18 = .slice l14.p l14.n l14.c ∧
 (∃ u, cellH H43 ⟨q2, 2, none⟩ = some u) ∧
frozenH H43 ⟨q2, 2, none⟩ = false ∧
letH (Heap.set H43 ⟨q2, 2, none⟩ (.slice l14.p l14.n l14.c)) fun H44 =>
SelfEq ([.loc 0 0, .v (.pointer (some ⟨q2, 0, none⟩)), .v (.int .i64 n8)], [], [135]) ∧
I2 (IntKind.wrap .i64 (next_1 + n11)) (IntKind.wrap .i64 (i_2 + 1)) s13 b12 H44 ∧
M2 (IntKind.wrap .i64 (next_1 + n11)) (IntKind.wrap .i64 (i_2 + 1)) s13 b12 H44 < M2 next_1 i_2 s10 b9 H27)))))
 (
SelfEq ([.loc 0 0, .v (.pointer (some ⟨q2, 0, none⟩))], [], [135]) ∧
J2 next_1 s10 b9 H27))
 (
SelfEq ([.loc 0 0, .v (.pointer (some ⟨q2, 0, none⟩))], [], [135]) ∧
J2 next_1 s10 b9 H27)) ∧
∀ next_2 : Int,
∀ s15 : ByteArray,
∀ b14 : Bool,
∀ H45 : Heap,
J2 next_2 s15 b14 H45 →
∀ q19 : Nat,
H45 q19 = none →
FnH Tryz.prog 101 #[.pointer (some ⟨q19, 0, none⟩), .int .i64 0, .int .i64 16] (Heap.upd H45 q19 (.cells #[.string s15, .bool b14] 135 (0, 0))) fun r19 H46 =>
∃ n12 : Int,
r19 = .int .i64 n12 ∧
∃ s16 : ByteArray,
∃ b15 : Bool,
H46 q19 = some (.cells #[.string s16, .bool b15] 135 (0, 0)) ∧
letH (Heap.del H46 q19) fun H47 =>
∃ J3 : ByteArray → Bool → Heap → Prop,
 (∃ I4 : Int → ByteArray → Bool → Heap → Prop,
∃ M4 : Int → ByteArray → Bool → Heap → Nat,
I4 0 s16 b15 H47 ∧
∀ i_3 : Int,
∀ s17 : ByteArray,
∀ b16 : Bool,
∀ H48 : Heap,
I4 i_3 s17 b16 H48 →
br (decide ((i_3 : Int) < n12)) (
br (!b16) (
∀ q20 : Nat,
H48 q20 = none →
FnH Tryz.prog 101 #[.pointer (some ⟨q20, 0, none⟩), .int .i64 0, .int .i64 7] (Heap.upd H48 q20 (.cells #[.string s17, .bool b16] 135 (0, 0))) fun r20 H49 =>
∃ n13 : Int,
r20 = .int .i64 n13 ∧
∃ s18 : ByteArray,
∃ b17 : Bool,
H49 q20 = some (.cells #[.string s18, .bool b17] 135 (0, 0)) ∧
letH (Heap.del H49 q20) fun H50 =>
∀ q21 : Nat,
H50 q21 = none →
FnH Tryz.prog 101 #[.pointer (some ⟨q21, 0, none⟩), .int .i64 1, .int .i64 1000000000] (Heap.upd H50 q21 (.cells #[.string s18, .bool b17] 135 (0, 0))) fun r21 H51 =>
∃ n14 : Int,
r21 = .int .i64 n14 ∧
∃ s19 : ByteArray,
∃ b18 : Bool,
H51 q21 = some (.cells #[.string s19, .bool b18] 135 (0, 0)) ∧
letH (Heap.del H51 q21) fun H52 =>
∀ q22 : Nat,
H52 q22 = none →
FnH Tryz.prog 101 #[.pointer (some ⟨q22, 0, none⟩), .int .i64 1, .int .i64 1000000000] (Heap.upd H52 q22 (.cells #[.string s19, .bool b18] 135 (0, 0))) fun r22 H53 =>
∃ n15 : Int,
r22 = .int .i64 n15 ∧
∃ s20 : ByteArray,
∃ b19 : Bool,
H53 q22 = some (.cells #[.string s20, .bool b19] 135 (0, 0)) ∧
letH (Heap.del H53 q22) fun H54 =>
∀ q23 : Nat,
H54 q23 = none →
FnH Tryz.prog 101 #[.pointer (some ⟨q23, 0, none⟩), .int .i64 1, .int .i64 5] (Heap.upd H54 q23 (.cells #[.string s20, .bool b19] 135 (0, 0))) fun r23 H55 =>
∃ n16 : Int,
r23 = .int .i64 n16 ∧
∃ s21 : ByteArray,
∃ b20 : Bool,
H55 q23 = some (.cells #[.string s21, .bool b20] 135 (0, 0)) ∧
letH (Heap.del H55 q23) fun H56 =>
∀ q24 : Nat,
H56 q24 = none →
FnH Tryz.prog 102 #[.pointer (some ⟨q24, 0, none⟩), .int .i64 7, .int .i64 1, .int .i64 7] (Heap.upd H56 q24 (.cells #[.string s21, .bool b20] 135 (0, 0))) fun r24 H57 =>
∃ l15 : Sl,
r24 = .slice l15.p l15.n l15.c ∧
∃ s22 : ByteArray,
∃ b21 : Bool,
H57 q24 = some (.cells #[.string s22, .bool b21] 135 (0, 0)) ∧
letH (Heap.del H57 q24) fun H58 =>
∀ q25 : Nat,
H58 q25 = none →
FnH Tryz.prog 102 #[.pointer (some ⟨q25, 0, none⟩), .int .i64 7, .int .i64 1, .int .i64 7] (Heap.upd H58 q25 (.cells #[.string s22, .bool b21] 135 (0, 0))) fun r25 H59 =>
∃ l16 : Sl,
r25 = .slice l16.p l16.n l16.c ∧
∃ s23 : ByteArray,
∃ b22 : Bool,
H59 q25 = some (.cells #[.string s23, .bool b22] 135 (0, 0)) ∧
letH (Heap.del H59 q25) fun H60 =>
∀ q26 : Nat,
H60 q26 = none →
FnH Tryz.prog 102 #[.pointer (some ⟨q26, 0, none⟩), .int .i64 7, .int .i64 1, .int .i64 7] (Heap.upd H60 q26 (.cells #[.string s23, .bool b22] 135 (0, 0))) fun r26 H61 =>
∃ l17 : Sl,
r26 = .slice l17.p l17.n l17.c ∧
∃ s24 : ByteArray,
∃ b23 : Bool,
H61 q26 = some (.cells #[.string s24, .bool b23] 135 (0, 0)) ∧
letH (Heap.del H61 q26) fun H62 =>
∀ q27 : Nat,
H62 q27 = none →
FnH Tryz.prog 102 #[.pointer (some ⟨q27, 0, none⟩), .int .i64 7, .int .i64 1, .int .i64 7] (Heap.upd H62 q27 (.cells #[.string s24, .bool b23] 135 (0, 0))) fun r27 H63 =>
∃ l18 : Sl,
r27 = .slice l18.p l18.n l18.c ∧
∃ s25 : ByteArray,
∃ b24 : Bool,
H63 q27 = some (.cells #[.string s25, .bool b24] 135 (0, 0)) ∧
letH (Heap.del H63 q27) fun H64 =>
FnH Tryz.prog 103 #[.agg #[.int .i64 (IntKind.wrap .i64 (i_3 + 1)), .int .i64 n13, .int .i64 n14, .int .i64 n15, .slice l15.p l15.n l15.c, .slice l16.p l16.n l16.c, .slice l17.p l17.n l17.c, .slice l18.p l18.n l18.c, .int .i64 n16]] H64 fun r28 H65 =>
∃ b25 : Bool,
r28 = .bool b25 ∧
br (!b25) (
∃ l19 : Sl,
cellH H65 ⟨q2, 3, none⟩ = some (.slice l19.p l19.n l19.c) ∧
∀ q28 : Nat,
H65 q28 = none →
letH (Heap.upd H65 q28 (.cells #[.int .i64 (IntKind.wrap .i64 (i_3 + 1)), .int .i64 n13, .int .i64 n14, .int .i64 n15, .slice l15.p l15.n l15.c, .slice l16.p l16.n l16.c, .slice l17.p l17.n l17.c, .slice l18.p l18.n l18.c, .int .i64 n16] 41 (0, 0))) fun H66 =>
Sub H65 H66 ∧
runH Tryz.prog (Builtin.append_ #[35, 35] 35 #[.slice l19.p l19.n l19.c, .slice (some ⟨q28, 0, none⟩) 1 1]) H66 fun r29 H67 =>
∃ l20 : Sl,
r29 = .slice l20.p l20.n l20.c ∧
 (∃ u, cellH H67 ⟨q2, 3, none⟩ = some u) ∧
frozenH H67 ⟨q2, 3, none⟩ = false ∧
letH (Heap.set H67 ⟨q2, 3, none⟩ (.slice l20.p l20.n l20.c)) fun H68 =>
SelfEq ([.loc 0 0, .v (.pointer (some ⟨q2, 0, none⟩)), .v (.int .i64 n12), .v (.int .i64 next_2)], [], [135]) ∧
I4 (IntKind.wrap .i64 (i_3 + 1)) s25 true H68 ∧
M4 (IntKind.wrap .i64 (i_3 + 1)) s25 true H68 < M4 i_3 s17 b16 H48)
 (
∃ l21 : Sl,
cellH H65 ⟨q2, 3, none⟩ = some (.slice l21.p l21.n l21.c) ∧
∀ q29 : Nat,
H65 q29 = none →
letH (Heap.upd H65 q29 (.cells #[.int .i64 (IntKind.wrap .i64 (i_3 + 1)), .int .i64 n13, .int .i64 n14, .int .i64 n15, .slice l15.p l15.n l15.c, .slice l16.p l16.n l16.c, .slice l17.p l17.n l17.c, .slice l18.p l18.n l18.c, .int .i64 n16] 41 (0, 0))) fun H69 =>
Sub H65 H69 ∧
runH Tryz.prog (Builtin.append_ #[35, 35] 35 #[.slice l21.p l21.n l21.c, .slice (some ⟨q29, 0, none⟩) 1 1]) H69 fun r30 H70 =>
∃ l22 : Sl,
r30 = .slice l22.p l22.n l22.c ∧
 (∃ u, cellH H70 ⟨q2, 3, none⟩ = some u) ∧
frozenH H70 ⟨q2, 3, none⟩ = false ∧
letH (Heap.set H70 ⟨q2, 3, none⟩ (.slice l22.p l22.n l22.c)) fun H71 =>
SelfEq ([.loc 0 0, .v (.pointer (some ⟨q2, 0, none⟩)), .v (.int .i64 n12), .v (.int .i64 next_2)], [], [135]) ∧
I4 (IntKind.wrap .i64 (i_3 + 1)) s25 b24 H71 ∧
M4 (IntKind.wrap .i64 (i_3 + 1)) s25 b24 H71 < M4 i_3 s17 b16 H48))
 (
SelfEq ([.loc 0 0, .v (.pointer (some ⟨q2, 0, none⟩)), .v (.int .i64 next_2)], [], [135]) ∧
J3 s17 b16 H48))
 (
SelfEq ([.loc 0 0, .v (.pointer (some ⟨q2, 0, none⟩)), .v (.int .i64 next_2)], [], [135]) ∧
J3 s17 b16 H48)) ∧
∀ s26 : ByteArray,
∀ b26 : Bool,
∀ H72 : Heap,
J3 s26 b26 H72 →
∀ q30 : Nat,
H72 q30 = none →
FnH Tryz.prog 102 #[.pointer (some ⟨q30, 0, none⟩), .int .i64 1000, .int .i64 0, .int .i64 1000000000] (Heap.upd H72 q30 (.cells #[.string s26, .bool b26] 135 (0, 0))) fun r31 H73 =>
∃ l23 : Sl,
r31 = .slice l23.p l23.n l23.c ∧
∃ s27 : ByteArray,
∃ b27 : Bool,
H73 q30 = some (.cells #[.string s27, .bool b27] 135 (0, 0)) ∧
letH (Heap.del H73 q30) fun H74 =>
 (∃ u, cellH H74 ⟨q2, 4, none⟩ = some u) ∧
frozenH H74 ⟨q2, 4, none⟩ = false ∧
letH (Heap.set H74 ⟨q2, 4, none⟩ (.slice l23.p l23.n l23.c)) fun H75 =>
br (b27) (
K (.tuple #[.pointer none, .int .i64 4]) H75)
 (
br (!(s27.toList == (⟨#[]⟩ : ByteArray).toList)) (
K (.tuple #[.pointer none, .int .i64 4]) H75)
 (
∃ l24 : Sl,
cellH H75 ⟨q2, 3, none⟩ = some (.slice l24.p l24.n l24.c) ∧
br ((next_2 : Int) != (IntKind.wrap .i64 ((l24.n : Nat) + 1))) (
K (.tuple #[.pointer none, .int .i64 4]) H75)
 (
K (.tuple #[.pointer (some ⟨q2, 0, none⟩), .int .i64 0]) H75)))))
theorem logboomref12_Load_fn (s : ByteArray) {H : Heap} {K : Value → Heap → Prop} (h : logboomref12_Load_vc s H K) : FnH Tryz.prog 60 #[.string s] H K :=
  denFn_fn Tryz.mixed logboomref12_Load_ann Tryz.func60 (bodyOf_spec (by kernel_rfl)) (by kernel_rfl) h
end Go.Proofs.YtmofinghoacobaaGreatDoor
