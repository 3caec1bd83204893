import Derived.Test.YtmofinghoacobaaGreatDoorProg
import Derived.KernelRfl
import Derived.Test.YtmofinghoacobaaGreatDoorHlFn
import Derived.Test.YtmofinghoacobaaGreatDoorVd
namespace Go.Proofs.YtmofinghoacobaaGreatDoor
open Go.HL
set_option maxRecDepth 100000
def slices_Clone_Lmeta_topic_meta_topic_ann : Anns := { hid := [], loops := [], joins := [], mix := [] }
def slices_Clone_Lmeta_topic_meta_topic_vc (s : Sl) (H : Heap) (K : Value → Heap → Prop) : Prop :=
br (Option.isNone s.p) (
K (.slice none 0 0) H)
 (
∀ q1 : Nat,
H q1 = none →
letH (Heap.upd H q1 (.cells #[] 74 (0, 0))) fun H1 =>
runH Tryz.prog (Builtin.append_ #[68, 68] 68 #[.slice (some ⟨q1, 0, none⟩) 0 0, .slice s.p s.n s.c]) H1 fun r1 H2 =>
∃ l1 : Sl,
r1 = .slice l1.p l1.n l1.c ∧
K (.slice l1.p l1.n l1.c) H2)
theorem slices_Clone_Lmeta_topic_meta_topic_fn (s : Sl) {H : Heap} {K : Value → Heap → Prop} (h : slices_Clone_Lmeta_topic_meta_topic_vc s H K) : FnH Tryz.prog 65 #[.slice s.p s.n s.c] H K :=
  denFn_fn Tryz.mixed slices_Clone_Lmeta_topic_meta_topic_ann Tryz.func65 (bodyOf_spec (by kernel_rfl)) (by kernel_rfl) h
def meta_Image_Clone_ann : Anns := { hid := [], loops := [], joins := [], mix := [(1, [])] }
def meta_Image_Clone_vc (m mo : Nat) (H : Heap) (K : Value → Heap → Prop) : Prop :=
∃ n1 : Int,
cellH H ⟨m, mo, none⟩ = some (.int .i64 n1) ∧
∃ m1 : Option Nat,
cellH H ⟨m, mo + 1, none⟩ = some (.map m1) ∧
∃ l1 : Sl,
cellH H ⟨m, mo + 2, none⟩ = some (.slice l1.p l1.n l1.c) ∧
∃ l2 : Sl,
cellH H ⟨m, mo + 4, none⟩ = some (.slice l2.p l2.n l2.c) ∧
FnH Tryz.prog 64 #[.map m1] H fun r1 H1 =>
∃ m2 : Option Nat,
r1 = .map m2 ∧
Sub H H1 ∧
FnH Tryz.prog 65 #[.slice l1.p l1.n l1.c] H1 fun r2 H2 =>
∃ l3 : Sl,
r2 = .slice l3.p l3.n l3.c ∧
Sub H H2 ∧
FnH Tryz.prog 14 #[.pointer (some ⟨m, mo, none⟩)] H2 fun r3 H3 =>
∃ l4 : Sl,
r3 = .slice l4.p l4.n l4.c ∧
Sub H H3 ∧
FnH Tryz.prog 66 #[.slice l2.p l2.n l2.c] H3 fun r4 H4 =>
∃ l5 : Sl,
r4 = .slice l5.p l5.n l5.c ∧
Sub H H4 ∧
∀ q1 : Nat,
H4 q1 = none →
letH (Heap.upd H4 q1 (.cells #[.int .i64 n1, .map m2, .slice l3.p l3.n l3.c, .slice l4.p l4.n l4.c, .slice l5.p l5.n l5.c] 70 (0, 0))) fun H5 =>
Sub H H5 ∧
K (.pointer (some ⟨q1, 0, none⟩)) H5
theorem meta_Image_Clone_fn (m mo : Nat) {H : Heap} {K : Value → Heap → Prop} (h : meta_Image_Clone_vc m mo H K) : FnH Tryz.prog 29 #[.pointer (some ⟨m, mo, none⟩)] H K :=
  denFn_fn Tryz.mixed meta_Image_Clone_ann Tryz.func29 (bodyOf_spec (by kernel_rfl)) (by kernel_rfl) h
def logboomlaw12_fits_ann : Anns := { hid := [3, 4, 6], loops := [(0, { slots := [(5, .int .i64)], kept := [0, 3, 4], locs := [(0, [.int .i64, .int .i64, .int .i64, .int .i64, .int .i64, .str, .str, .slice])], keptL := [1] })], joins := [((0, 4), { slots := [(36, .bool)], kept := [0, 3, 4, 5], locs := [], keptL := [0, 1] }), ((0, 6), { slots := [(61, .bool)], kept := [0, 3, 4, 5], locs := [], keptL := [0, 1] }), ((0, 8), { slots := [(89, .bool)], kept := [0, 3, 4], locs := [], keptL := [0, 1] })], mix := [(9, [10])] }
def logboomlaw12_fits_vc (r ro : Nat) (x_0 x_1 x_2 x_3 x_4 : Int) (x_5 x_6 : ByteArray) (x_7 : Sl) (H : Heap) (K : Value → Heap → Prop) : Prop :=
∃ I1 : Int → Int → Int → Int → Int → Int → ByteArray → ByteArray → Sl → Heap → Prop,
∃ M1 : Int → Int → Int → Int → Int → Int → ByteArray → ByteArray → Sl → Heap → Nat,
I1 0 x_0 x_1 x_2 x_3 x_4 x_5 x_6 x_7 H ∧
∀ i_1 n1 n2 n3 n4 n5 : Int,
∀ s1 s2 : ByteArray,
∀ l1 : Sl,
∀ H1 : Heap,
I1 i_1 n1 n2 n3 n4 n5 s1 s2 l1 H1 →
∃ l2 : Sl,
cellH H1 ⟨r, ro + 1, none⟩ = some (.slice l2.p l2.n l2.c) ∧
br (decide ((i_1 : Int) < (l2.n : Nat))) (
∃ J1 : Bool → Heap → Prop,
 (∃ l3 : Sl,
cellH H1 ⟨r, ro + 1, none⟩ = some (.slice l3.p l3.n l3.c) ∧
∃ q1 o1 : Nat,
 (l3.p : Option Addr) = some ⟨q1, o1, none⟩ ∧
0 ≤ (i_1 : Int) ∧
 (i_1 : Int) < (l3.n : Nat) ∧
∃ n6 : Int,
cellH H1 ⟨q1, o1 + Int.toNat i_1 * 3, none⟩ = some (.int .i64 n6) ∧
br ((n6 : Int) == n2) (
br ((n1 : Int) == 2) (
SelfEq ([.v (.pointer (some ⟨r, ro, none⟩)), .loc 0 0, .loc 1 0, .v (.int .i64 i_1)], [some (31, [.int .i64 n1, .int .i64 n2, .int .i64 n3, .int .i64 n4, .int .i64 n5, .string s1, .string s2, .slice l1.p l1.n l1.c]), some (31, [.int .i64 0, .int .i64 0, .int .i64 0, .int .i64 0, .int .i64 0, .string (⟨#[]⟩ : ByteArray), .string (⟨#[]⟩ : ByteArray), .slice none 0 0])], []) ∧
J1 true H1)
 (
SelfEq ([.v (.pointer (some ⟨r, ro, none⟩)), .loc 0 0, .loc 1 0, .v (.int .i64 i_1)], [some (31, [.int .i64 n1, .int .i64 n2, .int .i64 n3, .int .i64 n4, .int .i64 n5, .string s1, .string s2, .slice l1.p l1.n l1.c]), some (31, [.int .i64 0, .int .i64 0, .int .i64 0, .int .i64 0, .int .i64 0, .string (⟨#[]⟩ : ByteArray), .string (⟨#[]⟩ : ByteArray), .slice none 0 0])], []) ∧
J1 ((n1 : Int) == 3) H1))
 (
SelfEq ([.v (.pointer (some ⟨r, ro, none⟩)), .loc 0 0, .loc 1 0, .v (.int .i64 i_1)], [some (31, [.int .i64 n1, .int .i64 n2, .int .i64 n3, .int .i64 n4, .int .i64 n5, .string s1, .string s2, .slice l1.p l1.n l1.c]), some (31, [.int .i64 0, .int .i64 0, .int .i64 0, .int .i64 0, .int .i64 0, .string (⟨#[]⟩ : ByteArray), .string (⟨#[]⟩ : ByteArray), .slice none 0 0])], []) ∧
J1 false H1)) ∧
∀ b_1 : Bool,
∀ H2 : Heap,
J1 b_1 H2 →
br (b_1) (
∃ l4 : Sl,
cellH H2 ⟨r, ro + 1, none⟩ = some (.slice l4.p l4.n l4.c) ∧
∃ q2 o2 : Nat,
 (l4.p : Option Addr) = some ⟨q2, o2, none⟩ ∧
0 ≤ (i_1 : Int) ∧
 (i_1 : Int) < (l4.n : Nat) ∧
∃ n7 : Int,
cellH H2 ⟨q2, o2 + Int.toNat i_1 * 3 + 1, none⟩ = some (.int .i64 n7) ∧
∃ J2 : Bool → Heap → Prop,
 (∃ l5 : Sl,
cellH H2 ⟨r, ro + 1, none⟩ = some (.slice l5.p l5.n l5.c) ∧
∃ q3 o3 : Nat,
 (l5.p : Option Addr) = some ⟨q3, o3, none⟩ ∧
0 ≤ (i_1 : Int) ∧
 (i_1 : Int) < (l5.n : Nat) ∧
∃ n8 : Int,
cellH H2 ⟨q3, o3 + Int.toNat i_1 * 3, none⟩ = some (.int .i64 n8) ∧
br ((n8 : Int) == n2) (
SelfEq ([.v (.pointer (some ⟨r, ro, none⟩)), .loc 0 0, .loc 1 0, .v (.int .i64 i_1)], [some (31, [.int .i64 n1, .int .i64 n2, .int .i64 n7, .int .i64 n4, .int .i64 n5, .string s1, .string s2, .slice l1.p l1.n l1.c]), some (31, [.int .i64 0, .int .i64 0, .int .i64 0, .int .i64 0, .int .i64 0, .string (⟨#[]⟩ : ByteArray), .string (⟨#[]⟩ : ByteArray), .slice none 0 0])], []) ∧
J2 ((n1 : Int) == 1) H2)
 (
SelfEq ([.v (.pointer (some ⟨r, ro, none⟩)), .loc 0 0, .loc 1 0, .v (.int .i64 i_1)], [some (31, [.int .i64 n1, .int .i64 n2, .int .i64 n7, .int .i64 n4, .int .i64 n5, .string s1, .string s2, .slice l1.p l1.n l1.c]), some (31, [.int .i64 0, .int .i64 0, .int .i64 0, .int .i64 0, .int .i64 0, .string (⟨#[]⟩ : ByteArray), .string (⟨#[]⟩ : ByteArray), .slice none 0 0])], []) ∧
J2 false H2)) ∧
∀ b_2 : Bool,
∀ H3 : Heap,
J2 b_2 H3 →
br (b_2) (
∃ l6 : Sl,
cellH H3 ⟨r, ro + 1, none⟩ = some (.slice l6.p l6.n l6.c) ∧
∃ q4 o4 : Nat,
 (l6.p : Option Addr) = some ⟨q4, o4, none⟩ ∧
0 ≤ (i_1 : Int) ∧
 (i_1 : Int) < (l6.n : Nat) ∧
∃ n9 : Int,
cellH H3 ⟨q4, o4 + Int.toNat i_1 * 3 + 1, none⟩ = some (.int .i64 n9) ∧
SelfEq ([.v (.pointer (some ⟨r, ro, none⟩)), .loc 0 0, .loc 1 0], [some (31, [.int .i64 0, .int .i64 0, .int .i64 0, .int .i64 0, .int .i64 0, .string (⟨#[]⟩ : ByteArray), .string (⟨#[]⟩ : ByteArray), .slice none 0 0])], [31]) ∧
I1 (IntKind.wrap .i64 (i_1 + 1)) n1 n2 (IntKind.wrap .i64 (n9 + 1)) n4 n5 s1 s2 l1 H3 ∧
M1 (IntKind.wrap .i64 (i_1 + 1)) n1 n2 (IntKind.wrap .i64 (n9 + 1)) n4 n5 s1 s2 l1 H3 < M1 i_1 n1 n2 n3 n4 n5 s1 s2 l1 H1)
 (
SelfEq ([.v (.pointer (some ⟨r, ro, none⟩)), .loc 0 0, .loc 1 0], [some (31, [.int .i64 0, .int .i64 0, .int .i64 0, .int .i64 0, .int .i64 0, .string (⟨#[]⟩ : ByteArray), .string (⟨#[]⟩ : ByteArray), .slice none 0 0])], [31]) ∧
I1 (IntKind.wrap .i64 (i_1 + 1)) n1 n2 n7 n4 n5 s1 s2 l1 H3 ∧
M1 (IntKind.wrap .i64 (i_1 + 1)) n1 n2 n7 n4 n5 s1 s2 l1 H3 < M1 i_1 n1 n2 n3 n4 n5 s1 s2 l1 H1))
 (
∃ J3 : Bool → Heap → Prop,
 (∃ l7 : Sl,
cellH H2 ⟨r, ro + 1, none⟩ = some (.slice l7.p l7.n l7.c) ∧
∃ q5 o5 : Nat,
 (l7.p : Option Addr) = some ⟨q5, o5, none⟩ ∧
0 ≤ (i_1 : Int) ∧
 (i_1 : Int) < (l7.n : Nat) ∧
∃ n10 : Int,
cellH H2 ⟨q5, o5 + Int.toNat i_1 * 3, none⟩ = some (.int .i64 n10) ∧
br ((n10 : Int) == n2) (
SelfEq ([.v (.pointer (some ⟨r, ro, none⟩)), .loc 0 0, .loc 1 0, .v (.int .i64 i_1)], [some (31, [.int .i64 n1, .int .i64 n2, .int .i64 n3, .int .i64 n4, .int .i64 n5, .string s1, .string s2, .slice l1.p l1.n l1.c]), some (31, [.int .i64 0, .int .i64 0, .int .i64 0, .int .i64 0, .int .i64 0, .string (⟨#[]⟩ : ByteArray), .string (⟨#[]⟩ : ByteArray), .slice none 0 0])], []) ∧
J3 ((n1 : Int) == 1) H2)
 (
SelfEq ([.v (.pointer (some ⟨r, ro, none⟩)), .loc 0 0, .loc 1 0, .v (.int .i64 i_1)], [some (31, [.int .i64 n1, .int .i64 n2, .int .i64 n3, .int .i64 n4, .int .i64 n5, .string s1, .string s2, .slice l1.p l1.n l1.c]), some (31, [.int .i64 0, .int .i64 0, .int .i64 0, .int .i64 0, .int .i64 0, .string (⟨#[]⟩ : ByteArray), .string (⟨#[]⟩ : ByteArray), .slice none 0 0])], []) ∧
J3 false H2)) ∧
∀ b_3 : Bool,
∀ H4 : Heap,
J3 b_3 H4 →
br (b_3) (
∃ l8 : Sl,
cellH H4 ⟨r, ro + 1, none⟩ = some (.slice l8.p l8.n l8.c) ∧
∃ q6 o6 : Nat,
 (l8.p : Option Addr) = some ⟨q6, o6, none⟩ ∧
0 ≤ (i_1 : Int) ∧
 (i_1 : Int) < (l8.n : Nat) ∧
∃ n11 : Int,
cellH H4 ⟨q6, o6 + Int.toNat i_1 * 3 + 1, none⟩ = some (.int .i64 n11) ∧
SelfEq ([.v (.pointer (some ⟨r, ro, none⟩)), .loc 0 0, .loc 1 0], [some (31, [.int .i64 0, .int .i64 0, .int .i64 0, .int .i64 0, .int .i64 0, .string (⟨#[]⟩ : ByteArray), .string (⟨#[]⟩ : ByteArray), .slice none 0 0])], [31]) ∧
I1 (IntKind.wrap .i64 (i_1 + 1)) n1 n2 (IntKind.wrap .i64 (n11 + 1)) n4 n5 s1 s2 l1 H4 ∧
M1 (IntKind.wrap .i64 (i_1 + 1)) n1 n2 (IntKind.wrap .i64 (n11 + 1)) n4 n5 s1 s2 l1 H4 < M1 i_1 n1 n2 n3 n4 n5 s1 s2 l1 H1)
 (
SelfEq ([.v (.pointer (some ⟨r, ro, none⟩)), .loc 0 0, .loc 1 0], [some (31, [.int .i64 0, .int .i64 0, .int .i64 0, .int .i64 0, .int .i64 0, .string (⟨#[]⟩ : ByteArray), .string (⟨#[]⟩ : ByteArray), .slice none 0 0])], [31]) ∧
I1 (IntKind.wrap .i64 (i_1 + 1)) n1 n2 n3 n4 n5 s1 s2 l1 H4 ∧
M1 (IntKind.wrap .i64 (i_1 + 1)) n1 n2 n3 n4 n5 s1 s2 l1 H4 < M1 i_1 n1 n2 n3 n4 n5 s1 s2 l1 H1)))
 (
∃ J4 : Bool → Heap → Prop,
 (br ((n1 : Int) == 5) (
br (decide ((n2 : Int) ≥ 1)) (
∃ l9 : Sl,
cellH H1 ⟨r, ro + 3, none⟩ = some (.slice l9.p l9.n l9.c) ∧
SelfEq ([.v (.pointer (some ⟨r, ro, none⟩)), .loc 0 0, .loc 1 0], [some (31, [.int .i64 n1, .int .i64 n2, .int .i64 n3, .int .i64 n4, .int .i64 n5, .string s1, .string s2, .slice l1.p l1.n l1.c]), some (31, [.int .i64 0, .int .i64 0, .int .i64 0, .int .i64 0, .int .i64 0, .string (⟨#[]⟩ : ByteArray), .string (⟨#[]⟩ : ByteArray), .slice none 0 0])], []) ∧
J4 (decide ((n2 : Int) ≤ (l9.n : Nat))) H1)
 (
SelfEq ([.v (.pointer (some ⟨r, ro, none⟩)), .loc 0 0, .loc 1 0], [some (31, [.int .i64 n1, .int .i64 n2, .int .i64 n3, .int .i64 n4, .int .i64 n5, .string s1, .string s2, .slice l1.p l1.n l1.c]), some (31, [.int .i64 0, .int .i64 0, .int .i64 0, .int .i64 0, .int .i64 0, .string (⟨#[]⟩ : ByteArray), .string (⟨#[]⟩ : ByteArray), .slice none 0 0])], []) ∧
J4 false H1))
 (
SelfEq ([.v (.pointer (some ⟨r, ro, none⟩)), .loc 0 0, .loc 1 0], [some (31, [.int .i64 n1, .int .i64 n2, .int .i64 n3, .int .i64 n4, .int .i64 n5, .string s1, .string s2, .slice l1.p l1.n l1.c]), some (31, [.int .i64 0, .int .i64 0, .int .i64 0, .int .i64 0, .int .i64 0, .string (⟨#[]⟩ : ByteArray), .string (⟨#[]⟩ : ByteArray), .slice none 0 0])], []) ∧
J4 false H1)) ∧
∀ b_4 : Bool,
∀ H5 : Heap,
J4 b_4 H5 →
br (b_4) (
∃ l10 : Sl,
cellH H5 ⟨r, ro + 3, none⟩ = some (.slice l10.p l10.n l10.c) ∧
∃ q7 o7 : Nat,
 (l10.p : Option Addr) = some ⟨q7, o7, none⟩ ∧
0 ≤ ((IntKind.wrap .i64 (n2 - 1)) : Int) ∧
 ((IntKind.wrap .i64 (n2 - 1)) : Int) < (l10.n : Nat) ∧
∃ n12 : Int,
cellH H5 ⟨q7, o7 + Int.toNat (IntKind.wrap .i64 (n2 - 1)) * 9, none⟩ = some (.int .i64 n12) ∧
∃ n13 : Int,
cellH H5 ⟨q7, o7 + Int.toNat (IntKind.wrap .i64 (n2 - 1)) * 9 + 1, none⟩ = some (.int .i64 n13) ∧
∃ n14 : Int,
cellH H5 ⟨q7, o7 + Int.toNat (IntKind.wrap .i64 (n2 - 1)) * 9 + 2, none⟩ = some (.int .i64 n14) ∧
∃ n15 : Int,
cellH H5 ⟨q7, o7 + Int.toNat (IntKind.wrap .i64 (n2 - 1)) * 9 + 3, none⟩ = some (.int .i64 n15) ∧
∃ l11 : Sl,
cellH H5 ⟨q7, o7 + Int.toNat (IntKind.wrap .i64 (n2 - 1)) * 9 + 4, none⟩ = some (.slice l11.p l11.n l11.c) ∧
∃ l12 : Sl,
cellH H5 ⟨q7, o7 + Int.toNat (IntKind.wrap .i64 (n2 - 1)) * 9 + 5, none⟩ = some (.slice l12.p l12.n l12.c) ∧
∃ l13 : Sl,
cellH H5 ⟨q7, o7 + Int.toNat (IntKind.wrap .i64 (n2 - 1)) * 9 + 6, none⟩ = some (.slice l13.p l13.n l13.c) ∧
∃ l14 : Sl,
cellH H5 ⟨q7, o7 + Int.toNat (IntKind.wrap .i64 (n2 - 1)) * 9 + 7, none⟩ = some (.slice l14.p l14.n l14.c) ∧
∃ n16 : Int,
cellH H5 ⟨q7, o7 + Int.toNat (IntKind.wrap .i64 (n2 - 1)) * 9 + 8, none⟩ = some (.int .i64 n16) ∧
Sub H5 H5 ∧
K (.agg #[.int .i64 n1, .int .i64 n2, .int .i64 n13, .int .i64 n14, .int .i64 n15, .string s1, .string s2, .slice l1.p l1.n l1.c]) H5)
 (
K (.agg #[.int .i64 n1, .int .i64 n2, .int .i64 n3, .int .i64 n4, .int .i64 n5, .string s1, .string s2, .slice l1.p l1.n l1.c]) H5))
theorem logboomlaw12_fits_fn (r ro : Nat) (x_0 x_1 x_2 x_3 x_4 : Int) (x_5 x_6 : ByteArray) (x_7 : Sl) {H : Heap} {K : Value → Heap → Prop} (h : logboomlaw12_fits_vc r ro x_0 x_1 x_2 x_3 x_4 x_5 x_6 x_7 H K) : FnH Tryz.prog 24 #[.pointer (some ⟨r, ro, none⟩), .agg #[.int .i64 x_0, .int .i64 x_1, .int .i64 x_2, .int .i64 x_3, .int .i64 x_4, .string x_5, .string x_6, .slice x_7.p x_7.n x_7.c]] H K :=
  denFn_fn Tryz.mixed logboomlaw12_fits_ann Tryz.func24 (bodyOf_spec (by kernel_rfl)) (by kernel_rfl) h
def logboomlaw12_alike_ann : Anns := { hid := [8, 12, 14, 17], loops := [(0, { slots := [(7, .int .i64)], kept := [0, 1, 5], locs := [], keptL := [] }), (2, { slots := [(16, .int .i64)], kept := [0, 1, 13, 15], locs := [], keptL := [0, 1] }), (4, { slots := [(19, .int .i64)], kept := [0, 1, 13, 15], locs := [], keptL := [0, 1] })], joins := [], mix := [(3, []), (9, []), (10, [])] }
def logboomlaw12_alike_vc (m mo r ro : Nat) (H : Heap) (K : Value → Heap → Prop) : Prop :=
FnH Tryz.prog 14 #[.pointer (some ⟨m, mo, none⟩)] H fun r1 H1 =>
∃ l1 : Sl,
r1 = .slice l1.p l1.n l1.c ∧
FnH Tryz.prog 19 #[.pointer (some ⟨m, mo, none⟩)] H1 fun r2 H2 =>
∃ l2 : Sl,
r2 = .slice l2.p l2.n l2.c ∧
FnH Tryz.prog 61 #[.pointer (some ⟨r, ro, none⟩)] H2 fun r3 H3 =>
∃ l3 : Sl,
r3 = .slice l3.p l3.n l3.c ∧
FnH Tryz.prog 31 #[.slice l2.p l2.n l2.c, .slice l3.p l3.n l3.c] H3 fun r4 H4 =>
∃ b1 : Bool,
r4 = .bool b1 ∧
∃ l4 : Sl,
cellH H4 ⟨r, ro + 3, none⟩ = some (.slice l4.p l4.n l4.c) ∧
br (((l1.n : Nat) : Int) != (l4.n : Nat)) (
K (.bool false) H4)
 (
br (!b1) (
K (.bool false) H4)
 (
∃ n1 : Int,
cellH H4 ⟨r, ro, none⟩ = some (.int .i64 n1) ∧
FnH Tryz.prog 22 #[.pointer (some ⟨m, mo, none⟩)] H4 fun r5 H5 =>
∃ n2 : Int,
r5 = .int .i64 n2 ∧
Sub H4 H5 ∧
br ((n2 : Int) != n1) (
K (.bool false) H5)
 (
∃ l5 : Sl,
cellH H4 ⟨r, ro + 2, none⟩ = some (.slice l5.p l5.n l5.c) ∧
FnH Tryz.prog 15 #[.pointer (some ⟨m, mo, none⟩)] H5 fun r6 H6 =>
∃ l6 : Sl,
r6 = .slice l6.p l6.n l6.c ∧
Sub H4 H6 ∧
br (((l6.n : Nat) : Int) != (l5.n : Nat)) (
K (.bool false) H6)
 (
FnH Tryz.prog 18 #[.pointer (some ⟨m, mo, none⟩)] H6 fun r7 H7 =>
∃ s1 : ByteArray,
r7 = .string s1 ∧
Sub H4 H7 ∧
FnH Tryz.prog 25 #[.pointer (some ⟨r, ro, none⟩)] H7 fun r8 H8 =>
∃ s2 : ByteArray,
r8 = .string s2 ∧
Sub H4 H8 ∧
br (!(s1.toList == s2.toList)) (
K (.bool false) H8)
 (
∃ I1 : Int → Heap → Prop,
∃ M1 : Int → Heap → Nat,
I1 0 H8 ∧
∀ i_1 : Int,
∀ H9 : Heap,
I1 i_1 H9 →
br (decide ((i_1 : Int) < (l1.n : Nat))) (
FnH Tryz.prog 30 #[.pointer (some ⟨m, mo, none⟩), .int .i64 (IntKind.wrap .i64 (i_1 + 1))] H9 fun r9 H10 =>
∃ n3 n4 n5 n6 : Int,
∃ l7 l8 l9 l10 : Sl,
∃ n7 : Int,
∃ b2 : Bool,
r9 = .tuple #[.agg #[.int .i64 n3, .int .i64 n4, .int .i64 n5, .int .i64 n6, .slice l7.p l7.n l7.c, .slice l8.p l8.n l8.c, .slice l9.p l9.n l9.c, .slice l10.p l10.n l10.c, .int .i64 n7], .bool b2] ∧
∃ q1 o1 : Nat,
 (l1.p : Option Addr) = some ⟨q1, o1, none⟩ ∧
0 ≤ (i_1 : Int) ∧
 (i_1 : Int) < (l1.n : Nat) ∧
∃ n8 : Int,
cellH H10 ⟨q1, o1 + Int.toNat i_1 * 9, none⟩ = some (.int .i64 n8) ∧
∃ n9 : Int,
cellH H10 ⟨q1, o1 + Int.toNat i_1 * 9 + 1, none⟩ = some (.int .i64 n9) ∧
∃ n10 : Int,
cellH H10 ⟨q1, o1 + Int.toNat i_1 * 9 + 2, none⟩ = some (.int .i64 n10) ∧
∃ n11 : Int,
cellH H10 ⟨q1, o1 + Int.toNat i_1 * 9 + 3, none⟩ = some (.int .i64 n11) ∧
∃ l11 : Sl,
cellH H10 ⟨q1, o1 + Int.toNat i_1 * 9 + 4, none⟩ = some (.slice l11.p l11.n l11.c) ∧
∃ l12 : Sl,
cellH H10 ⟨q1, o1 + Int.toNat i_1 * 9 + 5, none⟩ = some (.slice l12.p l12.n l12.c) ∧
∃ l13 : Sl,
cellH H10 ⟨q1, o1 + Int.toNat i_1 * 9 + 6, none⟩ = some (.slice l13.p l13.n l13.c) ∧
∃ l14 : Sl,
cellH H10 ⟨q1, o1 + Int.toNat i_1 * 9 + 7, none⟩ = some (.slice l14.p l14.n l14.c) ∧
∃ n12 : Int,
cellH H10 ⟨q1, o1 + Int.toNat i_1 * 9 + 8, none⟩ = some (.int .i64 n12) ∧
∃ l15 : Sl,
cellH H10 ⟨r, ro + 3, none⟩ = some (.slice l15.p l15.n l15.c) ∧
∃ q2 o2 : Nat,
 (l15.p : Option Addr) = some ⟨q2, o2, none⟩ ∧
0 ≤ (i_1 : Int) ∧
 (i_1 : Int) < (l15.n : Nat) ∧
∃ n13 : Int,
cellH H10 ⟨q2, o2 + Int.toNat i_1 * 9, none⟩ = some (.int .i64 n13) ∧
∃ n14 : Int,
cellH H10 ⟨q2, o2 + Int.toNat i_1 * 9 + 1, none⟩ = some (.int .i64 n14) ∧
∃ n15 : Int,
cellH H10 ⟨q2, o2 + Int.toNat i_1 * 9 + 2, none⟩ = some (.int .i64 n15) ∧
∃ n16 : Int,
cellH H10 ⟨q2, o2 + Int.toNat i_1 * 9 + 3, none⟩ = some (.int .i64 n16) ∧
∃ l16 : Sl,
cellH H10 ⟨q2, o2 + Int.toNat i_1 * 9 + 4, none⟩ = some (.slice l16.p l16.n l16.c) ∧
∃ l17 : Sl,
cellH H10 ⟨q2, o2 + Int.toNat i_1 * 9 + 5, none⟩ = some (.slice l17.p l17.n l17.c) ∧
∃ l18 : Sl,
cellH H10 ⟨q2, o2 + Int.toNat i_1 * 9 + 6, none⟩ = some (.slice l18.p l18.n l18.c) ∧
∃ l19 : Sl,
cellH H10 ⟨q2, o2 + Int.toNat i_1 * 9 + 7, none⟩ = some (.slice l19.p l19.n l19.c) ∧
∃ n17 : Int,
cellH H10 ⟨q2, o2 + Int.toNat i_1 * 9 + 8, none⟩ = some (.int .i64 n17) ∧
FnH Tryz.prog 62 #[.agg #[.int .i64 n8, .int .i64 n9, .int .i64 n10, .int .i64 n11, .slice l11.p l11.n l11.c, .slice l12.p l12.n l12.c, .slice l13.p l13.n l13.c, .slice l14.p l14.n l14.c, .int .i64 n12], .agg #[.int .i64 n13, .int .i64 n14, .int .i64 n15, .int .i64 n16, .slice l16.p l16.n l16.c, .slice l17.p l17.n l17.c, .slice l18.p l18.n l18.c, .slice l19.p l19.n l19.c, .int .i64 n17]] H10 fun r10 H11 =>
∃ b3 : Bool,
r10 = .bool b3 ∧
Sub H10 H11 ∧
∃ l20 : Sl,
cellH H11 ⟨r, ro + 3, none⟩ = some (.slice l20.p l20.n l20.c) ∧
∃ q3 o3 : Nat,
 (l20.p : Option Addr) = some ⟨q3, o3, none⟩ ∧
0 ≤ (i_1 : Int) ∧
 (i_1 : Int) < (l20.n : Nat) ∧
∃ n18 : Int,
cellH H11 ⟨q3, o3 + Int.toNat i_1 * 9, none⟩ = some (.int .i64 n18) ∧
∃ n19 : Int,
cellH H11 ⟨q3, o3 + Int.toNat i_1 * 9 + 1, none⟩ = some (.int .i64 n19) ∧
∃ n20 : Int,
cellH H11 ⟨q3, o3 + Int.toNat i_1 * 9 + 2, none⟩ = some (.int .i64 n20) ∧
∃ n21 : Int,
cellH H11 ⟨q3, o3 + Int.toNat i_1 * 9 + 3, none⟩ = some (.int .i64 n21) ∧
∃ l21 : Sl,
cellH H11 ⟨q3, o3 + Int.toNat i_1 * 9 + 4, none⟩ = some (.slice l21.p l21.n l21.c) ∧
∃ l22 : Sl,
cellH H11 ⟨q3, o3 + Int.toNat i_1 * 9 + 5, none⟩ = some (.slice l22.p l22.n l22.c) ∧
∃ l23 : Sl,
cellH H11 ⟨q3, o3 + Int.toNat i_1 * 9 + 6, none⟩ = some (.slice l23.p l23.n l23.c) ∧
∃ l24 : Sl,
cellH H11 ⟨q3, o3 + Int.toNat i_1 * 9 + 7, none⟩ = some (.slice l24.p l24.n l24.c) ∧
∃ n22 : Int,
cellH H11 ⟨q3, o3 + Int.toNat i_1 * 9 + 8, none⟩ = some (.int .i64 n22) ∧
FnH Tryz.prog 62 #[.agg #[.int .i64 n3, .int .i64 n4, .int .i64 n5, .int .i64 n6, .slice l7.p l7.n l7.c, .slice l8.p l8.n l8.c, .slice l9.p l9.n l9.c, .slice l10.p l10.n l10.c, .int .i64 n7], .agg #[.int .i64 n18, .int .i64 n19, .int .i64 n20, .int .i64 n21, .slice l21.p l21.n l21.c, .slice l22.p l22.n l22.c, .slice l23.p l23.n l23.c, .slice l24.p l24.n l24.c, .int .i64 n22]] H11 fun r11 H12 =>
∃ b4 : Bool,
r11 = .bool b4 ∧
Sub H11 H12 ∧
br (!b2) (
K (.bool false) H12)
 (
br (!b3) (
K (.bool false) H12)
 (
br (!b4) (
K (.bool false) H12)
 (
SelfEq ([.v (.pointer (some ⟨m, mo, none⟩)), .v (.pointer (some ⟨r, ro, none⟩)), .v (.slice l1.p l1.n l1.c)], [], []) ∧
I1 (IntKind.wrap .i64 (i_1 + 1)) H12 ∧
M1 (IntKind.wrap .i64 (i_1 + 1)) H12 < M1 i_1 H9))))
 (
FnH Tryz.prog 30 #[.pointer (some ⟨m, mo, none⟩), .int .i64 0] H9 fun r12 H13 =>
∃ n23 n24 n25 n26 : Int,
∃ l25 l26 l27 l28 : Sl,
∃ n27 : Int,
∃ b5 : Bool,
r12 = .tuple #[.agg #[.int .i64 n23, .int .i64 n24, .int .i64 n25, .int .i64 n26, .slice l25.p l25.n l25.c, .slice l26.p l26.n l26.c, .slice l27.p l27.n l27.c, .slice l28.p l28.n l28.c, .int .i64 n27], .bool b5] ∧
FnH Tryz.prog 30 #[.pointer (some ⟨m, mo, none⟩), .int .i64 (IntKind.wrap .i64 ((l1.n : Nat) + 1))] H13 fun r13 H14 =>
∃ n28 n29 n30 n31 : Int,
∃ l29 l30 l31 l32 : Sl,
∃ n32 : Int,
∃ b6 : Bool,
r13 = .tuple #[.agg #[.int .i64 n28, .int .i64 n29, .int .i64 n30, .int .i64 n31, .slice l29.p l29.n l29.c, .slice l30.p l30.n l30.c, .slice l31.p l31.n l31.c, .slice l32.p l32.n l32.c, .int .i64 n32], .bool b6] ∧
∃ I2 : Int → Heap → Prop,
∃ M2 : Int → Heap → Nat,
I2 0 H14 ∧
∀ i_2 : Int,
∀ H15 : Heap,
I2 i_2 H15 →
∃ l33 : Sl,
cellH H15 ⟨r, ro + 2, none⟩ = some (.slice l33.p l33.n l33.c) ∧
br (decide ((i_2 : Int) < (l33.n : Nat))) (
∃ l34 : Sl,
cellH H15 ⟨r, ro + 2, none⟩ = some (.slice l34.p l34.n l34.c) ∧
∃ q4 o4 : Nat,
 (l34.p : Option Addr) = some ⟨q4, o4, none⟩ ∧
0 ≤ (i_2 : Int) ∧
 (i_2 : Int) < (l34.n : Nat) ∧
∃ s3 : ByteArray,
cellH H15 ⟨q4, o4 + Int.toNat i_2 * 3, none⟩ = some (.string s3) ∧
∃ n33 : Int,
cellH H15 ⟨q4, o4 + Int.toNat i_2 * 3 + 1, none⟩ = some (.int .i64 n33) ∧
∃ n34 : Int,
cellH H15 ⟨q4, o4 + Int.toNat i_2 * 3 + 2, none⟩ = some (.int .i64 n34) ∧
FnH Tryz.prog 16 #[.pointer (some ⟨m, mo, none⟩), .string s3] H15 fun r14 H16 =>
∃ l35 : Sl,
r14 = .slice l35.p l35.n l35.c ∧
br (((l35.n : Nat) : Int) != n34) (
K (.bool false) H16)
 (
∃ q5 o5 : Nat,
 (l35.p : Option Addr) = some ⟨q5, o5, none⟩ ∧
0 ≤ (0 : Int) ∧
 (0 : Int) < (l35.n : Nat) ∧
∃ n35 : Int,
cellH H16 ⟨q5, o5 + Int.toNat 0, none⟩ = some (.int .i64 n35) ∧
br ((n35 : Int) != n33) (
K (.bool false) H16)
 (
SelfEq ([.v (.pointer (some ⟨m, mo, none⟩)), .v (.pointer (some ⟨r, ro, none⟩)), .v (.bool b5), .v (.bool b6)], [some (41, [.int .i64 n23, .int .i64 n24, .int .i64 n25, .int .i64 n26, .slice l25.p l25.n l25.c, .slice l26.p l26.n l26.c, .slice l27.p l27.n l27.c, .slice l28.p l28.n l28.c, .int .i64 n27]), some (41, [.int .i64 n28, .int .i64 n29, .int .i64 n30, .int .i64 n31, .slice l29.p l29.n l29.c, .slice l30.p l30.n l30.c, .slice l31.p l31.n l31.c, .slice l32.p l32.n l32.c, .int .i64 n32])], []) ∧
I2 (IntKind.wrap .i64 (i_2 + 1)) H16 ∧
M2 (IntKind.wrap .i64 (i_2 + 1)) H16 < M2 i_2 H15)))
 (
∃ I3 : Int → Heap → Prop,
∃ M3 : Int → Heap → Nat,
I3 0 H15 ∧
∀ i_3 : Int,
∀ H17 : Heap,
I3 i_3 H17 →
∃ l36 : Sl,
cellH H17 ⟨r, ro + 1, none⟩ = some (.slice l36.p l36.n l36.c) ∧
br (decide ((i_3 : Int) < (l36.n : Nat))) (
∃ l37 : Sl,
cellH H17 ⟨r, ro + 1, none⟩ = some (.slice l37.p l37.n l37.c) ∧
∃ q6 o6 : Nat,
 (l37.p : Option Addr) = some ⟨q6, o6, none⟩ ∧
0 ≤ (i_3 : Int) ∧
 (i_3 : Int) < (l37.n : Nat) ∧
∃ n36 : Int,
cellH H17 ⟨q6, o6 + Int.toNat i_3 * 3, none⟩ = some (.int .i64 n36) ∧
FnH Tryz.prog 63 #[.pointer (some ⟨m, mo, none⟩), .int .i64 n36] H17 fun r15 H18 =>
∃ n37 : Int,
∃ b7 : Bool,
r15 = .tuple #[.int .i64 n37, .bool b7] ∧
br (!b7) (
K (.bool false) H18)
 (
∃ l38 : Sl,
cellH H18 ⟨r, ro + 1, none⟩ = some (.slice l38.p l38.n l38.c) ∧
∃ q7 o7 : Nat,
 (l38.p : Option Addr) = some ⟨q7, o7, none⟩ ∧
0 ≤ (i_3 : Int) ∧
 (i_3 : Int) < (l38.n : Nat) ∧
∃ n38 : Int,
cellH H18 ⟨q7, o7 + Int.toNat i_3 * 3 + 1, none⟩ = some (.int .i64 n38) ∧
br ((n37 : Int) != n38) (
K (.bool false) H18)
 (
SelfEq ([.v (.pointer (some ⟨m, mo, none⟩)), .v (.pointer (some ⟨r, ro, none⟩)), .v (.bool b5), .v (.bool b6)], [some (41, [.int .i64 n23, .int .i64 n24, .int .i64 n25, .int .i64 n26, .slice l25.p l25.n l25.c, .slice l26.p l26.n l26.c, .slice l27.p l27.n l27.c, .slice l28.p l28.n l28.c, .int .i64 n27]), some (41, [.int .i64 n28, .int .i64 n29, .int .i64 n30, .int .i64 n31, .slice l29.p l29.n l29.c, .slice l30.p l30.n l30.c, .slice l31.p l31.n l31.c, .slice l32.p l32.n l32.c, .int .i64 n32])], []) ∧
I3 (IntKind.wrap .i64 (i_3 + 1)) H18 ∧
M3 (IntKind.wrap .i64 (i_3 + 1)) H18 < M3 i_3 H17)))
 (
br (!b5) (
K (.bool (!b6)) H17)
 (
K (.bool false) H17)))))))))
theorem logboomlaw12_alike_fn (m mo r ro : Nat) {H : Heap} {K : Value → Heap → Prop} (h : logboomlaw12_alike_vc m mo r ro H K) : FnH Tryz.prog 28 #[.pointer (some ⟨m, mo, none⟩), .pointer (some ⟨r, ro, none⟩)] H K :=
  denFn_fn Tryz.mixed logboomlaw12_alike_ann Tryz.func28 (bodyOf_spec (by kernel_rfl)) (by kernel_rfl) h
end Go.Proofs.YtmofinghoacobaaGreatDoor
