import Derived.Test.YthldclmeojkboaaGreatDoorProg
import Derived.KernelRfl
import Derived.Test.YthldclmeojkboaaGreatDoorHlFn
import Derived.Test.YthldclmeojkboaaGreatDoorV3
namespace Go.Proofs.YthldclmeojkboaaGreatDoor
open Go.HL
set_option maxRecDepth 100000
def logboomlaw10_pick_ann : Anns := { hid := [], loops := [], joins := [], mix := [] }
def logboomlaw10_pick_vc (c n : Int) (H : Heap) (K : Value → Heap → Prop) : Prop :=
br (decide ((c : Int) < 0)) (
 (n : Int) ≠ 0 ∧
K (.int .i64 (Int.tmod (IntKind.wrap .i64 (0 - (IntKind.wrap .i64 (c + 1)))) n)) H)
 (
 (n : Int) ≠ 0 ∧
K (.int .i64 (Int.tmod c n)) H)
theorem logboomlaw10_pick_fn (c n : Int) {H : Heap} {K : Value → Heap → Prop} (h : logboomlaw10_pick_vc c n H K) : FnH Tryz.prog 10 #[.int .i64 c, .int .i64 n] H K :=
  denFn_fn Tryz.mixed logboomlaw10_pick_ann Tryz.func10 (bodyOf_spec (by kernel_rfl)) (by kernel_rfl) h
def logboomlaw10_node_ann : Anns := { hid := [], loops := [], joins := [], mix := [] }
def logboomlaw10_node_vc (id : Int) (voters : Sl) (wait : Int) (H : Heap) (K : Value → Heap → Prop) : Prop :=
FnH Tryz.prog 24 #[.int .i64 1000000] H fun r1 H1 =>
∃ p1 : Option Addr,
∃ n1 : Int,
r1 = .tuple #[.pointer p1, .int .i64 n1] ∧
br (Option.isNone p1) (
K (.tuple #[.pointer none, .pointer none]) H1)
 (
br ((n1 : Int) != 0) (
K (.tuple #[.pointer none, .pointer none]) H1)
 (
FnH Tryz.prog 13 #[.pointer p1, .int .i64 id, .slice voters.p voters.n voters.c, .int .i64 wait] H1 fun r2 H2 =>
∃ p2 : Option Addr,
r2 = .pointer p2 ∧
K (.tuple #[.pointer p2, .pointer p1]) H2))
theorem logboomlaw10_node_fn (id : Int) (voters : Sl) (wait : Int) {H : Heap} {K : Value → Heap → Prop} (h : logboomlaw10_node_vc id voters wait H K) : FnH Tryz.prog 9 #[.int .i64 id, .slice voters.p voters.n voters.c, .int .i64 wait] H K :=
  denFn_fn Tryz.mixed logboomlaw10_node_ann Tryz.func9 (bodyOf_spec (by kernel_rfl)) (by kernel_rfl) h
def logboomlaw10_again_ann : Anns := { hid := [], loops := [], joins := [], mix := [] }
def logboomlaw10_again_vc (d0 d0o : Nat) (id : Int) (voters : Sl) (wait : Int) (H : Heap) (K : Value → Heap → Prop) : Prop :=
FnH Tryz.prog 26 #[.pointer (some ⟨d0, d0o, none⟩), .string (⟨#[114]⟩ : ByteArray)] H fun r1 H1 =>
∃ p1 : Option Addr,
∃ n1 : Int,
r1 = .tuple #[.pointer p1, .int .i64 n1] ∧
br (Option.isNone p1) (
K (.pointer none) H1)
 (
br ((n1 : Int) != 0) (
K (.pointer none) H1)
 (
FnH Tryz.prog 28 #[.int .i64 id, .slice voters.p voters.n voters.c, .pointer p1, .int .i64 wait] H1 fun r2 H2 =>
∃ p2 : Option Addr,
∃ n2 : Int,
r2 = .tuple #[.pointer p2, .int .i64 n2] ∧
br ((n2 : Int) != 0) (
K (.pointer none) H2)
 (
K (.pointer p2) H2)))
theorem logboomlaw10_again_fn (d0 d0o : Nat) (id : Int) (voters : Sl) (wait : Int) {H : Heap} {K : Value → Heap → Prop} (h : logboomlaw10_again_vc d0 d0o id voters wait H K) : FnH Tryz.prog 13 #[.pointer (some ⟨d0, d0o, none⟩), .int .i64 id, .slice voters.p voters.n voters.c, .int .i64 wait] H K :=
  denFn_fn Tryz.mixed logboomlaw10_again_ann Tryz.func13 (bodyOf_spec (by kernel_rfl)) (by kernel_rfl) h
def logboomlaw10_shown_ann : Anns := { hid := [], loops := [], joins := [], mix := [] }
def logboomlaw10_shown_vc  (H : Heap) (K : Value → Heap → Prop) : Prop :=
∀ q1 : Nat,
H q1 = none →
letH (Heap.upd H q1 (.cells #[.int .i64 1] 3 (0, 0))) fun H1 =>
FnH Tryz.prog 9 #[.int .i64 1, .slice (some ⟨q1, 0, none⟩) 1 1, .int .i64 10] H1 fun r1 H2 =>
∃ p1 p2 : Option Addr,
r1 = .tuple #[.pointer p1, .pointer p2] ∧
∀ q2 : Nat,
H2 q2 = none →
letH (Heap.upd H2 q2 (.cells #[.int .i64 1, .int .i64 2, .int .i64 3] 3 (0, 0))) fun H3 =>
FnH Tryz.prog 9 #[.int .i64 1, .slice (some ⟨q2, 0, none⟩) 3 3, .int .i64 10] H3 fun r2 H4 =>
∃ p3 p4 : Option Addr,
r2 = .tuple #[.pointer p3, .pointer p4] ∧
∀ q3 : Nat,
H4 q3 = none →
letH (Heap.upd H4 q3 (.cells #[.int .i64 1, .int .i64 2, .int .i64 3] 3 (0, 0))) fun H5 =>
FnH Tryz.prog 9 #[.int .i64 2, .slice (some ⟨q3, 0, none⟩) 3 3, .int .i64 10] H5 fun r3 H6 =>
∃ p5 p6 : Option Addr,
r3 = .tuple #[.pointer p5, .pointer p6] ∧
br (Option.isNone p1) (
K (.bool false) H6)
 (
br (Option.isNone p3) (
K (.bool false) H6)
 (
br (Option.isNone p5) (
K (.bool false) H6)
 (
FnH Tryz.prog 11 #[.pointer p1, .int .i64 0, .int .i64 3] H6 fun r4 H7 =>
∃ l1 : Sl,
r4 = .slice l1.p l1.n l1.c ∧
FnH Tryz.prog 11 #[.pointer p1, .int .i64 12, .int .i64 3] H7 fun r5 H8 =>
∃ l2 : Sl,
r5 = .slice l2.p l2.n l2.c ∧
FnH Tryz.prog 11 #[.pointer p1, .int .i64 13, .int .i64 3] H8 fun r6 H9 =>
∃ l3 : Sl,
r6 = .slice l3.p l3.n l3.c ∧
br (((IntKind.wrap .i64 ((IntKind.wrap .i64 ((l1.n : Nat) + (l2.n : Nat))) + (l3.n : Nat))) : Int) != 0) (
K (.bool false) H9)
 (
FnH Tryz.prog 20 #[.pointer p1] H9 fun r7 H10 =>
∃ b1 : Bool,
r7 = .bool b1 ∧
br (!b1) (
K (.bool false) H10)
 (
FnH Tryz.prog 18 #[.pointer p1] H10 fun r8 H11 =>
∃ n1 : Int,
r8 = .int .i64 n1 ∧
br ((n1 : Int) != 1) (
K (.bool false) H11)
 (
FnH Tryz.prog 17 #[.pointer p1, .int .i64 13, .string (⟨#[120]⟩ : ByteArray)] H11 fun r9 H12 =>
∃ n2 : Int,
∃ l4 : Sl,
∃ n3 : Int,
r9 = .tuple #[.int .i64 n2, .slice l4.p l4.n l4.c, .int .i64 n3] ∧
FnH Tryz.prog 11 #[.pointer p3, .int .i64 0, .int .i64 0] H12 fun r10 H13 =>
∃ l5 : Sl,
r10 = .slice l5.p l5.n l5.c ∧
FnH Tryz.prog 11 #[.pointer p3, .int .i64 10, .int .i64 0] H13 fun r11 H14 =>
∃ l6 : Sl,
r11 = .slice l6.p l6.n l6.c ∧
FnH Tryz.prog 15 #[.pointer p3, .int .i64 11, .agg #[.int .i64 2, .int .i64 2, .int .i64 1, .int .i64 0, .int .i64 0, .int .i64 0, .int .i64 0, .int .i64 0, .int .i64 0, .int .i64 0, .int .i64 1, .int .i64 0, .int .i64 0, .int .i64 0, .int .i64 0, .int .i64 0, .string (⟨#[]⟩ : ByteArray), .string (⟨#[]⟩ : ByteArray), .slice none 0 0, .slice none 0 0, .slice none 0 0]] H14 fun r12 H15 =>
∃ l7 : Sl,
r12 = .slice l7.p l7.n l7.c ∧
br ((n2 : Int) != 2) (
K (.bool false) H15)
 (
br ((n3 : Int) != 0) (
K (.bool false) H15)
 (
FnH Tryz.prog 18 #[.pointer p1] H15 fun r13 H16 =>
∃ n4 : Int,
r13 = .int .i64 n4 ∧
br ((n4 : Int) != 2) (
K (.bool false) H16)
 (
br (((l5.n : Nat) : Int) != 0) (
K (.bool false) H16)
 (
br (((l6.n : Nat) : Int) != 2) (
K (.bool false) H16)
 (
∃ q4 o1 : Nat,
 (l6.p : Option Addr) = some ⟨q4, o1, none⟩ ∧
0 ≤ (0 : Int) ∧
 (0 : Int) < (l6.n : Nat) ∧
∃ n5 : Int,
cellH H16 ⟨q4, o1 + Int.toNat 0 * 21, none⟩ = some (.int .i64 n5) ∧
br ((n5 : Int) != 1) (
K (.bool false) H16)
 (
∃ q5 o2 : Nat,
 (l6.p : Option Addr) = some ⟨q5, o2, none⟩ ∧
0 ≤ (1 : Int) ∧
 (1 : Int) < (l6.n : Nat) ∧
∃ n6 : Int,
cellH H16 ⟨q5, o2 + Int.toNat 1 * 21 + 2, none⟩ = some (.int .i64 n6) ∧
br ((n6 : Int) != 3) (
K (.bool false) H16)
 (
br (((l7.n : Nat) : Int) != 2) (
K (.bool false) H16)
 (
∃ q6 o3 : Nat,
 (l7.p : Option Addr) = some ⟨q6, o3, none⟩ ∧
0 ≤ (0 : Int) ∧
 (0 : Int) < (l7.n : Nat) ∧
∃ n7 : Int,
cellH H16 ⟨q6, o3 + Int.toNat 0 * 21, none⟩ = some (.int .i64 n7) ∧
br ((n7 : Int) != 3) (
K (.bool false) H16)
 (
∃ q7 o4 : Nat,
 (l7.p : Option Addr) = some ⟨q7, o4, none⟩ ∧
0 ≤ (0 : Int) ∧
 (0 : Int) < (l7.n : Nat) ∧
∃ l8 : Sl,
cellH H16 ⟨q7, o4 + Int.toNat 0 * 21 + 19, none⟩ = some (.slice l8.p l8.n l8.c) ∧
br (((l8.n : Nat) : Int) != 1) (
K (.bool false) H16)
 (
FnH Tryz.prog 20 #[.pointer p3] H16 fun r14 H17 =>
∃ b2 : Bool,
r14 = .bool b2 ∧
br (!b2) (
K (.bool false) H17)
 (
FnH Tryz.prog 15 #[.pointer p5, .int .i64 0, .agg #[.int .i64 1, .int .i64 1, .int .i64 2, .int .i64 0, .int .i64 0, .int .i64 0, .int .i64 0, .int .i64 0, .int .i64 0, .int .i64 0, .int .i64 1, .int .i64 0, .int .i64 0, .int .i64 0, .int .i64 0, .int .i64 0, .string (⟨#[]⟩ : ByteArray), .string (⟨#[]⟩ : ByteArray), .slice none 0 0, .slice none 0 0, .slice none 0 0]] H17 fun r15 H18 =>
∃ l9 : Sl,
r15 = .slice l9.p l9.n l9.c ∧
FnH Tryz.prog 15 #[.pointer p5, .int .i64 0, .agg #[.int .i64 1, .int .i64 3, .int .i64 2, .int .i64 0, .int .i64 0, .int .i64 0, .int .i64 0, .int .i64 0, .int .i64 0, .int .i64 0, .int .i64 1, .int .i64 0, .int .i64 0, .int .i64 0, .int .i64 0, .int .i64 0, .string (⟨#[]⟩ : ByteArray), .string (⟨#[]⟩ : ByteArray), .slice none 0 0, .slice none 0 0, .slice none 0 0]] H18 fun r16 H19 =>
∃ l10 : Sl,
r16 = .slice l10.p l10.n l10.c ∧
FnH Tryz.prog 15 #[.pointer p5, .int .i64 0, .agg #[.int .i64 1, .int .i64 3, .int .i64 2, .int .i64 0, .int .i64 0, .int .i64 0, .int .i64 0, .int .i64 0, .int .i64 0, .int .i64 0, .int .i64 0, .int .i64 0, .int .i64 0, .int .i64 0, .int .i64 0, .int .i64 0, .string (⟨#[]⟩ : ByteArray), .string (⟨#[]⟩ : ByteArray), .slice none 0 0, .slice none 0 0, .slice none 0 0]] H19 fun r17 H20 =>
∃ l11 : Sl,
r17 = .slice l11.p l11.n l11.c ∧
br (((l9.n : Nat) : Int) == 1) (
∃ q8 o5 : Nat,
 (l9.p : Option Addr) = some ⟨q8, o5, none⟩ ∧
0 ≤ (0 : Int) ∧
 (0 : Int) < (l9.n : Nat) ∧
∃ n8 : Int,
cellH H20 ⟨q8, o5 + Int.toNat 0 * 21 + 15, none⟩ = some (.int .i64 n8) ∧
br ((n8 : Int) == 0) (
br (((l10.n : Nat) : Int) == 1) (
∃ q9 o6 : Nat,
 (l10.p : Option Addr) = some ⟨q9, o6, none⟩ ∧
0 ≤ (0 : Int) ∧
 (0 : Int) < (l10.n : Nat) ∧
∃ n9 : Int,
cellH H20 ⟨q9, o6 + Int.toNat 0 * 21 + 15, none⟩ = some (.int .i64 n9) ∧
br ((n9 : Int) == 19) (
br (((l11.n : Nat) : Int) == 1) (
∃ q10 o7 : Nat,
 (l11.p : Option Addr) = some ⟨q10, o7, none⟩ ∧
0 ≤ (0 : Int) ∧
 (0 : Int) < (l11.n : Nat) ∧
∃ n10 : Int,
cellH H20 ⟨q10, o7 + Int.toNat 0 * 21 + 15, none⟩ = some (.int .i64 n10) ∧
K (.bool ((n10 : Int) == 13)) H20)
 (
K (.bool false) H20))
 (
K (.bool false) H20))
 (
K (.bool false) H20))
 (
K (.bool false) H20))
 (
K (.bool false) H20))))))))))))))))))
theorem logboomlaw10_shown_fn  {H : Heap} {K : Value → Heap → Prop} (h : logboomlaw10_shown_vc  H K) : FnH Tryz.prog 8 #[] H K :=
  denFn_fn Tryz.mixed logboomlaw10_shown_ann Tryz.func8 (bodyOf_spec (by kernel_rfl)) (by kernel_rfl) h
end Go.Proofs.YthldclmeojkboaaGreatDoor
