import Derived.Test.YtmofinghoacobaaGreatDoorProg
import Derived.KernelRfl
import Derived.Test.YtmofinghoacobaaGreatDoorHlFn
import Derived.Test.YtmofinghoacobaaGreatDoorV7
namespace Go.Proofs.YtmofinghoacobaaGreatDoor
open Go.HL
set_option maxRecDepth 100000
def meta_Image_Topics_ann : Anns := { hid := [5], loops := [(0, { slots := [(3, .slice), (11, .int .i64)], kept := [9, 10], locs := [], keptL := [] })], joins := [], mix := [] }
def meta_Image_Topics_vc (m mo : Nat) (H : Heap) (K : Value → Heap → Prop) : Prop :=
∃ l1 : Sl,
cellH H ⟨m, mo + 2, none⟩ = some (.slice l1.p l1.n l1.c) ∧
∃ I1 : Sl → Int → Heap → Prop,
∃ M1 : Sl → Int → Heap → Nat,
I1 ⟨none, 0, 0⟩ 0 H ∧
∀ l_1 : Sl,
∀ n_1 : Int,
∀ H1 : Heap,
I1 l_1 n_1 H1 →
br (decide ((n_1 : Int) < (l1.n : Nat))) (
∃ q1 o1 : Nat,
 (l1.p : Option Addr) = some ⟨q1, o1, none⟩ ∧
0 ≤ (n_1 : Int) ∧
 (n_1 : Int) < (l1.n : Nat) ∧
∃ s1 : ByteArray,
cellH H1 ⟨q1, o1 + Int.toNat n_1 * 3, none⟩ = some (.string s1) ∧
∃ n1 : Int,
cellH H1 ⟨q1, o1 + Int.toNat n_1 * 3 + 1, none⟩ = some (.int .i64 n1) ∧
∃ n2 : Int,
cellH H1 ⟨q1, o1 + Int.toNat n_1 * 3 + 2, none⟩ = some (.int .i64 n2) ∧
∀ q2 : Nat,
H1 q2 = none →
letH (Heap.upd H1 q2 (.cells #[.string s1] 9 (0, 0))) fun H2 =>
runH Tryz.prog (Builtin.append_ #[37, 37] 37 #[.slice l_1.p l_1.n l_1.c, .slice (some ⟨q2, 0, none⟩) 1 1]) H2 fun r1 H3 =>
∃ l2 : Sl,
r1 = .slice l2.p l2.n l2.c ∧
SelfEq ([.v (.slice l1.p l1.n l1.c), .v (.int .i64 (l1.n : Nat))], [], []) ∧
I1 l2 (IntKind.wrap .i64 (n_1 + 1)) H3 ∧
M1 l2 (IntKind.wrap .i64 (n_1 + 1)) H3 < M1 l_1 n_1 H1)
 (
FnH Tryz.prog 38 #[.slice l_1.p l_1.n l_1.c] H1 fun r2 H4 =>
r2 = .tuple #[] ∧
K (.slice l_1.p l_1.n l_1.c) H4)
theorem meta_Image_Topics_fn (m mo : Nat) {H : Heap} {K : Value → Heap → Prop} (h : meta_Image_Topics_vc m mo H K) : FnH Tryz.prog 15 #[.pointer (some ⟨m, mo, none⟩)] H K :=
  denFn_fn Tryz.mixed meta_Image_Topics_ann Tryz.func15 (bodyOf_spec (by kernel_rfl)) (by kernel_rfl) h
end Go.Proofs.YtmofinghoacobaaGreatDoor
