/- Formulas of functions, printed by this session's vc.py; each is tied to the program by the kernel. -/
import Derived.Test.YtmofinghoacobaaGreatDoorProg
import Derived.KernelRfl
import Derived.Test.YtmofinghoacobaaGreatDoorHlFn
import Derived.Test.YtmofinghoacobaaGreatDoorV8
namespace Go.Proofs.YtmofinghoacobaaGreatDoor
open Go.HL
set_option maxRecDepth 100000
/-! function 47: (*logboom/meta.reader).int -/
def meta_reader_int_ann : Anns := { hid := [], loops := [], joins := [], mix := [] }
def meta_reader_int_vc (r : Nat) (ro : Nat) (least : Int) (most : Int) (H : Heap) (K : Value → Heap → Prop) : Prop :=
  ∃ s1 : ByteArray,
  cellH H ⟨r, ro, none⟩ = some (.string s1) ∧
  FnH Tryz.prog 84 #[.string s1] H fun r1 H1 =>
   ∃ n1 : Int,
   ∃ n2 : Int,
   ∃ n3 : Int,
   r1 = .tuple #[.int .i64 n1, .int .i64 n2, .int .i64 n3] ∧
   ∃ b1 : Bool,
   cellH H1 ⟨r, ro + 1, none⟩ = some (.bool b1) ∧
   br (b1) (
   (∃ u, cellH H1 ⟨r, ro + 1, none⟩ = some u) ∧
   frozenH H1 ⟨r, ro + 1, none⟩ = false ∧
   letH (Heap.set H1 ⟨r, ro + 1, none⟩ (.bool true)) fun H2 =>
   K (.int .i64 0) H2)
   (
   br ((n3 : Int) != 0) (
   (∃ u, cellH H1 ⟨r, ro + 1, none⟩ = some u) ∧
   frozenH H1 ⟨r, ro + 1, none⟩ = false ∧
   letH (Heap.set H1 ⟨r, ro + 1, none⟩ (.bool true)) fun H3 =>
   K (.int .i64 0) H3)
   (
   br (decide ((n1 : Int) < least)) (
   (∃ u, cellH H1 ⟨r, ro + 1, none⟩ = some u) ∧
   frozenH H1 ⟨r, ro + 1, none⟩ = false ∧
   letH (Heap.set H1 ⟨r, ro + 1, none⟩ (.bool true)) fun H4 =>
   K (.int .i64 0) H4)
   (
   br (decide ((n1 : Int) > most)) (
   (∃ u, cellH H1 ⟨r, ro + 1, none⟩ = some u) ∧
   frozenH H1 ⟨r, ro + 1, none⟩ = false ∧
   letH (Heap.set H1 ⟨r, ro + 1, none⟩ (.bool true)) fun H5 =>
   K (.int .i64 0) H5)
   (
   ∃ s2 : ByteArray,
   cellH H1 ⟨r, ro, none⟩ = some (.string s2) ∧
   0 ≤ (n2 : Int) ∧
   (n2 : Int) ≤ (s2.size : Nat) ∧
   (∃ u, cellH H1 ⟨r, ro, none⟩ = some u) ∧
   frozenH H1 ⟨r, ro, none⟩ = false ∧
   letH (Heap.set H1 ⟨r, ro, none⟩ (.string (s2.extract (Int.toNat n2) (Int.toNat (s2.size : Nat))))) fun H6 =>
   K (.int .i64 n1) H6))))
theorem meta_reader_int_eq (r : Nat) (ro : Nat) (least : Int) (most : Int) (H : Heap) (K : Value → Heap → Prop) : meta_reader_int_vc r ro least most H K = denFn Tryz.prog meta_reader_int_ann Tryz.f47 (bodyOf Tryz.f47) [.pointer (some ⟨r, ro, none⟩), .int .i64 least, .int .i64 most] H K := by kernel_rfl
theorem meta_reader_int_fn (r : Nat) (ro : Nat) (least : Int) (most : Int) {H : Heap} {K : Value → Heap → Prop} (h : meta_reader_int_vc r ro least most H K) : FnH Tryz.prog 47 #[.pointer (some ⟨r, ro, none⟩), .int .i64 least, .int .i64 most] H K :=
  denFn_fn Tryz.mixed meta_reader_int_ann Tryz.func47 (bodyOf_spec (by kernel_rfl)) (meta_reader_int_eq r ro least most H K) h

/-! function 49: (*logboom/meta.reader).list -/
def meta_reader_list_ann : Anns := { hid := [], loops := [(0, { slots := [(9, .slice)], kept := [0, 2, 3, 10], locs := [], keptL := [] })], joins := [], mix := [] }
def meta_reader_list_vc (r : Nat) (ro : Nat) (many : Int) (least : Int) (most : Int) (H : Heap) (K : Value → Heap → Prop) : Prop :=
  FnH Tryz.prog 47 #[.pointer (some ⟨r, ro, none⟩), .int .i64 0, .int .i64 many] H fun r1 H1 =>
   ∃ n1 : Int,
   r1 = .int .i64 n1 ∧
   ∃ I1 : Sl → Heap → Prop,
   ∃ M1 : Sl → Heap → Nat,
   I1 ⟨none, 0, 0⟩ H1 ∧
   ∀ l_1 : Sl,
   ∀ H2 : Heap,
   I1 l_1 H2 →
   br (decide (((l_1.n : Nat) : Int) < n1)) (
   ∃ b1 : Bool,
   cellH H2 ⟨r, ro + 1, none⟩ = some (.bool b1) ∧
   br (!b1) (
   FnH Tryz.prog 47 #[.pointer (some ⟨r, ro, none⟩), .int .i64 least, .int .i64 most] H2 fun r2 H3 =>
   ∃ n2 : Int,
   r2 = .int .i64 n2 ∧
   ∀ q1 : Nat,
   H3 q1 = none →
   letH (Heap.upd H3 q1 (.cells #[.int .i64 n2] 3 (0, 0))) fun H4 =>
   runH Tryz.prog (Builtin.append_ #[22, 22] 22 #[.slice l_1.p l_1.n l_1.c, .slice (some ⟨q1, 0, none⟩) 1 1]) H4 fun r3 H5 =>
   ∃ l1 : Sl,
   r3 = .slice l1.p l1.n l1.c ∧
   SelfEq ([.v (.pointer (some ⟨r, ro, none⟩)), .v (.int .i64 least), .v (.int .i64 most), .v (.int .i64 n1)], [], []) ∧
   I1 l1 H5 ∧
   M1 l1 H5 < M1 l_1 H2)
   (
   K (.slice l_1.p l_1.n l_1.c) H2))
   (
   K (.slice l_1.p l_1.n l_1.c) H2)
theorem meta_reader_list_eq (r : Nat) (ro : Nat) (many : Int) (least : Int) (most : Int) (H : Heap) (K : Value → Heap → Prop) : meta_reader_list_vc r ro many least most H K = denFn Tryz.prog meta_reader_list_ann Tryz.f49 (bodyOf Tryz.f49) [.pointer (some ⟨r, ro, none⟩), .int .i64 many, .int .i64 least, .int .i64 most] H K := by kernel_rfl
theorem meta_reader_list_fn (r : Nat) (ro : Nat) (many : Int) (least : Int) (most : Int) {H : Heap} {K : Value → Heap → Prop} (h : meta_reader_list_vc r ro many least most H K) : FnH Tryz.prog 49 #[.pointer (some ⟨r, ro, none⟩), .int .i64 many, .int .i64 least, .int .i64 most] H K :=
  denFn_fn Tryz.mixed meta_reader_list_ann Tryz.func49 (bodyOf_spec (by kernel_rfl)) (meta_reader_list_eq r ro many least most H K) h

/-! function 50: (*logboom/meta.reader).ask -/
def meta_reader_ask_ann : Anns := { hid := [], loops := [], joins := [], mix := [] }
def meta_reader_ask_vc (r : Nat) (ro : Nat) (is0 : Bool) (H : Heap) (K : Value → Heap → Prop) : Prop :=
  ∃ b1 : Bool,
  cellH H ⟨r, ro + 1, none⟩ = some (.bool b1) ∧
  br (b1) (
   (∃ u, cellH H ⟨r, ro + 1, none⟩ = some u) ∧
   frozenH H ⟨r, ro + 1, none⟩ = false ∧
   letH (Heap.set H ⟨r, ro + 1, none⟩ (.bool true)) fun H1 =>
   K (.tuple #[]) H1)
   (
   (∃ u, cellH H ⟨r, ro + 1, none⟩ = some u) ∧
   frozenH H ⟨r, ro + 1, none⟩ = false ∧
   letH (Heap.set H ⟨r, ro + 1, none⟩ (.bool (!is0))) fun H2 =>
   K (.tuple #[]) H2)
theorem meta_reader_ask_eq (r : Nat) (ro : Nat) (is0 : Bool) (H : Heap) (K : Value → Heap → Prop) : meta_reader_ask_vc r ro is0 H K = denFn Tryz.prog meta_reader_ask_ann Tryz.f50 (bodyOf Tryz.f50) [.pointer (some ⟨r, ro, none⟩), .bool is0] H K := by kernel_rfl
theorem meta_reader_ask_fn (r : Nat) (ro : Nat) (is0 : Bool) {H : Heap} {K : Value → Heap → Prop} (h : meta_reader_ask_vc r ro is0 H K) : FnH Tryz.prog 50 #[.pointer (some ⟨r, ro, none⟩), .bool is0] H K :=
  denFn_fn Tryz.mixed meta_reader_ask_ann Tryz.func50 (bodyOf_spec (by kernel_rfl)) (meta_reader_ask_eq r ro is0 H K) h

/-! function 48: (*logboom/meta.reader).topics -/
def meta_reader_topics_ann : Anns := { hid := [8], loops := [(0, { slots := [(5, .int .i64), (6, .int .i64)], kept := [0, 1], locs := [], keptL := [] })], joins := [((0, 11), { slots := [], kept := [0, 1, 5, 6, 8], locs := [], keptL := [0] })], mix := [(12, [7, 10])] }
def meta_reader_topics_vc (r : Nat) (ro : Nat) (m : Nat) (mo : Nat) (H : Heap) (K : Value → Heap → Prop) : Prop :=
  FnH Tryz.prog 47 #[.pointer (some ⟨r, ro, none⟩), .int .i64 0, .int .i64 16] H fun r1 H1 =>
   ∃ n1 : Int,
   r1 = .int .i64 n1 ∧
   ∃ I1 : Int → Int → Heap → Prop,
   ∃ M1 : Int → Int → Heap → Nat,
   I1 1 n1 H1 ∧
   ∀ next_1 : Int,
   ∀ n_1 : Int,
   ∀ H2 : Heap,
   I1 next_1 n_1 H2 →
   br (decide ((n_1 : Int) > 0)) (
   ∃ b1 : Bool,
   cellH H2 ⟨r, ro + 1, none⟩ = some (.bool b1) ∧
   br (!b1) (
   FnH Tryz.prog 47 #[.pointer (some ⟨r, ro, none⟩), .int .i64 1, .int .i64 32] H2 fun r2 H3 =>
   ∃ n2 : Int,
   r2 = .int .i64 n2 ∧
   ∃ s1 : ByteArray,
   cellH H3 ⟨r, ro, none⟩ = some (.string s1) ∧
   br (decide ((n2 : Int) > (s1.size : Nat))) (
   (∃ u, cellH H3 ⟨r, ro + 1, none⟩ = some u) ∧
   frozenH H3 ⟨r, ro + 1, none⟩ = false ∧
   letH (Heap.set H3 ⟨r, ro + 1, none⟩ (.bool true)) fun H4 =>
   K (.int .i64 next_1) H4)
   (
   ∃ s2 : ByteArray,
   cellH H3 ⟨r, ro, none⟩ = some (.string s2) ∧
   0 ≤ (n2 : Int) ∧
   (n2 : Int) ≤ (s2.size : Nat) ∧
   ∃ s3 : ByteArray,
   cellH H3 ⟨r, ro, none⟩ = some (.string s3) ∧
   0 ≤ (n2 : Int) ∧
   (n2 : Int) ≤ (s3.size : Nat) ∧
   (∃ u, cellH H3 ⟨r, ro, none⟩ = some u) ∧
   frozenH H3 ⟨r, ro, none⟩ = false ∧
   letH (Heap.set H3 ⟨r, ro, none⟩ (.string (s3.extract (Int.toNat n2) (Int.toNat (s3.size : Nat))))) fun H5 =>
   FnH Tryz.prog 47 #[.pointer (some ⟨r, ro, none⟩), .int .i64 1, .int .i64 16] H5 fun r3 H6 =>
   ∃ n3 : Int,
   r3 = .int .i64 n3 ∧
   FnH Tryz.prog 47 #[.pointer (some ⟨r, ro, none⟩), .int .i64 1, .int .i64 16] H6 fun r4 H7 =>
   ∃ n4 : Int,
   r4 = .int .i64 n4 ∧
   ∃ J1 : Heap → Prop,
   (FnH Tryz.prog 71 #[.string (s2.extract (Int.toNat (0 : Int)) (Int.toNat n2))] H7 fun r5 H8 =>
   ∃ b2 : Bool,
   r5 = .bool b2 ∧
   br (b2) (
   FnH Tryz.prog 16 #[.pointer (some ⟨m, mo, none⟩), .string (s2.extract (Int.toNat (0 : Int)) (Int.toNat n2))] H8 fun r6 H9 =>
   ∃ l1 : Sl,
   r6 = .slice l1.p l1.n l1.c ∧
   br (Option.isNone l1.p) (
   FnH Tryz.prog 50 #[.pointer (some ⟨r, ro, none⟩), .bool ((n3 : Int) == next_1)] H9 fun r7 H10 =>
   r7 = .tuple #[] ∧
   SelfEq ([.v (.pointer (some ⟨r, ro, none⟩)), .v (.pointer (some ⟨m, mo, none⟩)), .v (.int .i64 next_1), .v (.int .i64 n_1), .loc 0 0], [some (74, [.string (s2.extract (Int.toNat (0 : Int)) (Int.toNat n2)), .int .i64 n3, .int .i64 n4])], []) ∧
   J1 H10)
   (
   FnH Tryz.prog 50 #[.pointer (some ⟨r, ro, none⟩), .bool false] H9 fun r8 H11 =>
   r8 = .tuple #[] ∧
   SelfEq ([.v (.pointer (some ⟨r, ro, none⟩)), .v (.pointer (some ⟨m, mo, none⟩)), .v (.int .i64 next_1), .v (.int .i64 n_1), .loc 0 0], [some (74, [.string (s2.extract (Int.toNat (0 : Int)) (Int.toNat n2)), .int .i64 n3, .int .i64 n4])], []) ∧
   J1 H11))
   (
   FnH Tryz.prog 50 #[.pointer (some ⟨r, ro, none⟩), .bool false] H8 fun r9 H12 =>
   r9 = .tuple #[] ∧
   SelfEq ([.v (.pointer (some ⟨r, ro, none⟩)), .v (.pointer (some ⟨m, mo, none⟩)), .v (.int .i64 next_1), .v (.int .i64 n_1), .loc 0 0], [some (74, [.string (s2.extract (Int.toNat (0 : Int)) (Int.toNat n2)), .int .i64 n3, .int .i64 n4])], []) ∧
   J1 H12)) ∧
   ∀ H13 : Heap,
   J1 H13 →
   ∃ l2 : Sl,
   cellH H13 ⟨m, mo + 2, none⟩ = some (.slice l2.p l2.n l2.c) ∧
   ∀ q1 : Nat,
   H13 q1 = none →
   letH (Heap.upd H13 q1 (.cells #[.string (s2.extract (Int.toNat (0 : Int)) (Int.toNat n2)), .int .i64 n3, .int .i64 n4] 74 (0, 0))) fun H14 =>
   Sub H13 H14 ∧
   runH Tryz.prog (Builtin.append_ #[68, 68] 68 #[.slice l2.p l2.n l2.c, .slice (some ⟨q1, 0, none⟩) 1 1]) H14 fun r10 H15 =>
   ∃ l3 : Sl,
   r10 = .slice l3.p l3.n l3.c ∧
   (∃ u, cellH H15 ⟨m, mo + 2, none⟩ = some u) ∧
   frozenH H15 ⟨m, mo + 2, none⟩ = false ∧
   letH (Heap.set H15 ⟨m, mo + 2, none⟩ (.slice l3.p l3.n l3.c)) fun H16 =>
   SelfEq ([.v (.pointer (some ⟨r, ro, none⟩)), .v (.pointer (some ⟨m, mo, none⟩))], [], []) ∧
   I1 (IntKind.wrap .i64 (next_1 + n4)) (IntKind.wrap .i64 (n_1 - 1)) H16 ∧
   M1 (IntKind.wrap .i64 (next_1 + n4)) (IntKind.wrap .i64 (n_1 - 1)) H16 < M1 next_1 n_1 H2))
   (
   K (.int .i64 next_1) H2))
   (
   K (.int .i64 next_1) H2)
theorem meta_reader_topics_eq (r : Nat) (ro : Nat) (m : Nat) (mo : Nat) (H : Heap) (K : Value → Heap → Prop) : meta_reader_topics_vc r ro m mo H K = denFn Tryz.prog meta_reader_topics_ann Tryz.f48 (bodyOf Tryz.f48) [.pointer (some ⟨r, ro, none⟩), .pointer (some ⟨m, mo, none⟩)] H K := by kernel_rfl
theorem meta_reader_topics_fn (r : Nat) (ro : Nat) (m : Nat) (mo : Nat) {H : Heap} {K : Value → Heap → Prop} (h : meta_reader_topics_vc r ro m mo H K) : FnH Tryz.prog 48 #[.pointer (some ⟨r, ro, none⟩), .pointer (some ⟨m, mo, none⟩)] H K :=
  denFn_fn Tryz.mixed meta_reader_topics_ann Tryz.func48 (bodyOf_spec (by kernel_rfl)) (meta_reader_topics_eq r ro m mo H K) h

/-! function 21: logboom/meta.Load -/
def meta_Load_ann : Anns := { hid := [30], loops := [(0, { slots := [(6, .int .i64), (7, .int .i64)], kept := [4, 5], locs := [(0, [.str, .bool])], keptL := [] }), (2, { slots := [(11, .int .i64)], kept := [4, 5, 10], locs := [(0, [.str, .bool])], keptL := [] }), (4, { slots := [(104, .int .i64)], kept := [4, 5, 10, 11, 12, 102, 103], locs := [(0, [.str, .bool])], keptL := [] })], joins := [((12, 0), { slots := [], kept := [4, 5], locs := [(0, [.str, .bool])], keptL := [] }), ((12, 2), { slots := [], kept := [4, 5, 10], locs := [(0, [.str, .bool])], keptL := [] })], mix := [(1, []), (12, [7, 10]), (18, [7, 9, 11, 13, 16]), (25, [7, 10])] }
def meta_Load_vc (s : ByteArray) (H : Heap) (K : Value → Heap → Prop) : Prop :=
  br (decide (((s.size : Nat) : Int) < 4)) (
   K (.tuple #[.pointer none, .int .i64 4]) H)
   (
   0 ≤ (4 : Int) ∧
   (4 : Int) ≤ (s.size : Nat) ∧
   0 ≤ (4 : Int) ∧
   (4 : Int) ≤ (s.size : Nat) ∧
   FnH Tryz.prog 44 #[.string (s.extract (Int.toNat 4) (Int.toNat (s.size : Nat)))] H fun r1 H1 =>
   ∃ n1 : Int,
   r1 = .int .i64 n1 ∧
   Sub H H1 ∧
   FnH Tryz.prog 43 #[.int .i64 n1] H1 fun r2 H2 =>
   ∃ s1 : ByteArray,
   r2 = .string s1 ∧
   Sub H H2 ∧
   br (!(s1.toList == (s.extract (Int.toNat (0 : Int)) (Int.toNat 4)).toList)) (
   K (.tuple #[.pointer none, .int .i64 4]) H2)
   (
   0 ≤ (4 : Int) ∧
   (4 : Int) ≤ (s.size : Nat) ∧
   FnH Tryz.prog 10 #[] H2 fun r3 H3 =>
   ∃ p1 : Option Addr,
   r3 = .pointer p1 ∧
   ∀ q1 : Nat,
   H3 q1 = none →
   FnH Tryz.prog 47 #[.pointer (some ⟨q1, 0, none⟩), .int .i64 0, .int .i64 9223372036854775807] (Heap.upd H3 q1 (.cells #[.string (s.extract (Int.toNat 4) (Int.toNat (s.size : Nat))), .bool false] 86 (0, 0))) fun r4 H4 =>
   ∃ n2 : Int,
   r4 = .int .i64 n2 ∧
   ∃ s2 : ByteArray,
   ∃ b1 : Bool,
   H4 q1 = some (.cells #[.string s2, .bool b1] 86 (0, 0)) ∧
   letH (Heap.del H4 q1) fun H5 =>
   ptrm p1 fun q2 o1 =>
   (∃ u, cellH H5 ⟨q2, o1, none⟩ = some u) ∧
   frozenH H5 ⟨q2, o1, none⟩ = false ∧
   letH (Heap.set H5 ⟨q2, o1, none⟩ (.int .i64 n2)) fun H6 =>
   ∃ J1 : ByteArray → Bool → Heap → Prop,
   (∀ q3 : Nat,
   H6 q3 = none →
   FnH Tryz.prog 47 #[.pointer (some ⟨q3, 0, none⟩), .int .i64 0, .int .i64 7] (Heap.upd H6 q3 (.cells #[.string s2, .bool b1] 86 (0, 0))) fun r5 H7 =>
   ∃ n3 : Int,
   r5 = .int .i64 n3 ∧
   ∃ s3 : ByteArray,
   ∃ b2 : Bool,
   H7 q3 = some (.cells #[.string s3, .bool b2] 86 (0, 0)) ∧
   letH (Heap.del H7 q3) fun H8 =>
   ∃ I1 : Int → Int → ByteArray → Bool → Heap → Prop,
   ∃ M1 : Int → Int → ByteArray → Bool → Heap → Nat,
   I1 0 n3 s3 b2 H8 ∧
   ∀ last_1 : Int,
   ∀ n_1 : Int,
   ∀ s4 : ByteArray,
   ∀ b3 : Bool,
   ∀ H9 : Heap,
   I1 last_1 n_1 s4 b3 H9 →
   br (decide ((n_1 : Int) > 0)) (
   br (!b3) (
   ∀ q4 : Nat,
   H9 q4 = none →
   FnH Tryz.prog 47 #[.pointer (some ⟨q4, 0, none⟩), .int .i64 (IntKind.wrap .i64 (last_1 + 1)), .int .i64 7] (Heap.upd H9 q4 (.cells #[.string s4, .bool b3] 86 (0, 0))) fun r6 H10 =>
   ∃ n4 : Int,
   r6 = .int .i64 n4 ∧
   ∃ s5 : ByteArray,
   ∃ b4 : Bool,
   H10 q4 = some (.cells #[.string s5, .bool b4] 86 (0, 0)) ∧
   letH (Heap.del H10 q4) fun H11 =>
   ∀ q5 : Nat,
   H11 q5 = none →
   FnH Tryz.prog 47 #[.pointer (some ⟨q5, 0, none⟩), .int .i64 1, .int .i64 1000000000] (Heap.upd H11 q5 (.cells #[.string s5, .bool b4] 86 (0, 0))) fun r7 H12 =>
   ∃ n5 : Int,
   r7 = .int .i64 n5 ∧
   ∃ s6 : ByteArray,
   ∃ b5 : Bool,
   H12 q5 = some (.cells #[.string s6, .bool b5] 86 (0, 0)) ∧
   letH (Heap.del H12 q5) fun H13 =>
   ptrm p1 fun q6 o2 =>
   (∃ m1 : Option Nat,
   cellH H13 ⟨q6, o2 + 1, none⟩ = some (.map m1) ∧
   Sub H13 H13 ∧
   ∀ q7 : Nat,
   H13 q7 = none →
   FnH Tryz.prog 47 #[.pointer (some ⟨q7, 0, none⟩), .int .i64 0, .int .i64 1] (Heap.upd H13 q7 (.cells #[.string s6, .bool b5] 86 (0, 0))) fun r8 H14 =>
   ∃ n6 : Int,
   r8 = .int .i64 n6 ∧
   ∃ s7 : ByteArray,
   ∃ b6 : Bool,
   H14 q7 = some (.cells #[.string s7, .bool b6] 86 (0, 0)) ∧
   letH (Heap.del H14 q7) fun H15 =>
   runH Tryz.prog (Instr.mapUpdate 67 (.map m1) (.int .i64 n4) (.agg #[.int .i64 n5, .bool ((n6 : Int) == 1)])) H15 fun _ H16 =>
   SelfEq ([.loc 0 0, .v (.pointer p1)], [], [86]) ∧
   I1 n4 (IntKind.wrap .i64 (n_1 - 1)) s7 b6 H16 ∧
   M1 n4 (IntKind.wrap .i64 (n_1 - 1)) s7 b6 H16 < M1 last_1 n_1 s4 b3 H9) ∧
   ∀ q8 : Nat,
   H13 q8 = none →
   FnH Tryz.prog 47 #[.pointer (some ⟨q8, 0, none⟩), .int .i64 0, .int .i64 1] (Heap.upd H13 q8 (.cells #[.string s6, .bool b5] 86 (0, 0))) fun r9 H17 =>
   ∃ n7 : Int,
   r9 = .int .i64 n7 ∧
   ∃ s8 : ByteArray,
   ∃ b7 : Bool,
   H17 q8 = some (.cells #[.string s8, .bool b7] 86 (0, 0)) ∧
   letH (Heap.del H17 q8) fun H18 =>
   ∃ m2 : Option Nat,
   cellH H18 ⟨q6, o2 + 1, none⟩ = some (.map m2) ∧
   runH Tryz.prog (Instr.mapUpdate 67 (.map m2) (.int .i64 n4) (.agg #[.int .i64 n5, .bool ((n7 : Int) == 1)])) H18 fun _ H19 =>
   SelfEq ([.loc 0 0, .v (.pointer p1)], [], [86]) ∧
   I1 n4 (IntKind.wrap .i64 (n_1 - 1)) s8 b7 H19 ∧
   M1 n4 (IntKind.wrap .i64 (n_1 - 1)) s8 b7 H19 < M1 last_1 n_1 s4 b3 H9)
   (
   SelfEq ([.loc 0 0, .v (.pointer p1)], [], [86]) ∧
   J1 s4 b3 H9))
   (
   SelfEq ([.loc 0 0, .v (.pointer p1)], [], [86]) ∧
   J1 s4 b3 H9)) ∧
   ∀ s9 : ByteArray,
   ∀ b8 : Bool,
   ∀ H20 : Heap,
   J1 s9 b8 H20 →
   ∀ q9 : Nat,
   H20 q9 = none →
   FnH Tryz.prog 48 #[.pointer (some ⟨q9, 0, none⟩), .pointer p1] (Heap.upd H20 q9 (.cells #[.string s9, .bool b8] 86 (0, 0))) fun r10 H21 =>
   ∃ n8 : Int,
   r10 = .int .i64 n8 ∧
   ∃ s10 : ByteArray,
   ∃ b9 : Bool,
   H21 q9 = some (.cells #[.string s10, .bool b9] 86 (0, 0)) ∧
   letH (Heap.del H21 q9) fun H22 =>
   ∃ J2 : ByteArray → Bool → Heap → Prop,
   (∀ q10 : Nat,
   H22 q10 = none →
   FnH Tryz.prog 47 #[.pointer (some ⟨q10, 0, none⟩), .int .i64 0, .int .i64 16] (Heap.upd H22 q10 (.cells #[.string s10, .bool b9] 86 (0, 0))) fun r11 H23 =>
   ∃ n9 : Int,
   r11 = .int .i64 n9 ∧
   ∃ s11 : ByteArray,
   ∃ b10 : Bool,
   H23 q10 = some (.cells #[.string s11, .bool b10] 86 (0, 0)) ∧
   letH (Heap.del H23 q10) fun H24 =>
   ∃ I2 : Int → ByteArray → Bool → Heap → Prop,
   ∃ M2 : Int → ByteArray → Bool → Heap → Nat,
   I2 n9 s11 b10 H24 ∧
   ∀ n_2 : Int,
   ∀ s12 : ByteArray,
   ∀ b11 : Bool,
   ∀ H25 : Heap,
   I2 n_2 s12 b11 H25 →
   br (decide ((n_2 : Int) > 0)) (
   br (!b11) (
   ptrm p1 fun q11 o3 =>
   (∃ l1 : Sl,
   cellH H25 ⟨q11, o3 + 3, none⟩ = some (.slice l1.p l1.n l1.c) ∧
   Sub H25 H25 ∧
   (∀ q12 : Nat,
   H25 q12 = none →
   FnH Tryz.prog 47 #[.pointer (some ⟨q12, 0, none⟩), .int .i64 0, .int .i64 7] (Heap.upd H25 q12 (.cells #[.string s12, .bool b11] 86 (0, 0))) fun r12 H26 =>
   ∃ n10 : Int,
   r12 = .int .i64 n10 ∧
   ∃ s13 : ByteArray,
   ∃ b12 : Bool,
   H26 q12 = some (.cells #[.string s13, .bool b12] 86 (0, 0)) ∧
   letH (Heap.del H26 q12) fun H27 =>
   (∀ q13 : Nat,
   H27 q13 = none →
   FnH Tryz.prog 47 #[.pointer (some ⟨q13, 0, none⟩), .int .i64 1, .int .i64 1000000000] (Heap.upd H27 q13 (.cells #[.string s13, .bool b12] 86 (0, 0))) fun r13 H28 =>
   ∃ n11 : Int,
   r13 = .int .i64 n11 ∧
   ∃ s14 : ByteArray,
   ∃ b13 : Bool,
   H28 q13 = some (.cells #[.string s14, .bool b13] 86 (0, 0)) ∧
   letH (Heap.del H28 q13) fun H29 =>
   (∀ q14 : Nat,
   H29 q14 = none →
   FnH Tryz.prog 47 #[.pointer (some ⟨q14, 0, none⟩), .int .i64 1, .int .i64 1000000000] (Heap.upd H29 q14 (.cells #[.string s14, .bool b13] 86 (0, 0))) fun r14 H30 =>
   ∃ n12 : Int,
   r14 = .int .i64 n12 ∧
   ∃ s15 : ByteArray,
   ∃ b14 : Bool,
   H30 q14 = some (.cells #[.string s15, .bool b14] 86 (0, 0)) ∧
   letH (Heap.del H30 q14) fun H31 =>
   (∀ q15 : Nat,
   H31 q15 = none →
   FnH Tryz.prog 47 #[.pointer (some ⟨q15, 0, none⟩), .int .i64 1, .int .i64 5] (Heap.upd H31 q15 (.cells #[.string s15, .bool b14] 86 (0, 0))) fun r15 H32 =>
   ∃ n13 : Int,
   r15 = .int .i64 n13 ∧
   ∃ s16 : ByteArray,
   ∃ b15 : Bool,
   H32 q15 = some (.cells #[.string s16, .bool b15] 86 (0, 0)) ∧
   letH (Heap.del H32 q15) fun H33 =>
   ∀ q16 : Nat,
   H33 q16 = none →
   letH (Heap.upd H33 q16 (.cells #[.int .i64 0, .int .i64 0, .int .i64 0, .int .i64 0, .slice none 0 0, .slice none 0 0, .slice none 0 0, .slice none 0 0, .int .i64 0] 41 (0, 0))) fun H34 =>
   (∃ u, cellH H34 ⟨q16, 0, none⟩ = some u) ∧
   frozenH H34 ⟨q16, 0, none⟩ = false ∧
   letH (Heap.set H34 ⟨q16, 0, none⟩ (.int .i64 (IntKind.wrap .i64 ((l1.n : Nat) + 1)))) fun H35 =>
   (∃ u, cellH H35 ⟨q16, 1, none⟩ = some u) ∧
   frozenH H35 ⟨q16, 1, none⟩ = false ∧
   letH (Heap.set H35 ⟨q16, 1, none⟩ (.int .i64 n10)) fun H36 =>
   (∃ u, cellH H36 ⟨q16, 2, none⟩ = some u) ∧
   frozenH H36 ⟨q16, 2, none⟩ = false ∧
   letH (Heap.set H36 ⟨q16, 2, none⟩ (.int .i64 n11)) fun H37 =>
   (∃ u, cellH H37 ⟨q16, 3, none⟩ = some u) ∧
   frozenH H37 ⟨q16, 3, none⟩ = false ∧
   letH (Heap.set H37 ⟨q16, 3, none⟩ (.int .i64 n12)) fun H38 =>
   (∃ u, cellH H38 ⟨q16, 4, none⟩ = some u) ∧
   frozenH H38 ⟨q16, 4, none⟩ = false ∧
   letH (Heap.set H38 ⟨q16, 4, none⟩ (.slice none 0 0)) fun H39 =>
   (∃ u, cellH H39 ⟨q16, 5, none⟩ = some u) ∧
   frozenH H39 ⟨q16, 5, none⟩ = false ∧
   letH (Heap.set H39 ⟨q16, 5, none⟩ (.slice none 0 0)) fun H40 =>
   (∃ u, cellH H40 ⟨q16, 6, none⟩ = some u) ∧
   frozenH H40 ⟨q16, 6, none⟩ = false ∧
   letH (Heap.set H40 ⟨q16, 6, none⟩ (.slice none 0 0)) fun H41 =>
   (∃ u, cellH H41 ⟨q16, 7, none⟩ = some u) ∧
   frozenH H41 ⟨q16, 7, none⟩ = false ∧
   letH (Heap.set H41 ⟨q16, 7, none⟩ (.slice none 0 0)) fun H42 =>
   (∃ u, cellH H42 ⟨q16, 8, none⟩ = some u) ∧
   frozenH H42 ⟨q16, 8, none⟩ = false ∧
   letH (Heap.set H42 ⟨q16, 8, none⟩ (.int .i64 n13)) fun H43 =>
   ∀ q17 : Nat,
   H43 q17 = none →
   letH (Heap.upd H43 q17 (.cells #[.pointer (some ⟨q16, 4, none⟩), .pointer (some ⟨q16, 5, none⟩), .pointer (some ⟨q16, 6, none⟩), .pointer (some ⟨q16, 7, none⟩)] 88 (0, 0))) fun H44 =>
   ∃ I3 : Int → ByteArray → Bool → Heap → Prop,
   ∃ M3 : Int → ByteArray → Bool → Heap → Nat,
   I3 0 s16 b15 H44 ∧
   ∀ n_3 : Int,
   ∀ s17 : ByteArray,
   ∀ b16 : Bool,
   ∀ H45 : Heap,
   I3 n_3 s17 b16 H45 →
   br (decide ((n_3 : Int) < (4 : Nat))) (
   ∃ q18 : Nat,
   ∃ o4 : Nat,
   ((some ⟨q17, 0, none⟩) : Option Addr) = some ⟨q18, o4, none⟩ ∧
   0 ≤ (n_3 : Int) ∧
   (n_3 : Int) < (4 : Nat) ∧
   ∃ p2 : Option Addr,
   cellH H45 ⟨q18, o4 + Int.toNat n_3, none⟩ = some (.pointer p2) ∧
   ∀ q19 : Nat,
   H45 q19 = none →
   FnH Tryz.prog 49 #[.pointer (some ⟨q19, 0, none⟩), .int .i64 7, .int .i64 1, .int .i64 7] (Heap.upd H45 q19 (.cells #[.string s17, .bool b16] 86 (0, 0))) fun r16 H46 =>
   ∃ l2 : Sl,
   r16 = .slice l2.p l2.n l2.c ∧
   ∃ s18 : ByteArray,
   ∃ b17 : Bool,
   H46 q19 = some (.cells #[.string s18, .bool b17] 86 (0, 0)) ∧
   letH (Heap.del H46 q19) fun H47 =>
   ptrm p2 fun q20 o5 =>
   (∃ u, cellH H47 ⟨q20, o5, none⟩ = some u) ∧
   frozenH H47 ⟨q20, o5, none⟩ = false ∧
   letH (Heap.set H47 ⟨q20, o5, none⟩ (.slice l2.p l2.n l2.c)) fun H48 =>
   SelfEq ([.loc 0 0, .v (.pointer p1), .v (.int .i64 n8), .v (.int .i64 n_2), .v (.pointer (some ⟨q16, 0, none⟩)), .v (.slice (some ⟨q17, 0, none⟩) 4 4), .v (.int .i64 (4 : Nat))], [], [86]) ∧
   I3 (IntKind.wrap .i64 (n_3 + 1)) s18 b17 H48 ∧
   M3 (IntKind.wrap .i64 (n_3 + 1)) s18 b17 H48 < M3 n_3 s17 b16 H45)
   (
   ∃ n14 : Int,
   cellH H45 ⟨q16, 0, none⟩ = some (.int .i64 n14) ∧
   ∃ n15 : Int,
   cellH H45 ⟨q16, 1, none⟩ = some (.int .i64 n15) ∧
   ∃ n16 : Int,
   cellH H45 ⟨q16, 2, none⟩ = some (.int .i64 n16) ∧
   ∃ n17 : Int,
   cellH H45 ⟨q16, 3, none⟩ = some (.int .i64 n17) ∧
   ∃ l3 : Sl,
   cellH H45 ⟨q16, 4, none⟩ = some (.slice l3.p l3.n l3.c) ∧
   ∃ l4 : Sl,
   cellH H45 ⟨q16, 5, none⟩ = some (.slice l4.p l4.n l4.c) ∧
   ∃ l5 : Sl,
   cellH H45 ⟨q16, 6, none⟩ = some (.slice l5.p l5.n l5.c) ∧
   ∃ l6 : Sl,
   cellH H45 ⟨q16, 7, none⟩ = some (.slice l6.p l6.n l6.c) ∧
   ∃ n18 : Int,
   cellH H45 ⟨q16, 8, none⟩ = some (.int .i64 n18) ∧
   FnH Tryz.prog 51 #[.agg #[.int .i64 n14, .int .i64 n15, .int .i64 n16, .int .i64 n17, .slice l3.p l3.n l3.c, .slice l4.p l4.n l4.c, .slice l5.p l5.n l5.c, .slice l6.p l6.n l6.c, .int .i64 n18]] H45 fun r17 H49 =>
   ∃ b18 : Bool,
   r17 = .bool b18 ∧
   ∀ q21 : Nat,
   H49 q21 = none →
   FnH Tryz.prog 50 #[.pointer (some ⟨q21, 0, none⟩), .bool b18] (Heap.upd H49 q21 (.cells #[.string s17, .bool b16] 86 (0, 0))) fun r18 H50 =>
   r18 = .tuple #[] ∧
   ∃ s19 : ByteArray,
   ∃ b19 : Bool,
   H50 q21 = some (.cells #[.string s19, .bool b19] 86 (0, 0)) ∧
   letH (Heap.del H50 q21) fun H51 =>
   ptrm p1 fun q22 o6 =>
   ∃ l7 : Sl,
   cellH H51 ⟨q22, o6 + 3, none⟩ = some (.slice l7.p l7.n l7.c) ∧
   ∃ n19 : Int,
   cellH H51 ⟨q16, 0, none⟩ = some (.int .i64 n19) ∧
   ∃ n20 : Int,
   cellH H51 ⟨q16, 1, none⟩ = some (.int .i64 n20) ∧
   ∃ n21 : Int,
   cellH H51 ⟨q16, 2, none⟩ = some (.int .i64 n21) ∧
   ∃ n22 : Int,
   cellH H51 ⟨q16, 3, none⟩ = some (.int .i64 n22) ∧
   ∃ l8 : Sl,
   cellH H51 ⟨q16, 4, none⟩ = some (.slice l8.p l8.n l8.c) ∧
   ∃ l9 : Sl,
   cellH H51 ⟨q16, 5, none⟩ = some (.slice l9.p l9.n l9.c) ∧
   ∃ l10 : Sl,
   cellH H51 ⟨q16, 6, none⟩ = some (.slice l10.p l10.n l10.c) ∧
   ∃ l11 : Sl,
   cellH H51 ⟨q16, 7, none⟩ = some (.slice l11.p l11.n l11.c) ∧
   ∃ n23 : Int,
   cellH H51 ⟨q16, 8, none⟩ = some (.int .i64 n23) ∧
   ∀ q23 : Nat,
   H51 q23 = none →
   letH (Heap.upd H51 q23 (.cells #[.int .i64 n19, .int .i64 n20, .int .i64 n21, .int .i64 n22, .slice l8.p l8.n l8.c, .slice l9.p l9.n l9.c, .slice l10.p l10.n l10.c, .slice l11.p l11.n l11.c, .int .i64 n23] 41 (0, 0))) fun H52 =>
   Sub H51 H52 ∧
   runH Tryz.prog (Builtin.append_ #[35, 35] 35 #[.slice l7.p l7.n l7.c, .slice (some ⟨q23, 0, none⟩) 1 1]) H52 fun r19 H53 =>
   ∃ l12 : Sl,
   r19 = .slice l12.p l12.n l12.c ∧
   ptrm p1 fun q24 o7 =>
   (∃ u, cellH H53 ⟨q24, o7 + 3, none⟩ = some u) ∧
   frozenH H53 ⟨q24, o7 + 3, none⟩ = false ∧
   letH (Heap.set H53 ⟨q24, o7 + 3, none⟩ (.slice l12.p l12.n l12.c)) fun H54 =>
   SelfEq ([.loc 0 0, .v (.pointer p1), .v (.int .i64 n8)], [], [86]) ∧
   I2 (IntKind.wrap .i64 (n_2 - 1)) s19 b19 H54 ∧
   M2 (IntKind.wrap .i64 (n_2 - 1)) s19 b19 H54 < M2 n_2 s12 b11 H25)) ∧
   ∀ q25 : Nat,
   H31 q25 = none →
   letH (Heap.upd H31 q25 (.cells #[.int .i64 0, .int .i64 0, .int .i64 0, .int .i64 0, .slice none 0 0, .slice none 0 0, .slice none 0 0, .slice none 0 0, .int .i64 0] 41 (0, 0))) fun H55 =>
   ∀ q26 : Nat,
   H55 q26 = none →
   FnH Tryz.prog 47 #[.pointer (some ⟨q26, 0, none⟩), .int .i64 1, .int .i64 5] (Heap.upd H55 q26 (.cells #[.string s15, .bool b14] 86 (0, 0))) fun r20 H56 =>
   ∃ n24 : Int,
   r20 = .int .i64 n24 ∧
   ∃ s20 : ByteArray,
   ∃ b20 : Bool,
   H56 q26 = some (.cells #[.string s20, .bool b20] 86 (0, 0)) ∧
   letH (Heap.del H56 q26) fun H57 =>
   (∃ u, cellH H57 ⟨q25, 0, none⟩ = some u) ∧
   frozenH H57 ⟨q25, 0, none⟩ = false ∧
   letH (Heap.set H57 ⟨q25, 0, none⟩ (.int .i64 (IntKind.wrap .i64 ((l1.n : Nat) + 1)))) fun H58 =>
   (∃ u, cellH H58 ⟨q25, 1, none⟩ = some u) ∧
   frozenH H58 ⟨q25, 1, none⟩ = false ∧
   letH (Heap.set H58 ⟨q25, 1, none⟩ (.int .i64 n10)) fun H59 =>
   (∃ u, cellH H59 ⟨q25, 2, none⟩ = some u) ∧
   frozenH H59 ⟨q25, 2, none⟩ = false ∧
   letH (Heap.set H59 ⟨q25, 2, none⟩ (.int .i64 n11)) fun H60 =>
   (∃ u, cellH H60 ⟨q25, 3, none⟩ = some u) ∧
   frozenH H60 ⟨q25, 3, none⟩ = false ∧
   letH (Heap.set H60 ⟨q25, 3, none⟩ (.int .i64 n12)) fun H61 =>
   (∃ u, cellH H61 ⟨q25, 4, none⟩ = some u) ∧
   frozenH H61 ⟨q25, 4, none⟩ = false ∧
   letH (Heap.set H61 ⟨q25, 4, none⟩ (.slice none 0 0)) fun H62 =>
   (∃ u, cellH H62 ⟨q25, 5, none⟩ = some u) ∧
   frozenH H62 ⟨q25, 5, none⟩ = false ∧
   letH (Heap.set H62 ⟨q25, 5, none⟩ (.slice none 0 0)) fun H63 =>
   (∃ u, cellH H63 ⟨q25, 6, none⟩ = some u) ∧
   frozenH H63 ⟨q25, 6, none⟩ = false ∧
   letH (Heap.set H63 ⟨q25, 6, none⟩ (.slice none 0 0)) fun H64 =>
   (∃ u, cellH H64 ⟨q25, 7, none⟩ = some u) ∧
   frozenH H64 ⟨q25, 7, none⟩ = false ∧
   letH (Heap.set H64 ⟨q25, 7, none⟩ (.slice none 0 0)) fun H65 =>
   (∃ u, cellH H65 ⟨q25, 8, none⟩ = some u) ∧
   frozenH H65 ⟨q25, 8, none⟩ = false ∧
   letH (Heap.set H65 ⟨q25, 8, none⟩ (.int .i64 n24)) fun H66 =>
   ∀ q27 : Nat,
   H66 q27 = none →
   letH (Heap.upd H66 q27 (.cells #[.pointer (some ⟨q25, 4, none⟩), .pointer (some ⟨q25, 5, none⟩), .pointer (some ⟨q25, 6, none⟩), .pointer (some ⟨q25, 7, none⟩)] 88 (0, 0))) fun H67 =>
   ∃ I4 : Int → ByteArray → Bool → Heap → Prop,
   ∃ M4 : Int → ByteArray → Bool → Heap → Nat,
   I4 0 s20 b20 H67 ∧
   ∀ n_4 : Int,
   ∀ s21 : ByteArray,
   ∀ b21 : Bool,
   ∀ H68 : Heap,
   I4 n_4 s21 b21 H68 →
   br (decide ((n_4 : Int) < (4 : Nat))) (
   ∃ q28 : Nat,
   ∃ o8 : Nat,
   ((some ⟨q27, 0, none⟩) : Option Addr) = some ⟨q28, o8, none⟩ ∧
   0 ≤ (n_4 : Int) ∧
   (n_4 : Int) < (4 : Nat) ∧
   ∃ p3 : Option Addr,
   cellH H68 ⟨q28, o8 + Int.toNat n_4, none⟩ = some (.pointer p3) ∧
   ∀ q29 : Nat,
   H68 q29 = none →
   FnH Tryz.prog 49 #[.pointer (some ⟨q29, 0, none⟩), .int .i64 7, .int .i64 1, .int .i64 7] (Heap.upd H68 q29 (.cells #[.string s21, .bool b21] 86 (0, 0))) fun r21 H69 =>
   ∃ l13 : Sl,
   r21 = .slice l13.p l13.n l13.c ∧
   ∃ s22 : ByteArray,
   ∃ b22 : Bool,
   H69 q29 = some (.cells #[.string s22, .bool b22] 86 (0, 0)) ∧
   letH (Heap.del H69 q29) fun H70 =>
   ptrm p3 fun q30 o9 =>
   (∃ u, cellH H70 ⟨q30, o9, none⟩ = some u) ∧
   frozenH H70 ⟨q30, o9, none⟩ = false ∧
   letH (Heap.set H70 ⟨q30, o9, none⟩ (.slice l13.p l13.n l13.c)) fun H71 =>
   SelfEq ([.loc 0 0, .v (.pointer p1), .v (.int .i64 n8), .v (.int .i64 n_2), .v (.pointer (some ⟨q25, 0, none⟩)), .v (.slice (some ⟨q27, 0, none⟩) 4 4), .v (.int .i64 (4 : Nat))], [], [86]) ∧
   I4 (IntKind.wrap .i64 (n_4 + 1)) s22 b22 H71 ∧
   M4 (IntKind.wrap .i64 (n_4 + 1)) s22 b22 H71 < M4 n_4 s21 b21 H68)
   (
   ∃ n25 : Int,
   cellH H68 ⟨q25, 0, none⟩ = some (.int .i64 n25) ∧
   ∃ n26 : Int,
   cellH H68 ⟨q25, 1, none⟩ = some (.int .i64 n26) ∧
   ∃ n27 : Int,
   cellH H68 ⟨q25, 2, none⟩ = some (.int .i64 n27) ∧
   ∃ n28 : Int,
   cellH H68 ⟨q25, 3, none⟩ = some (.int .i64 n28) ∧
   ∃ l14 : Sl,
   cellH H68 ⟨q25, 4, none⟩ = some (.slice l14.p l14.n l14.c) ∧
   ∃ l15 : Sl,
   cellH H68 ⟨q25, 5, none⟩ = some (.slice l15.p l15.n l15.c) ∧
   ∃ l16 : Sl,
   cellH H68 ⟨q25, 6, none⟩ = some (.slice l16.p l16.n l16.c) ∧
   ∃ l17 : Sl,
   cellH H68 ⟨q25, 7, none⟩ = some (.slice l17.p l17.n l17.c) ∧
   ∃ n29 : Int,
   cellH H68 ⟨q25, 8, none⟩ = some (.int .i64 n29) ∧
   FnH Tryz.prog 51 #[.agg #[.int .i64 n25, .int .i64 n26, .int .i64 n27, .int .i64 n28, .slice l14.p l14.n l14.c, .slice l15.p l15.n l15.c, .slice l16.p l16.n l16.c, .slice l17.p l17.n l17.c, .int .i64 n29]] H68 fun r22 H72 =>
   ∃ b23 : Bool,
   r22 = .bool b23 ∧
   ∀ q31 : Nat,
   H72 q31 = none →
   FnH Tryz.prog 50 #[.pointer (some ⟨q31, 0, none⟩), .bool b23] (Heap.upd H72 q31 (.cells #[.string s21, .bool b21] 86 (0, 0))) fun r23 H73 =>
   r23 = .tuple #[] ∧
   ∃ s23 : ByteArray,
   ∃ b24 : Bool,
   H73 q31 = some (.cells #[.string s23, .bool b24] 86 (0, 0)) ∧
   letH (Heap.del H73 q31) fun H74 =>
   ptrm p1 fun q32 o10 =>
   ∃ l18 : Sl,
   cellH H74 ⟨q32, o10 + 3, none⟩ = some (.slice l18.p l18.n l18.c) ∧
   ∃ n30 : Int,
   cellH H74 ⟨q25, 0, none⟩ = some (.int .i64 n30) ∧
   ∃ n31 : Int,
   cellH H74 ⟨q25, 1, none⟩ = some (.int .i64 n31) ∧
   ∃ n32 : Int,
   cellH H74 ⟨q25, 2, none⟩ = some (.int .i64 n32) ∧
   ∃ n33 : Int,
   cellH H74 ⟨q25, 3, none⟩ = some (.int .i64 n33) ∧
   ∃ l19 : Sl,
   cellH H74 ⟨q25, 4, none⟩ = some (.slice l19.p l19.n l19.c) ∧
   ∃ l20 : Sl,
   cellH H74 ⟨q25, 5, none⟩ = some (.slice l20.p l20.n l20.c) ∧
   ∃ l21 : Sl,
   cellH H74 ⟨q25, 6, none⟩ = some (.slice l21.p l21.n l21.c) ∧
   ∃ l22 : Sl,
   cellH H74 ⟨q25, 7, none⟩ = some (.slice l22.p l22.n l22.c) ∧
   ∃ n34 : Int,
   cellH H74 ⟨q25, 8, none⟩ = some (.int .i64 n34) ∧
   ∀ q33 : Nat,
   H74 q33 = none →
   letH (Heap.upd H74 q33 (.cells #[.int .i64 n30, .int .i64 n31, .int .i64 n32, .int .i64 n33, .slice l19.p l19.n l19.c, .slice l20.p l20.n l20.c, .slice l21.p l21.n l21.c, .slice l22.p l22.n l22.c, .int .i64 n34] 41 (0, 0))) fun H75 =>
   Sub H74 H75 ∧
   runH Tryz.prog (Builtin.append_ #[35, 35] 35 #[.slice l18.p l18.n l18.c, .slice (some ⟨q33, 0, none⟩) 1 1]) H75 fun r24 H76 =>
   ∃ l23 : Sl,
   r24 = .slice l23.p l23.n l23.c ∧
   ptrm p1 fun q34 o11 =>
   (∃ u, cellH H76 ⟨q34, o11 + 3, none⟩ = some u) ∧
   frozenH H76 ⟨q34, o11 + 3, none⟩ = false ∧
   letH (Heap.set H76 ⟨q34, o11 + 3, none⟩ (.slice l23.p l23.n l23.c)) fun H77 =>
   SelfEq ([.loc 0 0, .v (.pointer p1), .v (.int .i64 n8)], [], [86]) ∧
   I2 (IntKind.wrap .i64 (n_2 - 1)) s23 b24 H77 ∧
   M2 (IntKind.wrap .i64 (n_2 - 1)) s23 b24 H77 < M2 n_2 s12 b11 H25)) ∧
   ∀ q35 : Nat,
   H29 q35 = none →
   letH (Heap.upd H29 q35 (.cells #[.int .i64 0, .int .i64 0, .int .i64 0, .int .i64 0, .slice none 0 0, .slice none 0 0, .slice none 0 0, .slice none 0 0, .int .i64 0] 41 (0, 0))) fun H78 =>
   ∀ q36 : Nat,
   H78 q36 = none →
   FnH Tryz.prog 47 #[.pointer (some ⟨q36, 0, none⟩), .int .i64 1, .int .i64 1000000000] (Heap.upd H78 q36 (.cells #[.string s14, .bool b13] 86 (0, 0))) fun r25 H79 =>
   ∃ n35 : Int,
   r25 = .int .i64 n35 ∧
   ∃ s24 : ByteArray,
   ∃ b25 : Bool,
   H79 q36 = some (.cells #[.string s24, .bool b25] 86 (0, 0)) ∧
   letH (Heap.del H79 q36) fun H80 =>
   ∀ q37 : Nat,
   H80 q37 = none →
   FnH Tryz.prog 47 #[.pointer (some ⟨q37, 0, none⟩), .int .i64 1, .int .i64 5] (Heap.upd H80 q37 (.cells #[.string s24, .bool b25] 86 (0, 0))) fun r26 H81 =>
   ∃ n36 : Int,
   r26 = .int .i64 n36 ∧
   ∃ s25 : ByteArray,
   ∃ b26 : Bool,
   H81 q37 = some (.cells #[.string s25, .bool b26] 86 (0, 0)) ∧
   letH (Heap.del H81 q37) fun H82 =>
   (∃ u, cellH H82 ⟨q35, 0, none⟩ = some u) ∧
   frozenH H82 ⟨q35, 0, none⟩ = false ∧
   letH (Heap.set H82 ⟨q35, 0, none⟩ (.int .i64 (IntKind.wrap .i64 ((l1.n : Nat) + 1)))) fun H83 =>
   (∃ u, cellH H83 ⟨q35, 1, none⟩ = some u) ∧
   frozenH H83 ⟨q35, 1, none⟩ = false ∧
   letH (Heap.set H83 ⟨q35, 1, none⟩ (.int .i64 n10)) fun H84 =>
   (∃ u, cellH H84 ⟨q35, 2, none⟩ = some u) ∧
   frozenH H84 ⟨q35, 2, none⟩ = false ∧
   letH (Heap.set H84 ⟨q35, 2, none⟩ (.int .i64 n11)) fun H85 =>
   (∃ u, cellH H85 ⟨q35, 3, none⟩ = some u) ∧
   frozenH H85 ⟨q35, 3, none⟩ = false ∧
   letH (Heap.set H85 ⟨q35, 3, none⟩ (.int .i64 n35)) fun H86 =>
   (∃ u, cellH H86 ⟨q35, 4, none⟩ = some u) ∧
   frozenH H86 ⟨q35, 4, none⟩ = false ∧
   letH (Heap.set H86 ⟨q35, 4, none⟩ (.slice none 0 0)) fun H87 =>
   (∃ u, cellH H87 ⟨q35, 5, none⟩ = some u) ∧
   frozenH H87 ⟨q35, 5, none⟩ = false ∧
   letH (Heap.set H87 ⟨q35, 5, none⟩ (.slice none 0 0)) fun H88 =>
   (∃ u, cellH H88 ⟨q35, 6, none⟩ = some u) ∧
   frozenH H88 ⟨q35, 6, none⟩ = false ∧
   letH (Heap.set H88 ⟨q35, 6, none⟩ (.slice none 0 0)) fun H89 =>
   (∃ u, cellH H89 ⟨q35, 7, none⟩ = some u) ∧
   frozenH H89 ⟨q35, 7, none⟩ = false ∧
   letH (Heap.set H89 ⟨q35, 7, none⟩ (.slice none 0 0)) fun H90 =>
   (∃ u, cellH H90 ⟨q35, 8, none⟩ = some u) ∧
   frozenH H90 ⟨q35, 8, none⟩ = false ∧
   letH (Heap.set H90 ⟨q35, 8, none⟩ (.int .i64 n36)) fun H91 =>
   ∀ q38 : Nat,
   H91 q38 = none →
   letH (Heap.upd H91 q38 (.cells #[.pointer (some ⟨q35, 4, none⟩), .pointer (some ⟨q35, 5, none⟩), .pointer (some ⟨q35, 6, none⟩), .pointer (some ⟨q35, 7, none⟩)] 88 (0, 0))) fun H92 =>
   ∃ I5 : Int → ByteArray → Bool → Heap → Prop,
   ∃ M5 : Int → ByteArray → Bool → Heap → Nat,
   I5 0 s25 b26 H92 ∧
   ∀ n_5 : Int,
   ∀ s26 : ByteArray,
   ∀ b27 : Bool,
   ∀ H93 : Heap,
   I5 n_5 s26 b27 H93 →
   br (decide ((n_5 : Int) < (4 : Nat))) (
   ∃ q39 : Nat,
   ∃ o12 : Nat,
   ((some ⟨q38, 0, none⟩) : Option Addr) = some ⟨q39, o12, none⟩ ∧
   0 ≤ (n_5 : Int) ∧
   (n_5 : Int) < (4 : Nat) ∧
   ∃ p4 : Option Addr,
   cellH H93 ⟨q39, o12 + Int.toNat n_5, none⟩ = some (.pointer p4) ∧
   ∀ q40 : Nat,
   H93 q40 = none →
   FnH Tryz.prog 49 #[.pointer (some ⟨q40, 0, none⟩), .int .i64 7, .int .i64 1, .int .i64 7] (Heap.upd H93 q40 (.cells #[.string s26, .bool b27] 86 (0, 0))) fun r27 H94 =>
   ∃ l24 : Sl,
   r27 = .slice l24.p l24.n l24.c ∧
   ∃ s27 : ByteArray,
   ∃ b28 : Bool,
   H94 q40 = some (.cells #[.string s27, .bool b28] 86 (0, 0)) ∧
   letH (Heap.del H94 q40) fun H95 =>
   ptrm p4 fun q41 o13 =>
   (∃ u, cellH H95 ⟨q41, o13, none⟩ = some u) ∧
   frozenH H95 ⟨q41, o13, none⟩ = false ∧
   letH (Heap.set H95 ⟨q41, o13, none⟩ (.slice l24.p l24.n l24.c)) fun H96 =>
   SelfEq ([.loc 0 0, .v (.pointer p1), .v (.int .i64 n8), .v (.int .i64 n_2), .v (.pointer (some ⟨q35, 0, none⟩)), .v (.slice (some ⟨q38, 0, none⟩) 4 4), .v (.int .i64 (4 : Nat))], [], [86]) ∧
   I5 (IntKind.wrap .i64 (n_5 + 1)) s27 b28 H96 ∧
   M5 (IntKind.wrap .i64 (n_5 + 1)) s27 b28 H96 < M5 n_5 s26 b27 H93)
   (
   ∃ n37 : Int,
   cellH H93 ⟨q35, 0, none⟩ = some (.int .i64 n37) ∧
   ∃ n38 : Int,
   cellH H93 ⟨q35, 1, none⟩ = some (.int .i64 n38) ∧
   ∃ n39 : Int,
   cellH H93 ⟨q35, 2, none⟩ = some (.int .i64 n39) ∧
   ∃ n40 : Int,
   cellH H93 ⟨q35, 3, none⟩ = some (.int .i64 n40) ∧
   ∃ l25 : Sl,
   cellH H93 ⟨q35, 4, none⟩ = some (.slice l25.p l25.n l25.c) ∧
   ∃ l26 : Sl,
   cellH H93 ⟨q35, 5, none⟩ = some (.slice l26.p l26.n l26.c) ∧
   ∃ l27 : Sl,
   cellH H93 ⟨q35, 6, none⟩ = some (.slice l27.p l27.n l27.c) ∧
   ∃ l28 : Sl,
   cellH H93 ⟨q35, 7, none⟩ = some (.slice l28.p l28.n l28.c) ∧
   ∃ n41 : Int,
   cellH H93 ⟨q35, 8, none⟩ = some (.int .i64 n41) ∧
   FnH Tryz.prog 51 #[.agg #[.int .i64 n37, .int .i64 n38, .int .i64 n39, .int .i64 n40, .slice l25.p l25.n l25.c, .slice l26.p l26.n l26.c, .slice l27.p l27.n l27.c, .slice l28.p l28.n l28.c, .int .i64 n41]] H93 fun r28 H97 =>
   ∃ b29 : Bool,
   r28 = .bool b29 ∧
   ∀ q42 : Nat,
   H97 q42 = none →
   FnH Tryz.prog 50 #[.pointer (some ⟨q42, 0, none⟩), .bool b29] (Heap.upd H97 q42 (.cells #[.string s26, .bool b27] 86 (0, 0))) fun r29 H98 =>
   r29 = .tuple #[] ∧
   ∃ s28 : ByteArray,
   ∃ b30 : Bool,
   H98 q42 = some (.cells #[.string s28, .bool b30] 86 (0, 0)) ∧
   letH (Heap.del H98 q42) fun H99 =>
   ptrm p1 fun q43 o14 =>
   ∃ l29 : Sl,
   cellH H99 ⟨q43, o14 + 3, none⟩ = some (.slice l29.p l29.n l29.c) ∧
   ∃ n42 : Int,
   cellH H99 ⟨q35, 0, none⟩ = some (.int .i64 n42) ∧
   ∃ n43 : Int,
   cellH H99 ⟨q35, 1, none⟩ = some (.int .i64 n43) ∧
   ∃ n44 : Int,
   cellH H99 ⟨q35, 2, none⟩ = some (.int .i64 n44) ∧
   ∃ n45 : Int,
   cellH H99 ⟨q35, 3, none⟩ = some (.int .i64 n45) ∧
   ∃ l30 : Sl,
   cellH H99 ⟨q35, 4, none⟩ = some (.slice l30.p l30.n l30.c) ∧
   ∃ l31 : Sl,
   cellH H99 ⟨q35, 5, none⟩ = some (.slice l31.p l31.n l31.c) ∧
   ∃ l32 : Sl,
   cellH H99 ⟨q35, 6, none⟩ = some (.slice l32.p l32.n l32.c) ∧
   ∃ l33 : Sl,
   cellH H99 ⟨q35, 7, none⟩ = some (.slice l33.p l33.n l33.c) ∧
   ∃ n46 : Int,
   cellH H99 ⟨q35, 8, none⟩ = some (.int .i64 n46) ∧
   ∀ q44 : Nat,
   H99 q44 = none →
   letH (Heap.upd H99 q44 (.cells #[.int .i64 n42, .int .i64 n43, .int .i64 n44, .int .i64 n45, .slice l30.p l30.n l30.c, .slice l31.p l31.n l31.c, .slice l32.p l32.n l32.c, .slice l33.p l33.n l33.c, .int .i64 n46] 41 (0, 0))) fun H100 =>
   Sub H99 H100 ∧
   runH Tryz.prog (Builtin.append_ #[35, 35] 35 #[.slice l29.p l29.n l29.c, .slice (some ⟨q44, 0, none⟩) 1 1]) H100 fun r30 H101 =>
   ∃ l34 : Sl,
   r30 = .slice l34.p l34.n l34.c ∧
   ptrm p1 fun q45 o15 =>
   (∃ u, cellH H101 ⟨q45, o15 + 3, none⟩ = some u) ∧
   frozenH H101 ⟨q45, o15 + 3, none⟩ = false ∧
   letH (Heap.set H101 ⟨q45, o15 + 3, none⟩ (.slice l34.p l34.n l34.c)) fun H102 =>
   SelfEq ([.loc 0 0, .v (.pointer p1), .v (.int .i64 n8)], [], [86]) ∧
   I2 (IntKind.wrap .i64 (n_2 - 1)) s28 b30 H102 ∧
   M2 (IntKind.wrap .i64 (n_2 - 1)) s28 b30 H102 < M2 n_2 s12 b11 H25)) ∧
   ∀ q46 : Nat,
   H27 q46 = none →
   letH (Heap.upd H27 q46 (.cells #[.int .i64 0, .int .i64 0, .int .i64 0, .int .i64 0, .slice none 0 0, .slice none 0 0, .slice none 0 0, .slice none 0 0, .int .i64 0] 41 (0, 0))) fun H103 =>
   ∀ q47 : Nat,
   H103 q47 = none →
   FnH Tryz.prog 47 #[.pointer (some ⟨q47, 0, none⟩), .int .i64 1, .int .i64 1000000000] (Heap.upd H103 q47 (.cells #[.string s13, .bool b12] 86 (0, 0))) fun r31 H104 =>
   ∃ n47 : Int,
   r31 = .int .i64 n47 ∧
   ∃ s29 : ByteArray,
   ∃ b31 : Bool,
   H104 q47 = some (.cells #[.string s29, .bool b31] 86 (0, 0)) ∧
   letH (Heap.del H104 q47) fun H105 =>
   ∀ q48 : Nat,
   H105 q48 = none →
   FnH Tryz.prog 47 #[.pointer (some ⟨q48, 0, none⟩), .int .i64 1, .int .i64 1000000000] (Heap.upd H105 q48 (.cells #[.string s29, .bool b31] 86 (0, 0))) fun r32 H106 =>
   ∃ n48 : Int,
   r32 = .int .i64 n48 ∧
   ∃ s30 : ByteArray,
   ∃ b32 : Bool,
   H106 q48 = some (.cells #[.string s30, .bool b32] 86 (0, 0)) ∧
   letH (Heap.del H106 q48) fun H107 =>
   ∀ q49 : Nat,
   H107 q49 = none →
   FnH Tryz.prog 47 #[.pointer (some ⟨q49, 0, none⟩), .int .i64 1, .int .i64 5] (Heap.upd H107 q49 (.cells #[.string s30, .bool b32] 86 (0, 0))) fun r33 H108 =>
   ∃ n49 : Int,
   r33 = .int .i64 n49 ∧
   ∃ s31 : ByteArray,
   ∃ b33 : Bool,
   H108 q49 = some (.cells #[.string s31, .bool b33] 86 (0, 0)) ∧
   letH (Heap.del H108 q49) fun H109 =>
   (∃ u, cellH H109 ⟨q46, 0, none⟩ = some u) ∧
   frozenH H109 ⟨q46, 0, none⟩ = false ∧
   letH (Heap.set H109 ⟨q46, 0, none⟩ (.int .i64 (IntKind.wrap .i64 ((l1.n : Nat) + 1)))) fun H110 =>
   (∃ u, cellH H110 ⟨q46, 1, none⟩ = some u) ∧
   frozenH H110 ⟨q46, 1, none⟩ = false ∧
   letH (Heap.set H110 ⟨q46, 1, none⟩ (.int .i64 n10)) fun H111 =>
   (∃ u, cellH H111 ⟨q46, 2, none⟩ = some u) ∧
   frozenH H111 ⟨q46, 2, none⟩ = false ∧
   letH (Heap.set H111 ⟨q46, 2, none⟩ (.int .i64 n47)) fun H112 =>
   (∃ u, cellH H112 ⟨q46, 3, none⟩ = some u) ∧
   frozenH H112 ⟨q46, 3, none⟩ = false ∧
   letH (Heap.set H112 ⟨q46, 3, none⟩ (.int .i64 n48)) fun H113 =>
   (∃ u, cellH H113 ⟨q46, 4, none⟩ = some u) ∧
   frozenH H113 ⟨q46, 4, none⟩ = false ∧
   letH (Heap.set H113 ⟨q46, 4, none⟩ (.slice none 0 0)) fun H114 =>
   (∃ u, cellH H114 ⟨q46, 5, none⟩ = some u) ∧
   frozenH H114 ⟨q46, 5, none⟩ = false ∧
   letH (Heap.set H114 ⟨q46, 5, none⟩ (.slice none 0 0)) fun H115 =>
   (∃ u, cellH H115 ⟨q46, 6, none⟩ = some u) ∧
   frozenH H115 ⟨q46, 6, none⟩ = false ∧
   letH (Heap.set H115 ⟨q46, 6, none⟩ (.slice none 0 0)) fun H116 =>
   (∃ u, cellH H116 ⟨q46, 7, none⟩ = some u) ∧
   frozenH H116 ⟨q46, 7, none⟩ = false ∧
   letH (Heap.set H116 ⟨q46, 7, none⟩ (.slice none 0 0)) fun H117 =>
   (∃ u, cellH H117 ⟨q46, 8, none⟩ = some u) ∧
   frozenH H117 ⟨q46, 8, none⟩ = false ∧
   letH (Heap.set H117 ⟨q46, 8, none⟩ (.int .i64 n49)) fun H118 =>
   ∀ q50 : Nat,
   H118 q50 = none →
   letH (Heap.upd H118 q50 (.cells #[.pointer (some ⟨q46, 4, none⟩), .pointer (some ⟨q46, 5, none⟩), .pointer (some ⟨q46, 6, none⟩), .pointer (some ⟨q46, 7, none⟩)] 88 (0, 0))) fun H119 =>
   ∃ I6 : Int → ByteArray → Bool → Heap → Prop,
   ∃ M6 : Int → ByteArray → Bool → Heap → Nat,
   I6 0 s31 b33 H119 ∧
   ∀ n_6 : Int,
   ∀ s32 : ByteArray,
   ∀ b34 : Bool,
   ∀ H120 : Heap,
   I6 n_6 s32 b34 H120 →
   br (decide ((n_6 : Int) < (4 : Nat))) (
   ∃ q51 : Nat,
   ∃ o16 : Nat,
   ((some ⟨q50, 0, none⟩) : Option Addr) = some ⟨q51, o16, none⟩ ∧
   0 ≤ (n_6 : Int) ∧
   (n_6 : Int) < (4 : Nat) ∧
   ∃ p5 : Option Addr,
   cellH H120 ⟨q51, o16 + Int.toNat n_6, none⟩ = some (.pointer p5) ∧
   ∀ q52 : Nat,
   H120 q52 = none →
   FnH Tryz.prog 49 #[.pointer (some ⟨q52, 0, none⟩), .int .i64 7, .int .i64 1, .int .i64 7] (Heap.upd H120 q52 (.cells #[.string s32, .bool b34] 86 (0, 0))) fun r34 H121 =>
   ∃ l35 : Sl,
   r34 = .slice l35.p l35.n l35.c ∧
   ∃ s33 : ByteArray,
   ∃ b35 : Bool,
   H121 q52 = some (.cells #[.string s33, .bool b35] 86 (0, 0)) ∧
   letH (Heap.del H121 q52) fun H122 =>
   ptrm p5 fun q53 o17 =>
   (∃ u, cellH H122 ⟨q53, o17, none⟩ = some u) ∧
   frozenH H122 ⟨q53, o17, none⟩ = false ∧
   letH (Heap.set H122 ⟨q53, o17, none⟩ (.slice l35.p l35.n l35.c)) fun H123 =>
   SelfEq ([.loc 0 0, .v (.pointer p1), .v (.int .i64 n8), .v (.int .i64 n_2), .v (.pointer (some ⟨q46, 0, none⟩)), .v (.slice (some ⟨q50, 0, none⟩) 4 4), .v (.int .i64 (4 : Nat))], [], [86]) ∧
   I6 (IntKind.wrap .i64 (n_6 + 1)) s33 b35 H123 ∧
   M6 (IntKind.wrap .i64 (n_6 + 1)) s33 b35 H123 < M6 n_6 s32 b34 H120)
   (
   ∃ n50 : Int,
   cellH H120 ⟨q46, 0, none⟩ = some (.int .i64 n50) ∧
   ∃ n51 : Int,
   cellH H120 ⟨q46, 1, none⟩ = some (.int .i64 n51) ∧
   ∃ n52 : Int,
   cellH H120 ⟨q46, 2, none⟩ = some (.int .i64 n52) ∧
   ∃ n53 : Int,
   cellH H120 ⟨q46, 3, none⟩ = some (.int .i64 n53) ∧
   ∃ l36 : Sl,
   cellH H120 ⟨q46, 4, none⟩ = some (.slice l36.p l36.n l36.c) ∧
   ∃ l37 : Sl,
   cellH H120 ⟨q46, 5, none⟩ = some (.slice l37.p l37.n l37.c) ∧
   ∃ l38 : Sl,
   cellH H120 ⟨q46, 6, none⟩ = some (.slice l38.p l38.n l38.c) ∧
   ∃ l39 : Sl,
   cellH H120 ⟨q46, 7, none⟩ = some (.slice l39.p l39.n l39.c) ∧
   ∃ n54 : Int,
   cellH H120 ⟨q46, 8, none⟩ = some (.int .i64 n54) ∧
   FnH Tryz.prog 51 #[.agg #[.int .i64 n50, .int .i64 n51, .int .i64 n52, .int .i64 n53, .slice l36.p l36.n l36.c, .slice l37.p l37.n l37.c, .slice l38.p l38.n l38.c, .slice l39.p l39.n l39.c, .int .i64 n54]] H120 fun r35 H124 =>
   ∃ b36 : Bool,
   r35 = .bool b36 ∧
   ∀ q54 : Nat,
   H124 q54 = none →
   FnH Tryz.prog 50 #[.pointer (some ⟨q54, 0, none⟩), .bool b36] (Heap.upd H124 q54 (.cells #[.string s32, .bool b34] 86 (0, 0))) fun r36 H125 =>
   r36 = .tuple #[] ∧
   ∃ s34 : ByteArray,
   ∃ b37 : Bool,
   H125 q54 = some (.cells #[.string s34, .bool b37] 86 (0, 0)) ∧
   letH (Heap.del H125 q54) fun H126 =>
   ptrm p1 fun q55 o18 =>
   ∃ l40 : Sl,
   cellH H126 ⟨q55, o18 + 3, none⟩ = some (.slice l40.p l40.n l40.c) ∧
   ∃ n55 : Int,
   cellH H126 ⟨q46, 0, none⟩ = some (.int .i64 n55) ∧
   ∃ n56 : Int,
   cellH H126 ⟨q46, 1, none⟩ = some (.int .i64 n56) ∧
   ∃ n57 : Int,
   cellH H126 ⟨q46, 2, none⟩ = some (.int .i64 n57) ∧
   ∃ n58 : Int,
   cellH H126 ⟨q46, 3, none⟩ = some (.int .i64 n58) ∧
   ∃ l41 : Sl,
   cellH H126 ⟨q46, 4, none⟩ = some (.slice l41.p l41.n l41.c) ∧
   ∃ l42 : Sl,
   cellH H126 ⟨q46, 5, none⟩ = some (.slice l42.p l42.n l42.c) ∧
   ∃ l43 : Sl,
   cellH H126 ⟨q46, 6, none⟩ = some (.slice l43.p l43.n l43.c) ∧
   ∃ l44 : Sl,
   cellH H126 ⟨q46, 7, none⟩ = some (.slice l44.p l44.n l44.c) ∧
   ∃ n59 : Int,
   cellH H126 ⟨q46, 8, none⟩ = some (.int .i64 n59) ∧
   ∀ q56 : Nat,
   H126 q56 = none →
   letH (Heap.upd H126 q56 (.cells #[.int .i64 n55, .int .i64 n56, .int .i64 n57, .int .i64 n58, .slice l41.p l41.n l41.c, .slice l42.p l42.n l42.c, .slice l43.p l43.n l43.c, .slice l44.p l44.n l44.c, .int .i64 n59] 41 (0, 0))) fun H127 =>
   Sub H126 H127 ∧
   runH Tryz.prog (Builtin.append_ #[35, 35] 35 #[.slice l40.p l40.n l40.c, .slice (some ⟨q56, 0, none⟩) 1 1]) H127 fun r37 H128 =>
   ∃ l45 : Sl,
   r37 = .slice l45.p l45.n l45.c ∧
   ptrm p1 fun q57 o19 =>
   (∃ u, cellH H128 ⟨q57, o19 + 3, none⟩ = some u) ∧
   frozenH H128 ⟨q57, o19 + 3, none⟩ = false ∧
   letH (Heap.set H128 ⟨q57, o19 + 3, none⟩ (.slice l45.p l45.n l45.c)) fun H129 =>
   SelfEq ([.loc 0 0, .v (.pointer p1), .v (.int .i64 n8)], [], [86]) ∧
   I2 (IntKind.wrap .i64 (n_2 - 1)) s34 b37 H129 ∧
   M2 (IntKind.wrap .i64 (n_2 - 1)) s34 b37 H129 < M2 n_2 s12 b11 H25)) ∧
   ∀ q58 : Nat,
   H25 q58 = none →
   letH (Heap.upd H25 q58 (.cells #[.int .i64 0, .int .i64 0, .int .i64 0, .int .i64 0, .slice none 0 0, .slice none 0 0, .slice none 0 0, .slice none 0 0, .int .i64 0] 41 (0, 0))) fun H130 =>
   Sub H25 H130 ∧
   ∀ q59 : Nat,
   H130 q59 = none →
   FnH Tryz.prog 47 #[.pointer (some ⟨q59, 0, none⟩), .int .i64 0, .int .i64 7] (Heap.upd H130 q59 (.cells #[.string s12, .bool b11] 86 (0, 0))) fun r38 H131 =>
   ∃ n60 : Int,
   r38 = .int .i64 n60 ∧
   ∃ s35 : ByteArray,
   ∃ b38 : Bool,
   H131 q59 = some (.cells #[.string s35, .bool b38] 86 (0, 0)) ∧
   letH (Heap.del H131 q59) fun H132 =>
   ∀ q60 : Nat,
   H132 q60 = none →
   FnH Tryz.prog 47 #[.pointer (some ⟨q60, 0, none⟩), .int .i64 1, .int .i64 1000000000] (Heap.upd H132 q60 (.cells #[.string s35, .bool b38] 86 (0, 0))) fun r39 H133 =>
   ∃ n61 : Int,
   r39 = .int .i64 n61 ∧
   ∃ s36 : ByteArray,
   ∃ b39 : Bool,
   H133 q60 = some (.cells #[.string s36, .bool b39] 86 (0, 0)) ∧
   letH (Heap.del H133 q60) fun H134 =>
   ∀ q61 : Nat,
   H134 q61 = none →
   FnH Tryz.prog 47 #[.pointer (some ⟨q61, 0, none⟩), .int .i64 1, .int .i64 1000000000] (Heap.upd H134 q61 (.cells #[.string s36, .bool b39] 86 (0, 0))) fun r40 H135 =>
   ∃ n62 : Int,
   r40 = .int .i64 n62 ∧
   ∃ s37 : ByteArray,
   ∃ b40 : Bool,
   H135 q61 = some (.cells #[.string s37, .bool b40] 86 (0, 0)) ∧
   letH (Heap.del H135 q61) fun H136 =>
   ∀ q62 : Nat,
   H136 q62 = none →
   FnH Tryz.prog 47 #[.pointer (some ⟨q62, 0, none⟩), .int .i64 1, .int .i64 5] (Heap.upd H136 q62 (.cells #[.string s37, .bool b40] 86 (0, 0))) fun r41 H137 =>
   ∃ n63 : Int,
   r41 = .int .i64 n63 ∧
   ∃ s38 : ByteArray,
   ∃ b41 : Bool,
   H137 q62 = some (.cells #[.string s38, .bool b41] 86 (0, 0)) ∧
   letH (Heap.del H137 q62) fun H138 =>
   (∃ u, cellH H138 ⟨q58, 0, none⟩ = some u) ∧
   frozenH H138 ⟨q58, 0, none⟩ = false ∧
   letH (Heap.set H138 ⟨q58, 0, none⟩ (.int .i64 (IntKind.wrap .i64 ((l1.n : Nat) + 1)))) fun H139 =>
   (∃ u, cellH H139 ⟨q58, 1, none⟩ = some u) ∧
   frozenH H139 ⟨q58, 1, none⟩ = false ∧
   letH (Heap.set H139 ⟨q58, 1, none⟩ (.int .i64 n60)) fun H140 =>
   (∃ u, cellH H140 ⟨q58, 2, none⟩ = some u) ∧
   frozenH H140 ⟨q58, 2, none⟩ = false ∧
   letH (Heap.set H140 ⟨q58, 2, none⟩ (.int .i64 n61)) fun H141 =>
   (∃ u, cellH H141 ⟨q58, 3, none⟩ = some u) ∧
   frozenH H141 ⟨q58, 3, none⟩ = false ∧
   letH (Heap.set H141 ⟨q58, 3, none⟩ (.int .i64 n62)) fun H142 =>
   (∃ u, cellH H142 ⟨q58, 4, none⟩ = some u) ∧
   frozenH H142 ⟨q58, 4, none⟩ = false ∧
   letH (Heap.set H142 ⟨q58, 4, none⟩ (.slice none 0 0)) fun H143 =>
   (∃ u, cellH H143 ⟨q58, 5, none⟩ = some u) ∧
   frozenH H143 ⟨q58, 5, none⟩ = false ∧
   letH (Heap.set H143 ⟨q58, 5, none⟩ (.slice none 0 0)) fun H144 =>
   (∃ u, cellH H144 ⟨q58, 6, none⟩ = some u) ∧
   frozenH H144 ⟨q58, 6, none⟩ = false ∧
   letH (Heap.set H144 ⟨q58, 6, none⟩ (.slice none 0 0)) fun H145 =>
   (∃ u, cellH H145 ⟨q58, 7, none⟩ = some u) ∧
   frozenH H145 ⟨q58, 7, none⟩ = false ∧
   letH (Heap.set H145 ⟨q58, 7, none⟩ (.slice none 0 0)) fun H146 =>
   (∃ u, cellH H146 ⟨q58, 8, none⟩ = some u) ∧
   frozenH H146 ⟨q58, 8, none⟩ = false ∧
   letH (Heap.set H146 ⟨q58, 8, none⟩ (.int .i64 n63)) fun H147 =>
   ∀ q63 : Nat,
   H147 q63 = none →
   letH (Heap.upd H147 q63 (.cells #[.pointer (some ⟨q58, 4, none⟩), .pointer (some ⟨q58, 5, none⟩), .pointer (some ⟨q58, 6, none⟩), .pointer (some ⟨q58, 7, none⟩)] 88 (0, 0))) fun H148 =>
   ∃ I7 : Int → ByteArray → Bool → Heap → Prop,
   ∃ M7 : Int → ByteArray → Bool → Heap → Nat,
   I7 0 s38 b41 H148 ∧
   ∀ n_7 : Int,
   ∀ s39 : ByteArray,
   ∀ b42 : Bool,
   ∀ H149 : Heap,
   I7 n_7 s39 b42 H149 →
   br (decide ((n_7 : Int) < (4 : Nat))) (
   ∃ q64 : Nat,
   ∃ o20 : Nat,
   ((some ⟨q63, 0, none⟩) : Option Addr) = some ⟨q64, o20, none⟩ ∧
   0 ≤ (n_7 : Int) ∧
   (n_7 : Int) < (4 : Nat) ∧
   ∃ p6 : Option Addr,
   cellH H149 ⟨q64, o20 + Int.toNat n_7, none⟩ = some (.pointer p6) ∧
   ∀ q65 : Nat,
   H149 q65 = none →
   FnH Tryz.prog 49 #[.pointer (some ⟨q65, 0, none⟩), .int .i64 7, .int .i64 1, .int .i64 7] (Heap.upd H149 q65 (.cells #[.string s39, .bool b42] 86 (0, 0))) fun r42 H150 =>
   ∃ l46 : Sl,
   r42 = .slice l46.p l46.n l46.c ∧
   ∃ s40 : ByteArray,
   ∃ b43 : Bool,
   H150 q65 = some (.cells #[.string s40, .bool b43] 86 (0, 0)) ∧
   letH (Heap.del H150 q65) fun H151 =>
   ptrm p6 fun q66 o21 =>
   (∃ u, cellH H151 ⟨q66, o21, none⟩ = some u) ∧
   frozenH H151 ⟨q66, o21, none⟩ = false ∧
   letH (Heap.set H151 ⟨q66, o21, none⟩ (.slice l46.p l46.n l46.c)) fun H152 =>
   SelfEq ([.loc 0 0, .v (.pointer p1), .v (.int .i64 n8), .v (.int .i64 n_2), .v (.pointer (some ⟨q58, 0, none⟩)), .v (.slice (some ⟨q63, 0, none⟩) 4 4), .v (.int .i64 (4 : Nat))], [], [86]) ∧
   I7 (IntKind.wrap .i64 (n_7 + 1)) s40 b43 H152 ∧
   M7 (IntKind.wrap .i64 (n_7 + 1)) s40 b43 H152 < M7 n_7 s39 b42 H149)
   (
   ∃ n64 : Int,
   cellH H149 ⟨q58, 0, none⟩ = some (.int .i64 n64) ∧
   ∃ n65 : Int,
   cellH H149 ⟨q58, 1, none⟩ = some (.int .i64 n65) ∧
   ∃ n66 : Int,
   cellH H149 ⟨q58, 2, none⟩ = some (.int .i64 n66) ∧
   ∃ n67 : Int,
   cellH H149 ⟨q58, 3, none⟩ = some (.int .i64 n67) ∧
   ∃ l47 : Sl,
   cellH H149 ⟨q58, 4, none⟩ = some (.slice l47.p l47.n l47.c) ∧
   ∃ l48 : Sl,
   cellH H149 ⟨q58, 5, none⟩ = some (.slice l48.p l48.n l48.c) ∧
   ∃ l49 : Sl,
   cellH H149 ⟨q58, 6, none⟩ = some (.slice l49.p l49.n l49.c) ∧
   ∃ l50 : Sl,
   cellH H149 ⟨q58, 7, none⟩ = some (.slice l50.p l50.n l50.c) ∧
   ∃ n68 : Int,
   cellH H149 ⟨q58, 8, none⟩ = some (.int .i64 n68) ∧
   FnH Tryz.prog 51 #[.agg #[.int .i64 n64, .int .i64 n65, .int .i64 n66, .int .i64 n67, .slice l47.p l47.n l47.c, .slice l48.p l48.n l48.c, .slice l49.p l49.n l49.c, .slice l50.p l50.n l50.c, .int .i64 n68]] H149 fun r43 H153 =>
   ∃ b44 : Bool,
   r43 = .bool b44 ∧
   ∀ q67 : Nat,
   H153 q67 = none →
   FnH Tryz.prog 50 #[.pointer (some ⟨q67, 0, none⟩), .bool b44] (Heap.upd H153 q67 (.cells #[.string s39, .bool b42] 86 (0, 0))) fun r44 H154 =>
   r44 = .tuple #[] ∧
   ∃ s41 : ByteArray,
   ∃ b45 : Bool,
   H154 q67 = some (.cells #[.string s41, .bool b45] 86 (0, 0)) ∧
   letH (Heap.del H154 q67) fun H155 =>
   ptrm p1 fun q68 o22 =>
   ∃ l51 : Sl,
   cellH H155 ⟨q68, o22 + 3, none⟩ = some (.slice l51.p l51.n l51.c) ∧
   ∃ n69 : Int,
   cellH H155 ⟨q58, 0, none⟩ = some (.int .i64 n69) ∧
   ∃ n70 : Int,
   cellH H155 ⟨q58, 1, none⟩ = some (.int .i64 n70) ∧
   ∃ n71 : Int,
   cellH H155 ⟨q58, 2, none⟩ = some (.int .i64 n71) ∧
   ∃ n72 : Int,
   cellH H155 ⟨q58, 3, none⟩ = some (.int .i64 n72) ∧
   ∃ l52 : Sl,
   cellH H155 ⟨q58, 4, none⟩ = some (.slice l52.p l52.n l52.c) ∧
   ∃ l53 : Sl,
   cellH H155 ⟨q58, 5, none⟩ = some (.slice l53.p l53.n l53.c) ∧
   ∃ l54 : Sl,
   cellH H155 ⟨q58, 6, none⟩ = some (.slice l54.p l54.n l54.c) ∧
   ∃ l55 : Sl,
   cellH H155 ⟨q58, 7, none⟩ = some (.slice l55.p l55.n l55.c) ∧
   ∃ n73 : Int,
   cellH H155 ⟨q58, 8, none⟩ = some (.int .i64 n73) ∧
   ∀ q69 : Nat,
   H155 q69 = none →
   letH (Heap.upd H155 q69 (.cells #[.int .i64 n69, .int .i64 n70, .int .i64 n71, .int .i64 n72, .slice l52.p l52.n l52.c, .slice l53.p l53.n l53.c, .slice l54.p l54.n l54.c, .slice l55.p l55.n l55.c, .int .i64 n73] 41 (0, 0))) fun H156 =>
   Sub H155 H156 ∧
   runH Tryz.prog (Builtin.append_ #[35, 35] 35 #[.slice l51.p l51.n l51.c, .slice (some ⟨q69, 0, none⟩) 1 1]) H156 fun r45 H157 =>
   ∃ l56 : Sl,
   r45 = .slice l56.p l56.n l56.c ∧
   ptrm p1 fun q70 o23 =>
   (∃ u, cellH H157 ⟨q70, o23 + 3, none⟩ = some u) ∧
   frozenH H157 ⟨q70, o23 + 3, none⟩ = false ∧
   letH (Heap.set H157 ⟨q70, o23 + 3, none⟩ (.slice l56.p l56.n l56.c)) fun H158 =>
   SelfEq ([.loc 0 0, .v (.pointer p1), .v (.int .i64 n8)], [], [86]) ∧
   I2 (IntKind.wrap .i64 (n_2 - 1)) s41 b45 H158 ∧
   M2 (IntKind.wrap .i64 (n_2 - 1)) s41 b45 H158 < M2 n_2 s12 b11 H25)) ∧
   (∀ q71 : Nat,
   H25 q71 = none →
   FnH Tryz.prog 47 #[.pointer (some ⟨q71, 0, none⟩), .int .i64 0, .int .i64 7] (Heap.upd H25 q71 (.cells #[.string s12, .bool b11] 86 (0, 0))) fun r46 H159 =>
   ∃ n74 : Int,
   r46 = .int .i64 n74 ∧
   ∃ s42 : ByteArray,
   ∃ b46 : Bool,
   H159 q71 = some (.cells #[.string s42, .bool b46] 86 (0, 0)) ∧
   letH (Heap.del H159 q71) fun H160 =>
   (∃ l57 : Sl,
   cellH H160 ⟨q11, o3 + 3, none⟩ = some (.slice l57.p l57.n l57.c) ∧
   (∀ q72 : Nat,
   H160 q72 = none →
   FnH Tryz.prog 47 #[.pointer (some ⟨q72, 0, none⟩), .int .i64 1, .int .i64 1000000000] (Heap.upd H160 q72 (.cells #[.string s42, .bool b46] 86 (0, 0))) fun r47 H161 =>
   ∃ n75 : Int,
   r47 = .int .i64 n75 ∧
   ∃ s43 : ByteArray,
   ∃ b47 : Bool,
   H161 q72 = some (.cells #[.string s43, .bool b47] 86 (0, 0)) ∧
   letH (Heap.del H161 q72) fun H162 =>
   (∀ q73 : Nat,
   H162 q73 = none →
   FnH Tryz.prog 47 #[.pointer (some ⟨q73, 0, none⟩), .int .i64 1, .int .i64 1000000000] (Heap.upd H162 q73 (.cells #[.string s43, .bool b47] 86 (0, 0))) fun r48 H163 =>
   ∃ n76 : Int,
   r48 = .int .i64 n76 ∧
   ∃ s44 : ByteArray,
   ∃ b48 : Bool,
   H163 q73 = some (.cells #[.string s44, .bool b48] 86 (0, 0)) ∧
   letH (Heap.del H163 q73) fun H164 =>
   (∀ q74 : Nat,
   H164 q74 = none →
   FnH Tryz.prog 47 #[.pointer (some ⟨q74, 0, none⟩), .int .i64 1, .int .i64 5] (Heap.upd H164 q74 (.cells #[.string s44, .bool b48] 86 (0, 0))) fun r49 H165 =>
   ∃ n77 : Int,
   r49 = .int .i64 n77 ∧
   ∃ s45 : ByteArray,
   ∃ b49 : Bool,
   H165 q74 = some (.cells #[.string s45, .bool b49] 86 (0, 0)) ∧
   letH (Heap.del H165 q74) fun H166 =>
   ∀ q75 : Nat,
   H166 q75 = none →
   letH (Heap.upd H166 q75 (.cells #[.int .i64 0, .int .i64 0, .int .i64 0, .int .i64 0, .slice none 0 0, .slice none 0 0, .slice none 0 0, .slice none 0 0, .int .i64 0] 41 (0, 0))) fun H167 =>
   (∃ u, cellH H167 ⟨q75, 0, none⟩ = some u) ∧
   frozenH H167 ⟨q75, 0, none⟩ = false ∧
   letH (Heap.set H167 ⟨q75, 0, none⟩ (.int .i64 (IntKind.wrap .i64 ((l57.n : Nat) + 1)))) fun H168 =>
   (∃ u, cellH H168 ⟨q75, 1, none⟩ = some u) ∧
   frozenH H168 ⟨q75, 1, none⟩ = false ∧
   letH (Heap.set H168 ⟨q75, 1, none⟩ (.int .i64 n74)) fun H169 =>
   (∃ u, cellH H169 ⟨q75, 2, none⟩ = some u) ∧
   frozenH H169 ⟨q75, 2, none⟩ = false ∧
   letH (Heap.set H169 ⟨q75, 2, none⟩ (.int .i64 n75)) fun H170 =>
   (∃ u, cellH H170 ⟨q75, 3, none⟩ = some u) ∧
   frozenH H170 ⟨q75, 3, none⟩ = false ∧
   letH (Heap.set H170 ⟨q75, 3, none⟩ (.int .i64 n76)) fun H171 =>
   (∃ u, cellH H171 ⟨q75, 4, none⟩ = some u) ∧
   frozenH H171 ⟨q75, 4, none⟩ = false ∧
   letH (Heap.set H171 ⟨q75, 4, none⟩ (.slice none 0 0)) fun H172 =>
   (∃ u, cellH H172 ⟨q75, 5, none⟩ = some u) ∧
   frozenH H172 ⟨q75, 5, none⟩ = false ∧
   letH (Heap.set H172 ⟨q75, 5, none⟩ (.slice none 0 0)) fun H173 =>
   (∃ u, cellH H173 ⟨q75, 6, none⟩ = some u) ∧
   frozenH H173 ⟨q75, 6, none⟩ = false ∧
   letH (Heap.set H173 ⟨q75, 6, none⟩ (.slice none 0 0)) fun H174 =>
   (∃ u, cellH H174 ⟨q75, 7, none⟩ = some u) ∧
   frozenH H174 ⟨q75, 7, none⟩ = false ∧
   letH (Heap.set H174 ⟨q75, 7, none⟩ (.slice none 0 0)) fun H175 =>
   (∃ u, cellH H175 ⟨q75, 8, none⟩ = some u) ∧
   frozenH H175 ⟨q75, 8, none⟩ = false ∧
   letH (Heap.set H175 ⟨q75, 8, none⟩ (.int .i64 n77)) fun H176 =>
   ∀ q76 : Nat,
   H176 q76 = none →
   letH (Heap.upd H176 q76 (.cells #[.pointer (some ⟨q75, 4, none⟩), .pointer (some ⟨q75, 5, none⟩), .pointer (some ⟨q75, 6, none⟩), .pointer (some ⟨q75, 7, none⟩)] 88 (0, 0))) fun H177 =>
   ∃ I8 : Int → ByteArray → Bool → Heap → Prop,
   ∃ M8 : Int → ByteArray → Bool → Heap → Nat,
   I8 0 s45 b49 H177 ∧
   ∀ n_8 : Int,
   ∀ s46 : ByteArray,
   ∀ b50 : Bool,
   ∀ H178 : Heap,
   I8 n_8 s46 b50 H178 →
   br (decide ((n_8 : Int) < (4 : Nat))) (
   ∃ q77 : Nat,
   ∃ o24 : Nat,
   ((some ⟨q76, 0, none⟩) : Option Addr) = some ⟨q77, o24, none⟩ ∧
   0 ≤ (n_8 : Int) ∧
   (n_8 : Int) < (4 : Nat) ∧
   ∃ p7 : Option Addr,
   cellH H178 ⟨q77, o24 + Int.toNat n_8, none⟩ = some (.pointer p7) ∧
   ∀ q78 : Nat,
   H178 q78 = none →
   FnH Tryz.prog 49 #[.pointer (some ⟨q78, 0, none⟩), .int .i64 7, .int .i64 1, .int .i64 7] (Heap.upd H178 q78 (.cells #[.string s46, .bool b50] 86 (0, 0))) fun r50 H179 =>
   ∃ l58 : Sl,
   r50 = .slice l58.p l58.n l58.c ∧
   ∃ s47 : ByteArray,
   ∃ b51 : Bool,
   H179 q78 = some (.cells #[.string s47, .bool b51] 86 (0, 0)) ∧
   letH (Heap.del H179 q78) fun H180 =>
   ptrm p7 fun q79 o25 =>
   (∃ u, cellH H180 ⟨q79, o25, none⟩ = some u) ∧
   frozenH H180 ⟨q79, o25, none⟩ = false ∧
   letH (Heap.set H180 ⟨q79, o25, none⟩ (.slice l58.p l58.n l58.c)) fun H181 =>
   SelfEq ([.loc 0 0, .v (.pointer p1), .v (.int .i64 n8), .v (.int .i64 n_2), .v (.pointer (some ⟨q75, 0, none⟩)), .v (.slice (some ⟨q76, 0, none⟩) 4 4), .v (.int .i64 (4 : Nat))], [], [86]) ∧
   I8 (IntKind.wrap .i64 (n_8 + 1)) s47 b51 H181 ∧
   M8 (IntKind.wrap .i64 (n_8 + 1)) s47 b51 H181 < M8 n_8 s46 b50 H178)
   (
   ∃ n78 : Int,
   cellH H178 ⟨q75, 0, none⟩ = some (.int .i64 n78) ∧
   ∃ n79 : Int,
   cellH H178 ⟨q75, 1, none⟩ = some (.int .i64 n79) ∧
   ∃ n80 : Int,
   cellH H178 ⟨q75, 2, none⟩ = some (.int .i64 n80) ∧
   ∃ n81 : Int,
   cellH H178 ⟨q75, 3, none⟩ = some (.int .i64 n81) ∧
   ∃ l59 : Sl,
   cellH H178 ⟨q75, 4, none⟩ = some (.slice l59.p l59.n l59.c) ∧
   ∃ l60 : Sl,
   cellH H178 ⟨q75, 5, none⟩ = some (.slice l60.p l60.n l60.c) ∧
   ∃ l61 : Sl,
   cellH H178 ⟨q75, 6, none⟩ = some (.slice l61.p l61.n l61.c) ∧
   ∃ l62 : Sl,
   cellH H178 ⟨q75, 7, none⟩ = some (.slice l62.p l62.n l62.c) ∧
   ∃ n82 : Int,
   cellH H178 ⟨q75, 8, none⟩ = some (.int .i64 n82) ∧
   FnH Tryz.prog 51 #[.agg #[.int .i64 n78, .int .i64 n79, .int .i64 n80, .int .i64 n81, .slice l59.p l59.n l59.c, .slice l60.p l60.n l60.c, .slice l61.p l61.n l61.c, .slice l62.p l62.n l62.c, .int .i64 n82]] H178 fun r51 H182 =>
   ∃ b52 : Bool,
   r51 = .bool b52 ∧
   ∀ q80 : Nat,
   H182 q80 = none →
   FnH Tryz.prog 50 #[.pointer (some ⟨q80, 0, none⟩), .bool b52] (Heap.upd H182 q80 (.cells #[.string s46, .bool b50] 86 (0, 0))) fun r52 H183 =>
   r52 = .tuple #[] ∧
   ∃ s48 : ByteArray,
   ∃ b53 : Bool,
   H183 q80 = some (.cells #[.string s48, .bool b53] 86 (0, 0)) ∧
   letH (Heap.del H183 q80) fun H184 =>
   ptrm p1 fun q81 o26 =>
   ∃ l63 : Sl,
   cellH H184 ⟨q81, o26 + 3, none⟩ = some (.slice l63.p l63.n l63.c) ∧
   ∃ n83 : Int,
   cellH H184 ⟨q75, 0, none⟩ = some (.int .i64 n83) ∧
   ∃ n84 : Int,
   cellH H184 ⟨q75, 1, none⟩ = some (.int .i64 n84) ∧
   ∃ n85 : Int,
   cellH H184 ⟨q75, 2, none⟩ = some (.int .i64 n85) ∧
   ∃ n86 : Int,
   cellH H184 ⟨q75, 3, none⟩ = some (.int .i64 n86) ∧
   ∃ l64 : Sl,
   cellH H184 ⟨q75, 4, none⟩ = some (.slice l64.p l64.n l64.c) ∧
   ∃ l65 : Sl,
   cellH H184 ⟨q75, 5, none⟩ = some (.slice l65.p l65.n l65.c) ∧
   ∃ l66 : Sl,
   cellH H184 ⟨q75, 6, none⟩ = some (.slice l66.p l66.n l66.c) ∧
   ∃ l67 : Sl,
   cellH H184 ⟨q75, 7, none⟩ = some (.slice l67.p l67.n l67.c) ∧
   ∃ n87 : Int,
   cellH H184 ⟨q75, 8, none⟩ = some (.int .i64 n87) ∧
   ∀ q82 : Nat,
   H184 q82 = none →
   letH (Heap.upd H184 q82 (.cells #[.int .i64 n83, .int .i64 n84, .int .i64 n85, .int .i64 n86, .slice l64.p l64.n l64.c, .slice l65.p l65.n l65.c, .slice l66.p l66.n l66.c, .slice l67.p l67.n l67.c, .int .i64 n87] 41 (0, 0))) fun H185 =>
   Sub H184 H185 ∧
   runH Tryz.prog (Builtin.append_ #[35, 35] 35 #[.slice l63.p l63.n l63.c, .slice (some ⟨q82, 0, none⟩) 1 1]) H185 fun r53 H186 =>
   ∃ l68 : Sl,
   r53 = .slice l68.p l68.n l68.c ∧
   ptrm p1 fun q83 o27 =>
   (∃ u, cellH H186 ⟨q83, o27 + 3, none⟩ = some u) ∧
   frozenH H186 ⟨q83, o27 + 3, none⟩ = false ∧
   letH (Heap.set H186 ⟨q83, o27 + 3, none⟩ (.slice l68.p l68.n l68.c)) fun H187 =>
   SelfEq ([.loc 0 0, .v (.pointer p1), .v (.int .i64 n8)], [], [86]) ∧
   I2 (IntKind.wrap .i64 (n_2 - 1)) s48 b53 H187 ∧
   M2 (IntKind.wrap .i64 (n_2 - 1)) s48 b53 H187 < M2 n_2 s12 b11 H25)) ∧
   ∀ q84 : Nat,
   H164 q84 = none →
   letH (Heap.upd H164 q84 (.cells #[.int .i64 0, .int .i64 0, .int .i64 0, .int .i64 0, .slice none 0 0, .slice none 0 0, .slice none 0 0, .slice none 0 0, .int .i64 0] 41 (0, 0))) fun H188 =>
   ∀ q85 : Nat,
   H188 q85 = none →
   FnH Tryz.prog 47 #[.pointer (some ⟨q85, 0, none⟩), .int .i64 1, .int .i64 5] (Heap.upd H188 q85 (.cells #[.string s44, .bool b48] 86 (0, 0))) fun r54 H189 =>
   ∃ n88 : Int,
   r54 = .int .i64 n88 ∧
   ∃ s49 : ByteArray,
   ∃ b54 : Bool,
   H189 q85 = some (.cells #[.string s49, .bool b54] 86 (0, 0)) ∧
   letH (Heap.del H189 q85) fun H190 =>
   (∃ u, cellH H190 ⟨q84, 0, none⟩ = some u) ∧
   frozenH H190 ⟨q84, 0, none⟩ = false ∧
   letH (Heap.set H190 ⟨q84, 0, none⟩ (.int .i64 (IntKind.wrap .i64 ((l57.n : Nat) + 1)))) fun H191 =>
   (∃ u, cellH H191 ⟨q84, 1, none⟩ = some u) ∧
   frozenH H191 ⟨q84, 1, none⟩ = false ∧
   letH (Heap.set H191 ⟨q84, 1, none⟩ (.int .i64 n74)) fun H192 =>
   (∃ u, cellH H192 ⟨q84, 2, none⟩ = some u) ∧
   frozenH H192 ⟨q84, 2, none⟩ = false ∧
   letH (Heap.set H192 ⟨q84, 2, none⟩ (.int .i64 n75)) fun H193 =>
   (∃ u, cellH H193 ⟨q84, 3, none⟩ = some u) ∧
   frozenH H193 ⟨q84, 3, none⟩ = false ∧
   letH (Heap.set H193 ⟨q84, 3, none⟩ (.int .i64 n76)) fun H194 =>
   (∃ u, cellH H194 ⟨q84, 4, none⟩ = some u) ∧
   frozenH H194 ⟨q84, 4, none⟩ = false ∧
   letH (Heap.set H194 ⟨q84, 4, none⟩ (.slice none 0 0)) fun H195 =>
   (∃ u, cellH H195 ⟨q84, 5, none⟩ = some u) ∧
   frozenH H195 ⟨q84, 5, none⟩ = false ∧
   letH (Heap.set H195 ⟨q84, 5, none⟩ (.slice none 0 0)) fun H196 =>
   (∃ u, cellH H196 ⟨q84, 6, none⟩ = some u) ∧
   frozenH H196 ⟨q84, 6, none⟩ = false ∧
   letH (Heap.set H196 ⟨q84, 6, none⟩ (.slice none 0 0)) fun H197 =>
   (∃ u, cellH H197 ⟨q84, 7, none⟩ = some u) ∧
   frozenH H197 ⟨q84, 7, none⟩ = false ∧
   letH (Heap.set H197 ⟨q84, 7, none⟩ (.slice none 0 0)) fun H198 =>
   (∃ u, cellH H198 ⟨q84, 8, none⟩ = some u) ∧
   frozenH H198 ⟨q84, 8, none⟩ = false ∧
   letH (Heap.set H198 ⟨q84, 8, none⟩ (.int .i64 n88)) fun H199 =>
   ∀ q86 : Nat,
   H199 q86 = none →
   letH (Heap.upd H199 q86 (.cells #[.pointer (some ⟨q84, 4, none⟩), .pointer (some ⟨q84, 5, none⟩), .pointer (some ⟨q84, 6, none⟩), .pointer (some ⟨q84, 7, none⟩)] 88 (0, 0))) fun H200 =>
   ∃ I9 : Int → ByteArray → Bool → Heap → Prop,
   ∃ M9 : Int → ByteArray → Bool → Heap → Nat,
   I9 0 s49 b54 H200 ∧
   ∀ n_9 : Int,
   ∀ s50 : ByteArray,
   ∀ b55 : Bool,
   ∀ H201 : Heap,
   I9 n_9 s50 b55 H201 →
   br (decide ((n_9 : Int) < (4 : Nat))) (
   ∃ q87 : Nat,
   ∃ o28 : Nat,
   ((some ⟨q86, 0, none⟩) : Option Addr) = some ⟨q87, o28, none⟩ ∧
   0 ≤ (n_9 : Int) ∧
   (n_9 : Int) < (4 : Nat) ∧
   ∃ p8 : Option Addr,
   cellH H201 ⟨q87, o28 + Int.toNat n_9, none⟩ = some (.pointer p8) ∧
   ∀ q88 : Nat,
   H201 q88 = none →
   FnH Tryz.prog 49 #[.pointer (some ⟨q88, 0, none⟩), .int .i64 7, .int .i64 1, .int .i64 7] (Heap.upd H201 q88 (.cells #[.string s50, .bool b55] 86 (0, 0))) fun r55 H202 =>
   ∃ l69 : Sl,
   r55 = .slice l69.p l69.n l69.c ∧
   ∃ s51 : ByteArray,
   ∃ b56 : Bool,
   H202 q88 = some (.cells #[.string s51, .bool b56] 86 (0, 0)) ∧
   letH (Heap.del H202 q88) fun H203 =>
   ptrm p8 fun q89 o29 =>
   (∃ u, cellH H203 ⟨q89, o29, none⟩ = some u) ∧
   frozenH H203 ⟨q89, o29, none⟩ = false ∧
   letH (Heap.set H203 ⟨q89, o29, none⟩ (.slice l69.p l69.n l69.c)) fun H204 =>
   SelfEq ([.loc 0 0, .v (.pointer p1), .v (.int .i64 n8), .v (.int .i64 n_2), .v (.pointer (some ⟨q84, 0, none⟩)), .v (.slice (some ⟨q86, 0, none⟩) 4 4), .v (.int .i64 (4 : Nat))], [], [86]) ∧
   I9 (IntKind.wrap .i64 (n_9 + 1)) s51 b56 H204 ∧
   M9 (IntKind.wrap .i64 (n_9 + 1)) s51 b56 H204 < M9 n_9 s50 b55 H201)
   (
   ∃ n89 : Int,
   cellH H201 ⟨q84, 0, none⟩ = some (.int .i64 n89) ∧
   ∃ n90 : Int,
   cellH H201 ⟨q84, 1, none⟩ = some (.int .i64 n90) ∧
   ∃ n91 : Int,
   cellH H201 ⟨q84, 2, none⟩ = some (.int .i64 n91) ∧
   ∃ n92 : Int,
   cellH H201 ⟨q84, 3, none⟩ = some (.int .i64 n92) ∧
   ∃ l70 : Sl,
   cellH H201 ⟨q84, 4, none⟩ = some (.slice l70.p l70.n l70.c) ∧
   ∃ l71 : Sl,
   cellH H201 ⟨q84, 5, none⟩ = some (.slice l71.p l71.n l71.c) ∧
   ∃ l72 : Sl,
   cellH H201 ⟨q84, 6, none⟩ = some (.slice l72.p l72.n l72.c) ∧
   ∃ l73 : Sl,
   cellH H201 ⟨q84, 7, none⟩ = some (.slice l73.p l73.n l73.c) ∧
   ∃ n93 : Int,
   cellH H201 ⟨q84, 8, none⟩ = some (.int .i64 n93) ∧
   FnH Tryz.prog 51 #[.agg #[.int .i64 n89, .int .i64 n90, .int .i64 n91, .int .i64 n92, .slice l70.p l70.n l70.c, .slice l71.p l71.n l71.c, .slice l72.p l72.n l72.c, .slice l73.p l73.n l73.c, .int .i64 n93]] H201 fun r56 H205 =>
   ∃ b57 : Bool,
   r56 = .bool b57 ∧
   ∀ q90 : Nat,
   H205 q90 = none →
   FnH Tryz.prog 50 #[.pointer (some ⟨q90, 0, none⟩), .bool b57] (Heap.upd H205 q90 (.cells #[.string s50, .bool b55] 86 (0, 0))) fun r57 H206 =>
   r57 = .tuple #[] ∧
   ∃ s52 : ByteArray,
   ∃ b58 : Bool,
   H206 q90 = some (.cells #[.string s52, .bool b58] 86 (0, 0)) ∧
   letH (Heap.del H206 q90) fun H207 =>
   ptrm p1 fun q91 o30 =>
   ∃ l74 : Sl,
   cellH H207 ⟨q91, o30 + 3, none⟩ = some (.slice l74.p l74.n l74.c) ∧
   ∃ n94 : Int,
   cellH H207 ⟨q84, 0, none⟩ = some (.int .i64 n94) ∧
   ∃ n95 : Int,
   cellH H207 ⟨q84, 1, none⟩ = some (.int .i64 n95) ∧
   ∃ n96 : Int,
   cellH H207 ⟨q84, 2, none⟩ = some (.int .i64 n96) ∧
   ∃ n97 : Int,
   cellH H207 ⟨q84, 3, none⟩ = some (.int .i64 n97) ∧
   ∃ l75 : Sl,
   cellH H207 ⟨q84, 4, none⟩ = some (.slice l75.p l75.n l75.c) ∧
   ∃ l76 : Sl,
   cellH H207 ⟨q84, 5, none⟩ = some (.slice l76.p l76.n l76.c) ∧
   ∃ l77 : Sl,
   cellH H207 ⟨q84, 6, none⟩ = some (.slice l77.p l77.n l77.c) ∧
   ∃ l78 : Sl,
   cellH H207 ⟨q84, 7, none⟩ = some (.slice l78.p l78.n l78.c) ∧
   ∃ n98 : Int,
   cellH H207 ⟨q84, 8, none⟩ = some (.int .i64 n98) ∧
   ∀ q92 : Nat,
   H207 q92 = none →
   letH (Heap.upd H207 q92 (.cells #[.int .i64 n94, .int .i64 n95, .int .i64 n96, .int .i64 n97, .slice l75.p l75.n l75.c, .slice l76.p l76.n l76.c, .slice l77.p l77.n l77.c, .slice l78.p l78.n l78.c, .int .i64 n98] 41 (0, 0))) fun H208 =>
   Sub H207 H208 ∧
   runH Tryz.prog (Builtin.append_ #[35, 35] 35 #[.slice l74.p l74.n l74.c, .slice (some ⟨q92, 0, none⟩) 1 1]) H208 fun r58 H209 =>
   ∃ l79 : Sl,
   r58 = .slice l79.p l79.n l79.c ∧
   ptrm p1 fun q93 o31 =>
   (∃ u, cellH H209 ⟨q93, o31 + 3, none⟩ = some u) ∧
   frozenH H209 ⟨q93, o31 + 3, none⟩ = false ∧
   letH (Heap.set H209 ⟨q93, o31 + 3, none⟩ (.slice l79.p l79.n l79.c)) fun H210 =>
   SelfEq ([.loc 0 0, .v (.pointer p1), .v (.int .i64 n8)], [], [86]) ∧
   I2 (IntKind.wrap .i64 (n_2 - 1)) s52 b58 H210 ∧
   M2 (IntKind.wrap .i64 (n_2 - 1)) s52 b58 H210 < M2 n_2 s12 b11 H25)) ∧
   ∀ q94 : Nat,
   H162 q94 = none →
   letH (Heap.upd H162 q94 (.cells #[.int .i64 0, .int .i64 0, .int .i64 0, .int .i64 0, .slice none 0 0, .slice none 0 0, .slice none 0 0, .slice none 0 0, .int .i64 0] 41 (0, 0))) fun H211 =>
   ∀ q95 : Nat,
   H211 q95 = none →
   FnH Tryz.prog 47 #[.pointer (some ⟨q95, 0, none⟩), .int .i64 1, .int .i64 1000000000] (Heap.upd H211 q95 (.cells #[.string s43, .bool b47] 86 (0, 0))) fun r59 H212 =>
   ∃ n99 : Int,
   r59 = .int .i64 n99 ∧
   ∃ s53 : ByteArray,
   ∃ b59 : Bool,
   H212 q95 = some (.cells #[.string s53, .bool b59] 86 (0, 0)) ∧
   letH (Heap.del H212 q95) fun H213 =>
   ∀ q96 : Nat,
   H213 q96 = none →
   FnH Tryz.prog 47 #[.pointer (some ⟨q96, 0, none⟩), .int .i64 1, .int .i64 5] (Heap.upd H213 q96 (.cells #[.string s53, .bool b59] 86 (0, 0))) fun r60 H214 =>
   ∃ n100 : Int,
   r60 = .int .i64 n100 ∧
   ∃ s54 : ByteArray,
   ∃ b60 : Bool,
   H214 q96 = some (.cells #[.string s54, .bool b60] 86 (0, 0)) ∧
   letH (Heap.del H214 q96) fun H215 =>
   (∃ u, cellH H215 ⟨q94, 0, none⟩ = some u) ∧
   frozenH H215 ⟨q94, 0, none⟩ = false ∧
   letH (Heap.set H215 ⟨q94, 0, none⟩ (.int .i64 (IntKind.wrap .i64 ((l57.n : Nat) + 1)))) fun H216 =>
   (∃ u, cellH H216 ⟨q94, 1, none⟩ = some u) ∧
   frozenH H216 ⟨q94, 1, none⟩ = false ∧
   letH (Heap.set H216 ⟨q94, 1, none⟩ (.int .i64 n74)) fun H217 =>
   (∃ u, cellH H217 ⟨q94, 2, none⟩ = some u) ∧
   frozenH H217 ⟨q94, 2, none⟩ = false ∧
   letH (Heap.set H217 ⟨q94, 2, none⟩ (.int .i64 n75)) fun H218 =>
   (∃ u, cellH H218 ⟨q94, 3, none⟩ = some u) ∧
   frozenH H218 ⟨q94, 3, none⟩ = false ∧
   letH (Heap.set H218 ⟨q94, 3, none⟩ (.int .i64 n99)) fun H219 =>
   (∃ u, cellH H219 ⟨q94, 4, none⟩ = some u) ∧
   frozenH H219 ⟨q94, 4, none⟩ = false ∧
   letH (Heap.set H219 ⟨q94, 4, none⟩ (.slice none 0 0)) fun H220 =>
   (∃ u, cellH H220 ⟨q94, 5, none⟩ = some u) ∧
   frozenH H220 ⟨q94, 5, none⟩ = false ∧
   letH (Heap.set H220 ⟨q94, 5, none⟩ (.slice none 0 0)) fun H221 =>
   (∃ u, cellH H221 ⟨q94, 6, none⟩ = some u) ∧
   frozenH H221 ⟨q94, 6, none⟩ = false ∧
   letH (Heap.set H221 ⟨q94, 6, none⟩ (.slice none 0 0)) fun H222 =>
   (∃ u, cellH H222 ⟨q94, 7, none⟩ = some u) ∧
   frozenH H222 ⟨q94, 7, none⟩ = false ∧
   letH (Heap.set H222 ⟨q94, 7, none⟩ (.slice none 0 0)) fun H223 =>
   (∃ u, cellH H223 ⟨q94, 8, none⟩ = some u) ∧
   frozenH H223 ⟨q94, 8, none⟩ = false ∧
   letH (Heap.set H223 ⟨q94, 8, none⟩ (.int .i64 n100)) fun H224 =>
   ∀ q97 : Nat,
   H224 q97 = none →
   letH (Heap.upd H224 q97 (.cells #[.pointer (some ⟨q94, 4, none⟩), .pointer (some ⟨q94, 5, none⟩), .pointer (some ⟨q94, 6, none⟩), .pointer (some ⟨q94, 7, none⟩)] 88 (0, 0))) fun H225 =>
   ∃ I10 : Int → ByteArray → Bool → Heap → Prop,
   ∃ M10 : Int → ByteArray → Bool → Heap → Nat,
   I10 0 s54 b60 H225 ∧
   ∀ n_10 : Int,
   ∀ s55 : ByteArray,
   ∀ b61 : Bool,
   ∀ H226 : Heap,
   I10 n_10 s55 b61 H226 →
   br (decide ((n_10 : Int) < (4 : Nat))) (
   ∃ q98 : Nat,
   ∃ o32 : Nat,
   ((some ⟨q97, 0, none⟩) : Option Addr) = some ⟨q98, o32, none⟩ ∧
   0 ≤ (n_10 : Int) ∧
   (n_10 : Int) < (4 : Nat) ∧
   ∃ p9 : Option Addr,
   cellH H226 ⟨q98, o32 + Int.toNat n_10, none⟩ = some (.pointer p9) ∧
   ∀ q99 : Nat,
   H226 q99 = none →
   FnH Tryz.prog 49 #[.pointer (some ⟨q99, 0, none⟩), .int .i64 7, .int .i64 1, .int .i64 7] (Heap.upd H226 q99 (.cells #[.string s55, .bool b61] 86 (0, 0))) fun r61 H227 =>
   ∃ l80 : Sl,
   r61 = .slice l80.p l80.n l80.c ∧
   ∃ s56 : ByteArray,
   ∃ b62 : Bool,
   H227 q99 = some (.cells #[.string s56, .bool b62] 86 (0, 0)) ∧
   letH (Heap.del H227 q99) fun H228 =>
   ptrm p9 fun q100 o33 =>
   (∃ u, cellH H228 ⟨q100, o33, none⟩ = some u) ∧
   frozenH H228 ⟨q100, o33, none⟩ = false ∧
   letH (Heap.set H228 ⟨q100, o33, none⟩ (.slice l80.p l80.n l80.c)) fun H229 =>
   SelfEq ([.loc 0 0, .v (.pointer p1), .v (.int .i64 n8), .v (.int .i64 n_2), .v (.pointer (some ⟨q94, 0, none⟩)), .v (.slice (some ⟨q97, 0, none⟩) 4 4), .v (.int .i64 (4 : Nat))], [], [86]) ∧
   I10 (IntKind.wrap .i64 (n_10 + 1)) s56 b62 H229 ∧
   M10 (IntKind.wrap .i64 (n_10 + 1)) s56 b62 H229 < M10 n_10 s55 b61 H226)
   (
   ∃ n101 : Int,
   cellH H226 ⟨q94, 0, none⟩ = some (.int .i64 n101) ∧
   ∃ n102 : Int,
   cellH H226 ⟨q94, 1, none⟩ = some (.int .i64 n102) ∧
   ∃ n103 : Int,
   cellH H226 ⟨q94, 2, none⟩ = some (.int .i64 n103) ∧
   ∃ n104 : Int,
   cellH H226 ⟨q94, 3, none⟩ = some (.int .i64 n104) ∧
   ∃ l81 : Sl,
   cellH H226 ⟨q94, 4, none⟩ = some (.slice l81.p l81.n l81.c) ∧
   ∃ l82 : Sl,
   cellH H226 ⟨q94, 5, none⟩ = some (.slice l82.p l82.n l82.c) ∧
   ∃ l83 : Sl,
   cellH H226 ⟨q94, 6, none⟩ = some (.slice l83.p l83.n l83.c) ∧
   ∃ l84 : Sl,
   cellH H226 ⟨q94, 7, none⟩ = some (.slice l84.p l84.n l84.c) ∧
   ∃ n105 : Int,
   cellH H226 ⟨q94, 8, none⟩ = some (.int .i64 n105) ∧
   FnH Tryz.prog 51 #[.agg #[.int .i64 n101, .int .i64 n102, .int .i64 n103, .int .i64 n104, .slice l81.p l81.n l81.c, .slice l82.p l82.n l82.c, .slice l83.p l83.n l83.c, .slice l84.p l84.n l84.c, .int .i64 n105]] H226 fun r62 H230 =>
   ∃ b63 : Bool,
   r62 = .bool b63 ∧
   ∀ q101 : Nat,
   H230 q101 = none →
   FnH Tryz.prog 50 #[.pointer (some ⟨q101, 0, none⟩), .bool b63] (Heap.upd H230 q101 (.cells #[.string s55, .bool b61] 86 (0, 0))) fun r63 H231 =>
   r63 = .tuple #[] ∧
   ∃ s57 : ByteArray,
   ∃ b64 : Bool,
   H231 q101 = some (.cells #[.string s57, .bool b64] 86 (0, 0)) ∧
   letH (Heap.del H231 q101) fun H232 =>
   ptrm p1 fun q102 o34 =>
   ∃ l85 : Sl,
   cellH H232 ⟨q102, o34 + 3, none⟩ = some (.slice l85.p l85.n l85.c) ∧
   ∃ n106 : Int,
   cellH H232 ⟨q94, 0, none⟩ = some (.int .i64 n106) ∧
   ∃ n107 : Int,
   cellH H232 ⟨q94, 1, none⟩ = some (.int .i64 n107) ∧
   ∃ n108 : Int,
   cellH H232 ⟨q94, 2, none⟩ = some (.int .i64 n108) ∧
   ∃ n109 : Int,
   cellH H232 ⟨q94, 3, none⟩ = some (.int .i64 n109) ∧
   ∃ l86 : Sl,
   cellH H232 ⟨q94, 4, none⟩ = some (.slice l86.p l86.n l86.c) ∧
   ∃ l87 : Sl,
   cellH H232 ⟨q94, 5, none⟩ = some (.slice l87.p l87.n l87.c) ∧
   ∃ l88 : Sl,
   cellH H232 ⟨q94, 6, none⟩ = some (.slice l88.p l88.n l88.c) ∧
   ∃ l89 : Sl,
   cellH H232 ⟨q94, 7, none⟩ = some (.slice l89.p l89.n l89.c) ∧
   ∃ n110 : Int,
   cellH H232 ⟨q94, 8, none⟩ = some (.int .i64 n110) ∧
   ∀ q103 : Nat,
   H232 q103 = none →
   letH (Heap.upd H232 q103 (.cells #[.int .i64 n106, .int .i64 n107, .int .i64 n108, .int .i64 n109, .slice l86.p l86.n l86.c, .slice l87.p l87.n l87.c, .slice l88.p l88.n l88.c, .slice l89.p l89.n l89.c, .int .i64 n110] 41 (0, 0))) fun H233 =>
   Sub H232 H233 ∧
   runH Tryz.prog (Builtin.append_ #[35, 35] 35 #[.slice l85.p l85.n l85.c, .slice (some ⟨q103, 0, none⟩) 1 1]) H233 fun r64 H234 =>
   ∃ l90 : Sl,
   r64 = .slice l90.p l90.n l90.c ∧
   ptrm p1 fun q104 o35 =>
   (∃ u, cellH H234 ⟨q104, o35 + 3, none⟩ = some u) ∧
   frozenH H234 ⟨q104, o35 + 3, none⟩ = false ∧
   letH (Heap.set H234 ⟨q104, o35 + 3, none⟩ (.slice l90.p l90.n l90.c)) fun H235 =>
   SelfEq ([.loc 0 0, .v (.pointer p1), .v (.int .i64 n8)], [], [86]) ∧
   I2 (IntKind.wrap .i64 (n_2 - 1)) s57 b64 H235 ∧
   M2 (IntKind.wrap .i64 (n_2 - 1)) s57 b64 H235 < M2 n_2 s12 b11 H25)) ∧
   ∀ q105 : Nat,
   H160 q105 = none →
   letH (Heap.upd H160 q105 (.cells #[.int .i64 0, .int .i64 0, .int .i64 0, .int .i64 0, .slice none 0 0, .slice none 0 0, .slice none 0 0, .slice none 0 0, .int .i64 0] 41 (0, 0))) fun H236 =>
   ∀ q106 : Nat,
   H236 q106 = none →
   FnH Tryz.prog 47 #[.pointer (some ⟨q106, 0, none⟩), .int .i64 1, .int .i64 1000000000] (Heap.upd H236 q106 (.cells #[.string s42, .bool b46] 86 (0, 0))) fun r65 H237 =>
   ∃ n111 : Int,
   r65 = .int .i64 n111 ∧
   ∃ s58 : ByteArray,
   ∃ b65 : Bool,
   H237 q106 = some (.cells #[.string s58, .bool b65] 86 (0, 0)) ∧
   letH (Heap.del H237 q106) fun H238 =>
   ∀ q107 : Nat,
   H238 q107 = none →
   FnH Tryz.prog 47 #[.pointer (some ⟨q107, 0, none⟩), .int .i64 1, .int .i64 1000000000] (Heap.upd H238 q107 (.cells #[.string s58, .bool b65] 86 (0, 0))) fun r66 H239 =>
   ∃ n112 : Int,
   r66 = .int .i64 n112 ∧
   ∃ s59 : ByteArray,
   ∃ b66 : Bool,
   H239 q107 = some (.cells #[.string s59, .bool b66] 86 (0, 0)) ∧
   letH (Heap.del H239 q107) fun H240 =>
   ∀ q108 : Nat,
   H240 q108 = none →
   FnH Tryz.prog 47 #[.pointer (some ⟨q108, 0, none⟩), .int .i64 1, .int .i64 5] (Heap.upd H240 q108 (.cells #[.string s59, .bool b66] 86 (0, 0))) fun r67 H241 =>
   ∃ n113 : Int,
   r67 = .int .i64 n113 ∧
   ∃ s60 : ByteArray,
   ∃ b67 : Bool,
   H241 q108 = some (.cells #[.string s60, .bool b67] 86 (0, 0)) ∧
   letH (Heap.del H241 q108) fun H242 =>
   (∃ u, cellH H242 ⟨q105, 0, none⟩ = some u) ∧
   frozenH H242 ⟨q105, 0, none⟩ = false ∧
   letH (Heap.set H242 ⟨q105, 0, none⟩ (.int .i64 (IntKind.wrap .i64 ((l57.n : Nat) + 1)))) fun H243 =>
   (∃ u, cellH H243 ⟨q105, 1, none⟩ = some u) ∧
   frozenH H243 ⟨q105, 1, none⟩ = false ∧
   letH (Heap.set H243 ⟨q105, 1, none⟩ (.int .i64 n74)) fun H244 =>
   (∃ u, cellH H244 ⟨q105, 2, none⟩ = some u) ∧
   frozenH H244 ⟨q105, 2, none⟩ = false ∧
   letH (Heap.set H244 ⟨q105, 2, none⟩ (.int .i64 n111)) fun H245 =>
   (∃ u, cellH H245 ⟨q105, 3, none⟩ = some u) ∧
   frozenH H245 ⟨q105, 3, none⟩ = false ∧
   letH (Heap.set H245 ⟨q105, 3, none⟩ (.int .i64 n112)) fun H246 =>
   (∃ u, cellH H246 ⟨q105, 4, none⟩ = some u) ∧
   frozenH H246 ⟨q105, 4, none⟩ = false ∧
   letH (Heap.set H246 ⟨q105, 4, none⟩ (.slice none 0 0)) fun H247 =>
   (∃ u, cellH H247 ⟨q105, 5, none⟩ = some u) ∧
   frozenH H247 ⟨q105, 5, none⟩ = false ∧
   letH (Heap.set H247 ⟨q105, 5, none⟩ (.slice none 0 0)) fun H248 =>
   (∃ u, cellH H248 ⟨q105, 6, none⟩ = some u) ∧
   frozenH H248 ⟨q105, 6, none⟩ = false ∧
   letH (Heap.set H248 ⟨q105, 6, none⟩ (.slice none 0 0)) fun H249 =>
   (∃ u, cellH H249 ⟨q105, 7, none⟩ = some u) ∧
   frozenH H249 ⟨q105, 7, none⟩ = false ∧
   letH (Heap.set H249 ⟨q105, 7, none⟩ (.slice none 0 0)) fun H250 =>
   (∃ u, cellH H250 ⟨q105, 8, none⟩ = some u) ∧
   frozenH H250 ⟨q105, 8, none⟩ = false ∧
   letH (Heap.set H250 ⟨q105, 8, none⟩ (.int .i64 n113)) fun H251 =>
   ∀ q109 : Nat,
   H251 q109 = none →
   letH (Heap.upd H251 q109 (.cells #[.pointer (some ⟨q105, 4, none⟩), .pointer (some ⟨q105, 5, none⟩), .pointer (some ⟨q105, 6, none⟩), .pointer (some ⟨q105, 7, none⟩)] 88 (0, 0))) fun H252 =>
   ∃ I11 : Int → ByteArray → Bool → Heap → Prop,
   ∃ M11 : Int → ByteArray → Bool → Heap → Nat,
   I11 0 s60 b67 H252 ∧
   ∀ n_11 : Int,
   ∀ s61 : ByteArray,
   ∀ b68 : Bool,
   ∀ H253 : Heap,
   I11 n_11 s61 b68 H253 →
   br (decide ((n_11 : Int) < (4 : Nat))) (
   ∃ q110 : Nat,
   ∃ o36 : Nat,
   ((some ⟨q109, 0, none⟩) : Option Addr) = some ⟨q110, o36, none⟩ ∧
   0 ≤ (n_11 : Int) ∧
   (n_11 : Int) < (4 : Nat) ∧
   ∃ p10 : Option Addr,
   cellH H253 ⟨q110, o36 + Int.toNat n_11, none⟩ = some (.pointer p10) ∧
   ∀ q111 : Nat,
   H253 q111 = none →
   FnH Tryz.prog 49 #[.pointer (some ⟨q111, 0, none⟩), .int .i64 7, .int .i64 1, .int .i64 7] (Heap.upd H253 q111 (.cells #[.string s61, .bool b68] 86 (0, 0))) fun r68 H254 =>
   ∃ l91 : Sl,
   r68 = .slice l91.p l91.n l91.c ∧
   ∃ s62 : ByteArray,
   ∃ b69 : Bool,
   H254 q111 = some (.cells #[.string s62, .bool b69] 86 (0, 0)) ∧
   letH (Heap.del H254 q111) fun H255 =>
   ptrm p10 fun q112 o37 =>
   (∃ u, cellH H255 ⟨q112, o37, none⟩ = some u) ∧
   frozenH H255 ⟨q112, o37, none⟩ = false ∧
   letH (Heap.set H255 ⟨q112, o37, none⟩ (.slice l91.p l91.n l91.c)) fun H256 =>
   SelfEq ([.loc 0 0, .v (.pointer p1), .v (.int .i64 n8), .v (.int .i64 n_2), .v (.pointer (some ⟨q105, 0, none⟩)), .v (.slice (some ⟨q109, 0, none⟩) 4 4), .v (.int .i64 (4 : Nat))], [], [86]) ∧
   I11 (IntKind.wrap .i64 (n_11 + 1)) s62 b69 H256 ∧
   M11 (IntKind.wrap .i64 (n_11 + 1)) s62 b69 H256 < M11 n_11 s61 b68 H253)
   (
   ∃ n114 : Int,
   cellH H253 ⟨q105, 0, none⟩ = some (.int .i64 n114) ∧
   ∃ n115 : Int,
   cellH H253 ⟨q105, 1, none⟩ = some (.int .i64 n115) ∧
   ∃ n116 : Int,
   cellH H253 ⟨q105, 2, none⟩ = some (.int .i64 n116) ∧
   ∃ n117 : Int,
   cellH H253 ⟨q105, 3, none⟩ = some (.int .i64 n117) ∧
   ∃ l92 : Sl,
   cellH H253 ⟨q105, 4, none⟩ = some (.slice l92.p l92.n l92.c) ∧
   ∃ l93 : Sl,
   cellH H253 ⟨q105, 5, none⟩ = some (.slice l93.p l93.n l93.c) ∧
   ∃ l94 : Sl,
   cellH H253 ⟨q105, 6, none⟩ = some (.slice l94.p l94.n l94.c) ∧
   ∃ l95 : Sl,
   cellH H253 ⟨q105, 7, none⟩ = some (.slice l95.p l95.n l95.c) ∧
   ∃ n118 : Int,
   cellH H253 ⟨q105, 8, none⟩ = some (.int .i64 n118) ∧
   FnH Tryz.prog 51 #[.agg #[.int .i64 n114, .int .i64 n115, .int .i64 n116, .int .i64 n117, .slice l92.p l92.n l92.c, .slice l93.p l93.n l93.c, .slice l94.p l94.n l94.c, .slice l95.p l95.n l95.c, .int .i64 n118]] H253 fun r69 H257 =>
   ∃ b70 : Bool,
   r69 = .bool b70 ∧
   ∀ q113 : Nat,
   H257 q113 = none →
   FnH Tryz.prog 50 #[.pointer (some ⟨q113, 0, none⟩), .bool b70] (Heap.upd H257 q113 (.cells #[.string s61, .bool b68] 86 (0, 0))) fun r70 H258 =>
   r70 = .tuple #[] ∧
   ∃ s63 : ByteArray,
   ∃ b71 : Bool,
   H258 q113 = some (.cells #[.string s63, .bool b71] 86 (0, 0)) ∧
   letH (Heap.del H258 q113) fun H259 =>
   ptrm p1 fun q114 o38 =>
   ∃ l96 : Sl,
   cellH H259 ⟨q114, o38 + 3, none⟩ = some (.slice l96.p l96.n l96.c) ∧
   ∃ n119 : Int,
   cellH H259 ⟨q105, 0, none⟩ = some (.int .i64 n119) ∧
   ∃ n120 : Int,
   cellH H259 ⟨q105, 1, none⟩ = some (.int .i64 n120) ∧
   ∃ n121 : Int,
   cellH H259 ⟨q105, 2, none⟩ = some (.int .i64 n121) ∧
   ∃ n122 : Int,
   cellH H259 ⟨q105, 3, none⟩ = some (.int .i64 n122) ∧
   ∃ l97 : Sl,
   cellH H259 ⟨q105, 4, none⟩ = some (.slice l97.p l97.n l97.c) ∧
   ∃ l98 : Sl,
   cellH H259 ⟨q105, 5, none⟩ = some (.slice l98.p l98.n l98.c) ∧
   ∃ l99 : Sl,
   cellH H259 ⟨q105, 6, none⟩ = some (.slice l99.p l99.n l99.c) ∧
   ∃ l100 : Sl,
   cellH H259 ⟨q105, 7, none⟩ = some (.slice l100.p l100.n l100.c) ∧
   ∃ n123 : Int,
   cellH H259 ⟨q105, 8, none⟩ = some (.int .i64 n123) ∧
   ∀ q115 : Nat,
   H259 q115 = none →
   letH (Heap.upd H259 q115 (.cells #[.int .i64 n119, .int .i64 n120, .int .i64 n121, .int .i64 n122, .slice l97.p l97.n l97.c, .slice l98.p l98.n l98.c, .slice l99.p l99.n l99.c, .slice l100.p l100.n l100.c, .int .i64 n123] 41 (0, 0))) fun H260 =>
   Sub H259 H260 ∧
   runH Tryz.prog (Builtin.append_ #[35, 35] 35 #[.slice l96.p l96.n l96.c, .slice (some ⟨q115, 0, none⟩) 1 1]) H260 fun r71 H261 =>
   ∃ l101 : Sl,
   r71 = .slice l101.p l101.n l101.c ∧
   ptrm p1 fun q116 o39 =>
   (∃ u, cellH H261 ⟨q116, o39 + 3, none⟩ = some u) ∧
   frozenH H261 ⟨q116, o39 + 3, none⟩ = false ∧
   letH (Heap.set H261 ⟨q116, o39 + 3, none⟩ (.slice l101.p l101.n l101.c)) fun H262 =>
   SelfEq ([.loc 0 0, .v (.pointer p1), .v (.int .i64 n8)], [], [86]) ∧
   I2 (IntKind.wrap .i64 (n_2 - 1)) s63 b71 H262 ∧
   M2 (IntKind.wrap .i64 (n_2 - 1)) s63 b71 H262 < M2 n_2 s12 b11 H25)) ∧
   (∀ q117 : Nat,
   H160 q117 = none →
   FnH Tryz.prog 47 #[.pointer (some ⟨q117, 0, none⟩), .int .i64 1, .int .i64 1000000000] (Heap.upd H160 q117 (.cells #[.string s42, .bool b46] 86 (0, 0))) fun r72 H263 =>
   ∃ n124 : Int,
   r72 = .int .i64 n124 ∧
   ∃ s64 : ByteArray,
   ∃ b72 : Bool,
   H263 q117 = some (.cells #[.string s64, .bool b72] 86 (0, 0)) ∧
   letH (Heap.del H263 q117) fun H264 =>
   (∃ l102 : Sl,
   cellH H264 ⟨q11, o3 + 3, none⟩ = some (.slice l102.p l102.n l102.c) ∧
   (∀ q118 : Nat,
   H264 q118 = none →
   FnH Tryz.prog 47 #[.pointer (some ⟨q118, 0, none⟩), .int .i64 1, .int .i64 1000000000] (Heap.upd H264 q118 (.cells #[.string s64, .bool b72] 86 (0, 0))) fun r73 H265 =>
   ∃ n125 : Int,
   r73 = .int .i64 n125 ∧
   ∃ s65 : ByteArray,
   ∃ b73 : Bool,
   H265 q118 = some (.cells #[.string s65, .bool b73] 86 (0, 0)) ∧
   letH (Heap.del H265 q118) fun H266 =>
   (∀ q119 : Nat,
   H266 q119 = none →
   FnH Tryz.prog 47 #[.pointer (some ⟨q119, 0, none⟩), .int .i64 1, .int .i64 5] (Heap.upd H266 q119 (.cells #[.string s65, .bool b73] 86 (0, 0))) fun r74 H267 =>
   ∃ n126 : Int,
   r74 = .int .i64 n126 ∧
   ∃ s66 : ByteArray,
   ∃ b74 : Bool,
   H267 q119 = some (.cells #[.string s66, .bool b74] 86 (0, 0)) ∧
   letH (Heap.del H267 q119) fun H268 =>
   ∀ q120 : Nat,
   H268 q120 = none →
   letH (Heap.upd H268 q120 (.cells #[.int .i64 0, .int .i64 0, .int .i64 0, .int .i64 0, .slice none 0 0, .slice none 0 0, .slice none 0 0, .slice none 0 0, .int .i64 0] 41 (0, 0))) fun H269 =>
   (∃ u, cellH H269 ⟨q120, 0, none⟩ = some u) ∧
   frozenH H269 ⟨q120, 0, none⟩ = false ∧
   letH (Heap.set H269 ⟨q120, 0, none⟩ (.int .i64 (IntKind.wrap .i64 ((l102.n : Nat) + 1)))) fun H270 =>
   (∃ u, cellH H270 ⟨q120, 1, none⟩ = some u) ∧
   frozenH H270 ⟨q120, 1, none⟩ = false ∧
   letH (Heap.set H270 ⟨q120, 1, none⟩ (.int .i64 n74)) fun H271 =>
   (∃ u, cellH H271 ⟨q120, 2, none⟩ = some u) ∧
   frozenH H271 ⟨q120, 2, none⟩ = false ∧
   letH (Heap.set H271 ⟨q120, 2, none⟩ (.int .i64 n124)) fun H272 =>
   (∃ u, cellH H272 ⟨q120, 3, none⟩ = some u) ∧
   frozenH H272 ⟨q120, 3, none⟩ = false ∧
   letH (Heap.set H272 ⟨q120, 3, none⟩ (.int .i64 n125)) fun H273 =>
   (∃ u, cellH H273 ⟨q120, 4, none⟩ = some u) ∧
   frozenH H273 ⟨q120, 4, none⟩ = false ∧
   letH (Heap.set H273 ⟨q120, 4, none⟩ (.slice none 0 0)) fun H274 =>
   (∃ u, cellH H274 ⟨q120, 5, none⟩ = some u) ∧
   frozenH H274 ⟨q120, 5, none⟩ = false ∧
   letH (Heap.set H274 ⟨q120, 5, none⟩ (.slice none 0 0)) fun H275 =>
   (∃ u, cellH H275 ⟨q120, 6, none⟩ = some u) ∧
   frozenH H275 ⟨q120, 6, none⟩ = false ∧
   letH (Heap.set H275 ⟨q120, 6, none⟩ (.slice none 0 0)) fun H276 =>
   (∃ u, cellH H276 ⟨q120, 7, none⟩ = some u) ∧
   frozenH H276 ⟨q120, 7, none⟩ = false ∧
   letH (Heap.set H276 ⟨q120, 7, none⟩ (.slice none 0 0)) fun H277 =>
   (∃ u, cellH H277 ⟨q120, 8, none⟩ = some u) ∧
   frozenH H277 ⟨q120, 8, none⟩ = false ∧
   letH (Heap.set H277 ⟨q120, 8, none⟩ (.int .i64 n126)) fun H278 =>
   ∀ q121 : Nat,
   H278 q121 = none →
   letH (Heap.upd H278 q121 (.cells #[.pointer (some ⟨q120, 4, none⟩), .pointer (some ⟨q120, 5, none⟩), .pointer (some ⟨q120, 6, none⟩), .pointer (some ⟨q120, 7, none⟩)] 88 (0, 0))) fun H279 =>
   ∃ I12 : Int → ByteArray → Bool → Heap → Prop,
   ∃ M12 : Int → ByteArray → Bool → Heap → Nat,
   I12 0 s66 b74 H279 ∧
   ∀ n_12 : Int,
   ∀ s67 : ByteArray,
   ∀ b75 : Bool,
   ∀ H280 : Heap,
   I12 n_12 s67 b75 H280 →
   br (decide ((n_12 : Int) < (4 : Nat))) (
   ∃ q122 : Nat,
   ∃ o40 : Nat,
   ((some ⟨q121, 0, none⟩) : Option Addr) = some ⟨q122, o40, none⟩ ∧
   0 ≤ (n_12 : Int) ∧
   (n_12 : Int) < (4 : Nat) ∧
   ∃ p11 : Option Addr,
   cellH H280 ⟨q122, o40 + Int.toNat n_12, none⟩ = some (.pointer p11) ∧
   ∀ q123 : Nat,
   H280 q123 = none →
   FnH Tryz.prog 49 #[.pointer (some ⟨q123, 0, none⟩), .int .i64 7, .int .i64 1, .int .i64 7] (Heap.upd H280 q123 (.cells #[.string s67, .bool b75] 86 (0, 0))) fun r75 H281 =>
   ∃ l103 : Sl,
   r75 = .slice l103.p l103.n l103.c ∧
   ∃ s68 : ByteArray,
   ∃ b76 : Bool,
   H281 q123 = some (.cells #[.string s68, .bool b76] 86 (0, 0)) ∧
   letH (Heap.del H281 q123) fun H282 =>
   ptrm p11 fun q124 o41 =>
   (∃ u, cellH H282 ⟨q124, o41, none⟩ = some u) ∧
   frozenH H282 ⟨q124, o41, none⟩ = false ∧
   letH (Heap.set H282 ⟨q124, o41, none⟩ (.slice l103.p l103.n l103.c)) fun H283 =>
   SelfEq ([.loc 0 0, .v (.pointer p1), .v (.int .i64 n8), .v (.int .i64 n_2), .v (.pointer (some ⟨q120, 0, none⟩)), .v (.slice (some ⟨q121, 0, none⟩) 4 4), .v (.int .i64 (4 : Nat))], [], [86]) ∧
   I12 (IntKind.wrap .i64 (n_12 + 1)) s68 b76 H283 ∧
   M12 (IntKind.wrap .i64 (n_12 + 1)) s68 b76 H283 < M12 n_12 s67 b75 H280)
   (
   ∃ n127 : Int,
   cellH H280 ⟨q120, 0, none⟩ = some (.int .i64 n127) ∧
   ∃ n128 : Int,
   cellH H280 ⟨q120, 1, none⟩ = some (.int .i64 n128) ∧
   ∃ n129 : Int,
   cellH H280 ⟨q120, 2, none⟩ = some (.int .i64 n129) ∧
   ∃ n130 : Int,
   cellH H280 ⟨q120, 3, none⟩ = some (.int .i64 n130) ∧
   ∃ l104 : Sl,
   cellH H280 ⟨q120, 4, none⟩ = some (.slice l104.p l104.n l104.c) ∧
   ∃ l105 : Sl,
   cellH H280 ⟨q120, 5, none⟩ = some (.slice l105.p l105.n l105.c) ∧
   ∃ l106 : Sl,
   cellH H280 ⟨q120, 6, none⟩ = some (.slice l106.p l106.n l106.c) ∧
   ∃ l107 : Sl,
   cellH H280 ⟨q120, 7, none⟩ = some (.slice l107.p l107.n l107.c) ∧
   ∃ n131 : Int,
   cellH H280 ⟨q120, 8, none⟩ = some (.int .i64 n131) ∧
   FnH Tryz.prog 51 #[.agg #[.int .i64 n127, .int .i64 n128, .int .i64 n129, .int .i64 n130, .slice l104.p l104.n l104.c, .slice l105.p l105.n l105.c, .slice l106.p l106.n l106.c, .slice l107.p l107.n l107.c, .int .i64 n131]] H280 fun r76 H284 =>
   ∃ b77 : Bool,
   r76 = .bool b77 ∧
   ∀ q125 : Nat,
   H284 q125 = none →
   FnH Tryz.prog 50 #[.pointer (some ⟨q125, 0, none⟩), .bool b77] (Heap.upd H284 q125 (.cells #[.string s67, .bool b75] 86 (0, 0))) fun r77 H285 =>
   r77 = .tuple #[] ∧
   ∃ s69 : ByteArray,
   ∃ b78 : Bool,
   H285 q125 = some (.cells #[.string s69, .bool b78] 86 (0, 0)) ∧
   letH (Heap.del H285 q125) fun H286 =>
   ptrm p1 fun q126 o42 =>
   ∃ l108 : Sl,
   cellH H286 ⟨q126, o42 + 3, none⟩ = some (.slice l108.p l108.n l108.c) ∧
   ∃ n132 : Int,
   cellH H286 ⟨q120, 0, none⟩ = some (.int .i64 n132) ∧
   ∃ n133 : Int,
   cellH H286 ⟨q120, 1, none⟩ = some (.int .i64 n133) ∧
   ∃ n134 : Int,
   cellH H286 ⟨q120, 2, none⟩ = some (.int .i64 n134) ∧
   ∃ n135 : Int,
   cellH H286 ⟨q120, 3, none⟩ = some (.int .i64 n135) ∧
   ∃ l109 : Sl,
   cellH H286 ⟨q120, 4, none⟩ = some (.slice l109.p l109.n l109.c) ∧
   ∃ l110 : Sl,
   cellH H286 ⟨q120, 5, none⟩ = some (.slice l110.p l110.n l110.c) ∧
   ∃ l111 : Sl,
   cellH H286 ⟨q120, 6, none⟩ = some (.slice l111.p l111.n l111.c) ∧
   ∃ l112 : Sl,
   cellH H286 ⟨q120, 7, none⟩ = some (.slice l112.p l112.n l112.c) ∧
   ∃ n136 : Int,
   cellH H286 ⟨q120, 8, none⟩ = some (.int .i64 n136) ∧
   ∀ q127 : Nat,
   H286 q127 = none →
   letH (Heap.upd H286 q127 (.cells #[.int .i64 n132, .int .i64 n133, .int .i64 n134, .int .i64 n135, .slice l109.p l109.n l109.c, .slice l110.p l110.n l110.c, .slice l111.p l111.n l111.c, .slice l112.p l112.n l112.c, .int .i64 n136] 41 (0, 0))) fun H287 =>
   Sub H286 H287 ∧
   runH Tryz.prog (Builtin.append_ #[35, 35] 35 #[.slice l108.p l108.n l108.c, .slice (some ⟨q127, 0, none⟩) 1 1]) H287 fun r78 H288 =>
   ∃ l113 : Sl,
   r78 = .slice l113.p l113.n l113.c ∧
   ptrm p1 fun q128 o43 =>
   (∃ u, cellH H288 ⟨q128, o43 + 3, none⟩ = some u) ∧
   frozenH H288 ⟨q128, o43 + 3, none⟩ = false ∧
   letH (Heap.set H288 ⟨q128, o43 + 3, none⟩ (.slice l113.p l113.n l113.c)) fun H289 =>
   SelfEq ([.loc 0 0, .v (.pointer p1), .v (.int .i64 n8)], [], [86]) ∧
   I2 (IntKind.wrap .i64 (n_2 - 1)) s69 b78 H289 ∧
   M2 (IntKind.wrap .i64 (n_2 - 1)) s69 b78 H289 < M2 n_2 s12 b11 H25)) ∧
   ∀ q129 : Nat,
   H266 q129 = none →
   letH (Heap.upd H266 q129 (.cells #[.int .i64 0, .int .i64 0, .int .i64 0, .int .i64 0, .slice none 0 0, .slice none 0 0, .slice none 0 0, .slice none 0 0, .int .i64 0] 41 (0, 0))) fun H290 =>
   ∀ q130 : Nat,
   H290 q130 = none →
   FnH Tryz.prog 47 #[.pointer (some ⟨q130, 0, none⟩), .int .i64 1, .int .i64 5] (Heap.upd H290 q130 (.cells #[.string s65, .bool b73] 86 (0, 0))) fun r79 H291 =>
   ∃ n137 : Int,
   r79 = .int .i64 n137 ∧
   ∃ s70 : ByteArray,
   ∃ b79 : Bool,
   H291 q130 = some (.cells #[.string s70, .bool b79] 86 (0, 0)) ∧
   letH (Heap.del H291 q130) fun H292 =>
   (∃ u, cellH H292 ⟨q129, 0, none⟩ = some u) ∧
   frozenH H292 ⟨q129, 0, none⟩ = false ∧
   letH (Heap.set H292 ⟨q129, 0, none⟩ (.int .i64 (IntKind.wrap .i64 ((l102.n : Nat) + 1)))) fun H293 =>
   (∃ u, cellH H293 ⟨q129, 1, none⟩ = some u) ∧
   frozenH H293 ⟨q129, 1, none⟩ = false ∧
   letH (Heap.set H293 ⟨q129, 1, none⟩ (.int .i64 n74)) fun H294 =>
   (∃ u, cellH H294 ⟨q129, 2, none⟩ = some u) ∧
   frozenH H294 ⟨q129, 2, none⟩ = false ∧
   letH (Heap.set H294 ⟨q129, 2, none⟩ (.int .i64 n124)) fun H295 =>
   (∃ u, cellH H295 ⟨q129, 3, none⟩ = some u) ∧
   frozenH H295 ⟨q129, 3, none⟩ = false ∧
   letH (Heap.set H295 ⟨q129, 3, none⟩ (.int .i64 n125)) fun H296 =>
   (∃ u, cellH H296 ⟨q129, 4, none⟩ = some u) ∧
   frozenH H296 ⟨q129, 4, none⟩ = false ∧
   letH (Heap.set H296 ⟨q129, 4, none⟩ (.slice none 0 0)) fun H297 =>
   (∃ u, cellH H297 ⟨q129, 5, none⟩ = some u) ∧
   frozenH H297 ⟨q129, 5, none⟩ = false ∧
   letH (Heap.set H297 ⟨q129, 5, none⟩ (.slice none 0 0)) fun H298 =>
   (∃ u, cellH H298 ⟨q129, 6, none⟩ = some u) ∧
   frozenH H298 ⟨q129, 6, none⟩ = false ∧
   letH (Heap.set H298 ⟨q129, 6, none⟩ (.slice none 0 0)) fun H299 =>
   (∃ u, cellH H299 ⟨q129, 7, none⟩ = some u) ∧
   frozenH H299 ⟨q129, 7, none⟩ = false ∧
   letH (Heap.set H299 ⟨q129, 7, none⟩ (.slice none 0 0)) fun H300 =>
   (∃ u, cellH H300 ⟨q129, 8, none⟩ = some u) ∧
   frozenH H300 ⟨q129, 8, none⟩ = false ∧
   letH (Heap.set H300 ⟨q129, 8, none⟩ (.int .i64 n137)) fun H301 =>
   ∀ q131 : Nat,
   H301 q131 = none →
   letH (Heap.upd H301 q131 (.cells #[.pointer (some ⟨q129, 4, none⟩), .pointer (some ⟨q129, 5, none⟩), .pointer (some ⟨q129, 6, none⟩), .pointer (some ⟨q129, 7, none⟩)] 88 (0, 0))) fun H302 =>
   ∃ I13 : Int → ByteArray → Bool → Heap → Prop,
   ∃ M13 : Int → ByteArray → Bool → Heap → Nat,
   I13 0 s70 b79 H302 ∧
   ∀ n_13 : Int,
   ∀ s71 : ByteArray,
   ∀ b80 : Bool,
   ∀ H303 : Heap,
   I13 n_13 s71 b80 H303 →
   br (decide ((n_13 : Int) < (4 : Nat))) (
   ∃ q132 : Nat,
   ∃ o44 : Nat,
   ((some ⟨q131, 0, none⟩) : Option Addr) = some ⟨q132, o44, none⟩ ∧
   0 ≤ (n_13 : Int) ∧
   (n_13 : Int) < (4 : Nat) ∧
   ∃ p12 : Option Addr,
   cellH H303 ⟨q132, o44 + Int.toNat n_13, none⟩ = some (.pointer p12) ∧
   ∀ q133 : Nat,
   H303 q133 = none →
   FnH Tryz.prog 49 #[.pointer (some ⟨q133, 0, none⟩), .int .i64 7, .int .i64 1, .int .i64 7] (Heap.upd H303 q133 (.cells #[.string s71, .bool b80] 86 (0, 0))) fun r80 H304 =>
   ∃ l114 : Sl,
   r80 = .slice l114.p l114.n l114.c ∧
   ∃ s72 : ByteArray,
   ∃ b81 : Bool,
   H304 q133 = some (.cells #[.string s72, .bool b81] 86 (0, 0)) ∧
   letH (Heap.del H304 q133) fun H305 =>
   ptrm p12 fun q134 o45 =>
   (∃ u, cellH H305 ⟨q134, o45, none⟩ = some u) ∧
   frozenH H305 ⟨q134, o45, none⟩ = false ∧
   letH (Heap.set H305 ⟨q134, o45, none⟩ (.slice l114.p l114.n l114.c)) fun H306 =>
   SelfEq ([.loc 0 0, .v (.pointer p1), .v (.int .i64 n8), .v (.int .i64 n_2), .v (.pointer (some ⟨q129, 0, none⟩)), .v (.slice (some ⟨q131, 0, none⟩) 4 4), .v (.int .i64 (4 : Nat))], [], [86]) ∧
   I13 (IntKind.wrap .i64 (n_13 + 1)) s72 b81 H306 ∧
   M13 (IntKind.wrap .i64 (n_13 + 1)) s72 b81 H306 < M13 n_13 s71 b80 H303)
   (
   ∃ n138 : Int,
   cellH H303 ⟨q129, 0, none⟩ = some (.int .i64 n138) ∧
   ∃ n139 : Int,
   cellH H303 ⟨q129, 1, none⟩ = some (.int .i64 n139) ∧
   ∃ n140 : Int,
   cellH H303 ⟨q129, 2, none⟩ = some (.int .i64 n140) ∧
   ∃ n141 : Int,
   cellH H303 ⟨q129, 3, none⟩ = some (.int .i64 n141) ∧
   ∃ l115 : Sl,
   cellH H303 ⟨q129, 4, none⟩ = some (.slice l115.p l115.n l115.c) ∧
   ∃ l116 : Sl,
   cellH H303 ⟨q129, 5, none⟩ = some (.slice l116.p l116.n l116.c) ∧
   ∃ l117 : Sl,
   cellH H303 ⟨q129, 6, none⟩ = some (.slice l117.p l117.n l117.c) ∧
   ∃ l118 : Sl,
   cellH H303 ⟨q129, 7, none⟩ = some (.slice l118.p l118.n l118.c) ∧
   ∃ n142 : Int,
   cellH H303 ⟨q129, 8, none⟩ = some (.int .i64 n142) ∧
   FnH Tryz.prog 51 #[.agg #[.int .i64 n138, .int .i64 n139, .int .i64 n140, .int .i64 n141, .slice l115.p l115.n l115.c, .slice l116.p l116.n l116.c, .slice l117.p l117.n l117.c, .slice l118.p l118.n l118.c, .int .i64 n142]] H303 fun r81 H307 =>
   ∃ b82 : Bool,
   r81 = .bool b82 ∧
   ∀ q135 : Nat,
   H307 q135 = none →
   FnH Tryz.prog 50 #[.pointer (some ⟨q135, 0, none⟩), .bool b82] (Heap.upd H307 q135 (.cells #[.string s71, .bool b80] 86 (0, 0))) fun r82 H308 =>
   r82 = .tuple #[] ∧
   ∃ s73 : ByteArray,
   ∃ b83 : Bool,
   H308 q135 = some (.cells #[.string s73, .bool b83] 86 (0, 0)) ∧
   letH (Heap.del H308 q135) fun H309 =>
   ptrm p1 fun q136 o46 =>
   ∃ l119 : Sl,
   cellH H309 ⟨q136, o46 + 3, none⟩ = some (.slice l119.p l119.n l119.c) ∧
   ∃ n143 : Int,
   cellH H309 ⟨q129, 0, none⟩ = some (.int .i64 n143) ∧
   ∃ n144 : Int,
   cellH H309 ⟨q129, 1, none⟩ = some (.int .i64 n144) ∧
   ∃ n145 : Int,
   cellH H309 ⟨q129, 2, none⟩ = some (.int .i64 n145) ∧
   ∃ n146 : Int,
   cellH H309 ⟨q129, 3, none⟩ = some (.int .i64 n146) ∧
   ∃ l120 : Sl,
   cellH H309 ⟨q129, 4, none⟩ = some (.slice l120.p l120.n l120.c) ∧
   ∃ l121 : Sl,
   cellH H309 ⟨q129, 5, none⟩ = some (.slice l121.p l121.n l121.c) ∧
   ∃ l122 : Sl,
   cellH H309 ⟨q129, 6, none⟩ = some (.slice l122.p l122.n l122.c) ∧
   ∃ l123 : Sl,
   cellH H309 ⟨q129, 7, none⟩ = some (.slice l123.p l123.n l123.c) ∧
   ∃ n147 : Int,
   cellH H309 ⟨q129, 8, none⟩ = some (.int .i64 n147) ∧
   ∀ q137 : Nat,
   H309 q137 = none →
   letH (Heap.upd H309 q137 (.cells #[.int .i64 n143, .int .i64 n144, .int .i64 n145, .int .i64 n146, .slice l120.p l120.n l120.c, .slice l121.p l121.n l121.c, .slice l122.p l122.n l122.c, .slice l123.p l123.n l123.c, .int .i64 n147] 41 (0, 0))) fun H310 =>
   Sub H309 H310 ∧
   runH Tryz.prog (Builtin.append_ #[35, 35] 35 #[.slice l119.p l119.n l119.c, .slice (some ⟨q137, 0, none⟩) 1 1]) H310 fun r83 H311 =>
   ∃ l124 : Sl,
   r83 = .slice l124.p l124.n l124.c ∧
   ptrm p1 fun q138 o47 =>
   (∃ u, cellH H311 ⟨q138, o47 + 3, none⟩ = some u) ∧
   frozenH H311 ⟨q138, o47 + 3, none⟩ = false ∧
   letH (Heap.set H311 ⟨q138, o47 + 3, none⟩ (.slice l124.p l124.n l124.c)) fun H312 =>
   SelfEq ([.loc 0 0, .v (.pointer p1), .v (.int .i64 n8)], [], [86]) ∧
   I2 (IntKind.wrap .i64 (n_2 - 1)) s73 b83 H312 ∧
   M2 (IntKind.wrap .i64 (n_2 - 1)) s73 b83 H312 < M2 n_2 s12 b11 H25)) ∧
   ∀ q139 : Nat,
   H264 q139 = none →
   letH (Heap.upd H264 q139 (.cells #[.int .i64 0, .int .i64 0, .int .i64 0, .int .i64 0, .slice none 0 0, .slice none 0 0, .slice none 0 0, .slice none 0 0, .int .i64 0] 41 (0, 0))) fun H313 =>
   ∀ q140 : Nat,
   H313 q140 = none →
   FnH Tryz.prog 47 #[.pointer (some ⟨q140, 0, none⟩), .int .i64 1, .int .i64 1000000000] (Heap.upd H313 q140 (.cells #[.string s64, .bool b72] 86 (0, 0))) fun r84 H314 =>
   ∃ n148 : Int,
   r84 = .int .i64 n148 ∧
   ∃ s74 : ByteArray,
   ∃ b84 : Bool,
   H314 q140 = some (.cells #[.string s74, .bool b84] 86 (0, 0)) ∧
   letH (Heap.del H314 q140) fun H315 =>
   ∀ q141 : Nat,
   H315 q141 = none →
   FnH Tryz.prog 47 #[.pointer (some ⟨q141, 0, none⟩), .int .i64 1, .int .i64 5] (Heap.upd H315 q141 (.cells #[.string s74, .bool b84] 86 (0, 0))) fun r85 H316 =>
   ∃ n149 : Int,
   r85 = .int .i64 n149 ∧
   ∃ s75 : ByteArray,
   ∃ b85 : Bool,
   H316 q141 = some (.cells #[.string s75, .bool b85] 86 (0, 0)) ∧
   letH (Heap.del H316 q141) fun H317 =>
   (∃ u, cellH H317 ⟨q139, 0, none⟩ = some u) ∧
   frozenH H317 ⟨q139, 0, none⟩ = false ∧
   letH (Heap.set H317 ⟨q139, 0, none⟩ (.int .i64 (IntKind.wrap .i64 ((l102.n : Nat) + 1)))) fun H318 =>
   (∃ u, cellH H318 ⟨q139, 1, none⟩ = some u) ∧
   frozenH H318 ⟨q139, 1, none⟩ = false ∧
   letH (Heap.set H318 ⟨q139, 1, none⟩ (.int .i64 n74)) fun H319 =>
   (∃ u, cellH H319 ⟨q139, 2, none⟩ = some u) ∧
   frozenH H319 ⟨q139, 2, none⟩ = false ∧
   letH (Heap.set H319 ⟨q139, 2, none⟩ (.int .i64 n124)) fun H320 =>
   (∃ u, cellH H320 ⟨q139, 3, none⟩ = some u) ∧
   frozenH H320 ⟨q139, 3, none⟩ = false ∧
   letH (Heap.set H320 ⟨q139, 3, none⟩ (.int .i64 n148)) fun H321 =>
   (∃ u, cellH H321 ⟨q139, 4, none⟩ = some u) ∧
   frozenH H321 ⟨q139, 4, none⟩ = false ∧
   letH (Heap.set H321 ⟨q139, 4, none⟩ (.slice none 0 0)) fun H322 =>
   (∃ u, cellH H322 ⟨q139, 5, none⟩ = some u) ∧
   frozenH H322 ⟨q139, 5, none⟩ = false ∧
   letH (Heap.set H322 ⟨q139, 5, none⟩ (.slice none 0 0)) fun H323 =>
   (∃ u, cellH H323 ⟨q139, 6, none⟩ = some u) ∧
   frozenH H323 ⟨q139, 6, none⟩ = false ∧
   letH (Heap.set H323 ⟨q139, 6, none⟩ (.slice none 0 0)) fun H324 =>
   (∃ u, cellH H324 ⟨q139, 7, none⟩ = some u) ∧
   frozenH H324 ⟨q139, 7, none⟩ = false ∧
   letH (Heap.set H324 ⟨q139, 7, none⟩ (.slice none 0 0)) fun H325 =>
   (∃ u, cellH H325 ⟨q139, 8, none⟩ = some u) ∧
   frozenH H325 ⟨q139, 8, none⟩ = false ∧
   letH (Heap.set H325 ⟨q139, 8, none⟩ (.int .i64 n149)) fun H326 =>
   ∀ q142 : Nat,
   H326 q142 = none →
   letH (Heap.upd H326 q142 (.cells #[.pointer (some ⟨q139, 4, none⟩), .pointer (some ⟨q139, 5, none⟩), .pointer (some ⟨q139, 6, none⟩), .pointer (some ⟨q139, 7, none⟩)] 88 (0, 0))) fun H327 =>
   ∃ I14 : Int → ByteArray → Bool → Heap → Prop,
   ∃ M14 : Int → ByteArray → Bool → Heap → Nat,
   I14 0 s75 b85 H327 ∧
   ∀ n_14 : Int,
   ∀ s76 : ByteArray,
   ∀ b86 : Bool,
   ∀ H328 : Heap,
   I14 n_14 s76 b86 H328 →
   br (decide ((n_14 : Int) < (4 : Nat))) (
   ∃ q143 : Nat,
   ∃ o48 : Nat,
   ((some ⟨q142, 0, none⟩) : Option Addr) = some ⟨q143, o48, none⟩ ∧
   0 ≤ (n_14 : Int) ∧
   (n_14 : Int) < (4 : Nat) ∧
   ∃ p13 : Option Addr,
   cellH H328 ⟨q143, o48 + Int.toNat n_14, none⟩ = some (.pointer p13) ∧
   ∀ q144 : Nat,
   H328 q144 = none →
   FnH Tryz.prog 49 #[.pointer (some ⟨q144, 0, none⟩), .int .i64 7, .int .i64 1, .int .i64 7] (Heap.upd H328 q144 (.cells #[.string s76, .bool b86] 86 (0, 0))) fun r86 H329 =>
   ∃ l125 : Sl,
   r86 = .slice l125.p l125.n l125.c ∧
   ∃ s77 : ByteArray,
   ∃ b87 : Bool,
   H329 q144 = some (.cells #[.string s77, .bool b87] 86 (0, 0)) ∧
   letH (Heap.del H329 q144) fun H330 =>
   ptrm p13 fun q145 o49 =>
   (∃ u, cellH H330 ⟨q145, o49, none⟩ = some u) ∧
   frozenH H330 ⟨q145, o49, none⟩ = false ∧
   letH (Heap.set H330 ⟨q145, o49, none⟩ (.slice l125.p l125.n l125.c)) fun H331 =>
   SelfEq ([.loc 0 0, .v (.pointer p1), .v (.int .i64 n8), .v (.int .i64 n_2), .v (.pointer (some ⟨q139, 0, none⟩)), .v (.slice (some ⟨q142, 0, none⟩) 4 4), .v (.int .i64 (4 : Nat))], [], [86]) ∧
   I14 (IntKind.wrap .i64 (n_14 + 1)) s77 b87 H331 ∧
   M14 (IntKind.wrap .i64 (n_14 + 1)) s77 b87 H331 < M14 n_14 s76 b86 H328)
   (
   ∃ n150 : Int,
   cellH H328 ⟨q139, 0, none⟩ = some (.int .i64 n150) ∧
   ∃ n151 : Int,
   cellH H328 ⟨q139, 1, none⟩ = some (.int .i64 n151) ∧
   ∃ n152 : Int,
   cellH H328 ⟨q139, 2, none⟩ = some (.int .i64 n152) ∧
   ∃ n153 : Int,
   cellH H328 ⟨q139, 3, none⟩ = some (.int .i64 n153) ∧
   ∃ l126 : Sl,
   cellH H328 ⟨q139, 4, none⟩ = some (.slice l126.p l126.n l126.c) ∧
   ∃ l127 : Sl,
   cellH H328 ⟨q139, 5, none⟩ = some (.slice l127.p l127.n l127.c) ∧
   ∃ l128 : Sl,
   cellH H328 ⟨q139, 6, none⟩ = some (.slice l128.p l128.n l128.c) ∧
   ∃ l129 : Sl,
   cellH H328 ⟨q139, 7, none⟩ = some (.slice l129.p l129.n l129.c) ∧
   ∃ n154 : Int,
   cellH H328 ⟨q139, 8, none⟩ = some (.int .i64 n154) ∧
   FnH Tryz.prog 51 #[.agg #[.int .i64 n150, .int .i64 n151, .int .i64 n152, .int .i64 n153, .slice l126.p l126.n l126.c, .slice l127.p l127.n l127.c, .slice l128.p l128.n l128.c, .slice l129.p l129.n l129.c, .int .i64 n154]] H328 fun r87 H332 =>
   ∃ b88 : Bool,
   r87 = .bool b88 ∧
   ∀ q146 : Nat,
   H332 q146 = none →
   FnH Tryz.prog 50 #[.pointer (some ⟨q146, 0, none⟩), .bool b88] (Heap.upd H332 q146 (.cells #[.string s76, .bool b86] 86 (0, 0))) fun r88 H333 =>
   r88 = .tuple #[] ∧
   ∃ s78 : ByteArray,
   ∃ b89 : Bool,
   H333 q146 = some (.cells #[.string s78, .bool b89] 86 (0, 0)) ∧
   letH (Heap.del H333 q146) fun H334 =>
   ptrm p1 fun q147 o50 =>
   ∃ l130 : Sl,
   cellH H334 ⟨q147, o50 + 3, none⟩ = some (.slice l130.p l130.n l130.c) ∧
   ∃ n155 : Int,
   cellH H334 ⟨q139, 0, none⟩ = some (.int .i64 n155) ∧
   ∃ n156 : Int,
   cellH H334 ⟨q139, 1, none⟩ = some (.int .i64 n156) ∧
   ∃ n157 : Int,
   cellH H334 ⟨q139, 2, none⟩ = some (.int .i64 n157) ∧
   ∃ n158 : Int,
   cellH H334 ⟨q139, 3, none⟩ = some (.int .i64 n158) ∧
   ∃ l131 : Sl,
   cellH H334 ⟨q139, 4, none⟩ = some (.slice l131.p l131.n l131.c) ∧
   ∃ l132 : Sl,
   cellH H334 ⟨q139, 5, none⟩ = some (.slice l132.p l132.n l132.c) ∧
   ∃ l133 : Sl,
   cellH H334 ⟨q139, 6, none⟩ = some (.slice l133.p l133.n l133.c) ∧
   ∃ l134 : Sl,
   cellH H334 ⟨q139, 7, none⟩ = some (.slice l134.p l134.n l134.c) ∧
   ∃ n159 : Int,
   cellH H334 ⟨q139, 8, none⟩ = some (.int .i64 n159) ∧
   ∀ q148 : Nat,
   H334 q148 = none →
   letH (Heap.upd H334 q148 (.cells #[.int .i64 n155, .int .i64 n156, .int .i64 n157, .int .i64 n158, .slice l131.p l131.n l131.c, .slice l132.p l132.n l132.c, .slice l133.p l133.n l133.c, .slice l134.p l134.n l134.c, .int .i64 n159] 41 (0, 0))) fun H335 =>
   Sub H334 H335 ∧
   runH Tryz.prog (Builtin.append_ #[35, 35] 35 #[.slice l130.p l130.n l130.c, .slice (some ⟨q148, 0, none⟩) 1 1]) H335 fun r89 H336 =>
   ∃ l135 : Sl,
   r89 = .slice l135.p l135.n l135.c ∧
   ptrm p1 fun q149 o51 =>
   (∃ u, cellH H336 ⟨q149, o51 + 3, none⟩ = some u) ∧
   frozenH H336 ⟨q149, o51 + 3, none⟩ = false ∧
   letH (Heap.set H336 ⟨q149, o51 + 3, none⟩ (.slice l135.p l135.n l135.c)) fun H337 =>
   SelfEq ([.loc 0 0, .v (.pointer p1), .v (.int .i64 n8)], [], [86]) ∧
   I2 (IntKind.wrap .i64 (n_2 - 1)) s78 b89 H337 ∧
   M2 (IntKind.wrap .i64 (n_2 - 1)) s78 b89 H337 < M2 n_2 s12 b11 H25)) ∧
   (∀ q150 : Nat,
   H264 q150 = none →
   FnH Tryz.prog 47 #[.pointer (some ⟨q150, 0, none⟩), .int .i64 1, .int .i64 1000000000] (Heap.upd H264 q150 (.cells #[.string s64, .bool b72] 86 (0, 0))) fun r90 H338 =>
   ∃ n160 : Int,
   r90 = .int .i64 n160 ∧
   ∃ s79 : ByteArray,
   ∃ b90 : Bool,
   H338 q150 = some (.cells #[.string s79, .bool b90] 86 (0, 0)) ∧
   letH (Heap.del H338 q150) fun H339 =>
   (∃ l136 : Sl,
   cellH H339 ⟨q11, o3 + 3, none⟩ = some (.slice l136.p l136.n l136.c) ∧
   (∀ q151 : Nat,
   H339 q151 = none →
   FnH Tryz.prog 47 #[.pointer (some ⟨q151, 0, none⟩), .int .i64 1, .int .i64 5] (Heap.upd H339 q151 (.cells #[.string s79, .bool b90] 86 (0, 0))) fun r91 H340 =>
   ∃ n161 : Int,
   r91 = .int .i64 n161 ∧
   ∃ s80 : ByteArray,
   ∃ b91 : Bool,
   H340 q151 = some (.cells #[.string s80, .bool b91] 86 (0, 0)) ∧
   letH (Heap.del H340 q151) fun H341 =>
   ∀ q152 : Nat,
   H341 q152 = none →
   letH (Heap.upd H341 q152 (.cells #[.int .i64 0, .int .i64 0, .int .i64 0, .int .i64 0, .slice none 0 0, .slice none 0 0, .slice none 0 0, .slice none 0 0, .int .i64 0] 41 (0, 0))) fun H342 =>
   (∃ u, cellH H342 ⟨q152, 0, none⟩ = some u) ∧
   frozenH H342 ⟨q152, 0, none⟩ = false ∧
   letH (Heap.set H342 ⟨q152, 0, none⟩ (.int .i64 (IntKind.wrap .i64 ((l136.n : Nat) + 1)))) fun H343 =>
   (∃ u, cellH H343 ⟨q152, 1, none⟩ = some u) ∧
   frozenH H343 ⟨q152, 1, none⟩ = false ∧
   letH (Heap.set H343 ⟨q152, 1, none⟩ (.int .i64 n74)) fun H344 =>
   (∃ u, cellH H344 ⟨q152, 2, none⟩ = some u) ∧
   frozenH H344 ⟨q152, 2, none⟩ = false ∧
   letH (Heap.set H344 ⟨q152, 2, none⟩ (.int .i64 n124)) fun H345 =>
   (∃ u, cellH H345 ⟨q152, 3, none⟩ = some u) ∧
   frozenH H345 ⟨q152, 3, none⟩ = false ∧
   letH (Heap.set H345 ⟨q152, 3, none⟩ (.int .i64 n160)) fun H346 =>
   (∃ u, cellH H346 ⟨q152, 4, none⟩ = some u) ∧
   frozenH H346 ⟨q152, 4, none⟩ = false ∧
   letH (Heap.set H346 ⟨q152, 4, none⟩ (.slice none 0 0)) fun H347 =>
   (∃ u, cellH H347 ⟨q152, 5, none⟩ = some u) ∧
   frozenH H347 ⟨q152, 5, none⟩ = false ∧
   letH (Heap.set H347 ⟨q152, 5, none⟩ (.slice none 0 0)) fun H348 =>
   (∃ u, cellH H348 ⟨q152, 6, none⟩ = some u) ∧
   frozenH H348 ⟨q152, 6, none⟩ = false ∧
   letH (Heap.set H348 ⟨q152, 6, none⟩ (.slice none 0 0)) fun H349 =>
   (∃ u, cellH H349 ⟨q152, 7, none⟩ = some u) ∧
   frozenH H349 ⟨q152, 7, none⟩ = false ∧
   letH (Heap.set H349 ⟨q152, 7, none⟩ (.slice none 0 0)) fun H350 =>
   (∃ u, cellH H350 ⟨q152, 8, none⟩ = some u) ∧
   frozenH H350 ⟨q152, 8, none⟩ = false ∧
   letH (Heap.set H350 ⟨q152, 8, none⟩ (.int .i64 n161)) fun H351 =>
   ∀ q153 : Nat,
   H351 q153 = none →
   letH (Heap.upd H351 q153 (.cells #[.pointer (some ⟨q152, 4, none⟩), .pointer (some ⟨q152, 5, none⟩), .pointer (some ⟨q152, 6, none⟩), .pointer (some ⟨q152, 7, none⟩)] 88 (0, 0))) fun H352 =>
   ∃ I15 : Int → ByteArray → Bool → Heap → Prop,
   ∃ M15 : Int → ByteArray → Bool → Heap → Nat,
   I15 0 s80 b91 H352 ∧
   ∀ n_15 : Int,
   ∀ s81 : ByteArray,
   ∀ b92 : Bool,
   ∀ H353 : Heap,
   I15 n_15 s81 b92 H353 →
   br (decide ((n_15 : Int) < (4 : Nat))) (
   ∃ q154 : Nat,
   ∃ o52 : Nat,
   ((some ⟨q153, 0, none⟩) : Option Addr) = some ⟨q154, o52, none⟩ ∧
   0 ≤ (n_15 : Int) ∧
   (n_15 : Int) < (4 : Nat) ∧
   ∃ p14 : Option Addr,
   cellH H353 ⟨q154, o52 + Int.toNat n_15, none⟩ = some (.pointer p14) ∧
   ∀ q155 : Nat,
   H353 q155 = none →
   FnH Tryz.prog 49 #[.pointer (some ⟨q155, 0, none⟩), .int .i64 7, .int .i64 1, .int .i64 7] (Heap.upd H353 q155 (.cells #[.string s81, .bool b92] 86 (0, 0))) fun r92 H354 =>
   ∃ l137 : Sl,
   r92 = .slice l137.p l137.n l137.c ∧
   ∃ s82 : ByteArray,
   ∃ b93 : Bool,
   H354 q155 = some (.cells #[.string s82, .bool b93] 86 (0, 0)) ∧
   letH (Heap.del H354 q155) fun H355 =>
   ptrm p14 fun q156 o53 =>
   (∃ u, cellH H355 ⟨q156, o53, none⟩ = some u) ∧
   frozenH H355 ⟨q156, o53, none⟩ = false ∧
   letH (Heap.set H355 ⟨q156, o53, none⟩ (.slice l137.p l137.n l137.c)) fun H356 =>
   SelfEq ([.loc 0 0, .v (.pointer p1), .v (.int .i64 n8), .v (.int .i64 n_2), .v (.pointer (some ⟨q152, 0, none⟩)), .v (.slice (some ⟨q153, 0, none⟩) 4 4), .v (.int .i64 (4 : Nat))], [], [86]) ∧
   I15 (IntKind.wrap .i64 (n_15 + 1)) s82 b93 H356 ∧
   M15 (IntKind.wrap .i64 (n_15 + 1)) s82 b93 H356 < M15 n_15 s81 b92 H353)
   (
   ∃ n162 : Int,
   cellH H353 ⟨q152, 0, none⟩ = some (.int .i64 n162) ∧
   ∃ n163 : Int,
   cellH H353 ⟨q152, 1, none⟩ = some (.int .i64 n163) ∧
   ∃ n164 : Int,
   cellH H353 ⟨q152, 2, none⟩ = some (.int .i64 n164) ∧
   ∃ n165 : Int,
   cellH H353 ⟨q152, 3, none⟩ = some (.int .i64 n165) ∧
   ∃ l138 : Sl,
   cellH H353 ⟨q152, 4, none⟩ = some (.slice l138.p l138.n l138.c) ∧
   ∃ l139 : Sl,
   cellH H353 ⟨q152, 5, none⟩ = some (.slice l139.p l139.n l139.c) ∧
   ∃ l140 : Sl,
   cellH H353 ⟨q152, 6, none⟩ = some (.slice l140.p l140.n l140.c) ∧
   ∃ l141 : Sl,
   cellH H353 ⟨q152, 7, none⟩ = some (.slice l141.p l141.n l141.c) ∧
   ∃ n166 : Int,
   cellH H353 ⟨q152, 8, none⟩ = some (.int .i64 n166) ∧
   FnH Tryz.prog 51 #[.agg #[.int .i64 n162, .int .i64 n163, .int .i64 n164, .int .i64 n165, .slice l138.p l138.n l138.c, .slice l139.p l139.n l139.c, .slice l140.p l140.n l140.c, .slice l141.p l141.n l141.c, .int .i64 n166]] H353 fun r93 H357 =>
   ∃ b94 : Bool,
   r93 = .bool b94 ∧
   ∀ q157 : Nat,
   H357 q157 = none →
   FnH Tryz.prog 50 #[.pointer (some ⟨q157, 0, none⟩), .bool b94] (Heap.upd H357 q157 (.cells #[.string s81, .bool b92] 86 (0, 0))) fun r94 H358 =>
   r94 = .tuple #[] ∧
   ∃ s83 : ByteArray,
   ∃ b95 : Bool,
   H358 q157 = some (.cells #[.string s83, .bool b95] 86 (0, 0)) ∧
   letH (Heap.del H358 q157) fun H359 =>
   ptrm p1 fun q158 o54 =>
   ∃ l142 : Sl,
   cellH H359 ⟨q158, o54 + 3, none⟩ = some (.slice l142.p l142.n l142.c) ∧
   ∃ n167 : Int,
   cellH H359 ⟨q152, 0, none⟩ = some (.int .i64 n167) ∧
   ∃ n168 : Int,
   cellH H359 ⟨q152, 1, none⟩ = some (.int .i64 n168) ∧
   ∃ n169 : Int,
   cellH H359 ⟨q152, 2, none⟩ = some (.int .i64 n169) ∧
   ∃ n170 : Int,
   cellH H359 ⟨q152, 3, none⟩ = some (.int .i64 n170) ∧
   ∃ l143 : Sl,
   cellH H359 ⟨q152, 4, none⟩ = some (.slice l143.p l143.n l143.c) ∧
   ∃ l144 : Sl,
   cellH H359 ⟨q152, 5, none⟩ = some (.slice l144.p l144.n l144.c) ∧
   ∃ l145 : Sl,
   cellH H359 ⟨q152, 6, none⟩ = some (.slice l145.p l145.n l145.c) ∧
   ∃ l146 : Sl,
   cellH H359 ⟨q152, 7, none⟩ = some (.slice l146.p l146.n l146.c) ∧
   ∃ n171 : Int,
   cellH H359 ⟨q152, 8, none⟩ = some (.int .i64 n171) ∧
   ∀ q159 : Nat,
   H359 q159 = none →
   letH (Heap.upd H359 q159 (.cells #[.int .i64 n167, .int .i64 n168, .int .i64 n169, .int .i64 n170, .slice l143.p l143.n l143.c, .slice l144.p l144.n l144.c, .slice l145.p l145.n l145.c, .slice l146.p l146.n l146.c, .int .i64 n171] 41 (0, 0))) fun H360 =>
   Sub H359 H360 ∧
   runH Tryz.prog (Builtin.append_ #[35, 35] 35 #[.slice l142.p l142.n l142.c, .slice (some ⟨q159, 0, none⟩) 1 1]) H360 fun r95 H361 =>
   ∃ l147 : Sl,
   r95 = .slice l147.p l147.n l147.c ∧
   ptrm p1 fun q160 o55 =>
   (∃ u, cellH H361 ⟨q160, o55 + 3, none⟩ = some u) ∧
   frozenH H361 ⟨q160, o55 + 3, none⟩ = false ∧
   letH (Heap.set H361 ⟨q160, o55 + 3, none⟩ (.slice l147.p l147.n l147.c)) fun H362 =>
   SelfEq ([.loc 0 0, .v (.pointer p1), .v (.int .i64 n8)], [], [86]) ∧
   I2 (IntKind.wrap .i64 (n_2 - 1)) s83 b95 H362 ∧
   M2 (IntKind.wrap .i64 (n_2 - 1)) s83 b95 H362 < M2 n_2 s12 b11 H25)) ∧
   ∀ q161 : Nat,
   H339 q161 = none →
   letH (Heap.upd H339 q161 (.cells #[.int .i64 0, .int .i64 0, .int .i64 0, .int .i64 0, .slice none 0 0, .slice none 0 0, .slice none 0 0, .slice none 0 0, .int .i64 0] 41 (0, 0))) fun H363 =>
   ∀ q162 : Nat,
   H363 q162 = none →
   FnH Tryz.prog 47 #[.pointer (some ⟨q162, 0, none⟩), .int .i64 1, .int .i64 5] (Heap.upd H363 q162 (.cells #[.string s79, .bool b90] 86 (0, 0))) fun r96 H364 =>
   ∃ n172 : Int,
   r96 = .int .i64 n172 ∧
   ∃ s84 : ByteArray,
   ∃ b96 : Bool,
   H364 q162 = some (.cells #[.string s84, .bool b96] 86 (0, 0)) ∧
   letH (Heap.del H364 q162) fun H365 =>
   (∃ u, cellH H365 ⟨q161, 0, none⟩ = some u) ∧
   frozenH H365 ⟨q161, 0, none⟩ = false ∧
   letH (Heap.set H365 ⟨q161, 0, none⟩ (.int .i64 (IntKind.wrap .i64 ((l136.n : Nat) + 1)))) fun H366 =>
   (∃ u, cellH H366 ⟨q161, 1, none⟩ = some u) ∧
   frozenH H366 ⟨q161, 1, none⟩ = false ∧
   letH (Heap.set H366 ⟨q161, 1, none⟩ (.int .i64 n74)) fun H367 =>
   (∃ u, cellH H367 ⟨q161, 2, none⟩ = some u) ∧
   frozenH H367 ⟨q161, 2, none⟩ = false ∧
   letH (Heap.set H367 ⟨q161, 2, none⟩ (.int .i64 n124)) fun H368 =>
   (∃ u, cellH H368 ⟨q161, 3, none⟩ = some u) ∧
   frozenH H368 ⟨q161, 3, none⟩ = false ∧
   letH (Heap.set H368 ⟨q161, 3, none⟩ (.int .i64 n160)) fun H369 =>
   (∃ u, cellH H369 ⟨q161, 4, none⟩ = some u) ∧
   frozenH H369 ⟨q161, 4, none⟩ = false ∧
   letH (Heap.set H369 ⟨q161, 4, none⟩ (.slice none 0 0)) fun H370 =>
   (∃ u, cellH H370 ⟨q161, 5, none⟩ = some u) ∧
   frozenH H370 ⟨q161, 5, none⟩ = false ∧
   letH (Heap.set H370 ⟨q161, 5, none⟩ (.slice none 0 0)) fun H371 =>
   (∃ u, cellH H371 ⟨q161, 6, none⟩ = some u) ∧
   frozenH H371 ⟨q161, 6, none⟩ = false ∧
   letH (Heap.set H371 ⟨q161, 6, none⟩ (.slice none 0 0)) fun H372 =>
   (∃ u, cellH H372 ⟨q161, 7, none⟩ = some u) ∧
   frozenH H372 ⟨q161, 7, none⟩ = false ∧
   letH (Heap.set H372 ⟨q161, 7, none⟩ (.slice none 0 0)) fun H373 =>
   (∃ u, cellH H373 ⟨q161, 8, none⟩ = some u) ∧
   frozenH H373 ⟨q161, 8, none⟩ = false ∧
   letH (Heap.set H373 ⟨q161, 8, none⟩ (.int .i64 n172)) fun H374 =>
   ∀ q163 : Nat,
   H374 q163 = none →
   letH (Heap.upd H374 q163 (.cells #[.pointer (some ⟨q161, 4, none⟩), .pointer (some ⟨q161, 5, none⟩), .pointer (some ⟨q161, 6, none⟩), .pointer (some ⟨q161, 7, none⟩)] 88 (0, 0))) fun H375 =>
   ∃ I16 : Int → ByteArray → Bool → Heap → Prop,
   ∃ M16 : Int → ByteArray → Bool → Heap → Nat,
   I16 0 s84 b96 H375 ∧
   ∀ n_16 : Int,
   ∀ s85 : ByteArray,
   ∀ b97 : Bool,
   ∀ H376 : Heap,
   I16 n_16 s85 b97 H376 →
   br (decide ((n_16 : Int) < (4 : Nat))) (
   ∃ q164 : Nat,
   ∃ o56 : Nat,
   ((some ⟨q163, 0, none⟩) : Option Addr) = some ⟨q164, o56, none⟩ ∧
   0 ≤ (n_16 : Int) ∧
   (n_16 : Int) < (4 : Nat) ∧
   ∃ p15 : Option Addr,
   cellH H376 ⟨q164, o56 + Int.toNat n_16, none⟩ = some (.pointer p15) ∧
   ∀ q165 : Nat,
   H376 q165 = none →
   FnH Tryz.prog 49 #[.pointer (some ⟨q165, 0, none⟩), .int .i64 7, .int .i64 1, .int .i64 7] (Heap.upd H376 q165 (.cells #[.string s85, .bool b97] 86 (0, 0))) fun r97 H377 =>
   ∃ l148 : Sl,
   r97 = .slice l148.p l148.n l148.c ∧
   ∃ s86 : ByteArray,
   ∃ b98 : Bool,
   H377 q165 = some (.cells #[.string s86, .bool b98] 86 (0, 0)) ∧
   letH (Heap.del H377 q165) fun H378 =>
   ptrm p15 fun q166 o57 =>
   (∃ u, cellH H378 ⟨q166, o57, none⟩ = some u) ∧
   frozenH H378 ⟨q166, o57, none⟩ = false ∧
   letH (Heap.set H378 ⟨q166, o57, none⟩ (.slice l148.p l148.n l148.c)) fun H379 =>
   SelfEq ([.loc 0 0, .v (.pointer p1), .v (.int .i64 n8), .v (.int .i64 n_2), .v (.pointer (some ⟨q161, 0, none⟩)), .v (.slice (some ⟨q163, 0, none⟩) 4 4), .v (.int .i64 (4 : Nat))], [], [86]) ∧
   I16 (IntKind.wrap .i64 (n_16 + 1)) s86 b98 H379 ∧
   M16 (IntKind.wrap .i64 (n_16 + 1)) s86 b98 H379 < M16 n_16 s85 b97 H376)
   (
   ∃ n173 : Int,
   cellH H376 ⟨q161, 0, none⟩ = some (.int .i64 n173) ∧
   ∃ n174 : Int,
   cellH H376 ⟨q161, 1, none⟩ = some (.int .i64 n174) ∧
   ∃ n175 : Int,
   cellH H376 ⟨q161, 2, none⟩ = some (.int .i64 n175) ∧
   ∃ n176 : Int,
   cellH H376 ⟨q161, 3, none⟩ = some (.int .i64 n176) ∧
   ∃ l149 : Sl,
   cellH H376 ⟨q161, 4, none⟩ = some (.slice l149.p l149.n l149.c) ∧
   ∃ l150 : Sl,
   cellH H376 ⟨q161, 5, none⟩ = some (.slice l150.p l150.n l150.c) ∧
   ∃ l151 : Sl,
   cellH H376 ⟨q161, 6, none⟩ = some (.slice l151.p l151.n l151.c) ∧
   ∃ l152 : Sl,
   cellH H376 ⟨q161, 7, none⟩ = some (.slice l152.p l152.n l152.c) ∧
   ∃ n177 : Int,
   cellH H376 ⟨q161, 8, none⟩ = some (.int .i64 n177) ∧
   FnH Tryz.prog 51 #[.agg #[.int .i64 n173, .int .i64 n174, .int .i64 n175, .int .i64 n176, .slice l149.p l149.n l149.c, .slice l150.p l150.n l150.c, .slice l151.p l151.n l151.c, .slice l152.p l152.n l152.c, .int .i64 n177]] H376 fun r98 H380 =>
   ∃ b99 : Bool,
   r98 = .bool b99 ∧
   ∀ q167 : Nat,
   H380 q167 = none →
   FnH Tryz.prog 50 #[.pointer (some ⟨q167, 0, none⟩), .bool b99] (Heap.upd H380 q167 (.cells #[.string s85, .bool b97] 86 (0, 0))) fun r99 H381 =>
   r99 = .tuple #[] ∧
   ∃ s87 : ByteArray,
   ∃ b100 : Bool,
   H381 q167 = some (.cells #[.string s87, .bool b100] 86 (0, 0)) ∧
   letH (Heap.del H381 q167) fun H382 =>
   ptrm p1 fun q168 o58 =>
   ∃ l153 : Sl,
   cellH H382 ⟨q168, o58 + 3, none⟩ = some (.slice l153.p l153.n l153.c) ∧
   ∃ n178 : Int,
   cellH H382 ⟨q161, 0, none⟩ = some (.int .i64 n178) ∧
   ∃ n179 : Int,
   cellH H382 ⟨q161, 1, none⟩ = some (.int .i64 n179) ∧
   ∃ n180 : Int,
   cellH H382 ⟨q161, 2, none⟩ = some (.int .i64 n180) ∧
   ∃ n181 : Int,
   cellH H382 ⟨q161, 3, none⟩ = some (.int .i64 n181) ∧
   ∃ l154 : Sl,
   cellH H382 ⟨q161, 4, none⟩ = some (.slice l154.p l154.n l154.c) ∧
   ∃ l155 : Sl,
   cellH H382 ⟨q161, 5, none⟩ = some (.slice l155.p l155.n l155.c) ∧
   ∃ l156 : Sl,
   cellH H382 ⟨q161, 6, none⟩ = some (.slice l156.p l156.n l156.c) ∧
   ∃ l157 : Sl,
   cellH H382 ⟨q161, 7, none⟩ = some (.slice l157.p l157.n l157.c) ∧
   ∃ n182 : Int,
   cellH H382 ⟨q161, 8, none⟩ = some (.int .i64 n182) ∧
   ∀ q169 : Nat,
   H382 q169 = none →
   letH (Heap.upd H382 q169 (.cells #[.int .i64 n178, .int .i64 n179, .int .i64 n180, .int .i64 n181, .slice l154.p l154.n l154.c, .slice l155.p l155.n l155.c, .slice l156.p l156.n l156.c, .slice l157.p l157.n l157.c, .int .i64 n182] 41 (0, 0))) fun H383 =>
   Sub H382 H383 ∧
   runH Tryz.prog (Builtin.append_ #[35, 35] 35 #[.slice l153.p l153.n l153.c, .slice (some ⟨q169, 0, none⟩) 1 1]) H383 fun r100 H384 =>
   ∃ l158 : Sl,
   r100 = .slice l158.p l158.n l158.c ∧
   ptrm p1 fun q170 o59 =>
   (∃ u, cellH H384 ⟨q170, o59 + 3, none⟩ = some u) ∧
   frozenH H384 ⟨q170, o59 + 3, none⟩ = false ∧
   letH (Heap.set H384 ⟨q170, o59 + 3, none⟩ (.slice l158.p l158.n l158.c)) fun H385 =>
   SelfEq ([.loc 0 0, .v (.pointer p1), .v (.int .i64 n8)], [], [86]) ∧
   I2 (IntKind.wrap .i64 (n_2 - 1)) s87 b100 H385 ∧
   M2 (IntKind.wrap .i64 (n_2 - 1)) s87 b100 H385 < M2 n_2 s12 b11 H25)) ∧
   (∀ q171 : Nat,
   H339 q171 = none →
   FnH Tryz.prog 47 #[.pointer (some ⟨q171, 0, none⟩), .int .i64 1, .int .i64 5] (Heap.upd H339 q171 (.cells #[.string s79, .bool b90] 86 (0, 0))) fun r101 H386 =>
   ∃ n183 : Int,
   r101 = .int .i64 n183 ∧
   ∃ s88 : ByteArray,
   ∃ b101 : Bool,
   H386 q171 = some (.cells #[.string s88, .bool b101] 86 (0, 0)) ∧
   letH (Heap.del H386 q171) fun H387 =>
   (∃ l159 : Sl,
   cellH H387 ⟨q11, o3 + 3, none⟩ = some (.slice l159.p l159.n l159.c) ∧
   ∀ q172 : Nat,
   H387 q172 = none →
   letH (Heap.upd H387 q172 (.cells #[.int .i64 0, .int .i64 0, .int .i64 0, .int .i64 0, .slice none 0 0, .slice none 0 0, .slice none 0 0, .slice none 0 0, .int .i64 0] 41 (0, 0))) fun H388 =>
   (∃ u, cellH H388 ⟨q172, 0, none⟩ = some u) ∧
   frozenH H388 ⟨q172, 0, none⟩ = false ∧
   letH (Heap.set H388 ⟨q172, 0, none⟩ (.int .i64 (IntKind.wrap .i64 ((l159.n : Nat) + 1)))) fun H389 =>
   (∃ u, cellH H389 ⟨q172, 1, none⟩ = some u) ∧
   frozenH H389 ⟨q172, 1, none⟩ = false ∧
   letH (Heap.set H389 ⟨q172, 1, none⟩ (.int .i64 n74)) fun H390 =>
   (∃ u, cellH H390 ⟨q172, 2, none⟩ = some u) ∧
   frozenH H390 ⟨q172, 2, none⟩ = false ∧
   letH (Heap.set H390 ⟨q172, 2, none⟩ (.int .i64 n124)) fun H391 =>
   (∃ u, cellH H391 ⟨q172, 3, none⟩ = some u) ∧
   frozenH H391 ⟨q172, 3, none⟩ = false ∧
   letH (Heap.set H391 ⟨q172, 3, none⟩ (.int .i64 n160)) fun H392 =>
   (∃ u, cellH H392 ⟨q172, 4, none⟩ = some u) ∧
   frozenH H392 ⟨q172, 4, none⟩ = false ∧
   letH (Heap.set H392 ⟨q172, 4, none⟩ (.slice none 0 0)) fun H393 =>
   (∃ u, cellH H393 ⟨q172, 5, none⟩ = some u) ∧
   frozenH H393 ⟨q172, 5, none⟩ = false ∧
   letH (Heap.set H393 ⟨q172, 5, none⟩ (.slice none 0 0)) fun H394 =>
   (∃ u, cellH H394 ⟨q172, 6, none⟩ = some u) ∧
   frozenH H394 ⟨q172, 6, none⟩ = false ∧
   letH (Heap.set H394 ⟨q172, 6, none⟩ (.slice none 0 0)) fun H395 =>
   (∃ u, cellH H395 ⟨q172, 7, none⟩ = some u) ∧
   frozenH H395 ⟨q172, 7, none⟩ = false ∧
   letH (Heap.set H395 ⟨q172, 7, none⟩ (.slice none 0 0)) fun H396 =>
   (∃ u, cellH H396 ⟨q172, 8, none⟩ = some u) ∧
   frozenH H396 ⟨q172, 8, none⟩ = false ∧
   letH (Heap.set H396 ⟨q172, 8, none⟩ (.int .i64 n183)) fun H397 =>
   ∀ q173 : Nat,
   H397 q173 = none →
   letH (Heap.upd H397 q173 (.cells #[.pointer (some ⟨q172, 4, none⟩), .pointer (some ⟨q172, 5, none⟩), .pointer (some ⟨q172, 6, none⟩), .pointer (some ⟨q172, 7, none⟩)] 88 (0, 0))) fun H398 =>
   ∃ I17 : Int → ByteArray → Bool → Heap → Prop,
   ∃ M17 : Int → ByteArray → Bool → Heap → Nat,
   I17 0 s88 b101 H398 ∧
   ∀ n_17 : Int,
   ∀ s89 : ByteArray,
   ∀ b102 : Bool,
   ∀ H399 : Heap,
   I17 n_17 s89 b102 H399 →
   br (decide ((n_17 : Int) < (4 : Nat))) (
   ∃ q174 : Nat,
   ∃ o60 : Nat,
   ((some ⟨q173, 0, none⟩) : Option Addr) = some ⟨q174, o60, none⟩ ∧
   0 ≤ (n_17 : Int) ∧
   (n_17 : Int) < (4 : Nat) ∧
   ∃ p16 : Option Addr,
   cellH H399 ⟨q174, o60 + Int.toNat n_17, none⟩ = some (.pointer p16) ∧
   ∀ q175 : Nat,
   H399 q175 = none →
   FnH Tryz.prog 49 #[.pointer (some ⟨q175, 0, none⟩), .int .i64 7, .int .i64 1, .int .i64 7] (Heap.upd H399 q175 (.cells #[.string s89, .bool b102] 86 (0, 0))) fun r102 H400 =>
   ∃ l160 : Sl,
   r102 = .slice l160.p l160.n l160.c ∧
   ∃ s90 : ByteArray,
   ∃ b103 : Bool,
   H400 q175 = some (.cells #[.string s90, .bool b103] 86 (0, 0)) ∧
   letH (Heap.del H400 q175) fun H401 =>
   ptrm p16 fun q176 o61 =>
   (∃ u, cellH H401 ⟨q176, o61, none⟩ = some u) ∧
   frozenH H401 ⟨q176, o61, none⟩ = false ∧
   letH (Heap.set H401 ⟨q176, o61, none⟩ (.slice l160.p l160.n l160.c)) fun H402 =>
   SelfEq ([.loc 0 0, .v (.pointer p1), .v (.int .i64 n8), .v (.int .i64 n_2), .v (.pointer (some ⟨q172, 0, none⟩)), .v (.slice (some ⟨q173, 0, none⟩) 4 4), .v (.int .i64 (4 : Nat))], [], [86]) ∧
   I17 (IntKind.wrap .i64 (n_17 + 1)) s90 b103 H402 ∧
   M17 (IntKind.wrap .i64 (n_17 + 1)) s90 b103 H402 < M17 n_17 s89 b102 H399)
   (
   ∃ n184 : Int,
   cellH H399 ⟨q172, 0, none⟩ = some (.int .i64 n184) ∧
   ∃ n185 : Int,
   cellH H399 ⟨q172, 1, none⟩ = some (.int .i64 n185) ∧
   ∃ n186 : Int,
   cellH H399 ⟨q172, 2, none⟩ = some (.int .i64 n186) ∧
   ∃ n187 : Int,
   cellH H399 ⟨q172, 3, none⟩ = some (.int .i64 n187) ∧
   ∃ l161 : Sl,
   cellH H399 ⟨q172, 4, none⟩ = some (.slice l161.p l161.n l161.c) ∧
   ∃ l162 : Sl,
   cellH H399 ⟨q172, 5, none⟩ = some (.slice l162.p l162.n l162.c) ∧
   ∃ l163 : Sl,
   cellH H399 ⟨q172, 6, none⟩ = some (.slice l163.p l163.n l163.c) ∧
   ∃ l164 : Sl,
   cellH H399 ⟨q172, 7, none⟩ = some (.slice l164.p l164.n l164.c) ∧
   ∃ n188 : Int,
   cellH H399 ⟨q172, 8, none⟩ = some (.int .i64 n188) ∧
   FnH Tryz.prog 51 #[.agg #[.int .i64 n184, .int .i64 n185, .int .i64 n186, .int .i64 n187, .slice l161.p l161.n l161.c, .slice l162.p l162.n l162.c, .slice l163.p l163.n l163.c, .slice l164.p l164.n l164.c, .int .i64 n188]] H399 fun r103 H403 =>
   ∃ b104 : Bool,
   r103 = .bool b104 ∧
   ∀ q177 : Nat,
   H403 q177 = none →
   FnH Tryz.prog 50 #[.pointer (some ⟨q177, 0, none⟩), .bool b104] (Heap.upd H403 q177 (.cells #[.string s89, .bool b102] 86 (0, 0))) fun r104 H404 =>
   r104 = .tuple #[] ∧
   ∃ s91 : ByteArray,
   ∃ b105 : Bool,
   H404 q177 = some (.cells #[.string s91, .bool b105] 86 (0, 0)) ∧
   letH (Heap.del H404 q177) fun H405 =>
   ptrm p1 fun q178 o62 =>
   ∃ l165 : Sl,
   cellH H405 ⟨q178, o62 + 3, none⟩ = some (.slice l165.p l165.n l165.c) ∧
   ∃ n189 : Int,
   cellH H405 ⟨q172, 0, none⟩ = some (.int .i64 n189) ∧
   ∃ n190 : Int,
   cellH H405 ⟨q172, 1, none⟩ = some (.int .i64 n190) ∧
   ∃ n191 : Int,
   cellH H405 ⟨q172, 2, none⟩ = some (.int .i64 n191) ∧
   ∃ n192 : Int,
   cellH H405 ⟨q172, 3, none⟩ = some (.int .i64 n192) ∧
   ∃ l166 : Sl,
   cellH H405 ⟨q172, 4, none⟩ = some (.slice l166.p l166.n l166.c) ∧
   ∃ l167 : Sl,
   cellH H405 ⟨q172, 5, none⟩ = some (.slice l167.p l167.n l167.c) ∧
   ∃ l168 : Sl,
   cellH H405 ⟨q172, 6, none⟩ = some (.slice l168.p l168.n l168.c) ∧
   ∃ l169 : Sl,
   cellH H405 ⟨q172, 7, none⟩ = some (.slice l169.p l169.n l169.c) ∧
   ∃ n193 : Int,
   cellH H405 ⟨q172, 8, none⟩ = some (.int .i64 n193) ∧
   ∀ q179 : Nat,
   H405 q179 = none →
   letH (Heap.upd H405 q179 (.cells #[.int .i64 n189, .int .i64 n190, .int .i64 n191, .int .i64 n192, .slice l166.p l166.n l166.c, .slice l167.p l167.n l167.c, .slice l168.p l168.n l168.c, .slice l169.p l169.n l169.c, .int .i64 n193] 41 (0, 0))) fun H406 =>
   Sub H405 H406 ∧
   runH Tryz.prog (Builtin.append_ #[35, 35] 35 #[.slice l165.p l165.n l165.c, .slice (some ⟨q179, 0, none⟩) 1 1]) H406 fun r105 H407 =>
   ∃ l170 : Sl,
   r105 = .slice l170.p l170.n l170.c ∧
   ptrm p1 fun q180 o63 =>
   (∃ u, cellH H407 ⟨q180, o63 + 3, none⟩ = some u) ∧
   frozenH H407 ⟨q180, o63 + 3, none⟩ = false ∧
   letH (Heap.set H407 ⟨q180, o63 + 3, none⟩ (.slice l170.p l170.n l170.c)) fun H408 =>
   SelfEq ([.loc 0 0, .v (.pointer p1), .v (.int .i64 n8)], [], [86]) ∧
   I2 (IntKind.wrap .i64 (n_2 - 1)) s91 b105 H408 ∧
   M2 (IntKind.wrap .i64 (n_2 - 1)) s91 b105 H408 < M2 n_2 s12 b11 H25)) ∧
   ∀ q181 : Nat,
   H387 q181 = none →
   letH (Heap.upd H387 q181 (.cells #[.int .i64 0, .int .i64 0, .int .i64 0, .int .i64 0, .slice none 0 0, .slice none 0 0, .slice none 0 0, .slice none 0 0, .int .i64 0] 41 (0, 0))) fun H409 =>
   ∃ l171 : Sl,
   cellH H409 ⟨q11, o3 + 3, none⟩ = some (.slice l171.p l171.n l171.c) ∧
   (∃ u, cellH H409 ⟨q181, 0, none⟩ = some u) ∧
   frozenH H409 ⟨q181, 0, none⟩ = false ∧
   letH (Heap.set H409 ⟨q181, 0, none⟩ (.int .i64 (IntKind.wrap .i64 ((l171.n : Nat) + 1)))) fun H410 =>
   (∃ u, cellH H410 ⟨q181, 1, none⟩ = some u) ∧
   frozenH H410 ⟨q181, 1, none⟩ = false ∧
   letH (Heap.set H410 ⟨q181, 1, none⟩ (.int .i64 n74)) fun H411 =>
   (∃ u, cellH H411 ⟨q181, 2, none⟩ = some u) ∧
   frozenH H411 ⟨q181, 2, none⟩ = false ∧
   letH (Heap.set H411 ⟨q181, 2, none⟩ (.int .i64 n124)) fun H412 =>
   (∃ u, cellH H412 ⟨q181, 3, none⟩ = some u) ∧
   frozenH H412 ⟨q181, 3, none⟩ = false ∧
   letH (Heap.set H412 ⟨q181, 3, none⟩ (.int .i64 n160)) fun H413 =>
   (∃ u, cellH H413 ⟨q181, 4, none⟩ = some u) ∧
   frozenH H413 ⟨q181, 4, none⟩ = false ∧
   letH (Heap.set H413 ⟨q181, 4, none⟩ (.slice none 0 0)) fun H414 =>
   (∃ u, cellH H414 ⟨q181, 5, none⟩ = some u) ∧
   frozenH H414 ⟨q181, 5, none⟩ = false ∧
   letH (Heap.set H414 ⟨q181, 5, none⟩ (.slice none 0 0)) fun H415 =>
   (∃ u, cellH H415 ⟨q181, 6, none⟩ = some u) ∧
   frozenH H415 ⟨q181, 6, none⟩ = false ∧
   letH (Heap.set H415 ⟨q181, 6, none⟩ (.slice none 0 0)) fun H416 =>
   (∃ u, cellH H416 ⟨q181, 7, none⟩ = some u) ∧
   frozenH H416 ⟨q181, 7, none⟩ = false ∧
   letH (Heap.set H416 ⟨q181, 7, none⟩ (.slice none 0 0)) fun H417 =>
   (∃ u, cellH H417 ⟨q181, 8, none⟩ = some u) ∧
   frozenH H417 ⟨q181, 8, none⟩ = false ∧
   letH (Heap.set H417 ⟨q181, 8, none⟩ (.int .i64 n183)) fun H418 =>
   ∀ q182 : Nat,
   H418 q182 = none →
   letH (Heap.upd H418 q182 (.cells #[.pointer (some ⟨q181, 4, none⟩), .pointer (some ⟨q181, 5, none⟩), .pointer (some ⟨q181, 6, none⟩), .pointer (some ⟨q181, 7, none⟩)] 88 (0, 0))) fun H419 =>
   ∃ I18 : Int → ByteArray → Bool → Heap → Prop,
   ∃ M18 : Int → ByteArray → Bool → Heap → Nat,
   I18 0 s88 b101 H419 ∧
   ∀ n_18 : Int,
   ∀ s92 : ByteArray,
   ∀ b106 : Bool,
   ∀ H420 : Heap,
   I18 n_18 s92 b106 H420 →
   br (decide ((n_18 : Int) < (4 : Nat))) (
   ∃ q183 : Nat,
   ∃ o64 : Nat,
   ((some ⟨q182, 0, none⟩) : Option Addr) = some ⟨q183, o64, none⟩ ∧
   0 ≤ (n_18 : Int) ∧
   (n_18 : Int) < (4 : Nat) ∧
   ∃ p17 : Option Addr,
   cellH H420 ⟨q183, o64 + Int.toNat n_18, none⟩ = some (.pointer p17) ∧
   ∀ q184 : Nat,
   H420 q184 = none →
   FnH Tryz.prog 49 #[.pointer (some ⟨q184, 0, none⟩), .int .i64 7, .int .i64 1, .int .i64 7] (Heap.upd H420 q184 (.cells #[.string s92, .bool b106] 86 (0, 0))) fun r106 H421 =>
   ∃ l172 : Sl,
   r106 = .slice l172.p l172.n l172.c ∧
   ∃ s93 : ByteArray,
   ∃ b107 : Bool,
   H421 q184 = some (.cells #[.string s93, .bool b107] 86 (0, 0)) ∧
   letH (Heap.del H421 q184) fun H422 =>
   ptrm p17 fun q185 o65 =>
   (∃ u, cellH H422 ⟨q185, o65, none⟩ = some u) ∧
   frozenH H422 ⟨q185, o65, none⟩ = false ∧
   letH (Heap.set H422 ⟨q185, o65, none⟩ (.slice l172.p l172.n l172.c)) fun H423 =>
   SelfEq ([.loc 0 0, .v (.pointer p1), .v (.int .i64 n8), .v (.int .i64 n_2), .v (.pointer (some ⟨q181, 0, none⟩)), .v (.slice (some ⟨q182, 0, none⟩) 4 4), .v (.int .i64 (4 : Nat))], [], [86]) ∧
   I18 (IntKind.wrap .i64 (n_18 + 1)) s93 b107 H423 ∧
   M18 (IntKind.wrap .i64 (n_18 + 1)) s93 b107 H423 < M18 n_18 s92 b106 H420)
   (
   ∃ n194 : Int,
   cellH H420 ⟨q181, 0, none⟩ = some (.int .i64 n194) ∧
   ∃ n195 : Int,
   cellH H420 ⟨q181, 1, none⟩ = some (.int .i64 n195) ∧
   ∃ n196 : Int,
   cellH H420 ⟨q181, 2, none⟩ = some (.int .i64 n196) ∧
   ∃ n197 : Int,
   cellH H420 ⟨q181, 3, none⟩ = some (.int .i64 n197) ∧
   ∃ l173 : Sl,
   cellH H420 ⟨q181, 4, none⟩ = some (.slice l173.p l173.n l173.c) ∧
   ∃ l174 : Sl,
   cellH H420 ⟨q181, 5, none⟩ = some (.slice l174.p l174.n l174.c) ∧
   ∃ l175 : Sl,
   cellH H420 ⟨q181, 6, none⟩ = some (.slice l175.p l175.n l175.c) ∧
   ∃ l176 : Sl,
   cellH H420 ⟨q181, 7, none⟩ = some (.slice l176.p l176.n l176.c) ∧
   ∃ n198 : Int,
   cellH H420 ⟨q181, 8, none⟩ = some (.int .i64 n198) ∧
   FnH Tryz.prog 51 #[.agg #[.int .i64 n194, .int .i64 n195, .int .i64 n196, .int .i64 n197, .slice l173.p l173.n l173.c, .slice l174.p l174.n l174.c, .slice l175.p l175.n l175.c, .slice l176.p l176.n l176.c, .int .i64 n198]] H420 fun r107 H424 =>
   ∃ b108 : Bool,
   r107 = .bool b108 ∧
   ∀ q186 : Nat,
   H424 q186 = none →
   FnH Tryz.prog 50 #[.pointer (some ⟨q186, 0, none⟩), .bool b108] (Heap.upd H424 q186 (.cells #[.string s92, .bool b106] 86 (0, 0))) fun r108 H425 =>
   r108 = .tuple #[] ∧
   ∃ s94 : ByteArray,
   ∃ b109 : Bool,
   H425 q186 = some (.cells #[.string s94, .bool b109] 86 (0, 0)) ∧
   letH (Heap.del H425 q186) fun H426 =>
   ptrm p1 fun q187 o66 =>
   ∃ l177 : Sl,
   cellH H426 ⟨q187, o66 + 3, none⟩ = some (.slice l177.p l177.n l177.c) ∧
   ∃ n199 : Int,
   cellH H426 ⟨q181, 0, none⟩ = some (.int .i64 n199) ∧
   ∃ n200 : Int,
   cellH H426 ⟨q181, 1, none⟩ = some (.int .i64 n200) ∧
   ∃ n201 : Int,
   cellH H426 ⟨q181, 2, none⟩ = some (.int .i64 n201) ∧
   ∃ n202 : Int,
   cellH H426 ⟨q181, 3, none⟩ = some (.int .i64 n202) ∧
   ∃ l178 : Sl,
   cellH H426 ⟨q181, 4, none⟩ = some (.slice l178.p l178.n l178.c) ∧
   ∃ l179 : Sl,
   cellH H426 ⟨q181, 5, none⟩ = some (.slice l179.p l179.n l179.c) ∧
   ∃ l180 : Sl,
   cellH H426 ⟨q181, 6, none⟩ = some (.slice l180.p l180.n l180.c) ∧
   ∃ l181 : Sl,
   cellH H426 ⟨q181, 7, none⟩ = some (.slice l181.p l181.n l181.c) ∧
   ∃ n203 : Int,
   cellH H426 ⟨q181, 8, none⟩ = some (.int .i64 n203) ∧
   ∀ q188 : Nat,
   H426 q188 = none →
   letH (Heap.upd H426 q188 (.cells #[.int .i64 n199, .int .i64 n200, .int .i64 n201, .int .i64 n202, .slice l178.p l178.n l178.c, .slice l179.p l179.n l179.c, .slice l180.p l180.n l180.c, .slice l181.p l181.n l181.c, .int .i64 n203] 41 (0, 0))) fun H427 =>
   Sub H426 H427 ∧
   runH Tryz.prog (Builtin.append_ #[35, 35] 35 #[.slice l177.p l177.n l177.c, .slice (some ⟨q188, 0, none⟩) 1 1]) H427 fun r109 H428 =>
   ∃ l182 : Sl,
   r109 = .slice l182.p l182.n l182.c ∧
   ptrm p1 fun q189 o67 =>
   (∃ u, cellH H428 ⟨q189, o67 + 3, none⟩ = some u) ∧
   frozenH H428 ⟨q189, o67 + 3, none⟩ = false ∧
   letH (Heap.set H428 ⟨q189, o67 + 3, none⟩ (.slice l182.p l182.n l182.c)) fun H429 =>
   SelfEq ([.loc 0 0, .v (.pointer p1), .v (.int .i64 n8)], [], [86]) ∧
   I2 (IntKind.wrap .i64 (n_2 - 1)) s94 b109 H429 ∧
   M2 (IntKind.wrap .i64 (n_2 - 1)) s94 b109 H429 < M2 n_2 s12 b11 H25)) ∧
   ∀ q190 : Nat,
   H339 q190 = none →
   letH (Heap.upd H339 q190 (.cells #[.int .i64 0, .int .i64 0, .int .i64 0, .int .i64 0, .slice none 0 0, .slice none 0 0, .slice none 0 0, .slice none 0 0, .int .i64 0] 41 (0, 0))) fun H430 =>
   (∃ l183 : Sl,
   cellH H430 ⟨q11, o3 + 3, none⟩ = some (.slice l183.p l183.n l183.c) ∧
   ∀ q191 : Nat,
   H430 q191 = none →
   FnH Tryz.prog 47 #[.pointer (some ⟨q191, 0, none⟩), .int .i64 1, .int .i64 5] (Heap.upd H430 q191 (.cells #[.string s79, .bool b90] 86 (0, 0))) fun r110 H431 =>
   ∃ n204 : Int,
   r110 = .int .i64 n204 ∧
   ∃ s95 : ByteArray,
   ∃ b110 : Bool,
   H431 q191 = some (.cells #[.string s95, .bool b110] 86 (0, 0)) ∧
   letH (Heap.del H431 q191) fun H432 =>
   (∃ u, cellH H432 ⟨q190, 0, none⟩ = some u) ∧
   frozenH H432 ⟨q190, 0, none⟩ = false ∧
   letH (Heap.set H432 ⟨q190, 0, none⟩ (.int .i64 (IntKind.wrap .i64 ((l183.n : Nat) + 1)))) fun H433 =>
   (∃ u, cellH H433 ⟨q190, 1, none⟩ = some u) ∧
   frozenH H433 ⟨q190, 1, none⟩ = false ∧
   letH (Heap.set H433 ⟨q190, 1, none⟩ (.int .i64 n74)) fun H434 =>
   (∃ u, cellH H434 ⟨q190, 2, none⟩ = some u) ∧
   frozenH H434 ⟨q190, 2, none⟩ = false ∧
   letH (Heap.set H434 ⟨q190, 2, none⟩ (.int .i64 n124)) fun H435 =>
   (∃ u, cellH H435 ⟨q190, 3, none⟩ = some u) ∧
   frozenH H435 ⟨q190, 3, none⟩ = false ∧
   letH (Heap.set H435 ⟨q190, 3, none⟩ (.int .i64 n160)) fun H436 =>
   (∃ u, cellH H436 ⟨q190, 4, none⟩ = some u) ∧
   frozenH H436 ⟨q190, 4, none⟩ = false ∧
   letH (Heap.set H436 ⟨q190, 4, none⟩ (.slice none 0 0)) fun H437 =>
   (∃ u, cellH H437 ⟨q190, 5, none⟩ = some u) ∧
   frozenH H437 ⟨q190, 5, none⟩ = false ∧
   letH (Heap.set H437 ⟨q190, 5, none⟩ (.slice none 0 0)) fun H438 =>
   (∃ u, cellH H438 ⟨q190, 6, none⟩ = some u) ∧
   frozenH H438 ⟨q190, 6, none⟩ = false ∧
   letH (Heap.set H438 ⟨q190, 6, none⟩ (.slice none 0 0)) fun H439 =>
   (∃ u, cellH H439 ⟨q190, 7, none⟩ = some u) ∧
   frozenH H439 ⟨q190, 7, none⟩ = false ∧
   letH (Heap.set H439 ⟨q190, 7, none⟩ (.slice none 0 0)) fun H440 =>
   (∃ u, cellH H440 ⟨q190, 8, none⟩ = some u) ∧
   frozenH H440 ⟨q190, 8, none⟩ = false ∧
   letH (Heap.set H440 ⟨q190, 8, none⟩ (.int .i64 n204)) fun H441 =>
   ∀ q192 : Nat,
   H441 q192 = none →
   letH (Heap.upd H441 q192 (.cells #[.pointer (some ⟨q190, 4, none⟩), .pointer (some ⟨q190, 5, none⟩), .pointer (some ⟨q190, 6, none⟩), .pointer (some ⟨q190, 7, none⟩)] 88 (0, 0))) fun H442 =>
   ∃ I19 : Int → ByteArray → Bool → Heap → Prop,
   ∃ M19 : Int → ByteArray → Bool → Heap → Nat,
   I19 0 s95 b110 H442 ∧
   ∀ n_19 : Int,
   ∀ s96 : ByteArray,
   ∀ b111 : Bool,
   ∀ H443 : Heap,
   I19 n_19 s96 b111 H443 →
   br (decide ((n_19 : Int) < (4 : Nat))) (
   ∃ q193 : Nat,
   ∃ o68 : Nat,
   ((some ⟨q192, 0, none⟩) : Option Addr) = some ⟨q193, o68, none⟩ ∧
   0 ≤ (n_19 : Int) ∧
   (n_19 : Int) < (4 : Nat) ∧
   ∃ p18 : Option Addr,
   cellH H443 ⟨q193, o68 + Int.toNat n_19, none⟩ = some (.pointer p18) ∧
   ∀ q194 : Nat,
   H443 q194 = none →
   FnH Tryz.prog 49 #[.pointer (some ⟨q194, 0, none⟩), .int .i64 7, .int .i64 1, .int .i64 7] (Heap.upd H443 q194 (.cells #[.string s96, .bool b111] 86 (0, 0))) fun r111 H444 =>
   ∃ l184 : Sl,
   r111 = .slice l184.p l184.n l184.c ∧
   ∃ s97 : ByteArray,
   ∃ b112 : Bool,
   H444 q194 = some (.cells #[.string s97, .bool b112] 86 (0, 0)) ∧
   letH (Heap.del H444 q194) fun H445 =>
   ptrm p18 fun q195 o69 =>
   (∃ u, cellH H445 ⟨q195, o69, none⟩ = some u) ∧
   frozenH H445 ⟨q195, o69, none⟩ = false ∧
   letH (Heap.set H445 ⟨q195, o69, none⟩ (.slice l184.p l184.n l184.c)) fun H446 =>
   SelfEq ([.loc 0 0, .v (.pointer p1), .v (.int .i64 n8), .v (.int .i64 n_2), .v (.pointer (some ⟨q190, 0, none⟩)), .v (.slice (some ⟨q192, 0, none⟩) 4 4), .v (.int .i64 (4 : Nat))], [], [86]) ∧
   I19 (IntKind.wrap .i64 (n_19 + 1)) s97 b112 H446 ∧
   M19 (IntKind.wrap .i64 (n_19 + 1)) s97 b112 H446 < M19 n_19 s96 b111 H443)
   (
   ∃ n205 : Int,
   cellH H443 ⟨q190, 0, none⟩ = some (.int .i64 n205) ∧
   ∃ n206 : Int,
   cellH H443 ⟨q190, 1, none⟩ = some (.int .i64 n206) ∧
   ∃ n207 : Int,
   cellH H443 ⟨q190, 2, none⟩ = some (.int .i64 n207) ∧
   ∃ n208 : Int,
   cellH H443 ⟨q190, 3, none⟩ = some (.int .i64 n208) ∧
   ∃ l185 : Sl,
   cellH H443 ⟨q190, 4, none⟩ = some (.slice l185.p l185.n l185.c) ∧
   ∃ l186 : Sl,
   cellH H443 ⟨q190, 5, none⟩ = some (.slice l186.p l186.n l186.c) ∧
   ∃ l187 : Sl,
   cellH H443 ⟨q190, 6, none⟩ = some (.slice l187.p l187.n l187.c) ∧
   ∃ l188 : Sl,
   cellH H443 ⟨q190, 7, none⟩ = some (.slice l188.p l188.n l188.c) ∧
   ∃ n209 : Int,
   cellH H443 ⟨q190, 8, none⟩ = some (.int .i64 n209) ∧
   FnH Tryz.prog 51 #[.agg #[.int .i64 n205, .int .i64 n206, .int .i64 n207, .int .i64 n208, .slice l185.p l185.n l185.c, .slice l186.p l186.n l186.c, .slice l187.p l187.n l187.c, .slice l188.p l188.n l188.c, .int .i64 n209]] H443 fun r112 H447 =>
   ∃ b113 : Bool,
   r112 = .bool b113 ∧
   ∀ q196 : Nat,
   H447 q196 = none →
   FnH Tryz.prog 50 #[.pointer (some ⟨q196, 0, none⟩), .bool b113] (Heap.upd H447 q196 (.cells #[.string s96, .bool b111] 86 (0, 0))) fun r113 H448 =>
   r113 = .tuple #[] ∧
   ∃ s98 : ByteArray,
   ∃ b114 : Bool,
   H448 q196 = some (.cells #[.string s98, .bool b114] 86 (0, 0)) ∧
   letH (Heap.del H448 q196) fun H449 =>
   ptrm p1 fun q197 o70 =>
   ∃ l189 : Sl,
   cellH H449 ⟨q197, o70 + 3, none⟩ = some (.slice l189.p l189.n l189.c) ∧
   ∃ n210 : Int,
   cellH H449 ⟨q190, 0, none⟩ = some (.int .i64 n210) ∧
   ∃ n211 : Int,
   cellH H449 ⟨q190, 1, none⟩ = some (.int .i64 n211) ∧
   ∃ n212 : Int,
   cellH H449 ⟨q190, 2, none⟩ = some (.int .i64 n212) ∧
   ∃ n213 : Int,
   cellH H449 ⟨q190, 3, none⟩ = some (.int .i64 n213) ∧
   ∃ l190 : Sl,
   cellH H449 ⟨q190, 4, none⟩ = some (.slice l190.p l190.n l190.c) ∧
   ∃ l191 : Sl,
   cellH H449 ⟨q190, 5, none⟩ = some (.slice l191.p l191.n l191.c) ∧
   ∃ l192 : Sl,
   cellH H449 ⟨q190, 6, none⟩ = some (.slice l192.p l192.n l192.c) ∧
   ∃ l193 : Sl,
   cellH H449 ⟨q190, 7, none⟩ = some (.slice l193.p l193.n l193.c) ∧
   ∃ n214 : Int,
   cellH H449 ⟨q190, 8, none⟩ = some (.int .i64 n214) ∧
   ∀ q198 : Nat,
   H449 q198 = none →
   letH (Heap.upd H449 q198 (.cells #[.int .i64 n210, .int .i64 n211, .int .i64 n212, .int .i64 n213, .slice l190.p l190.n l190.c, .slice l191.p l191.n l191.c, .slice l192.p l192.n l192.c, .slice l193.p l193.n l193.c, .int .i64 n214] 41 (0, 0))) fun H450 =>
   Sub H449 H450 ∧
   runH Tryz.prog (Builtin.append_ #[35, 35] 35 #[.slice l189.p l189.n l189.c, .slice (some ⟨q198, 0, none⟩) 1 1]) H450 fun r114 H451 =>
   ∃ l194 : Sl,
   r114 = .slice l194.p l194.n l194.c ∧
   ptrm p1 fun q199 o71 =>
   (∃ u, cellH H451 ⟨q199, o71 + 3, none⟩ = some u) ∧
   frozenH H451 ⟨q199, o71 + 3, none⟩ = false ∧
   letH (Heap.set H451 ⟨q199, o71 + 3, none⟩ (.slice l194.p l194.n l194.c)) fun H452 =>
   SelfEq ([.loc 0 0, .v (.pointer p1), .v (.int .i64 n8)], [], [86]) ∧
   I2 (IntKind.wrap .i64 (n_2 - 1)) s98 b114 H452 ∧
   M2 (IntKind.wrap .i64 (n_2 - 1)) s98 b114 H452 < M2 n_2 s12 b11 H25)) ∧
   ∀ q200 : Nat,
   H430 q200 = none →
   FnH Tryz.prog 47 #[.pointer (some ⟨q200, 0, none⟩), .int .i64 1, .int .i64 5] (Heap.upd H430 q200 (.cells #[.string s79, .bool b90] 86 (0, 0))) fun r115 H453 =>
   ∃ n215 : Int,
   r115 = .int .i64 n215 ∧
   ∃ s99 : ByteArray,
   ∃ b115 : Bool,
   H453 q200 = some (.cells #[.string s99, .bool b115] 86 (0, 0)) ∧
   letH (Heap.del H453 q200) fun H454 =>
   ∃ l195 : Sl,
   cellH H454 ⟨q11, o3 + 3, none⟩ = some (.slice l195.p l195.n l195.c) ∧
   (∃ u, cellH H454 ⟨q190, 0, none⟩ = some u) ∧
   frozenH H454 ⟨q190, 0, none⟩ = false ∧
   letH (Heap.set H454 ⟨q190, 0, none⟩ (.int .i64 (IntKind.wrap .i64 ((l195.n : Nat) + 1)))) fun H455 =>
   (∃ u, cellH H455 ⟨q190, 1, none⟩ = some u) ∧
   frozenH H455 ⟨q190, 1, none⟩ = false ∧
   letH (Heap.set H455 ⟨q190, 1, none⟩ (.int .i64 n74)) fun H456 =>
   (∃ u, cellH H456 ⟨q190, 2, none⟩ = some u) ∧
   frozenH H456 ⟨q190, 2, none⟩ = false ∧
   letH (Heap.set H456 ⟨q190, 2, none⟩ (.int .i64 n124)) fun H457 =>
   (∃ u, cellH H457 ⟨q190, 3, none⟩ = some u) ∧
   frozenH H457 ⟨q190, 3, none⟩ = false ∧
   letH (Heap.set H457 ⟨q190, 3, none⟩ (.int .i64 n160)) fun H458 =>
   (∃ u, cellH H458 ⟨q190, 4, none⟩ = some u) ∧
   frozenH H458 ⟨q190, 4, none⟩ = false ∧
   letH (Heap.set H458 ⟨q190, 4, none⟩ (.slice none 0 0)) fun H459 =>
   (∃ u, cellH H459 ⟨q190, 5, none⟩ = some u) ∧
   frozenH H459 ⟨q190, 5, none⟩ = false ∧
   letH (Heap.set H459 ⟨q190, 5, none⟩ (.slice none 0 0)) fun H460 =>
   (∃ u, cellH H460 ⟨q190, 6, none⟩ = some u) ∧
   frozenH H460 ⟨q190, 6, none⟩ = false ∧
   letH (Heap.set H460 ⟨q190, 6, none⟩ (.slice none 0 0)) fun H461 =>
   (∃ u, cellH H461 ⟨q190, 7, none⟩ = some u) ∧
   frozenH H461 ⟨q190, 7, none⟩ = false ∧
   letH (Heap.set H461 ⟨q190, 7, none⟩ (.slice none 0 0)) fun H462 =>
   (∃ u, cellH H462 ⟨q190, 8, none⟩ = some u) ∧
   frozenH H462 ⟨q190, 8, none⟩ = false ∧
   letH (Heap.set H462 ⟨q190, 8, none⟩ (.int .i64 n215)) fun H463 =>
   ∀ q201 : Nat,
   H463 q201 = none →
   letH (Heap.upd H463 q201 (.cells #[.pointer (some ⟨q190, 4, none⟩), .pointer (some ⟨q190, 5, none⟩), .pointer (some ⟨q190, 6, none⟩), .pointer (some ⟨q190, 7, none⟩)] 88 (0, 0))) fun H464 =>
   ∃ I20 : Int → ByteArray → Bool → Heap → Prop,
   ∃ M20 : Int → ByteArray → Bool → Heap → Nat,
   I20 0 s99 b115 H464 ∧
   ∀ n_20 : Int,
   ∀ s100 : ByteArray,
   ∀ b116 : Bool,
   ∀ H465 : Heap,
   I20 n_20 s100 b116 H465 →
   br (decide ((n_20 : Int) < (4 : Nat))) (
   ∃ q202 : Nat,
   ∃ o72 : Nat,
   ((some ⟨q201, 0, none⟩) : Option Addr) = some ⟨q202, o72, none⟩ ∧
   0 ≤ (n_20 : Int) ∧
   (n_20 : Int) < (4 : Nat) ∧
   ∃ p19 : Option Addr,
   cellH H465 ⟨q202, o72 + Int.toNat n_20, none⟩ = some (.pointer p19) ∧
   ∀ q203 : Nat,
   H465 q203 = none →
   FnH Tryz.prog 49 #[.pointer (some ⟨q203, 0, none⟩), .int .i64 7, .int .i64 1, .int .i64 7] (Heap.upd H465 q203 (.cells #[.string s100, .bool b116] 86 (0, 0))) fun r116 H466 =>
   ∃ l196 : Sl,
   r116 = .slice l196.p l196.n l196.c ∧
   ∃ s101 : ByteArray,
   ∃ b117 : Bool,
   H466 q203 = some (.cells #[.string s101, .bool b117] 86 (0, 0)) ∧
   letH (Heap.del H466 q203) fun H467 =>
   ptrm p19 fun q204 o73 =>
   (∃ u, cellH H467 ⟨q204, o73, none⟩ = some u) ∧
   frozenH H467 ⟨q204, o73, none⟩ = false ∧
   letH (Heap.set H467 ⟨q204, o73, none⟩ (.slice l196.p l196.n l196.c)) fun H468 =>
   SelfEq ([.loc 0 0, .v (.pointer p1), .v (.int .i64 n8), .v (.int .i64 n_2), .v (.pointer (some ⟨q190, 0, none⟩)), .v (.slice (some ⟨q201, 0, none⟩) 4 4), .v (.int .i64 (4 : Nat))], [], [86]) ∧
   I20 (IntKind.wrap .i64 (n_20 + 1)) s101 b117 H468 ∧
   M20 (IntKind.wrap .i64 (n_20 + 1)) s101 b117 H468 < M20 n_20 s100 b116 H465)
   (
   ∃ n216 : Int,
   cellH H465 ⟨q190, 0, none⟩ = some (.int .i64 n216) ∧
   ∃ n217 : Int,
   cellH H465 ⟨q190, 1, none⟩ = some (.int .i64 n217) ∧
   ∃ n218 : Int,
   cellH H465 ⟨q190, 2, none⟩ = some (.int .i64 n218) ∧
   ∃ n219 : Int,
   cellH H465 ⟨q190, 3, none⟩ = some (.int .i64 n219) ∧
   ∃ l197 : Sl,
   cellH H465 ⟨q190, 4, none⟩ = some (.slice l197.p l197.n l197.c) ∧
   ∃ l198 : Sl,
   cellH H465 ⟨q190, 5, none⟩ = some (.slice l198.p l198.n l198.c) ∧
   ∃ l199 : Sl,
   cellH H465 ⟨q190, 6, none⟩ = some (.slice l199.p l199.n l199.c) ∧
   ∃ l200 : Sl,
   cellH H465 ⟨q190, 7, none⟩ = some (.slice l200.p l200.n l200.c) ∧
   ∃ n220 : Int,
   cellH H465 ⟨q190, 8, none⟩ = some (.int .i64 n220) ∧
   FnH Tryz.prog 51 #[.agg #[.int .i64 n216, .int .i64 n217, .int .i64 n218, .int .i64 n219, .slice l197.p l197.n l197.c, .slice l198.p l198.n l198.c, .slice l199.p l199.n l199.c, .slice l200.p l200.n l200.c, .int .i64 n220]] H465 fun r117 H469 =>
   ∃ b118 : Bool,
   r117 = .bool b118 ∧
   ∀ q205 : Nat,
   H469 q205 = none →
   FnH Tryz.prog 50 #[.pointer (some ⟨q205, 0, none⟩), .bool b118] (Heap.upd H469 q205 (.cells #[.string s100, .bool b116] 86 (0, 0))) fun r118 H470 =>
   r118 = .tuple #[] ∧
   ∃ s102 : ByteArray,
   ∃ b119 : Bool,
   H470 q205 = some (.cells #[.string s102, .bool b119] 86 (0, 0)) ∧
   letH (Heap.del H470 q205) fun H471 =>
   ptrm p1 fun q206 o74 =>
   ∃ l201 : Sl,
   cellH H471 ⟨q206, o74 + 3, none⟩ = some (.slice l201.p l201.n l201.c) ∧
   ∃ n221 : Int,
   cellH H471 ⟨q190, 0, none⟩ = some (.int .i64 n221) ∧
   ∃ n222 : Int,
   cellH H471 ⟨q190, 1, none⟩ = some (.int .i64 n222) ∧
   ∃ n223 : Int,
   cellH H471 ⟨q190, 2, none⟩ = some (.int .i64 n223) ∧
   ∃ n224 : Int,
   cellH H471 ⟨q190, 3, none⟩ = some (.int .i64 n224) ∧
   ∃ l202 : Sl,
   cellH H471 ⟨q190, 4, none⟩ = some (.slice l202.p l202.n l202.c) ∧
   ∃ l203 : Sl,
   cellH H471 ⟨q190, 5, none⟩ = some (.slice l203.p l203.n l203.c) ∧
   ∃ l204 : Sl,
   cellH H471 ⟨q190, 6, none⟩ = some (.slice l204.p l204.n l204.c) ∧
   ∃ l205 : Sl,
   cellH H471 ⟨q190, 7, none⟩ = some (.slice l205.p l205.n l205.c) ∧
   ∃ n225 : Int,
   cellH H471 ⟨q190, 8, none⟩ = some (.int .i64 n225) ∧
   ∀ q207 : Nat,
   H471 q207 = none →
   letH (Heap.upd H471 q207 (.cells #[.int .i64 n221, .int .i64 n222, .int .i64 n223, .int .i64 n224, .slice l202.p l202.n l202.c, .slice l203.p l203.n l203.c, .slice l204.p l204.n l204.c, .slice l205.p l205.n l205.c, .int .i64 n225] 41 (0, 0))) fun H472 =>
   Sub H471 H472 ∧
   runH Tryz.prog (Builtin.append_ #[35, 35] 35 #[.slice l201.p l201.n l201.c, .slice (some ⟨q207, 0, none⟩) 1 1]) H472 fun r119 H473 =>
   ∃ l206 : Sl,
   r119 = .slice l206.p l206.n l206.c ∧
   ptrm p1 fun q208 o75 =>
   (∃ u, cellH H473 ⟨q208, o75 + 3, none⟩ = some u) ∧
   frozenH H473 ⟨q208, o75 + 3, none⟩ = false ∧
   letH (Heap.set H473 ⟨q208, o75 + 3, none⟩ (.slice l206.p l206.n l206.c)) fun H474 =>
   SelfEq ([.loc 0 0, .v (.pointer p1), .v (.int .i64 n8)], [], [86]) ∧
   I2 (IntKind.wrap .i64 (n_2 - 1)) s102 b119 H474 ∧
   M2 (IntKind.wrap .i64 (n_2 - 1)) s102 b119 H474 < M2 n_2 s12 b11 H25)) ∧
   ∀ q209 : Nat,
   H264 q209 = none →
   letH (Heap.upd H264 q209 (.cells #[.int .i64 0, .int .i64 0, .int .i64 0, .int .i64 0, .slice none 0 0, .slice none 0 0, .slice none 0 0, .slice none 0 0, .int .i64 0] 41 (0, 0))) fun H475 =>
   (∃ l207 : Sl,
   cellH H475 ⟨q11, o3 + 3, none⟩ = some (.slice l207.p l207.n l207.c) ∧
   ∀ q210 : Nat,
   H475 q210 = none →
   FnH Tryz.prog 47 #[.pointer (some ⟨q210, 0, none⟩), .int .i64 1, .int .i64 1000000000] (Heap.upd H475 q210 (.cells #[.string s64, .bool b72] 86 (0, 0))) fun r120 H476 =>
   ∃ n226 : Int,
   r120 = .int .i64 n226 ∧
   ∃ s103 : ByteArray,
   ∃ b120 : Bool,
   H476 q210 = some (.cells #[.string s103, .bool b120] 86 (0, 0)) ∧
   letH (Heap.del H476 q210) fun H477 =>
   ∀ q211 : Nat,
   H477 q211 = none →
   FnH Tryz.prog 47 #[.pointer (some ⟨q211, 0, none⟩), .int .i64 1, .int .i64 5] (Heap.upd H477 q211 (.cells #[.string s103, .bool b120] 86 (0, 0))) fun r121 H478 =>
   ∃ n227 : Int,
   r121 = .int .i64 n227 ∧
   ∃ s104 : ByteArray,
   ∃ b121 : Bool,
   H478 q211 = some (.cells #[.string s104, .bool b121] 86 (0, 0)) ∧
   letH (Heap.del H478 q211) fun H479 =>
   (∃ u, cellH H479 ⟨q209, 0, none⟩ = some u) ∧
   frozenH H479 ⟨q209, 0, none⟩ = false ∧
   letH (Heap.set H479 ⟨q209, 0, none⟩ (.int .i64 (IntKind.wrap .i64 ((l207.n : Nat) + 1)))) fun H480 =>
   (∃ u, cellH H480 ⟨q209, 1, none⟩ = some u) ∧
   frozenH H480 ⟨q209, 1, none⟩ = false ∧
   letH (Heap.set H480 ⟨q209, 1, none⟩ (.int .i64 n74)) fun H481 =>
   (∃ u, cellH H481 ⟨q209, 2, none⟩ = some u) ∧
   frozenH H481 ⟨q209, 2, none⟩ = false ∧
   letH (Heap.set H481 ⟨q209, 2, none⟩ (.int .i64 n124)) fun H482 =>
   (∃ u, cellH H482 ⟨q209, 3, none⟩ = some u) ∧
   frozenH H482 ⟨q209, 3, none⟩ = false ∧
   letH (Heap.set H482 ⟨q209, 3, none⟩ (.int .i64 n226)) fun H483 =>
   (∃ u, cellH H483 ⟨q209, 4, none⟩ = some u) ∧
   frozenH H483 ⟨q209, 4, none⟩ = false ∧
   letH (Heap.set H483 ⟨q209, 4, none⟩ (.slice none 0 0)) fun H484 =>
   (∃ u, cellH H484 ⟨q209, 5, none⟩ = some u) ∧
   frozenH H484 ⟨q209, 5, none⟩ = false ∧
   letH (Heap.set H484 ⟨q209, 5, none⟩ (.slice none 0 0)) fun H485 =>
   (∃ u, cellH H485 ⟨q209, 6, none⟩ = some u) ∧
   frozenH H485 ⟨q209, 6, none⟩ = false ∧
   letH (Heap.set H485 ⟨q209, 6, none⟩ (.slice none 0 0)) fun H486 =>
   (∃ u, cellH H486 ⟨q209, 7, none⟩ = some u) ∧
   frozenH H486 ⟨q209, 7, none⟩ = false ∧
   letH (Heap.set H486 ⟨q209, 7, none⟩ (.slice none 0 0)) fun H487 =>
   (∃ u, cellH H487 ⟨q209, 8, none⟩ = some u) ∧
   frozenH H487 ⟨q209, 8, none⟩ = false ∧
   letH (Heap.set H487 ⟨q209, 8, none⟩ (.int .i64 n227)) fun H488 =>
   ∀ q212 : Nat,
   H488 q212 = none →
   letH (Heap.upd H488 q212 (.cells #[.pointer (some ⟨q209, 4, none⟩), .pointer (some ⟨q209, 5, none⟩), .pointer (some ⟨q209, 6, none⟩), .pointer (some ⟨q209, 7, none⟩)] 88 (0, 0))) fun H489 =>
   ∃ I21 : Int → ByteArray → Bool → Heap → Prop,
   ∃ M21 : Int → ByteArray → Bool → Heap → Nat,
   I21 0 s104 b121 H489 ∧
   ∀ n_21 : Int,
   ∀ s105 : ByteArray,
   ∀ b122 : Bool,
   ∀ H490 : Heap,
   I21 n_21 s105 b122 H490 →
   br (decide ((n_21 : Int) < (4 : Nat))) (
   ∃ q213 : Nat,
   ∃ o76 : Nat,
   ((some ⟨q212, 0, none⟩) : Option Addr) = some ⟨q213, o76, none⟩ ∧
   0 ≤ (n_21 : Int) ∧
   (n_21 : Int) < (4 : Nat) ∧
   ∃ p20 : Option Addr,
   cellH H490 ⟨q213, o76 + Int.toNat n_21, none⟩ = some (.pointer p20) ∧
   ∀ q214 : Nat,
   H490 q214 = none →
   FnH Tryz.prog 49 #[.pointer (some ⟨q214, 0, none⟩), .int .i64 7, .int .i64 1, .int .i64 7] (Heap.upd H490 q214 (.cells #[.string s105, .bool b122] 86 (0, 0))) fun r122 H491 =>
   ∃ l208 : Sl,
   r122 = .slice l208.p l208.n l208.c ∧
   ∃ s106 : ByteArray,
   ∃ b123 : Bool,
   H491 q214 = some (.cells #[.string s106, .bool b123] 86 (0, 0)) ∧
   letH (Heap.del H491 q214) fun H492 =>
   ptrm p20 fun q215 o77 =>
   (∃ u, cellH H492 ⟨q215, o77, none⟩ = some u) ∧
   frozenH H492 ⟨q215, o77, none⟩ = false ∧
   letH (Heap.set H492 ⟨q215, o77, none⟩ (.slice l208.p l208.n l208.c)) fun H493 =>
   SelfEq ([.loc 0 0, .v (.pointer p1), .v (.int .i64 n8), .v (.int .i64 n_2), .v (.pointer (some ⟨q209, 0, none⟩)), .v (.slice (some ⟨q212, 0, none⟩) 4 4), .v (.int .i64 (4 : Nat))], [], [86]) ∧
   I21 (IntKind.wrap .i64 (n_21 + 1)) s106 b123 H493 ∧
   M21 (IntKind.wrap .i64 (n_21 + 1)) s106 b123 H493 < M21 n_21 s105 b122 H490)
   (
   ∃ n228 : Int,
   cellH H490 ⟨q209, 0, none⟩ = some (.int .i64 n228) ∧
   ∃ n229 : Int,
   cellH H490 ⟨q209, 1, none⟩ = some (.int .i64 n229) ∧
   ∃ n230 : Int,
   cellH H490 ⟨q209, 2, none⟩ = some (.int .i64 n230) ∧
   ∃ n231 : Int,
   cellH H490 ⟨q209, 3, none⟩ = some (.int .i64 n231) ∧
   ∃ l209 : Sl,
   cellH H490 ⟨q209, 4, none⟩ = some (.slice l209.p l209.n l209.c) ∧
   ∃ l210 : Sl,
   cellH H490 ⟨q209, 5, none⟩ = some (.slice l210.p l210.n l210.c) ∧
   ∃ l211 : Sl,
   cellH H490 ⟨q209, 6, none⟩ = some (.slice l211.p l211.n l211.c) ∧
   ∃ l212 : Sl,
   cellH H490 ⟨q209, 7, none⟩ = some (.slice l212.p l212.n l212.c) ∧
   ∃ n232 : Int,
   cellH H490 ⟨q209, 8, none⟩ = some (.int .i64 n232) ∧
   FnH Tryz.prog 51 #[.agg #[.int .i64 n228, .int .i64 n229, .int .i64 n230, .int .i64 n231, .slice l209.p l209.n l209.c, .slice l210.p l210.n l210.c, .slice l211.p l211.n l211.c, .slice l212.p l212.n l212.c, .int .i64 n232]] H490 fun r123 H494 =>
   ∃ b124 : Bool,
   r123 = .bool b124 ∧
   ∀ q216 : Nat,
   H494 q216 = none →
   FnH Tryz.prog 50 #[.pointer (some ⟨q216, 0, none⟩), .bool b124] (Heap.upd H494 q216 (.cells #[.string s105, .bool b122] 86 (0, 0))) fun r124 H495 =>
   r124 = .tuple #[] ∧
   ∃ s107 : ByteArray,
   ∃ b125 : Bool,
   H495 q216 = some (.cells #[.string s107, .bool b125] 86 (0, 0)) ∧
   letH (Heap.del H495 q216) fun H496 =>
   ptrm p1 fun q217 o78 =>
   ∃ l213 : Sl,
   cellH H496 ⟨q217, o78 + 3, none⟩ = some (.slice l213.p l213.n l213.c) ∧
   ∃ n233 : Int,
   cellH H496 ⟨q209, 0, none⟩ = some (.int .i64 n233) ∧
   ∃ n234 : Int,
   cellH H496 ⟨q209, 1, none⟩ = some (.int .i64 n234) ∧
   ∃ n235 : Int,
   cellH H496 ⟨q209, 2, none⟩ = some (.int .i64 n235) ∧
   ∃ n236 : Int,
   cellH H496 ⟨q209, 3, none⟩ = some (.int .i64 n236) ∧
   ∃ l214 : Sl,
   cellH H496 ⟨q209, 4, none⟩ = some (.slice l214.p l214.n l214.c) ∧
   ∃ l215 : Sl,
   cellH H496 ⟨q209, 5, none⟩ = some (.slice l215.p l215.n l215.c) ∧
   ∃ l216 : Sl,
   cellH H496 ⟨q209, 6, none⟩ = some (.slice l216.p l216.n l216.c) ∧
   ∃ l217 : Sl,
   cellH H496 ⟨q209, 7, none⟩ = some (.slice l217.p l217.n l217.c) ∧
   ∃ n237 : Int,
   cellH H496 ⟨q209, 8, none⟩ = some (.int .i64 n237) ∧
   ∀ q218 : Nat,
   H496 q218 = none →
   letH (Heap.upd H496 q218 (.cells #[.int .i64 n233, .int .i64 n234, .int .i64 n235, .int .i64 n236, .slice l214.p l214.n l214.c, .slice l215.p l215.n l215.c, .slice l216.p l216.n l216.c, .slice l217.p l217.n l217.c, .int .i64 n237] 41 (0, 0))) fun H497 =>
   Sub H496 H497 ∧
   runH Tryz.prog (Builtin.append_ #[35, 35] 35 #[.slice l213.p l213.n l213.c, .slice (some ⟨q218, 0, none⟩) 1 1]) H497 fun r125 H498 =>
   ∃ l218 : Sl,
   r125 = .slice l218.p l218.n l218.c ∧
   ptrm p1 fun q219 o79 =>
   (∃ u, cellH H498 ⟨q219, o79 + 3, none⟩ = some u) ∧
   frozenH H498 ⟨q219, o79 + 3, none⟩ = false ∧
   letH (Heap.set H498 ⟨q219, o79 + 3, none⟩ (.slice l218.p l218.n l218.c)) fun H499 =>
   SelfEq ([.loc 0 0, .v (.pointer p1), .v (.int .i64 n8)], [], [86]) ∧
   I2 (IntKind.wrap .i64 (n_2 - 1)) s107 b125 H499 ∧
   M2 (IntKind.wrap .i64 (n_2 - 1)) s107 b125 H499 < M2 n_2 s12 b11 H25)) ∧
   ∀ q220 : Nat,
   H475 q220 = none →
   FnH Tryz.prog 47 #[.pointer (some ⟨q220, 0, none⟩), .int .i64 1, .int .i64 1000000000] (Heap.upd H475 q220 (.cells #[.string s64, .bool b72] 86 (0, 0))) fun r126 H500 =>
   ∃ n238 : Int,
   r126 = .int .i64 n238 ∧
   ∃ s108 : ByteArray,
   ∃ b126 : Bool,
   H500 q220 = some (.cells #[.string s108, .bool b126] 86 (0, 0)) ∧
   letH (Heap.del H500 q220) fun H501 =>
   (∃ l219 : Sl,
   cellH H501 ⟨q11, o3 + 3, none⟩ = some (.slice l219.p l219.n l219.c) ∧
   ∀ q221 : Nat,
   H501 q221 = none →
   FnH Tryz.prog 47 #[.pointer (some ⟨q221, 0, none⟩), .int .i64 1, .int .i64 5] (Heap.upd H501 q221 (.cells #[.string s108, .bool b126] 86 (0, 0))) fun r127 H502 =>
   ∃ n239 : Int,
   r127 = .int .i64 n239 ∧
   ∃ s109 : ByteArray,
   ∃ b127 : Bool,
   H502 q221 = some (.cells #[.string s109, .bool b127] 86 (0, 0)) ∧
   letH (Heap.del H502 q221) fun H503 =>
   (∃ u, cellH H503 ⟨q209, 0, none⟩ = some u) ∧
   frozenH H503 ⟨q209, 0, none⟩ = false ∧
   letH (Heap.set H503 ⟨q209, 0, none⟩ (.int .i64 (IntKind.wrap .i64 ((l219.n : Nat) + 1)))) fun H504 =>
   (∃ u, cellH H504 ⟨q209, 1, none⟩ = some u) ∧
   frozenH H504 ⟨q209, 1, none⟩ = false ∧
   letH (Heap.set H504 ⟨q209, 1, none⟩ (.int .i64 n74)) fun H505 =>
   (∃ u, cellH H505 ⟨q209, 2, none⟩ = some u) ∧
   frozenH H505 ⟨q209, 2, none⟩ = false ∧
   letH (Heap.set H505 ⟨q209, 2, none⟩ (.int .i64 n124)) fun H506 =>
   (∃ u, cellH H506 ⟨q209, 3, none⟩ = some u) ∧
   frozenH H506 ⟨q209, 3, none⟩ = false ∧
   letH (Heap.set H506 ⟨q209, 3, none⟩ (.int .i64 n238)) fun H507 =>
   (∃ u, cellH H507 ⟨q209, 4, none⟩ = some u) ∧
   frozenH H507 ⟨q209, 4, none⟩ = false ∧
   letH (Heap.set H507 ⟨q209, 4, none⟩ (.slice none 0 0)) fun H508 =>
   (∃ u, cellH H508 ⟨q209, 5, none⟩ = some u) ∧
   frozenH H508 ⟨q209, 5, none⟩ = false ∧
   letH (Heap.set H508 ⟨q209, 5, none⟩ (.slice none 0 0)) fun H509 =>
   (∃ u, cellH H509 ⟨q209, 6, none⟩ = some u) ∧
   frozenH H509 ⟨q209, 6, none⟩ = false ∧
   letH (Heap.set H509 ⟨q209, 6, none⟩ (.slice none 0 0)) fun H510 =>
   (∃ u, cellH H510 ⟨q209, 7, none⟩ = some u) ∧
   frozenH H510 ⟨q209, 7, none⟩ = false ∧
   letH (Heap.set H510 ⟨q209, 7, none⟩ (.slice none 0 0)) fun H511 =>
   (∃ u, cellH H511 ⟨q209, 8, none⟩ = some u) ∧
   frozenH H511 ⟨q209, 8, none⟩ = false ∧
   letH (Heap.set H511 ⟨q209, 8, none⟩ (.int .i64 n239)) fun H512 =>
   ∀ q222 : Nat,
   H512 q222 = none →
   letH (Heap.upd H512 q222 (.cells #[.pointer (some ⟨q209, 4, none⟩), .pointer (some ⟨q209, 5, none⟩), .pointer (some ⟨q209, 6, none⟩), .pointer (some ⟨q209, 7, none⟩)] 88 (0, 0))) fun H513 =>
   ∃ I22 : Int → ByteArray → Bool → Heap → Prop,
   ∃ M22 : Int → ByteArray → Bool → Heap → Nat,
   I22 0 s109 b127 H513 ∧
   ∀ n_22 : Int,
   ∀ s110 : ByteArray,
   ∀ b128 : Bool,
   ∀ H514 : Heap,
   I22 n_22 s110 b128 H514 →
   br (decide ((n_22 : Int) < (4 : Nat))) (
   ∃ q223 : Nat,
   ∃ o80 : Nat,
   ((some ⟨q222, 0, none⟩) : Option Addr) = some ⟨q223, o80, none⟩ ∧
   0 ≤ (n_22 : Int) ∧
   (n_22 : Int) < (4 : Nat) ∧
   ∃ p21 : Option Addr,
   cellH H514 ⟨q223, o80 + Int.toNat n_22, none⟩ = some (.pointer p21) ∧
   ∀ q224 : Nat,
   H514 q224 = none →
   FnH Tryz.prog 49 #[.pointer (some ⟨q224, 0, none⟩), .int .i64 7, .int .i64 1, .int .i64 7] (Heap.upd H514 q224 (.cells #[.string s110, .bool b128] 86 (0, 0))) fun r128 H515 =>
   ∃ l220 : Sl,
   r128 = .slice l220.p l220.n l220.c ∧
   ∃ s111 : ByteArray,
   ∃ b129 : Bool,
   H515 q224 = some (.cells #[.string s111, .bool b129] 86 (0, 0)) ∧
   letH (Heap.del H515 q224) fun H516 =>
   ptrm p21 fun q225 o81 =>
   (∃ u, cellH H516 ⟨q225, o81, none⟩ = some u) ∧
   frozenH H516 ⟨q225, o81, none⟩ = false ∧
   letH (Heap.set H516 ⟨q225, o81, none⟩ (.slice l220.p l220.n l220.c)) fun H517 =>
   SelfEq ([.loc 0 0, .v (.pointer p1), .v (.int .i64 n8), .v (.int .i64 n_2), .v (.pointer (some ⟨q209, 0, none⟩)), .v (.slice (some ⟨q222, 0, none⟩) 4 4), .v (.int .i64 (4 : Nat))], [], [86]) ∧
   I22 (IntKind.wrap .i64 (n_22 + 1)) s111 b129 H517 ∧
   M22 (IntKind.wrap .i64 (n_22 + 1)) s111 b129 H517 < M22 n_22 s110 b128 H514)
   (
   ∃ n240 : Int,
   cellH H514 ⟨q209, 0, none⟩ = some (.int .i64 n240) ∧
   ∃ n241 : Int,
   cellH H514 ⟨q209, 1, none⟩ = some (.int .i64 n241) ∧
   ∃ n242 : Int,
   cellH H514 ⟨q209, 2, none⟩ = some (.int .i64 n242) ∧
   ∃ n243 : Int,
   cellH H514 ⟨q209, 3, none⟩ = some (.int .i64 n243) ∧
   ∃ l221 : Sl,
   cellH H514 ⟨q209, 4, none⟩ = some (.slice l221.p l221.n l221.c) ∧
   ∃ l222 : Sl,
   cellH H514 ⟨q209, 5, none⟩ = some (.slice l222.p l222.n l222.c) ∧
   ∃ l223 : Sl,
   cellH H514 ⟨q209, 6, none⟩ = some (.slice l223.p l223.n l223.c) ∧
   ∃ l224 : Sl,
   cellH H514 ⟨q209, 7, none⟩ = some (.slice l224.p l224.n l224.c) ∧
   ∃ n244 : Int,
   cellH H514 ⟨q209, 8, none⟩ = some (.int .i64 n244) ∧
   FnH Tryz.prog 51 #[.agg #[.int .i64 n240, .int .i64 n241, .int .i64 n242, .int .i64 n243, .slice l221.p l221.n l221.c, .slice l222.p l222.n l222.c, .slice l223.p l223.n l223.c, .slice l224.p l224.n l224.c, .int .i64 n244]] H514 fun r129 H518 =>
   ∃ b130 : Bool,
   r129 = .bool b130 ∧
   ∀ q226 : Nat,
   H518 q226 = none →
   FnH Tryz.prog 50 #[.pointer (some ⟨q226, 0, none⟩), .bool b130] (Heap.upd H518 q226 (.cells #[.string s110, .bool b128] 86 (0, 0))) fun r130 H519 =>
   r130 = .tuple #[] ∧
   ∃ s112 : ByteArray,
   ∃ b131 : Bool,
   H519 q226 = some (.cells #[.string s112, .bool b131] 86 (0, 0)) ∧
   letH (Heap.del H519 q226) fun H520 =>
   ptrm p1 fun q227 o82 =>
   ∃ l225 : Sl,
   cellH H520 ⟨q227, o82 + 3, none⟩ = some (.slice l225.p l225.n l225.c) ∧
   ∃ n245 : Int,
   cellH H520 ⟨q209, 0, none⟩ = some (.int .i64 n245) ∧
   ∃ n246 : Int,
   cellH H520 ⟨q209, 1, none⟩ = some (.int .i64 n246) ∧
   ∃ n247 : Int,
   cellH H520 ⟨q209, 2, none⟩ = some (.int .i64 n247) ∧
   ∃ n248 : Int,
   cellH H520 ⟨q209, 3, none⟩ = some (.int .i64 n248) ∧
   ∃ l226 : Sl,
   cellH H520 ⟨q209, 4, none⟩ = some (.slice l226.p l226.n l226.c) ∧
   ∃ l227 : Sl,
   cellH H520 ⟨q209, 5, none⟩ = some (.slice l227.p l227.n l227.c) ∧
   ∃ l228 : Sl,
   cellH H520 ⟨q209, 6, none⟩ = some (.slice l228.p l228.n l228.c) ∧
   ∃ l229 : Sl,
   cellH H520 ⟨q209, 7, none⟩ = some (.slice l229.p l229.n l229.c) ∧
   ∃ n249 : Int,
   cellH H520 ⟨q209, 8, none⟩ = some (.int .i64 n249) ∧
   ∀ q228 : Nat,
   H520 q228 = none →
   letH (Heap.upd H520 q228 (.cells #[.int .i64 n245, .int .i64 n246, .int .i64 n247, .int .i64 n248, .slice l226.p l226.n l226.c, .slice l227.p l227.n l227.c, .slice l228.p l228.n l228.c, .slice l229.p l229.n l229.c, .int .i64 n249] 41 (0, 0))) fun H521 =>
   Sub H520 H521 ∧
   runH Tryz.prog (Builtin.append_ #[35, 35] 35 #[.slice l225.p l225.n l225.c, .slice (some ⟨q228, 0, none⟩) 1 1]) H521 fun r131 H522 =>
   ∃ l230 : Sl,
   r131 = .slice l230.p l230.n l230.c ∧
   ptrm p1 fun q229 o83 =>
   (∃ u, cellH H522 ⟨q229, o83 + 3, none⟩ = some u) ∧
   frozenH H522 ⟨q229, o83 + 3, none⟩ = false ∧
   letH (Heap.set H522 ⟨q229, o83 + 3, none⟩ (.slice l230.p l230.n l230.c)) fun H523 =>
   SelfEq ([.loc 0 0, .v (.pointer p1), .v (.int .i64 n8)], [], [86]) ∧
   I2 (IntKind.wrap .i64 (n_2 - 1)) s112 b131 H523 ∧
   M2 (IntKind.wrap .i64 (n_2 - 1)) s112 b131 H523 < M2 n_2 s12 b11 H25)) ∧
   ∀ q230 : Nat,
   H501 q230 = none →
   FnH Tryz.prog 47 #[.pointer (some ⟨q230, 0, none⟩), .int .i64 1, .int .i64 5] (Heap.upd H501 q230 (.cells #[.string s108, .bool b126] 86 (0, 0))) fun r132 H524 =>
   ∃ n250 : Int,
   r132 = .int .i64 n250 ∧
   ∃ s113 : ByteArray,
   ∃ b132 : Bool,
   H524 q230 = some (.cells #[.string s113, .bool b132] 86 (0, 0)) ∧
   letH (Heap.del H524 q230) fun H525 =>
   ∃ l231 : Sl,
   cellH H525 ⟨q11, o3 + 3, none⟩ = some (.slice l231.p l231.n l231.c) ∧
   (∃ u, cellH H525 ⟨q209, 0, none⟩ = some u) ∧
   frozenH H525 ⟨q209, 0, none⟩ = false ∧
   letH (Heap.set H525 ⟨q209, 0, none⟩ (.int .i64 (IntKind.wrap .i64 ((l231.n : Nat) + 1)))) fun H526 =>
   (∃ u, cellH H526 ⟨q209, 1, none⟩ = some u) ∧
   frozenH H526 ⟨q209, 1, none⟩ = false ∧
   letH (Heap.set H526 ⟨q209, 1, none⟩ (.int .i64 n74)) fun H527 =>
   (∃ u, cellH H527 ⟨q209, 2, none⟩ = some u) ∧
   frozenH H527 ⟨q209, 2, none⟩ = false ∧
   letH (Heap.set H527 ⟨q209, 2, none⟩ (.int .i64 n124)) fun H528 =>
   (∃ u, cellH H528 ⟨q209, 3, none⟩ = some u) ∧
   frozenH H528 ⟨q209, 3, none⟩ = false ∧
   letH (Heap.set H528 ⟨q209, 3, none⟩ (.int .i64 n238)) fun H529 =>
   (∃ u, cellH H529 ⟨q209, 4, none⟩ = some u) ∧
   frozenH H529 ⟨q209, 4, none⟩ = false ∧
   letH (Heap.set H529 ⟨q209, 4, none⟩ (.slice none 0 0)) fun H530 =>
   (∃ u, cellH H530 ⟨q209, 5, none⟩ = some u) ∧
   frozenH H530 ⟨q209, 5, none⟩ = false ∧
   letH (Heap.set H530 ⟨q209, 5, none⟩ (.slice none 0 0)) fun H531 =>
   (∃ u, cellH H531 ⟨q209, 6, none⟩ = some u) ∧
   frozenH H531 ⟨q209, 6, none⟩ = false ∧
   letH (Heap.set H531 ⟨q209, 6, none⟩ (.slice none 0 0)) fun H532 =>
   (∃ u, cellH H532 ⟨q209, 7, none⟩ = some u) ∧
   frozenH H532 ⟨q209, 7, none⟩ = false ∧
   letH (Heap.set H532 ⟨q209, 7, none⟩ (.slice none 0 0)) fun H533 =>
   (∃ u, cellH H533 ⟨q209, 8, none⟩ = some u) ∧
   frozenH H533 ⟨q209, 8, none⟩ = false ∧
   letH (Heap.set H533 ⟨q209, 8, none⟩ (.int .i64 n250)) fun H534 =>
   ∀ q231 : Nat,
   H534 q231 = none →
   letH (Heap.upd H534 q231 (.cells #[.pointer (some ⟨q209, 4, none⟩), .pointer (some ⟨q209, 5, none⟩), .pointer (some ⟨q209, 6, none⟩), .pointer (some ⟨q209, 7, none⟩)] 88 (0, 0))) fun H535 =>
   ∃ I23 : Int → ByteArray → Bool → Heap → Prop,
   ∃ M23 : Int → ByteArray → Bool → Heap → Nat,
   I23 0 s113 b132 H535 ∧
   ∀ n_23 : Int,
   ∀ s114 : ByteArray,
   ∀ b133 : Bool,
   ∀ H536 : Heap,
   I23 n_23 s114 b133 H536 →
   br (decide ((n_23 : Int) < (4 : Nat))) (
   ∃ q232 : Nat,
   ∃ o84 : Nat,
   ((some ⟨q231, 0, none⟩) : Option Addr) = some ⟨q232, o84, none⟩ ∧
   0 ≤ (n_23 : Int) ∧
   (n_23 : Int) < (4 : Nat) ∧
   ∃ p22 : Option Addr,
   cellH H536 ⟨q232, o84 + Int.toNat n_23, none⟩ = some (.pointer p22) ∧
   ∀ q233 : Nat,
   H536 q233 = none →
   FnH Tryz.prog 49 #[.pointer (some ⟨q233, 0, none⟩), .int .i64 7, .int .i64 1, .int .i64 7] (Heap.upd H536 q233 (.cells #[.string s114, .bool b133] 86 (0, 0))) fun r133 H537 =>
   ∃ l232 : Sl,
   r133 = .slice l232.p l232.n l232.c ∧
   ∃ s115 : ByteArray,
   ∃ b134 : Bool,
   H537 q233 = some (.cells #[.string s115, .bool b134] 86 (0, 0)) ∧
   letH (Heap.del H537 q233) fun H538 =>
   ptrm p22 fun q234 o85 =>
   (∃ u, cellH H538 ⟨q234, o85, none⟩ = some u) ∧
   frozenH H538 ⟨q234, o85, none⟩ = false ∧
   letH (Heap.set H538 ⟨q234, o85, none⟩ (.slice l232.p l232.n l232.c)) fun H539 =>
   SelfEq ([.loc 0 0, .v (.pointer p1), .v (.int .i64 n8), .v (.int .i64 n_2), .v (.pointer (some ⟨q209, 0, none⟩)), .v (.slice (some ⟨q231, 0, none⟩) 4 4), .v (.int .i64 (4 : Nat))], [], [86]) ∧
   I23 (IntKind.wrap .i64 (n_23 + 1)) s115 b134 H539 ∧
   M23 (IntKind.wrap .i64 (n_23 + 1)) s115 b134 H539 < M23 n_23 s114 b133 H536)
   (
   ∃ n251 : Int,
   cellH H536 ⟨q209, 0, none⟩ = some (.int .i64 n251) ∧
   ∃ n252 : Int,
   cellH H536 ⟨q209, 1, none⟩ = some (.int .i64 n252) ∧
   ∃ n253 : Int,
   cellH H536 ⟨q209, 2, none⟩ = some (.int .i64 n253) ∧
   ∃ n254 : Int,
   cellH H536 ⟨q209, 3, none⟩ = some (.int .i64 n254) ∧
   ∃ l233 : Sl,
   cellH H536 ⟨q209, 4, none⟩ = some (.slice l233.p l233.n l233.c) ∧
   ∃ l234 : Sl,
   cellH H536 ⟨q209, 5, none⟩ = some (.slice l234.p l234.n l234.c) ∧
   ∃ l235 : Sl,
   cellH H536 ⟨q209, 6, none⟩ = some (.slice l235.p l235.n l235.c) ∧
   ∃ l236 : Sl,
   cellH H536 ⟨q209, 7, none⟩ = some (.slice l236.p l236.n l236.c) ∧
   ∃ n255 : Int,
   cellH H536 ⟨q209, 8, none⟩ = some (.int .i64 n255) ∧
   FnH Tryz.prog 51 #[.agg #[.int .i64 n251, .int .i64 n252, .int .i64 n253, .int .i64 n254, .slice l233.p l233.n l233.c, .slice l234.p l234.n l234.c, .slice l235.p l235.n l235.c, .slice l236.p l236.n l236.c, .int .i64 n255]] H536 fun r134 H540 =>
   ∃ b135 : Bool,
   r134 = .bool b135 ∧
   ∀ q235 : Nat,
   H540 q235 = none →
   FnH Tryz.prog 50 #[.pointer (some ⟨q235, 0, none⟩), .bool b135] (Heap.upd H540 q235 (.cells #[.string s114, .bool b133] 86 (0, 0))) fun r135 H541 =>
   r135 = .tuple #[] ∧
   ∃ s116 : ByteArray,
   ∃ b136 : Bool,
   H541 q235 = some (.cells #[.string s116, .bool b136] 86 (0, 0)) ∧
   letH (Heap.del H541 q235) fun H542 =>
   ptrm p1 fun q236 o86 =>
   ∃ l237 : Sl,
   cellH H542 ⟨q236, o86 + 3, none⟩ = some (.slice l237.p l237.n l237.c) ∧
   ∃ n256 : Int,
   cellH H542 ⟨q209, 0, none⟩ = some (.int .i64 n256) ∧
   ∃ n257 : Int,
   cellH H542 ⟨q209, 1, none⟩ = some (.int .i64 n257) ∧
   ∃ n258 : Int,
   cellH H542 ⟨q209, 2, none⟩ = some (.int .i64 n258) ∧
   ∃ n259 : Int,
   cellH H542 ⟨q209, 3, none⟩ = some (.int .i64 n259) ∧
   ∃ l238 : Sl,
   cellH H542 ⟨q209, 4, none⟩ = some (.slice l238.p l238.n l238.c) ∧
   ∃ l239 : Sl,
   cellH H542 ⟨q209, 5, none⟩ = some (.slice l239.p l239.n l239.c) ∧
   ∃ l240 : Sl,
   cellH H542 ⟨q209, 6, none⟩ = some (.slice l240.p l240.n l240.c) ∧
   ∃ l241 : Sl,
   cellH H542 ⟨q209, 7, none⟩ = some (.slice l241.p l241.n l241.c) ∧
   ∃ n260 : Int,
   cellH H542 ⟨q209, 8, none⟩ = some (.int .i64 n260) ∧
   ∀ q237 : Nat,
   H542 q237 = none →
   letH (Heap.upd H542 q237 (.cells #[.int .i64 n256, .int .i64 n257, .int .i64 n258, .int .i64 n259, .slice l238.p l238.n l238.c, .slice l239.p l239.n l239.c, .slice l240.p l240.n l240.c, .slice l241.p l241.n l241.c, .int .i64 n260] 41 (0, 0))) fun H543 =>
   Sub H542 H543 ∧
   runH Tryz.prog (Builtin.append_ #[35, 35] 35 #[.slice l237.p l237.n l237.c, .slice (some ⟨q237, 0, none⟩) 1 1]) H543 fun r136 H544 =>
   ∃ l242 : Sl,
   r136 = .slice l242.p l242.n l242.c ∧
   ptrm p1 fun q238 o87 =>
   (∃ u, cellH H544 ⟨q238, o87 + 3, none⟩ = some u) ∧
   frozenH H544 ⟨q238, o87 + 3, none⟩ = false ∧
   letH (Heap.set H544 ⟨q238, o87 + 3, none⟩ (.slice l242.p l242.n l242.c)) fun H545 =>
   SelfEq ([.loc 0 0, .v (.pointer p1), .v (.int .i64 n8)], [], [86]) ∧
   I2 (IntKind.wrap .i64 (n_2 - 1)) s116 b136 H545 ∧
   M2 (IntKind.wrap .i64 (n_2 - 1)) s116 b136 H545 < M2 n_2 s12 b11 H25)) ∧
   ∀ q239 : Nat,
   H160 q239 = none →
   letH (Heap.upd H160 q239 (.cells #[.int .i64 0, .int .i64 0, .int .i64 0, .int .i64 0, .slice none 0 0, .slice none 0 0, .slice none 0 0, .slice none 0 0, .int .i64 0] 41 (0, 0))) fun H546 =>
   (∃ l243 : Sl,
   cellH H546 ⟨q11, o3 + 3, none⟩ = some (.slice l243.p l243.n l243.c) ∧
   ∀ q240 : Nat,
   H546 q240 = none →
   FnH Tryz.prog 47 #[.pointer (some ⟨q240, 0, none⟩), .int .i64 1, .int .i64 1000000000] (Heap.upd H546 q240 (.cells #[.string s42, .bool b46] 86 (0, 0))) fun r137 H547 =>
   ∃ n261 : Int,
   r137 = .int .i64 n261 ∧
   ∃ s117 : ByteArray,
   ∃ b137 : Bool,
   H547 q240 = some (.cells #[.string s117, .bool b137] 86 (0, 0)) ∧
   letH (Heap.del H547 q240) fun H548 =>
   ∀ q241 : Nat,
   H548 q241 = none →
   FnH Tryz.prog 47 #[.pointer (some ⟨q241, 0, none⟩), .int .i64 1, .int .i64 1000000000] (Heap.upd H548 q241 (.cells #[.string s117, .bool b137] 86 (0, 0))) fun r138 H549 =>
   ∃ n262 : Int,
   r138 = .int .i64 n262 ∧
   ∃ s118 : ByteArray,
   ∃ b138 : Bool,
   H549 q241 = some (.cells #[.string s118, .bool b138] 86 (0, 0)) ∧
   letH (Heap.del H549 q241) fun H550 =>
   ∀ q242 : Nat,
   H550 q242 = none →
   FnH Tryz.prog 47 #[.pointer (some ⟨q242, 0, none⟩), .int .i64 1, .int .i64 5] (Heap.upd H550 q242 (.cells #[.string s118, .bool b138] 86 (0, 0))) fun r139 H551 =>
   ∃ n263 : Int,
   r139 = .int .i64 n263 ∧
   ∃ s119 : ByteArray,
   ∃ b139 : Bool,
   H551 q242 = some (.cells #[.string s119, .bool b139] 86 (0, 0)) ∧
   letH (Heap.del H551 q242) fun H552 =>
   (∃ u, cellH H552 ⟨q239, 0, none⟩ = some u) ∧
   frozenH H552 ⟨q239, 0, none⟩ = false ∧
   letH (Heap.set H552 ⟨q239, 0, none⟩ (.int .i64 (IntKind.wrap .i64 ((l243.n : Nat) + 1)))) fun H553 =>
   (∃ u, cellH H553 ⟨q239, 1, none⟩ = some u) ∧
   frozenH H553 ⟨q239, 1, none⟩ = false ∧
   letH (Heap.set H553 ⟨q239, 1, none⟩ (.int .i64 n74)) fun H554 =>
   (∃ u, cellH H554 ⟨q239, 2, none⟩ = some u) ∧
   frozenH H554 ⟨q239, 2, none⟩ = false ∧
   letH (Heap.set H554 ⟨q239, 2, none⟩ (.int .i64 n261)) fun H555 =>
   (∃ u, cellH H555 ⟨q239, 3, none⟩ = some u) ∧
   frozenH H555 ⟨q239, 3, none⟩ = false ∧
   letH (Heap.set H555 ⟨q239, 3, none⟩ (.int .i64 n262)) fun H556 =>
   (∃ u, cellH H556 ⟨q239, 4, none⟩ = some u) ∧
   frozenH H556 ⟨q239, 4, none⟩ = false ∧
   letH (Heap.set H556 ⟨q239, 4, none⟩ (.slice none 0 0)) fun H557 =>
   (∃ u, cellH H557 ⟨q239, 5, none⟩ = some u) ∧
   frozenH H557 ⟨q239, 5, none⟩ = false ∧
   letH (Heap.set H557 ⟨q239, 5, none⟩ (.slice none 0 0)) fun H558 =>
   (∃ u, cellH H558 ⟨q239, 6, none⟩ = some u) ∧
   frozenH H558 ⟨q239, 6, none⟩ = false ∧
   letH (Heap.set H558 ⟨q239, 6, none⟩ (.slice none 0 0)) fun H559 =>
   (∃ u, cellH H559 ⟨q239, 7, none⟩ = some u) ∧
   frozenH H559 ⟨q239, 7, none⟩ = false ∧
   letH (Heap.set H559 ⟨q239, 7, none⟩ (.slice none 0 0)) fun H560 =>
   (∃ u, cellH H560 ⟨q239, 8, none⟩ = some u) ∧
   frozenH H560 ⟨q239, 8, none⟩ = false ∧
   letH (Heap.set H560 ⟨q239, 8, none⟩ (.int .i64 n263)) fun H561 =>
   ∀ q243 : Nat,
   H561 q243 = none →
   letH (Heap.upd H561 q243 (.cells #[.pointer (some ⟨q239, 4, none⟩), .pointer (some ⟨q239, 5, none⟩), .pointer (some ⟨q239, 6, none⟩), .pointer (some ⟨q239, 7, none⟩)] 88 (0, 0))) fun H562 =>
   ∃ I24 : Int → ByteArray → Bool → Heap → Prop,
   ∃ M24 : Int → ByteArray → Bool → Heap → Nat,
   I24 0 s119 b139 H562 ∧
   ∀ n_24 : Int,
   ∀ s120 : ByteArray,
   ∀ b140 : Bool,
   ∀ H563 : Heap,
   I24 n_24 s120 b140 H563 →
   br (decide ((n_24 : Int) < (4 : Nat))) (
   ∃ q244 : Nat,
   ∃ o88 : Nat,
   ((some ⟨q243, 0, none⟩) : Option Addr) = some ⟨q244, o88, none⟩ ∧
   0 ≤ (n_24 : Int) ∧
   (n_24 : Int) < (4 : Nat) ∧
   ∃ p23 : Option Addr,
   cellH H563 ⟨q244, o88 + Int.toNat n_24, none⟩ = some (.pointer p23) ∧
   ∀ q245 : Nat,
   H563 q245 = none →
   FnH Tryz.prog 49 #[.pointer (some ⟨q245, 0, none⟩), .int .i64 7, .int .i64 1, .int .i64 7] (Heap.upd H563 q245 (.cells #[.string s120, .bool b140] 86 (0, 0))) fun r140 H564 =>
   ∃ l244 : Sl,
   r140 = .slice l244.p l244.n l244.c ∧
   ∃ s121 : ByteArray,
   ∃ b141 : Bool,
   H564 q245 = some (.cells #[.string s121, .bool b141] 86 (0, 0)) ∧
   letH (Heap.del H564 q245) fun H565 =>
   ptrm p23 fun q246 o89 =>
   (∃ u, cellH H565 ⟨q246, o89, none⟩ = some u) ∧
   frozenH H565 ⟨q246, o89, none⟩ = false ∧
   letH (Heap.set H565 ⟨q246, o89, none⟩ (.slice l244.p l244.n l244.c)) fun H566 =>
   SelfEq ([.loc 0 0, .v (.pointer p1), .v (.int .i64 n8), .v (.int .i64 n_2), .v (.pointer (some ⟨q239, 0, none⟩)), .v (.slice (some ⟨q243, 0, none⟩) 4 4), .v (.int .i64 (4 : Nat))], [], [86]) ∧
   I24 (IntKind.wrap .i64 (n_24 + 1)) s121 b141 H566 ∧
   M24 (IntKind.wrap .i64 (n_24 + 1)) s121 b141 H566 < M24 n_24 s120 b140 H563)
   (
   ∃ n264 : Int,
   cellH H563 ⟨q239, 0, none⟩ = some (.int .i64 n264) ∧
   ∃ n265 : Int,
   cellH H563 ⟨q239, 1, none⟩ = some (.int .i64 n265) ∧
   ∃ n266 : Int,
   cellH H563 ⟨q239, 2, none⟩ = some (.int .i64 n266) ∧
   ∃ n267 : Int,
   cellH H563 ⟨q239, 3, none⟩ = some (.int .i64 n267) ∧
   ∃ l245 : Sl,
   cellH H563 ⟨q239, 4, none⟩ = some (.slice l245.p l245.n l245.c) ∧
   ∃ l246 : Sl,
   cellH H563 ⟨q239, 5, none⟩ = some (.slice l246.p l246.n l246.c) ∧
   ∃ l247 : Sl,
   cellH H563 ⟨q239, 6, none⟩ = some (.slice l247.p l247.n l247.c) ∧
   ∃ l248 : Sl,
   cellH H563 ⟨q239, 7, none⟩ = some (.slice l248.p l248.n l248.c) ∧
   ∃ n268 : Int,
   cellH H563 ⟨q239, 8, none⟩ = some (.int .i64 n268) ∧
   FnH Tryz.prog 51 #[.agg #[.int .i64 n264, .int .i64 n265, .int .i64 n266, .int .i64 n267, .slice l245.p l245.n l245.c, .slice l246.p l246.n l246.c, .slice l247.p l247.n l247.c, .slice l248.p l248.n l248.c, .int .i64 n268]] H563 fun r141 H567 =>
   ∃ b142 : Bool,
   r141 = .bool b142 ∧
   ∀ q247 : Nat,
   H567 q247 = none →
   FnH Tryz.prog 50 #[.pointer (some ⟨q247, 0, none⟩), .bool b142] (Heap.upd H567 q247 (.cells #[.string s120, .bool b140] 86 (0, 0))) fun r142 H568 =>
   r142 = .tuple #[] ∧
   ∃ s122 : ByteArray,
   ∃ b143 : Bool,
   H568 q247 = some (.cells #[.string s122, .bool b143] 86 (0, 0)) ∧
   letH (Heap.del H568 q247) fun H569 =>
   ptrm p1 fun q248 o90 =>
   ∃ l249 : Sl,
   cellH H569 ⟨q248, o90 + 3, none⟩ = some (.slice l249.p l249.n l249.c) ∧
   ∃ n269 : Int,
   cellH H569 ⟨q239, 0, none⟩ = some (.int .i64 n269) ∧
   ∃ n270 : Int,
   cellH H569 ⟨q239, 1, none⟩ = some (.int .i64 n270) ∧
   ∃ n271 : Int,
   cellH H569 ⟨q239, 2, none⟩ = some (.int .i64 n271) ∧
   ∃ n272 : Int,
   cellH H569 ⟨q239, 3, none⟩ = some (.int .i64 n272) ∧
   ∃ l250 : Sl,
   cellH H569 ⟨q239, 4, none⟩ = some (.slice l250.p l250.n l250.c) ∧
   ∃ l251 : Sl,
   cellH H569 ⟨q239, 5, none⟩ = some (.slice l251.p l251.n l251.c) ∧
   ∃ l252 : Sl,
   cellH H569 ⟨q239, 6, none⟩ = some (.slice l252.p l252.n l252.c) ∧
   ∃ l253 : Sl,
   cellH H569 ⟨q239, 7, none⟩ = some (.slice l253.p l253.n l253.c) ∧
   ∃ n273 : Int,
   cellH H569 ⟨q239, 8, none⟩ = some (.int .i64 n273) ∧
   ∀ q249 : Nat,
   H569 q249 = none →
   letH (Heap.upd H569 q249 (.cells #[.int .i64 n269, .int .i64 n270, .int .i64 n271, .int .i64 n272, .slice l250.p l250.n l250.c, .slice l251.p l251.n l251.c, .slice l252.p l252.n l252.c, .slice l253.p l253.n l253.c, .int .i64 n273] 41 (0, 0))) fun H570 =>
   Sub H569 H570 ∧
   runH Tryz.prog (Builtin.append_ #[35, 35] 35 #[.slice l249.p l249.n l249.c, .slice (some ⟨q249, 0, none⟩) 1 1]) H570 fun r143 H571 =>
   ∃ l254 : Sl,
   r143 = .slice l254.p l254.n l254.c ∧
   ptrm p1 fun q250 o91 =>
   (∃ u, cellH H571 ⟨q250, o91 + 3, none⟩ = some u) ∧
   frozenH H571 ⟨q250, o91 + 3, none⟩ = false ∧
   letH (Heap.set H571 ⟨q250, o91 + 3, none⟩ (.slice l254.p l254.n l254.c)) fun H572 =>
   SelfEq ([.loc 0 0, .v (.pointer p1), .v (.int .i64 n8)], [], [86]) ∧
   I2 (IntKind.wrap .i64 (n_2 - 1)) s122 b143 H572 ∧
   M2 (IntKind.wrap .i64 (n_2 - 1)) s122 b143 H572 < M2 n_2 s12 b11 H25)) ∧
   ∀ q251 : Nat,
   H546 q251 = none →
   FnH Tryz.prog 47 #[.pointer (some ⟨q251, 0, none⟩), .int .i64 1, .int .i64 1000000000] (Heap.upd H546 q251 (.cells #[.string s42, .bool b46] 86 (0, 0))) fun r144 H573 =>
   ∃ n274 : Int,
   r144 = .int .i64 n274 ∧
   ∃ s123 : ByteArray,
   ∃ b144 : Bool,
   H573 q251 = some (.cells #[.string s123, .bool b144] 86 (0, 0)) ∧
   letH (Heap.del H573 q251) fun H574 =>
   (∃ l255 : Sl,
   cellH H574 ⟨q11, o3 + 3, none⟩ = some (.slice l255.p l255.n l255.c) ∧
   ∀ q252 : Nat,
   H574 q252 = none →
   FnH Tryz.prog 47 #[.pointer (some ⟨q252, 0, none⟩), .int .i64 1, .int .i64 1000000000] (Heap.upd H574 q252 (.cells #[.string s123, .bool b144] 86 (0, 0))) fun r145 H575 =>
   ∃ n275 : Int,
   r145 = .int .i64 n275 ∧
   ∃ s124 : ByteArray,
   ∃ b145 : Bool,
   H575 q252 = some (.cells #[.string s124, .bool b145] 86 (0, 0)) ∧
   letH (Heap.del H575 q252) fun H576 =>
   ∀ q253 : Nat,
   H576 q253 = none →
   FnH Tryz.prog 47 #[.pointer (some ⟨q253, 0, none⟩), .int .i64 1, .int .i64 5] (Heap.upd H576 q253 (.cells #[.string s124, .bool b145] 86 (0, 0))) fun r146 H577 =>
   ∃ n276 : Int,
   r146 = .int .i64 n276 ∧
   ∃ s125 : ByteArray,
   ∃ b146 : Bool,
   H577 q253 = some (.cells #[.string s125, .bool b146] 86 (0, 0)) ∧
   letH (Heap.del H577 q253) fun H578 =>
   (∃ u, cellH H578 ⟨q239, 0, none⟩ = some u) ∧
   frozenH H578 ⟨q239, 0, none⟩ = false ∧
   letH (Heap.set H578 ⟨q239, 0, none⟩ (.int .i64 (IntKind.wrap .i64 ((l255.n : Nat) + 1)))) fun H579 =>
   (∃ u, cellH H579 ⟨q239, 1, none⟩ = some u) ∧
   frozenH H579 ⟨q239, 1, none⟩ = false ∧
   letH (Heap.set H579 ⟨q239, 1, none⟩ (.int .i64 n74)) fun H580 =>
   (∃ u, cellH H580 ⟨q239, 2, none⟩ = some u) ∧
   frozenH H580 ⟨q239, 2, none⟩ = false ∧
   letH (Heap.set H580 ⟨q239, 2, none⟩ (.int .i64 n274)) fun H581 =>
   (∃ u, cellH H581 ⟨q239, 3, none⟩ = some u) ∧
   frozenH H581 ⟨q239, 3, none⟩ = false ∧
   letH (Heap.set H581 ⟨q239, 3, none⟩ (.int .i64 n275)) fun H582 =>
   (∃ u, cellH H582 ⟨q239, 4, none⟩ = some u) ∧
   frozenH H582 ⟨q239, 4, none⟩ = false ∧
   letH (Heap.set H582 ⟨q239, 4, none⟩ (.slice none 0 0)) fun H583 =>
   (∃ u, cellH H583 ⟨q239, 5, none⟩ = some u) ∧
   frozenH H583 ⟨q239, 5, none⟩ = false ∧
   letH (Heap.set H583 ⟨q239, 5, none⟩ (.slice none 0 0)) fun H584 =>
   (∃ u, cellH H584 ⟨q239, 6, none⟩ = some u) ∧
   frozenH H584 ⟨q239, 6, none⟩ = false ∧
   letH (Heap.set H584 ⟨q239, 6, none⟩ (.slice none 0 0)) fun H585 =>
   (∃ u, cellH H585 ⟨q239, 7, none⟩ = some u) ∧
   frozenH H585 ⟨q239, 7, none⟩ = false ∧
   letH (Heap.set H585 ⟨q239, 7, none⟩ (.slice none 0 0)) fun H586 =>
   (∃ u, cellH H586 ⟨q239, 8, none⟩ = some u) ∧
   frozenH H586 ⟨q239, 8, none⟩ = false ∧
   letH (Heap.set H586 ⟨q239, 8, none⟩ (.int .i64 n276)) fun H587 =>
   ∀ q254 : Nat,
   H587 q254 = none →
   letH (Heap.upd H587 q254 (.cells #[.pointer (some ⟨q239, 4, none⟩), .pointer (some ⟨q239, 5, none⟩), .pointer (some ⟨q239, 6, none⟩), .pointer (some ⟨q239, 7, none⟩)] 88 (0, 0))) fun H588 =>
   ∃ I25 : Int → ByteArray → Bool → Heap → Prop,
   ∃ M25 : Int → ByteArray → Bool → Heap → Nat,
   I25 0 s125 b146 H588 ∧
   ∀ n_25 : Int,
   ∀ s126 : ByteArray,
   ∀ b147 : Bool,
   ∀ H589 : Heap,
   I25 n_25 s126 b147 H589 →
   br (decide ((n_25 : Int) < (4 : Nat))) (
   ∃ q255 : Nat,
   ∃ o92 : Nat,
   ((some ⟨q254, 0, none⟩) : Option Addr) = some ⟨q255, o92, none⟩ ∧
   0 ≤ (n_25 : Int) ∧
   (n_25 : Int) < (4 : Nat) ∧
   ∃ p24 : Option Addr,
   cellH H589 ⟨q255, o92 + Int.toNat n_25, none⟩ = some (.pointer p24) ∧
   ∀ q256 : Nat,
   H589 q256 = none →
   FnH Tryz.prog 49 #[.pointer (some ⟨q256, 0, none⟩), .int .i64 7, .int .i64 1, .int .i64 7] (Heap.upd H589 q256 (.cells #[.string s126, .bool b147] 86 (0, 0))) fun r147 H590 =>
   ∃ l256 : Sl,
   r147 = .slice l256.p l256.n l256.c ∧
   ∃ s127 : ByteArray,
   ∃ b148 : Bool,
   H590 q256 = some (.cells #[.string s127, .bool b148] 86 (0, 0)) ∧
   letH (Heap.del H590 q256) fun H591 =>
   ptrm p24 fun q257 o93 =>
   (∃ u, cellH H591 ⟨q257, o93, none⟩ = some u) ∧
   frozenH H591 ⟨q257, o93, none⟩ = false ∧
   letH (Heap.set H591 ⟨q257, o93, none⟩ (.slice l256.p l256.n l256.c)) fun H592 =>
   SelfEq ([.loc 0 0, .v (.pointer p1), .v (.int .i64 n8), .v (.int .i64 n_2), .v (.pointer (some ⟨q239, 0, none⟩)), .v (.slice (some ⟨q254, 0, none⟩) 4 4), .v (.int .i64 (4 : Nat))], [], [86]) ∧
   I25 (IntKind.wrap .i64 (n_25 + 1)) s127 b148 H592 ∧
   M25 (IntKind.wrap .i64 (n_25 + 1)) s127 b148 H592 < M25 n_25 s126 b147 H589)
   (
   ∃ n277 : Int,
   cellH H589 ⟨q239, 0, none⟩ = some (.int .i64 n277) ∧
   ∃ n278 : Int,
   cellH H589 ⟨q239, 1, none⟩ = some (.int .i64 n278) ∧
   ∃ n279 : Int,
   cellH H589 ⟨q239, 2, none⟩ = some (.int .i64 n279) ∧
   ∃ n280 : Int,
   cellH H589 ⟨q239, 3, none⟩ = some (.int .i64 n280) ∧
   ∃ l257 : Sl,
   cellH H589 ⟨q239, 4, none⟩ = some (.slice l257.p l257.n l257.c) ∧
   ∃ l258 : Sl,
   cellH H589 ⟨q239, 5, none⟩ = some (.slice l258.p l258.n l258.c) ∧
   ∃ l259 : Sl,
   cellH H589 ⟨q239, 6, none⟩ = some (.slice l259.p l259.n l259.c) ∧
   ∃ l260 : Sl,
   cellH H589 ⟨q239, 7, none⟩ = some (.slice l260.p l260.n l260.c) ∧
   ∃ n281 : Int,
   cellH H589 ⟨q239, 8, none⟩ = some (.int .i64 n281) ∧
   FnH Tryz.prog 51 #[.agg #[.int .i64 n277, .int .i64 n278, .int .i64 n279, .int .i64 n280, .slice l257.p l257.n l257.c, .slice l258.p l258.n l258.c, .slice l259.p l259.n l259.c, .slice l260.p l260.n l260.c, .int .i64 n281]] H589 fun r148 H593 =>
   ∃ b149 : Bool,
   r148 = .bool b149 ∧
   ∀ q258 : Nat,
   H593 q258 = none →
   FnH Tryz.prog 50 #[.pointer (some ⟨q258, 0, none⟩), .bool b149] (Heap.upd H593 q258 (.cells #[.string s126, .bool b147] 86 (0, 0))) fun r149 H594 =>
   r149 = .tuple #[] ∧
   ∃ s128 : ByteArray,
   ∃ b150 : Bool,
   H594 q258 = some (.cells #[.string s128, .bool b150] 86 (0, 0)) ∧
   letH (Heap.del H594 q258) fun H595 =>
   ptrm p1 fun q259 o94 =>
   ∃ l261 : Sl,
   cellH H595 ⟨q259, o94 + 3, none⟩ = some (.slice l261.p l261.n l261.c) ∧
   ∃ n282 : Int,
   cellH H595 ⟨q239, 0, none⟩ = some (.int .i64 n282) ∧
   ∃ n283 : Int,
   cellH H595 ⟨q239, 1, none⟩ = some (.int .i64 n283) ∧
   ∃ n284 : Int,
   cellH H595 ⟨q239, 2, none⟩ = some (.int .i64 n284) ∧
   ∃ n285 : Int,
   cellH H595 ⟨q239, 3, none⟩ = some (.int .i64 n285) ∧
   ∃ l262 : Sl,
   cellH H595 ⟨q239, 4, none⟩ = some (.slice l262.p l262.n l262.c) ∧
   ∃ l263 : Sl,
   cellH H595 ⟨q239, 5, none⟩ = some (.slice l263.p l263.n l263.c) ∧
   ∃ l264 : Sl,
   cellH H595 ⟨q239, 6, none⟩ = some (.slice l264.p l264.n l264.c) ∧
   ∃ l265 : Sl,
   cellH H595 ⟨q239, 7, none⟩ = some (.slice l265.p l265.n l265.c) ∧
   ∃ n286 : Int,
   cellH H595 ⟨q239, 8, none⟩ = some (.int .i64 n286) ∧
   ∀ q260 : Nat,
   H595 q260 = none →
   letH (Heap.upd H595 q260 (.cells #[.int .i64 n282, .int .i64 n283, .int .i64 n284, .int .i64 n285, .slice l262.p l262.n l262.c, .slice l263.p l263.n l263.c, .slice l264.p l264.n l264.c, .slice l265.p l265.n l265.c, .int .i64 n286] 41 (0, 0))) fun H596 =>
   Sub H595 H596 ∧
   runH Tryz.prog (Builtin.append_ #[35, 35] 35 #[.slice l261.p l261.n l261.c, .slice (some ⟨q260, 0, none⟩) 1 1]) H596 fun r150 H597 =>
   ∃ l266 : Sl,
   r150 = .slice l266.p l266.n l266.c ∧
   ptrm p1 fun q261 o95 =>
   (∃ u, cellH H597 ⟨q261, o95 + 3, none⟩ = some u) ∧
   frozenH H597 ⟨q261, o95 + 3, none⟩ = false ∧
   letH (Heap.set H597 ⟨q261, o95 + 3, none⟩ (.slice l266.p l266.n l266.c)) fun H598 =>
   SelfEq ([.loc 0 0, .v (.pointer p1), .v (.int .i64 n8)], [], [86]) ∧
   I2 (IntKind.wrap .i64 (n_2 - 1)) s128 b150 H598 ∧
   M2 (IntKind.wrap .i64 (n_2 - 1)) s128 b150 H598 < M2 n_2 s12 b11 H25)) ∧
   ∀ q262 : Nat,
   H574 q262 = none →
   FnH Tryz.prog 47 #[.pointer (some ⟨q262, 0, none⟩), .int .i64 1, .int .i64 1000000000] (Heap.upd H574 q262 (.cells #[.string s123, .bool b144] 86 (0, 0))) fun r151 H599 =>
   ∃ n287 : Int,
   r151 = .int .i64 n287 ∧
   ∃ s129 : ByteArray,
   ∃ b151 : Bool,
   H599 q262 = some (.cells #[.string s129, .bool b151] 86 (0, 0)) ∧
   letH (Heap.del H599 q262) fun H600 =>
   (∃ l267 : Sl,
   cellH H600 ⟨q11, o3 + 3, none⟩ = some (.slice l267.p l267.n l267.c) ∧
   ∀ q263 : Nat,
   H600 q263 = none →
   FnH Tryz.prog 47 #[.pointer (some ⟨q263, 0, none⟩), .int .i64 1, .int .i64 5] (Heap.upd H600 q263 (.cells #[.string s129, .bool b151] 86 (0, 0))) fun r152 H601 =>
   ∃ n288 : Int,
   r152 = .int .i64 n288 ∧
   ∃ s130 : ByteArray,
   ∃ b152 : Bool,
   H601 q263 = some (.cells #[.string s130, .bool b152] 86 (0, 0)) ∧
   letH (Heap.del H601 q263) fun H602 =>
   (∃ u, cellH H602 ⟨q239, 0, none⟩ = some u) ∧
   frozenH H602 ⟨q239, 0, none⟩ = false ∧
   letH (Heap.set H602 ⟨q239, 0, none⟩ (.int .i64 (IntKind.wrap .i64 ((l267.n : Nat) + 1)))) fun H603 =>
   (∃ u, cellH H603 ⟨q239, 1, none⟩ = some u) ∧
   frozenH H603 ⟨q239, 1, none⟩ = false ∧
   letH (Heap.set H603 ⟨q239, 1, none⟩ (.int .i64 n74)) fun H604 =>
   (∃ u, cellH H604 ⟨q239, 2, none⟩ = some u) ∧
   frozenH H604 ⟨q239, 2, none⟩ = false ∧
   letH (Heap.set H604 ⟨q239, 2, none⟩ (.int .i64 n274)) fun H605 =>
   (∃ u, cellH H605 ⟨q239, 3, none⟩ = some u) ∧
   frozenH H605 ⟨q239, 3, none⟩ = false ∧
   letH (Heap.set H605 ⟨q239, 3, none⟩ (.int .i64 n287)) fun H606 =>
   (∃ u, cellH H606 ⟨q239, 4, none⟩ = some u) ∧
   frozenH H606 ⟨q239, 4, none⟩ = false ∧
   letH (Heap.set H606 ⟨q239, 4, none⟩ (.slice none 0 0)) fun H607 =>
   (∃ u, cellH H607 ⟨q239, 5, none⟩ = some u) ∧
   frozenH H607 ⟨q239, 5, none⟩ = false ∧
   letH (Heap.set H607 ⟨q239, 5, none⟩ (.slice none 0 0)) fun H608 =>
   (∃ u, cellH H608 ⟨q239, 6, none⟩ = some u) ∧
   frozenH H608 ⟨q239, 6, none⟩ = false ∧
   letH (Heap.set H608 ⟨q239, 6, none⟩ (.slice none 0 0)) fun H609 =>
   (∃ u, cellH H609 ⟨q239, 7, none⟩ = some u) ∧
   frozenH H609 ⟨q239, 7, none⟩ = false ∧
   letH (Heap.set H609 ⟨q239, 7, none⟩ (.slice none 0 0)) fun H610 =>
   (∃ u, cellH H610 ⟨q239, 8, none⟩ = some u) ∧
   frozenH H610 ⟨q239, 8, none⟩ = false ∧
   letH (Heap.set H610 ⟨q239, 8, none⟩ (.int .i64 n288)) fun H611 =>
   ∀ q264 : Nat,
   H611 q264 = none →
   letH (Heap.upd H611 q264 (.cells #[.pointer (some ⟨q239, 4, none⟩), .pointer (some ⟨q239, 5, none⟩), .pointer (some ⟨q239, 6, none⟩), .pointer (some ⟨q239, 7, none⟩)] 88 (0, 0))) fun H612 =>
   ∃ I26 : Int → ByteArray → Bool → Heap → Prop,
   ∃ M26 : Int → ByteArray → Bool → Heap → Nat,
   I26 0 s130 b152 H612 ∧
   ∀ n_26 : Int,
   ∀ s131 : ByteArray,
   ∀ b153 : Bool,
   ∀ H613 : Heap,
   I26 n_26 s131 b153 H613 →
   br (decide ((n_26 : Int) < (4 : Nat))) (
   ∃ q265 : Nat,
   ∃ o96 : Nat,
   ((some ⟨q264, 0, none⟩) : Option Addr) = some ⟨q265, o96, none⟩ ∧
   0 ≤ (n_26 : Int) ∧
   (n_26 : Int) < (4 : Nat) ∧
   ∃ p25 : Option Addr,
   cellH H613 ⟨q265, o96 + Int.toNat n_26, none⟩ = some (.pointer p25) ∧
   ∀ q266 : Nat,
   H613 q266 = none →
   FnH Tryz.prog 49 #[.pointer (some ⟨q266, 0, none⟩), .int .i64 7, .int .i64 1, .int .i64 7] (Heap.upd H613 q266 (.cells #[.string s131, .bool b153] 86 (0, 0))) fun r153 H614 =>
   ∃ l268 : Sl,
   r153 = .slice l268.p l268.n l268.c ∧
   ∃ s132 : ByteArray,
   ∃ b154 : Bool,
   H614 q266 = some (.cells #[.string s132, .bool b154] 86 (0, 0)) ∧
   letH (Heap.del H614 q266) fun H615 =>
   ptrm p25 fun q267 o97 =>
   (∃ u, cellH H615 ⟨q267, o97, none⟩ = some u) ∧
   frozenH H615 ⟨q267, o97, none⟩ = false ∧
   letH (Heap.set H615 ⟨q267, o97, none⟩ (.slice l268.p l268.n l268.c)) fun H616 =>
   SelfEq ([.loc 0 0, .v (.pointer p1), .v (.int .i64 n8), .v (.int .i64 n_2), .v (.pointer (some ⟨q239, 0, none⟩)), .v (.slice (some ⟨q264, 0, none⟩) 4 4), .v (.int .i64 (4 : Nat))], [], [86]) ∧
   I26 (IntKind.wrap .i64 (n_26 + 1)) s132 b154 H616 ∧
   M26 (IntKind.wrap .i64 (n_26 + 1)) s132 b154 H616 < M26 n_26 s131 b153 H613)
   (
   ∃ n289 : Int,
   cellH H613 ⟨q239, 0, none⟩ = some (.int .i64 n289) ∧
   ∃ n290 : Int,
   cellH H613 ⟨q239, 1, none⟩ = some (.int .i64 n290) ∧
   ∃ n291 : Int,
   cellH H613 ⟨q239, 2, none⟩ = some (.int .i64 n291) ∧
   ∃ n292 : Int,
   cellH H613 ⟨q239, 3, none⟩ = some (.int .i64 n292) ∧
   ∃ l269 : Sl,
   cellH H613 ⟨q239, 4, none⟩ = some (.slice l269.p l269.n l269.c) ∧
   ∃ l270 : Sl,
   cellH H613 ⟨q239, 5, none⟩ = some (.slice l270.p l270.n l270.c) ∧
   ∃ l271 : Sl,
   cellH H613 ⟨q239, 6, none⟩ = some (.slice l271.p l271.n l271.c) ∧
   ∃ l272 : Sl,
   cellH H613 ⟨q239, 7, none⟩ = some (.slice l272.p l272.n l272.c) ∧
   ∃ n293 : Int,
   cellH H613 ⟨q239, 8, none⟩ = some (.int .i64 n293) ∧
   FnH Tryz.prog 51 #[.agg #[.int .i64 n289, .int .i64 n290, .int .i64 n291, .int .i64 n292, .slice l269.p l269.n l269.c, .slice l270.p l270.n l270.c, .slice l271.p l271.n l271.c, .slice l272.p l272.n l272.c, .int .i64 n293]] H613 fun r154 H617 =>
   ∃ b155 : Bool,
   r154 = .bool b155 ∧
   ∀ q268 : Nat,
   H617 q268 = none →
   FnH Tryz.prog 50 #[.pointer (some ⟨q268, 0, none⟩), .bool b155] (Heap.upd H617 q268 (.cells #[.string s131, .bool b153] 86 (0, 0))) fun r155 H618 =>
   r155 = .tuple #[] ∧
   ∃ s133 : ByteArray,
   ∃ b156 : Bool,
   H618 q268 = some (.cells #[.string s133, .bool b156] 86 (0, 0)) ∧
   letH (Heap.del H618 q268) fun H619 =>
   ptrm p1 fun q269 o98 =>
   ∃ l273 : Sl,
   cellH H619 ⟨q269, o98 + 3, none⟩ = some (.slice l273.p l273.n l273.c) ∧
   ∃ n294 : Int,
   cellH H619 ⟨q239, 0, none⟩ = some (.int .i64 n294) ∧
   ∃ n295 : Int,
   cellH H619 ⟨q239, 1, none⟩ = some (.int .i64 n295) ∧
   ∃ n296 : Int,
   cellH H619 ⟨q239, 2, none⟩ = some (.int .i64 n296) ∧
   ∃ n297 : Int,
   cellH H619 ⟨q239, 3, none⟩ = some (.int .i64 n297) ∧
   ∃ l274 : Sl,
   cellH H619 ⟨q239, 4, none⟩ = some (.slice l274.p l274.n l274.c) ∧
   ∃ l275 : Sl,
   cellH H619 ⟨q239, 5, none⟩ = some (.slice l275.p l275.n l275.c) ∧
   ∃ l276 : Sl,
   cellH H619 ⟨q239, 6, none⟩ = some (.slice l276.p l276.n l276.c) ∧
   ∃ l277 : Sl,
   cellH H619 ⟨q239, 7, none⟩ = some (.slice l277.p l277.n l277.c) ∧
   ∃ n298 : Int,
   cellH H619 ⟨q239, 8, none⟩ = some (.int .i64 n298) ∧
   ∀ q270 : Nat,
   H619 q270 = none →
   letH (Heap.upd H619 q270 (.cells #[.int .i64 n294, .int .i64 n295, .int .i64 n296, .int .i64 n297, .slice l274.p l274.n l274.c, .slice l275.p l275.n l275.c, .slice l276.p l276.n l276.c, .slice l277.p l277.n l277.c, .int .i64 n298] 41 (0, 0))) fun H620 =>
   Sub H619 H620 ∧
   runH Tryz.prog (Builtin.append_ #[35, 35] 35 #[.slice l273.p l273.n l273.c, .slice (some ⟨q270, 0, none⟩) 1 1]) H620 fun r156 H621 =>
   ∃ l278 : Sl,
   r156 = .slice l278.p l278.n l278.c ∧
   ptrm p1 fun q271 o99 =>
   (∃ u, cellH H621 ⟨q271, o99 + 3, none⟩ = some u) ∧
   frozenH H621 ⟨q271, o99 + 3, none⟩ = false ∧
   letH (Heap.set H621 ⟨q271, o99 + 3, none⟩ (.slice l278.p l278.n l278.c)) fun H622 =>
   SelfEq ([.loc 0 0, .v (.pointer p1), .v (.int .i64 n8)], [], [86]) ∧
   I2 (IntKind.wrap .i64 (n_2 - 1)) s133 b156 H622 ∧
   M2 (IntKind.wrap .i64 (n_2 - 1)) s133 b156 H622 < M2 n_2 s12 b11 H25)) ∧
   ∀ q272 : Nat,
   H600 q272 = none →
   FnH Tryz.prog 47 #[.pointer (some ⟨q272, 0, none⟩), .int .i64 1, .int .i64 5] (Heap.upd H600 q272 (.cells #[.string s129, .bool b151] 86 (0, 0))) fun r157 H623 =>
   ∃ n299 : Int,
   r157 = .int .i64 n299 ∧
   ∃ s134 : ByteArray,
   ∃ b157 : Bool,
   H623 q272 = some (.cells #[.string s134, .bool b157] 86 (0, 0)) ∧
   letH (Heap.del H623 q272) fun H624 =>
   ∃ l279 : Sl,
   cellH H624 ⟨q11, o3 + 3, none⟩ = some (.slice l279.p l279.n l279.c) ∧
   (∃ u, cellH H624 ⟨q239, 0, none⟩ = some u) ∧
   frozenH H624 ⟨q239, 0, none⟩ = false ∧
   letH (Heap.set H624 ⟨q239, 0, none⟩ (.int .i64 (IntKind.wrap .i64 ((l279.n : Nat) + 1)))) fun H625 =>
   (∃ u, cellH H625 ⟨q239, 1, none⟩ = some u) ∧
   frozenH H625 ⟨q239, 1, none⟩ = false ∧
   letH (Heap.set H625 ⟨q239, 1, none⟩ (.int .i64 n74)) fun H626 =>
   (∃ u, cellH H626 ⟨q239, 2, none⟩ = some u) ∧
   frozenH H626 ⟨q239, 2, none⟩ = false ∧
   letH (Heap.set H626 ⟨q239, 2, none⟩ (.int .i64 n274)) fun H627 =>
   (∃ u, cellH H627 ⟨q239, 3, none⟩ = some u) ∧
   frozenH H627 ⟨q239, 3, none⟩ = false ∧
   letH (Heap.set H627 ⟨q239, 3, none⟩ (.int .i64 n287)) fun H628 =>
   (∃ u, cellH H628 ⟨q239, 4, none⟩ = some u) ∧
   frozenH H628 ⟨q239, 4, none⟩ = false ∧
   letH (Heap.set H628 ⟨q239, 4, none⟩ (.slice none 0 0)) fun H629 =>
   (∃ u, cellH H629 ⟨q239, 5, none⟩ = some u) ∧
   frozenH H629 ⟨q239, 5, none⟩ = false ∧
   letH (Heap.set H629 ⟨q239, 5, none⟩ (.slice none 0 0)) fun H630 =>
   (∃ u, cellH H630 ⟨q239, 6, none⟩ = some u) ∧
   frozenH H630 ⟨q239, 6, none⟩ = false ∧
   letH (Heap.set H630 ⟨q239, 6, none⟩ (.slice none 0 0)) fun H631 =>
   (∃ u, cellH H631 ⟨q239, 7, none⟩ = some u) ∧
   frozenH H631 ⟨q239, 7, none⟩ = false ∧
   letH (Heap.set H631 ⟨q239, 7, none⟩ (.slice none 0 0)) fun H632 =>
   (∃ u, cellH H632 ⟨q239, 8, none⟩ = some u) ∧
   frozenH H632 ⟨q239, 8, none⟩ = false ∧
   letH (Heap.set H632 ⟨q239, 8, none⟩ (.int .i64 n299)) fun H633 =>
   ∀ q273 : Nat,
   H633 q273 = none →
   letH (Heap.upd H633 q273 (.cells #[.pointer (some ⟨q239, 4, none⟩), .pointer (some ⟨q239, 5, none⟩), .pointer (some ⟨q239, 6, none⟩), .pointer (some ⟨q239, 7, none⟩)] 88 (0, 0))) fun H634 =>
   ∃ I27 : Int → ByteArray → Bool → Heap → Prop,
   ∃ M27 : Int → ByteArray → Bool → Heap → Nat,
   I27 0 s134 b157 H634 ∧
   ∀ n_27 : Int,
   ∀ s135 : ByteArray,
   ∀ b158 : Bool,
   ∀ H635 : Heap,
   I27 n_27 s135 b158 H635 →
   br (decide ((n_27 : Int) < (4 : Nat))) (
   ∃ q274 : Nat,
   ∃ o100 : Nat,
   ((some ⟨q273, 0, none⟩) : Option Addr) = some ⟨q274, o100, none⟩ ∧
   0 ≤ (n_27 : Int) ∧
   (n_27 : Int) < (4 : Nat) ∧
   ∃ p26 : Option Addr,
   cellH H635 ⟨q274, o100 + Int.toNat n_27, none⟩ = some (.pointer p26) ∧
   ∀ q275 : Nat,
   H635 q275 = none →
   FnH Tryz.prog 49 #[.pointer (some ⟨q275, 0, none⟩), .int .i64 7, .int .i64 1, .int .i64 7] (Heap.upd H635 q275 (.cells #[.string s135, .bool b158] 86 (0, 0))) fun r158 H636 =>
   ∃ l280 : Sl,
   r158 = .slice l280.p l280.n l280.c ∧
   ∃ s136 : ByteArray,
   ∃ b159 : Bool,
   H636 q275 = some (.cells #[.string s136, .bool b159] 86 (0, 0)) ∧
   letH (Heap.del H636 q275) fun H637 =>
   ptrm p26 fun q276 o101 =>
   (∃ u, cellH H637 ⟨q276, o101, none⟩ = some u) ∧
   frozenH H637 ⟨q276, o101, none⟩ = false ∧
   letH (Heap.set H637 ⟨q276, o101, none⟩ (.slice l280.p l280.n l280.c)) fun H638 =>
   SelfEq ([.loc 0 0, .v (.pointer p1), .v (.int .i64 n8), .v (.int .i64 n_2), .v (.pointer (some ⟨q239, 0, none⟩)), .v (.slice (some ⟨q273, 0, none⟩) 4 4), .v (.int .i64 (4 : Nat))], [], [86]) ∧
   I27 (IntKind.wrap .i64 (n_27 + 1)) s136 b159 H638 ∧
   M27 (IntKind.wrap .i64 (n_27 + 1)) s136 b159 H638 < M27 n_27 s135 b158 H635)
   (
   ∃ n300 : Int,
   cellH H635 ⟨q239, 0, none⟩ = some (.int .i64 n300) ∧
   ∃ n301 : Int,
   cellH H635 ⟨q239, 1, none⟩ = some (.int .i64 n301) ∧
   ∃ n302 : Int,
   cellH H635 ⟨q239, 2, none⟩ = some (.int .i64 n302) ∧
   ∃ n303 : Int,
   cellH H635 ⟨q239, 3, none⟩ = some (.int .i64 n303) ∧
   ∃ l281 : Sl,
   cellH H635 ⟨q239, 4, none⟩ = some (.slice l281.p l281.n l281.c) ∧
   ∃ l282 : Sl,
   cellH H635 ⟨q239, 5, none⟩ = some (.slice l282.p l282.n l282.c) ∧
   ∃ l283 : Sl,
   cellH H635 ⟨q239, 6, none⟩ = some (.slice l283.p l283.n l283.c) ∧
   ∃ l284 : Sl,
   cellH H635 ⟨q239, 7, none⟩ = some (.slice l284.p l284.n l284.c) ∧
   ∃ n304 : Int,
   cellH H635 ⟨q239, 8, none⟩ = some (.int .i64 n304) ∧
   FnH Tryz.prog 51 #[.agg #[.int .i64 n300, .int .i64 n301, .int .i64 n302, .int .i64 n303, .slice l281.p l281.n l281.c, .slice l282.p l282.n l282.c, .slice l283.p l283.n l283.c, .slice l284.p l284.n l284.c, .int .i64 n304]] H635 fun r159 H639 =>
   ∃ b160 : Bool,
   r159 = .bool b160 ∧
   ∀ q277 : Nat,
   H639 q277 = none →
   FnH Tryz.prog 50 #[.pointer (some ⟨q277, 0, none⟩), .bool b160] (Heap.upd H639 q277 (.cells #[.string s135, .bool b158] 86 (0, 0))) fun r160 H640 =>
   r160 = .tuple #[] ∧
   ∃ s137 : ByteArray,
   ∃ b161 : Bool,
   H640 q277 = some (.cells #[.string s137, .bool b161] 86 (0, 0)) ∧
   letH (Heap.del H640 q277) fun H641 =>
   ptrm p1 fun q278 o102 =>
   ∃ l285 : Sl,
   cellH H641 ⟨q278, o102 + 3, none⟩ = some (.slice l285.p l285.n l285.c) ∧
   ∃ n305 : Int,
   cellH H641 ⟨q239, 0, none⟩ = some (.int .i64 n305) ∧
   ∃ n306 : Int,
   cellH H641 ⟨q239, 1, none⟩ = some (.int .i64 n306) ∧
   ∃ n307 : Int,
   cellH H641 ⟨q239, 2, none⟩ = some (.int .i64 n307) ∧
   ∃ n308 : Int,
   cellH H641 ⟨q239, 3, none⟩ = some (.int .i64 n308) ∧
   ∃ l286 : Sl,
   cellH H641 ⟨q239, 4, none⟩ = some (.slice l286.p l286.n l286.c) ∧
   ∃ l287 : Sl,
   cellH H641 ⟨q239, 5, none⟩ = some (.slice l287.p l287.n l287.c) ∧
   ∃ l288 : Sl,
   cellH H641 ⟨q239, 6, none⟩ = some (.slice l288.p l288.n l288.c) ∧
   ∃ l289 : Sl,
   cellH H641 ⟨q239, 7, none⟩ = some (.slice l289.p l289.n l289.c) ∧
   ∃ n309 : Int,
   cellH H641 ⟨q239, 8, none⟩ = some (.int .i64 n309) ∧
   ∀ q279 : Nat,
   H641 q279 = none →
   letH (Heap.upd H641 q279 (.cells #[.int .i64 n305, .int .i64 n306, .int .i64 n307, .int .i64 n308, .slice l286.p l286.n l286.c, .slice l287.p l287.n l287.c, .slice l288.p l288.n l288.c, .slice l289.p l289.n l289.c, .int .i64 n309] 41 (0, 0))) fun H642 =>
   Sub H641 H642 ∧
   runH Tryz.prog (Builtin.append_ #[35, 35] 35 #[.slice l285.p l285.n l285.c, .slice (some ⟨q279, 0, none⟩) 1 1]) H642 fun r161 H643 =>
   ∃ l290 : Sl,
   r161 = .slice l290.p l290.n l290.c ∧
   ptrm p1 fun q280 o103 =>
   (∃ u, cellH H643 ⟨q280, o103 + 3, none⟩ = some u) ∧
   frozenH H643 ⟨q280, o103 + 3, none⟩ = false ∧
   letH (Heap.set H643 ⟨q280, o103 + 3, none⟩ (.slice l290.p l290.n l290.c)) fun H644 =>
   SelfEq ([.loc 0 0, .v (.pointer p1), .v (.int .i64 n8)], [], [86]) ∧
   I2 (IntKind.wrap .i64 (n_2 - 1)) s137 b161 H644 ∧
   M2 (IntKind.wrap .i64 (n_2 - 1)) s137 b161 H644 < M2 n_2 s12 b11 H25)) ∧
   ∀ q281 : Nat,
   H25 q281 = none →
   letH (Heap.upd H25 q281 (.cells #[.int .i64 0, .int .i64 0, .int .i64 0, .int .i64 0, .slice none 0 0, .slice none 0 0, .slice none 0 0, .slice none 0 0, .int .i64 0] 41 (0, 0))) fun H645 =>
   Sub H25 H645 ∧
   (∃ l291 : Sl,
   cellH H645 ⟨q11, o3 + 3, none⟩ = some (.slice l291.p l291.n l291.c) ∧
   Sub H25 H645 ∧
   ∀ q282 : Nat,
   H645 q282 = none →
   FnH Tryz.prog 47 #[.pointer (some ⟨q282, 0, none⟩), .int .i64 0, .int .i64 7] (Heap.upd H645 q282 (.cells #[.string s12, .bool b11] 86 (0, 0))) fun r162 H646 =>
   ∃ n310 : Int,
   r162 = .int .i64 n310 ∧
   ∃ s138 : ByteArray,
   ∃ b162 : Bool,
   H646 q282 = some (.cells #[.string s138, .bool b162] 86 (0, 0)) ∧
   letH (Heap.del H646 q282) fun H647 =>
   ∀ q283 : Nat,
   H647 q283 = none →
   FnH Tryz.prog 47 #[.pointer (some ⟨q283, 0, none⟩), .int .i64 1, .int .i64 1000000000] (Heap.upd H647 q283 (.cells #[.string s138, .bool b162] 86 (0, 0))) fun r163 H648 =>
   ∃ n311 : Int,
   r163 = .int .i64 n311 ∧
   ∃ s139 : ByteArray,
   ∃ b163 : Bool,
   H648 q283 = some (.cells #[.string s139, .bool b163] 86 (0, 0)) ∧
   letH (Heap.del H648 q283) fun H649 =>
   ∀ q284 : Nat,
   H649 q284 = none →
   FnH Tryz.prog 47 #[.pointer (some ⟨q284, 0, none⟩), .int .i64 1, .int .i64 1000000000] (Heap.upd H649 q284 (.cells #[.string s139, .bool b163] 86 (0, 0))) fun r164 H650 =>
   ∃ n312 : Int,
   r164 = .int .i64 n312 ∧
   ∃ s140 : ByteArray,
   ∃ b164 : Bool,
   H650 q284 = some (.cells #[.string s140, .bool b164] 86 (0, 0)) ∧
   letH (Heap.del H650 q284) fun H651 =>
   ∀ q285 : Nat,
   H651 q285 = none →
   FnH Tryz.prog 47 #[.pointer (some ⟨q285, 0, none⟩), .int .i64 1, .int .i64 5] (Heap.upd H651 q285 (.cells #[.string s140, .bool b164] 86 (0, 0))) fun r165 H652 =>
   ∃ n313 : Int,
   r165 = .int .i64 n313 ∧
   ∃ s141 : ByteArray,
   ∃ b165 : Bool,
   H652 q285 = some (.cells #[.string s141, .bool b165] 86 (0, 0)) ∧
   letH (Heap.del H652 q285) fun H653 =>
   (∃ u, cellH H653 ⟨q281, 0, none⟩ = some u) ∧
   frozenH H653 ⟨q281, 0, none⟩ = false ∧
   letH (Heap.set H653 ⟨q281, 0, none⟩ (.int .i64 (IntKind.wrap .i64 ((l291.n : Nat) + 1)))) fun H654 =>
   (∃ u, cellH H654 ⟨q281, 1, none⟩ = some u) ∧
   frozenH H654 ⟨q281, 1, none⟩ = false ∧
   letH (Heap.set H654 ⟨q281, 1, none⟩ (.int .i64 n310)) fun H655 =>
   (∃ u, cellH H655 ⟨q281, 2, none⟩ = some u) ∧
   frozenH H655 ⟨q281, 2, none⟩ = false ∧
   letH (Heap.set H655 ⟨q281, 2, none⟩ (.int .i64 n311)) fun H656 =>
   (∃ u, cellH H656 ⟨q281, 3, none⟩ = some u) ∧
   frozenH H656 ⟨q281, 3, none⟩ = false ∧
   letH (Heap.set H656 ⟨q281, 3, none⟩ (.int .i64 n312)) fun H657 =>
   (∃ u, cellH H657 ⟨q281, 4, none⟩ = some u) ∧
   frozenH H657 ⟨q281, 4, none⟩ = false ∧
   letH (Heap.set H657 ⟨q281, 4, none⟩ (.slice none 0 0)) fun H658 =>
   (∃ u, cellH H658 ⟨q281, 5, none⟩ = some u) ∧
   frozenH H658 ⟨q281, 5, none⟩ = false ∧
   letH (Heap.set H658 ⟨q281, 5, none⟩ (.slice none 0 0)) fun H659 =>
   (∃ u, cellH H659 ⟨q281, 6, none⟩ = some u) ∧
   frozenH H659 ⟨q281, 6, none⟩ = false ∧
   letH (Heap.set H659 ⟨q281, 6, none⟩ (.slice none 0 0)) fun H660 =>
   (∃ u, cellH H660 ⟨q281, 7, none⟩ = some u) ∧
   frozenH H660 ⟨q281, 7, none⟩ = false ∧
   letH (Heap.set H660 ⟨q281, 7, none⟩ (.slice none 0 0)) fun H661 =>
   (∃ u, cellH H661 ⟨q281, 8, none⟩ = some u) ∧
   frozenH H661 ⟨q281, 8, none⟩ = false ∧
   letH (Heap.set H661 ⟨q281, 8, none⟩ (.int .i64 n313)) fun H662 =>
   ∀ q286 : Nat,
   H662 q286 = none →
   letH (Heap.upd H662 q286 (.cells #[.pointer (some ⟨q281, 4, none⟩), .pointer (some ⟨q281, 5, none⟩), .pointer (some ⟨q281, 6, none⟩), .pointer (some ⟨q281, 7, none⟩)] 88 (0, 0))) fun H663 =>
   ∃ I28 : Int → ByteArray → Bool → Heap → Prop,
   ∃ M28 : Int → ByteArray → Bool → Heap → Nat,
   I28 0 s141 b165 H663 ∧
   ∀ n_28 : Int,
   ∀ s142 : ByteArray,
   ∀ b166 : Bool,
   ∀ H664 : Heap,
   I28 n_28 s142 b166 H664 →
   br (decide ((n_28 : Int) < (4 : Nat))) (
   ∃ q287 : Nat,
   ∃ o104 : Nat,
   ((some ⟨q286, 0, none⟩) : Option Addr) = some ⟨q287, o104, none⟩ ∧
   0 ≤ (n_28 : Int) ∧
   (n_28 : Int) < (4 : Nat) ∧
   ∃ p27 : Option Addr,
   cellH H664 ⟨q287, o104 + Int.toNat n_28, none⟩ = some (.pointer p27) ∧
   ∀ q288 : Nat,
   H664 q288 = none →
   FnH Tryz.prog 49 #[.pointer (some ⟨q288, 0, none⟩), .int .i64 7, .int .i64 1, .int .i64 7] (Heap.upd H664 q288 (.cells #[.string s142, .bool b166] 86 (0, 0))) fun r166 H665 =>
   ∃ l292 : Sl,
   r166 = .slice l292.p l292.n l292.c ∧
   ∃ s143 : ByteArray,
   ∃ b167 : Bool,
   H665 q288 = some (.cells #[.string s143, .bool b167] 86 (0, 0)) ∧
   letH (Heap.del H665 q288) fun H666 =>
   ptrm p27 fun q289 o105 =>
   (∃ u, cellH H666 ⟨q289, o105, none⟩ = some u) ∧
   frozenH H666 ⟨q289, o105, none⟩ = false ∧
   letH (Heap.set H666 ⟨q289, o105, none⟩ (.slice l292.p l292.n l292.c)) fun H667 =>
   SelfEq ([.loc 0 0, .v (.pointer p1), .v (.int .i64 n8), .v (.int .i64 n_2), .v (.pointer (some ⟨q281, 0, none⟩)), .v (.slice (some ⟨q286, 0, none⟩) 4 4), .v (.int .i64 (4 : Nat))], [], [86]) ∧
   I28 (IntKind.wrap .i64 (n_28 + 1)) s143 b167 H667 ∧
   M28 (IntKind.wrap .i64 (n_28 + 1)) s143 b167 H667 < M28 n_28 s142 b166 H664)
   (
   ∃ n314 : Int,
   cellH H664 ⟨q281, 0, none⟩ = some (.int .i64 n314) ∧
   ∃ n315 : Int,
   cellH H664 ⟨q281, 1, none⟩ = some (.int .i64 n315) ∧
   ∃ n316 : Int,
   cellH H664 ⟨q281, 2, none⟩ = some (.int .i64 n316) ∧
   ∃ n317 : Int,
   cellH H664 ⟨q281, 3, none⟩ = some (.int .i64 n317) ∧
   ∃ l293 : Sl,
   cellH H664 ⟨q281, 4, none⟩ = some (.slice l293.p l293.n l293.c) ∧
   ∃ l294 : Sl,
   cellH H664 ⟨q281, 5, none⟩ = some (.slice l294.p l294.n l294.c) ∧
   ∃ l295 : Sl,
   cellH H664 ⟨q281, 6, none⟩ = some (.slice l295.p l295.n l295.c) ∧
   ∃ l296 : Sl,
   cellH H664 ⟨q281, 7, none⟩ = some (.slice l296.p l296.n l296.c) ∧
   ∃ n318 : Int,
   cellH H664 ⟨q281, 8, none⟩ = some (.int .i64 n318) ∧
   FnH Tryz.prog 51 #[.agg #[.int .i64 n314, .int .i64 n315, .int .i64 n316, .int .i64 n317, .slice l293.p l293.n l293.c, .slice l294.p l294.n l294.c, .slice l295.p l295.n l295.c, .slice l296.p l296.n l296.c, .int .i64 n318]] H664 fun r167 H668 =>
   ∃ b168 : Bool,
   r167 = .bool b168 ∧
   ∀ q290 : Nat,
   H668 q290 = none →
   FnH Tryz.prog 50 #[.pointer (some ⟨q290, 0, none⟩), .bool b168] (Heap.upd H668 q290 (.cells #[.string s142, .bool b166] 86 (0, 0))) fun r168 H669 =>
   r168 = .tuple #[] ∧
   ∃ s144 : ByteArray,
   ∃ b169 : Bool,
   H669 q290 = some (.cells #[.string s144, .bool b169] 86 (0, 0)) ∧
   letH (Heap.del H669 q290) fun H670 =>
   ptrm p1 fun q291 o106 =>
   ∃ l297 : Sl,
   cellH H670 ⟨q291, o106 + 3, none⟩ = some (.slice l297.p l297.n l297.c) ∧
   ∃ n319 : Int,
   cellH H670 ⟨q281, 0, none⟩ = some (.int .i64 n319) ∧
   ∃ n320 : Int,
   cellH H670 ⟨q281, 1, none⟩ = some (.int .i64 n320) ∧
   ∃ n321 : Int,
   cellH H670 ⟨q281, 2, none⟩ = some (.int .i64 n321) ∧
   ∃ n322 : Int,
   cellH H670 ⟨q281, 3, none⟩ = some (.int .i64 n322) ∧
   ∃ l298 : Sl,
   cellH H670 ⟨q281, 4, none⟩ = some (.slice l298.p l298.n l298.c) ∧
   ∃ l299 : Sl,
   cellH H670 ⟨q281, 5, none⟩ = some (.slice l299.p l299.n l299.c) ∧
   ∃ l300 : Sl,
   cellH H670 ⟨q281, 6, none⟩ = some (.slice l300.p l300.n l300.c) ∧
   ∃ l301 : Sl,
   cellH H670 ⟨q281, 7, none⟩ = some (.slice l301.p l301.n l301.c) ∧
   ∃ n323 : Int,
   cellH H670 ⟨q281, 8, none⟩ = some (.int .i64 n323) ∧
   ∀ q292 : Nat,
   H670 q292 = none →
   letH (Heap.upd H670 q292 (.cells #[.int .i64 n319, .int .i64 n320, .int .i64 n321, .int .i64 n322, .slice l298.p l298.n l298.c, .slice l299.p l299.n l299.c, .slice l300.p l300.n l300.c, .slice l301.p l301.n l301.c, .int .i64 n323] 41 (0, 0))) fun H671 =>
   Sub H670 H671 ∧
   runH Tryz.prog (Builtin.append_ #[35, 35] 35 #[.slice l297.p l297.n l297.c, .slice (some ⟨q292, 0, none⟩) 1 1]) H671 fun r169 H672 =>
   ∃ l302 : Sl,
   r169 = .slice l302.p l302.n l302.c ∧
   ptrm p1 fun q293 o107 =>
   (∃ u, cellH H672 ⟨q293, o107 + 3, none⟩ = some u) ∧
   frozenH H672 ⟨q293, o107 + 3, none⟩ = false ∧
   letH (Heap.set H672 ⟨q293, o107 + 3, none⟩ (.slice l302.p l302.n l302.c)) fun H673 =>
   SelfEq ([.loc 0 0, .v (.pointer p1), .v (.int .i64 n8)], [], [86]) ∧
   I2 (IntKind.wrap .i64 (n_2 - 1)) s144 b169 H673 ∧
   M2 (IntKind.wrap .i64 (n_2 - 1)) s144 b169 H673 < M2 n_2 s12 b11 H25)) ∧
   ∀ q294 : Nat,
   H645 q294 = none →
   FnH Tryz.prog 47 #[.pointer (some ⟨q294, 0, none⟩), .int .i64 0, .int .i64 7] (Heap.upd H645 q294 (.cells #[.string s12, .bool b11] 86 (0, 0))) fun r170 H674 =>
   ∃ n324 : Int,
   r170 = .int .i64 n324 ∧
   ∃ s145 : ByteArray,
   ∃ b170 : Bool,
   H674 q294 = some (.cells #[.string s145, .bool b170] 86 (0, 0)) ∧
   letH (Heap.del H674 q294) fun H675 =>
   (∃ l303 : Sl,
   cellH H675 ⟨q11, o3 + 3, none⟩ = some (.slice l303.p l303.n l303.c) ∧
   ∀ q295 : Nat,
   H675 q295 = none →
   FnH Tryz.prog 47 #[.pointer (some ⟨q295, 0, none⟩), .int .i64 1, .int .i64 1000000000] (Heap.upd H675 q295 (.cells #[.string s145, .bool b170] 86 (0, 0))) fun r171 H676 =>
   ∃ n325 : Int,
   r171 = .int .i64 n325 ∧
   ∃ s146 : ByteArray,
   ∃ b171 : Bool,
   H676 q295 = some (.cells #[.string s146, .bool b171] 86 (0, 0)) ∧
   letH (Heap.del H676 q295) fun H677 =>
   ∀ q296 : Nat,
   H677 q296 = none →
   FnH Tryz.prog 47 #[.pointer (some ⟨q296, 0, none⟩), .int .i64 1, .int .i64 1000000000] (Heap.upd H677 q296 (.cells #[.string s146, .bool b171] 86 (0, 0))) fun r172 H678 =>
   ∃ n326 : Int,
   r172 = .int .i64 n326 ∧
   ∃ s147 : ByteArray,
   ∃ b172 : Bool,
   H678 q296 = some (.cells #[.string s147, .bool b172] 86 (0, 0)) ∧
   letH (Heap.del H678 q296) fun H679 =>
   ∀ q297 : Nat,
   H679 q297 = none →
   FnH Tryz.prog 47 #[.pointer (some ⟨q297, 0, none⟩), .int .i64 1, .int .i64 5] (Heap.upd H679 q297 (.cells #[.string s147, .bool b172] 86 (0, 0))) fun r173 H680 =>
   ∃ n327 : Int,
   r173 = .int .i64 n327 ∧
   ∃ s148 : ByteArray,
   ∃ b173 : Bool,
   H680 q297 = some (.cells #[.string s148, .bool b173] 86 (0, 0)) ∧
   letH (Heap.del H680 q297) fun H681 =>
   (∃ u, cellH H681 ⟨q281, 0, none⟩ = some u) ∧
   frozenH H681 ⟨q281, 0, none⟩ = false ∧
   letH (Heap.set H681 ⟨q281, 0, none⟩ (.int .i64 (IntKind.wrap .i64 ((l303.n : Nat) + 1)))) fun H682 =>
   (∃ u, cellH H682 ⟨q281, 1, none⟩ = some u) ∧
   frozenH H682 ⟨q281, 1, none⟩ = false ∧
   letH (Heap.set H682 ⟨q281, 1, none⟩ (.int .i64 n324)) fun H683 =>
   (∃ u, cellH H683 ⟨q281, 2, none⟩ = some u) ∧
   frozenH H683 ⟨q281, 2, none⟩ = false ∧
   letH (Heap.set H683 ⟨q281, 2, none⟩ (.int .i64 n325)) fun H684 =>
   (∃ u, cellH H684 ⟨q281, 3, none⟩ = some u) ∧
   frozenH H684 ⟨q281, 3, none⟩ = false ∧
   letH (Heap.set H684 ⟨q281, 3, none⟩ (.int .i64 n326)) fun H685 =>
   (∃ u, cellH H685 ⟨q281, 4, none⟩ = some u) ∧
   frozenH H685 ⟨q281, 4, none⟩ = false ∧
   letH (Heap.set H685 ⟨q281, 4, none⟩ (.slice none 0 0)) fun H686 =>
   (∃ u, cellH H686 ⟨q281, 5, none⟩ = some u) ∧
   frozenH H686 ⟨q281, 5, none⟩ = false ∧
   letH (Heap.set H686 ⟨q281, 5, none⟩ (.slice none 0 0)) fun H687 =>
   (∃ u, cellH H687 ⟨q281, 6, none⟩ = some u) ∧
   frozenH H687 ⟨q281, 6, none⟩ = false ∧
   letH (Heap.set H687 ⟨q281, 6, none⟩ (.slice none 0 0)) fun H688 =>
   (∃ u, cellH H688 ⟨q281, 7, none⟩ = some u) ∧
   frozenH H688 ⟨q281, 7, none⟩ = false ∧
   letH (Heap.set H688 ⟨q281, 7, none⟩ (.slice none 0 0)) fun H689 =>
   (∃ u, cellH H689 ⟨q281, 8, none⟩ = some u) ∧
   frozenH H689 ⟨q281, 8, none⟩ = false ∧
   letH (Heap.set H689 ⟨q281, 8, none⟩ (.int .i64 n327)) fun H690 =>
   ∀ q298 : Nat,
   H690 q298 = none →
   letH (Heap.upd H690 q298 (.cells #[.pointer (some ⟨q281, 4, none⟩), .pointer (some ⟨q281, 5, none⟩), .pointer (some ⟨q281, 6, none⟩), .pointer (some ⟨q281, 7, none⟩)] 88 (0, 0))) fun H691 =>
   ∃ I29 : Int → ByteArray → Bool → Heap → Prop,
   ∃ M29 : Int → ByteArray → Bool → Heap → Nat,
   I29 0 s148 b173 H691 ∧
   ∀ n_29 : Int,
   ∀ s149 : ByteArray,
   ∀ b174 : Bool,
   ∀ H692 : Heap,
   I29 n_29 s149 b174 H692 →
   br (decide ((n_29 : Int) < (4 : Nat))) (
   ∃ q299 : Nat,
   ∃ o108 : Nat,
   ((some ⟨q298, 0, none⟩) : Option Addr) = some ⟨q299, o108, none⟩ ∧
   0 ≤ (n_29 : Int) ∧
   (n_29 : Int) < (4 : Nat) ∧
   ∃ p28 : Option Addr,
   cellH H692 ⟨q299, o108 + Int.toNat n_29, none⟩ = some (.pointer p28) ∧
   ∀ q300 : Nat,
   H692 q300 = none →
   FnH Tryz.prog 49 #[.pointer (some ⟨q300, 0, none⟩), .int .i64 7, .int .i64 1, .int .i64 7] (Heap.upd H692 q300 (.cells #[.string s149, .bool b174] 86 (0, 0))) fun r174 H693 =>
   ∃ l304 : Sl,
   r174 = .slice l304.p l304.n l304.c ∧
   ∃ s150 : ByteArray,
   ∃ b175 : Bool,
   H693 q300 = some (.cells #[.string s150, .bool b175] 86 (0, 0)) ∧
   letH (Heap.del H693 q300) fun H694 =>
   ptrm p28 fun q301 o109 =>
   (∃ u, cellH H694 ⟨q301, o109, none⟩ = some u) ∧
   frozenH H694 ⟨q301, o109, none⟩ = false ∧
   letH (Heap.set H694 ⟨q301, o109, none⟩ (.slice l304.p l304.n l304.c)) fun H695 =>
   SelfEq ([.loc 0 0, .v (.pointer p1), .v (.int .i64 n8), .v (.int .i64 n_2), .v (.pointer (some ⟨q281, 0, none⟩)), .v (.slice (some ⟨q298, 0, none⟩) 4 4), .v (.int .i64 (4 : Nat))], [], [86]) ∧
   I29 (IntKind.wrap .i64 (n_29 + 1)) s150 b175 H695 ∧
   M29 (IntKind.wrap .i64 (n_29 + 1)) s150 b175 H695 < M29 n_29 s149 b174 H692)
   (
   ∃ n328 : Int,
   cellH H692 ⟨q281, 0, none⟩ = some (.int .i64 n328) ∧
   ∃ n329 : Int,
   cellH H692 ⟨q281, 1, none⟩ = some (.int .i64 n329) ∧
   ∃ n330 : Int,
   cellH H692 ⟨q281, 2, none⟩ = some (.int .i64 n330) ∧
   ∃ n331 : Int,
   cellH H692 ⟨q281, 3, none⟩ = some (.int .i64 n331) ∧
   ∃ l305 : Sl,
   cellH H692 ⟨q281, 4, none⟩ = some (.slice l305.p l305.n l305.c) ∧
   ∃ l306 : Sl,
   cellH H692 ⟨q281, 5, none⟩ = some (.slice l306.p l306.n l306.c) ∧
   ∃ l307 : Sl,
   cellH H692 ⟨q281, 6, none⟩ = some (.slice l307.p l307.n l307.c) ∧
   ∃ l308 : Sl,
   cellH H692 ⟨q281, 7, none⟩ = some (.slice l308.p l308.n l308.c) ∧
   ∃ n332 : Int,
   cellH H692 ⟨q281, 8, none⟩ = some (.int .i64 n332) ∧
   FnH Tryz.prog 51 #[.agg #[.int .i64 n328, .int .i64 n329, .int .i64 n330, .int .i64 n331, .slice l305.p l305.n l305.c, .slice l306.p l306.n l306.c, .slice l307.p l307.n l307.c, .slice l308.p l308.n l308.c, .int .i64 n332]] H692 fun r175 H696 =>
   ∃ b176 : Bool,
   r175 = .bool b176 ∧
   ∀ q302 : Nat,
   H696 q302 = none →
   FnH Tryz.prog 50 #[.pointer (some ⟨q302, 0, none⟩), .bool b176] (Heap.upd H696 q302 (.cells #[.string s149, .bool b174] 86 (0, 0))) fun r176 H697 =>
   r176 = .tuple #[] ∧
   ∃ s151 : ByteArray,
   ∃ b177 : Bool,
   H697 q302 = some (.cells #[.string s151, .bool b177] 86 (0, 0)) ∧
   letH (Heap.del H697 q302) fun H698 =>
   ptrm p1 fun q303 o110 =>
   ∃ l309 : Sl,
   cellH H698 ⟨q303, o110 + 3, none⟩ = some (.slice l309.p l309.n l309.c) ∧
   ∃ n333 : Int,
   cellH H698 ⟨q281, 0, none⟩ = some (.int .i64 n333) ∧
   ∃ n334 : Int,
   cellH H698 ⟨q281, 1, none⟩ = some (.int .i64 n334) ∧
   ∃ n335 : Int,
   cellH H698 ⟨q281, 2, none⟩ = some (.int .i64 n335) ∧
   ∃ n336 : Int,
   cellH H698 ⟨q281, 3, none⟩ = some (.int .i64 n336) ∧
   ∃ l310 : Sl,
   cellH H698 ⟨q281, 4, none⟩ = some (.slice l310.p l310.n l310.c) ∧
   ∃ l311 : Sl,
   cellH H698 ⟨q281, 5, none⟩ = some (.slice l311.p l311.n l311.c) ∧
   ∃ l312 : Sl,
   cellH H698 ⟨q281, 6, none⟩ = some (.slice l312.p l312.n l312.c) ∧
   ∃ l313 : Sl,
   cellH H698 ⟨q281, 7, none⟩ = some (.slice l313.p l313.n l313.c) ∧
   ∃ n337 : Int,
   cellH H698 ⟨q281, 8, none⟩ = some (.int .i64 n337) ∧
   ∀ q304 : Nat,
   H698 q304 = none →
   letH (Heap.upd H698 q304 (.cells #[.int .i64 n333, .int .i64 n334, .int .i64 n335, .int .i64 n336, .slice l310.p l310.n l310.c, .slice l311.p l311.n l311.c, .slice l312.p l312.n l312.c, .slice l313.p l313.n l313.c, .int .i64 n337] 41 (0, 0))) fun H699 =>
   Sub H698 H699 ∧
   runH Tryz.prog (Builtin.append_ #[35, 35] 35 #[.slice l309.p l309.n l309.c, .slice (some ⟨q304, 0, none⟩) 1 1]) H699 fun r177 H700 =>
   ∃ l314 : Sl,
   r177 = .slice l314.p l314.n l314.c ∧
   ptrm p1 fun q305 o111 =>
   (∃ u, cellH H700 ⟨q305, o111 + 3, none⟩ = some u) ∧
   frozenH H700 ⟨q305, o111 + 3, none⟩ = false ∧
   letH (Heap.set H700 ⟨q305, o111 + 3, none⟩ (.slice l314.p l314.n l314.c)) fun H701 =>
   SelfEq ([.loc 0 0, .v (.pointer p1), .v (.int .i64 n8)], [], [86]) ∧
   I2 (IntKind.wrap .i64 (n_2 - 1)) s151 b177 H701 ∧
   M2 (IntKind.wrap .i64 (n_2 - 1)) s151 b177 H701 < M2 n_2 s12 b11 H25)) ∧
   ∀ q306 : Nat,
   H675 q306 = none →
   FnH Tryz.prog 47 #[.pointer (some ⟨q306, 0, none⟩), .int .i64 1, .int .i64 1000000000] (Heap.upd H675 q306 (.cells #[.string s145, .bool b170] 86 (0, 0))) fun r178 H702 =>
   ∃ n338 : Int,
   r178 = .int .i64 n338 ∧
   ∃ s152 : ByteArray,
   ∃ b178 : Bool,
   H702 q306 = some (.cells #[.string s152, .bool b178] 86 (0, 0)) ∧
   letH (Heap.del H702 q306) fun H703 =>
   (∃ l315 : Sl,
   cellH H703 ⟨q11, o3 + 3, none⟩ = some (.slice l315.p l315.n l315.c) ∧
   ∀ q307 : Nat,
   H703 q307 = none →
   FnH Tryz.prog 47 #[.pointer (some ⟨q307, 0, none⟩), .int .i64 1, .int .i64 1000000000] (Heap.upd H703 q307 (.cells #[.string s152, .bool b178] 86 (0, 0))) fun r179 H704 =>
   ∃ n339 : Int,
   r179 = .int .i64 n339 ∧
   ∃ s153 : ByteArray,
   ∃ b179 : Bool,
   H704 q307 = some (.cells #[.string s153, .bool b179] 86 (0, 0)) ∧
   letH (Heap.del H704 q307) fun H705 =>
   ∀ q308 : Nat,
   H705 q308 = none →
   FnH Tryz.prog 47 #[.pointer (some ⟨q308, 0, none⟩), .int .i64 1, .int .i64 5] (Heap.upd H705 q308 (.cells #[.string s153, .bool b179] 86 (0, 0))) fun r180 H706 =>
   ∃ n340 : Int,
   r180 = .int .i64 n340 ∧
   ∃ s154 : ByteArray,
   ∃ b180 : Bool,
   H706 q308 = some (.cells #[.string s154, .bool b180] 86 (0, 0)) ∧
   letH (Heap.del H706 q308) fun H707 =>
   (∃ u, cellH H707 ⟨q281, 0, none⟩ = some u) ∧
   frozenH H707 ⟨q281, 0, none⟩ = false ∧
   letH (Heap.set H707 ⟨q281, 0, none⟩ (.int .i64 (IntKind.wrap .i64 ((l315.n : Nat) + 1)))) fun H708 =>
   (∃ u, cellH H708 ⟨q281, 1, none⟩ = some u) ∧
   frozenH H708 ⟨q281, 1, none⟩ = false ∧
   letH (Heap.set H708 ⟨q281, 1, none⟩ (.int .i64 n324)) fun H709 =>
   (∃ u, cellH H709 ⟨q281, 2, none⟩ = some u) ∧
   frozenH H709 ⟨q281, 2, none⟩ = false ∧
   letH (Heap.set H709 ⟨q281, 2, none⟩ (.int .i64 n338)) fun H710 =>
   (∃ u, cellH H710 ⟨q281, 3, none⟩ = some u) ∧
   frozenH H710 ⟨q281, 3, none⟩ = false ∧
   letH (Heap.set H710 ⟨q281, 3, none⟩ (.int .i64 n339)) fun H711 =>
   (∃ u, cellH H711 ⟨q281, 4, none⟩ = some u) ∧
   frozenH H711 ⟨q281, 4, none⟩ = false ∧
   letH (Heap.set H711 ⟨q281, 4, none⟩ (.slice none 0 0)) fun H712 =>
   (∃ u, cellH H712 ⟨q281, 5, none⟩ = some u) ∧
   frozenH H712 ⟨q281, 5, none⟩ = false ∧
   letH (Heap.set H712 ⟨q281, 5, none⟩ (.slice none 0 0)) fun H713 =>
   (∃ u, cellH H713 ⟨q281, 6, none⟩ = some u) ∧
   frozenH H713 ⟨q281, 6, none⟩ = false ∧
   letH (Heap.set H713 ⟨q281, 6, none⟩ (.slice none 0 0)) fun H714 =>
   (∃ u, cellH H714 ⟨q281, 7, none⟩ = some u) ∧
   frozenH H714 ⟨q281, 7, none⟩ = false ∧
   letH (Heap.set H714 ⟨q281, 7, none⟩ (.slice none 0 0)) fun H715 =>
   (∃ u, cellH H715 ⟨q281, 8, none⟩ = some u) ∧
   frozenH H715 ⟨q281, 8, none⟩ = false ∧
   letH (Heap.set H715 ⟨q281, 8, none⟩ (.int .i64 n340)) fun H716 =>
   ∀ q309 : Nat,
   H716 q309 = none →
   letH (Heap.upd H716 q309 (.cells #[.pointer (some ⟨q281, 4, none⟩), .pointer (some ⟨q281, 5, none⟩), .pointer (some ⟨q281, 6, none⟩), .pointer (some ⟨q281, 7, none⟩)] 88 (0, 0))) fun H717 =>
   ∃ I30 : Int → ByteArray → Bool → Heap → Prop,
   ∃ M30 : Int → ByteArray → Bool → Heap → Nat,
   I30 0 s154 b180 H717 ∧
   ∀ n_30 : Int,
   ∀ s155 : ByteArray,
   ∀ b181 : Bool,
   ∀ H718 : Heap,
   I30 n_30 s155 b181 H718 →
   br (decide ((n_30 : Int) < (4 : Nat))) (
   ∃ q310 : Nat,
   ∃ o112 : Nat,
   ((some ⟨q309, 0, none⟩) : Option Addr) = some ⟨q310, o112, none⟩ ∧
   0 ≤ (n_30 : Int) ∧
   (n_30 : Int) < (4 : Nat) ∧
   ∃ p29 : Option Addr,
   cellH H718 ⟨q310, o112 + Int.toNat n_30, none⟩ = some (.pointer p29) ∧
   ∀ q311 : Nat,
   H718 q311 = none →
   FnH Tryz.prog 49 #[.pointer (some ⟨q311, 0, none⟩), .int .i64 7, .int .i64 1, .int .i64 7] (Heap.upd H718 q311 (.cells #[.string s155, .bool b181] 86 (0, 0))) fun r181 H719 =>
   ∃ l316 : Sl,
   r181 = .slice l316.p l316.n l316.c ∧
   ∃ s156 : ByteArray,
   ∃ b182 : Bool,
   H719 q311 = some (.cells #[.string s156, .bool b182] 86 (0, 0)) ∧
   letH (Heap.del H719 q311) fun H720 =>
   ptrm p29 fun q312 o113 =>
   (∃ u, cellH H720 ⟨q312, o113, none⟩ = some u) ∧
   frozenH H720 ⟨q312, o113, none⟩ = false ∧
   letH (Heap.set H720 ⟨q312, o113, none⟩ (.slice l316.p l316.n l316.c)) fun H721 =>
   SelfEq ([.loc 0 0, .v (.pointer p1), .v (.int .i64 n8), .v (.int .i64 n_2), .v (.pointer (some ⟨q281, 0, none⟩)), .v (.slice (some ⟨q309, 0, none⟩) 4 4), .v (.int .i64 (4 : Nat))], [], [86]) ∧
   I30 (IntKind.wrap .i64 (n_30 + 1)) s156 b182 H721 ∧
   M30 (IntKind.wrap .i64 (n_30 + 1)) s156 b182 H721 < M30 n_30 s155 b181 H718)
   (
   ∃ n341 : Int,
   cellH H718 ⟨q281, 0, none⟩ = some (.int .i64 n341) ∧
   ∃ n342 : Int,
   cellH H718 ⟨q281, 1, none⟩ = some (.int .i64 n342) ∧
   ∃ n343 : Int,
   cellH H718 ⟨q281, 2, none⟩ = some (.int .i64 n343) ∧
   ∃ n344 : Int,
   cellH H718 ⟨q281, 3, none⟩ = some (.int .i64 n344) ∧
   ∃ l317 : Sl,
   cellH H718 ⟨q281, 4, none⟩ = some (.slice l317.p l317.n l317.c) ∧
   ∃ l318 : Sl,
   cellH H718 ⟨q281, 5, none⟩ = some (.slice l318.p l318.n l318.c) ∧
   ∃ l319 : Sl,
   cellH H718 ⟨q281, 6, none⟩ = some (.slice l319.p l319.n l319.c) ∧
   ∃ l320 : Sl,
   cellH H718 ⟨q281, 7, none⟩ = some (.slice l320.p l320.n l320.c) ∧
   ∃ n345 : Int,
   cellH H718 ⟨q281, 8, none⟩ = some (.int .i64 n345) ∧
   FnH Tryz.prog 51 #[.agg #[.int .i64 n341, .int .i64 n342, .int .i64 n343, .int .i64 n344, .slice l317.p l317.n l317.c, .slice l318.p l318.n l318.c, .slice l319.p l319.n l319.c, .slice l320.p l320.n l320.c, .int .i64 n345]] H718 fun r182 H722 =>
   ∃ b183 : Bool,
   r182 = .bool b183 ∧
   ∀ q313 : Nat,
   H722 q313 = none →
   FnH Tryz.prog 50 #[.pointer (some ⟨q313, 0, none⟩), .bool b183] (Heap.upd H722 q313 (.cells #[.string s155, .bool b181] 86 (0, 0))) fun r183 H723 =>
   r183 = .tuple #[] ∧
   ∃ s157 : ByteArray,
   ∃ b184 : Bool,
   H723 q313 = some (.cells #[.string s157, .bool b184] 86 (0, 0)) ∧
   letH (Heap.del H723 q313) fun H724 =>
   ptrm p1 fun q314 o114 =>
   ∃ l321 : Sl,
   cellH H724 ⟨q314, o114 + 3, none⟩ = some (.slice l321.p l321.n l321.c) ∧
   ∃ n346 : Int,
   cellH H724 ⟨q281, 0, none⟩ = some (.int .i64 n346) ∧
   ∃ n347 : Int,
   cellH H724 ⟨q281, 1, none⟩ = some (.int .i64 n347) ∧
   ∃ n348 : Int,
   cellH H724 ⟨q281, 2, none⟩ = some (.int .i64 n348) ∧
   ∃ n349 : Int,
   cellH H724 ⟨q281, 3, none⟩ = some (.int .i64 n349) ∧
   ∃ l322 : Sl,
   cellH H724 ⟨q281, 4, none⟩ = some (.slice l322.p l322.n l322.c) ∧
   ∃ l323 : Sl,
   cellH H724 ⟨q281, 5, none⟩ = some (.slice l323.p l323.n l323.c) ∧
   ∃ l324 : Sl,
   cellH H724 ⟨q281, 6, none⟩ = some (.slice l324.p l324.n l324.c) ∧
   ∃ l325 : Sl,
   cellH H724 ⟨q281, 7, none⟩ = some (.slice l325.p l325.n l325.c) ∧
   ∃ n350 : Int,
   cellH H724 ⟨q281, 8, none⟩ = some (.int .i64 n350) ∧
   ∀ q315 : Nat,
   H724 q315 = none →
   letH (Heap.upd H724 q315 (.cells #[.int .i64 n346, .int .i64 n347, .int .i64 n348, .int .i64 n349, .slice l322.p l322.n l322.c, .slice l323.p l323.n l323.c, .slice l324.p l324.n l324.c, .slice l325.p l325.n l325.c, .int .i64 n350] 41 (0, 0))) fun H725 =>
   Sub H724 H725 ∧
   runH Tryz.prog (Builtin.append_ #[35, 35] 35 #[.slice l321.p l321.n l321.c, .slice (some ⟨q315, 0, none⟩) 1 1]) H725 fun r184 H726 =>
   ∃ l326 : Sl,
   r184 = .slice l326.p l326.n l326.c ∧
   ptrm p1 fun q316 o115 =>
   (∃ u, cellH H726 ⟨q316, o115 + 3, none⟩ = some u) ∧
   frozenH H726 ⟨q316, o115 + 3, none⟩ = false ∧
   letH (Heap.set H726 ⟨q316, o115 + 3, none⟩ (.slice l326.p l326.n l326.c)) fun H727 =>
   SelfEq ([.loc 0 0, .v (.pointer p1), .v (.int .i64 n8)], [], [86]) ∧
   I2 (IntKind.wrap .i64 (n_2 - 1)) s157 b184 H727 ∧
   M2 (IntKind.wrap .i64 (n_2 - 1)) s157 b184 H727 < M2 n_2 s12 b11 H25)) ∧
   ∀ q317 : Nat,
   H703 q317 = none →
   FnH Tryz.prog 47 #[.pointer (some ⟨q317, 0, none⟩), .int .i64 1, .int .i64 1000000000] (Heap.upd H703 q317 (.cells #[.string s152, .bool b178] 86 (0, 0))) fun r185 H728 =>
   ∃ n351 : Int,
   r185 = .int .i64 n351 ∧
   ∃ s158 : ByteArray,
   ∃ b185 : Bool,
   H728 q317 = some (.cells #[.string s158, .bool b185] 86 (0, 0)) ∧
   letH (Heap.del H728 q317) fun H729 =>
   (∃ l327 : Sl,
   cellH H729 ⟨q11, o3 + 3, none⟩ = some (.slice l327.p l327.n l327.c) ∧
   ∀ q318 : Nat,
   H729 q318 = none →
   FnH Tryz.prog 47 #[.pointer (some ⟨q318, 0, none⟩), .int .i64 1, .int .i64 5] (Heap.upd H729 q318 (.cells #[.string s158, .bool b185] 86 (0, 0))) fun r186 H730 =>
   ∃ n352 : Int,
   r186 = .int .i64 n352 ∧
   ∃ s159 : ByteArray,
   ∃ b186 : Bool,
   H730 q318 = some (.cells #[.string s159, .bool b186] 86 (0, 0)) ∧
   letH (Heap.del H730 q318) fun H731 =>
   (∃ u, cellH H731 ⟨q281, 0, none⟩ = some u) ∧
   frozenH H731 ⟨q281, 0, none⟩ = false ∧
   letH (Heap.set H731 ⟨q281, 0, none⟩ (.int .i64 (IntKind.wrap .i64 ((l327.n : Nat) + 1)))) fun H732 =>
   (∃ u, cellH H732 ⟨q281, 1, none⟩ = some u) ∧
   frozenH H732 ⟨q281, 1, none⟩ = false ∧
   letH (Heap.set H732 ⟨q281, 1, none⟩ (.int .i64 n324)) fun H733 =>
   (∃ u, cellH H733 ⟨q281, 2, none⟩ = some u) ∧
   frozenH H733 ⟨q281, 2, none⟩ = false ∧
   letH (Heap.set H733 ⟨q281, 2, none⟩ (.int .i64 n338)) fun H734 =>
   (∃ u, cellH H734 ⟨q281, 3, none⟩ = some u) ∧
   frozenH H734 ⟨q281, 3, none⟩ = false ∧
   letH (Heap.set H734 ⟨q281, 3, none⟩ (.int .i64 n351)) fun H735 =>
   (∃ u, cellH H735 ⟨q281, 4, none⟩ = some u) ∧
   frozenH H735 ⟨q281, 4, none⟩ = false ∧
   letH (Heap.set H735 ⟨q281, 4, none⟩ (.slice none 0 0)) fun H736 =>
   (∃ u, cellH H736 ⟨q281, 5, none⟩ = some u) ∧
   frozenH H736 ⟨q281, 5, none⟩ = false ∧
   letH (Heap.set H736 ⟨q281, 5, none⟩ (.slice none 0 0)) fun H737 =>
   (∃ u, cellH H737 ⟨q281, 6, none⟩ = some u) ∧
   frozenH H737 ⟨q281, 6, none⟩ = false ∧
   letH (Heap.set H737 ⟨q281, 6, none⟩ (.slice none 0 0)) fun H738 =>
   (∃ u, cellH H738 ⟨q281, 7, none⟩ = some u) ∧
   frozenH H738 ⟨q281, 7, none⟩ = false ∧
   letH (Heap.set H738 ⟨q281, 7, none⟩ (.slice none 0 0)) fun H739 =>
   (∃ u, cellH H739 ⟨q281, 8, none⟩ = some u) ∧
   frozenH H739 ⟨q281, 8, none⟩ = false ∧
   letH (Heap.set H739 ⟨q281, 8, none⟩ (.int .i64 n352)) fun H740 =>
   ∀ q319 : Nat,
   H740 q319 = none →
   letH (Heap.upd H740 q319 (.cells #[.pointer (some ⟨q281, 4, none⟩), .pointer (some ⟨q281, 5, none⟩), .pointer (some ⟨q281, 6, none⟩), .pointer (some ⟨q281, 7, none⟩)] 88 (0, 0))) fun H741 =>
   ∃ I31 : Int → ByteArray → Bool → Heap → Prop,
   ∃ M31 : Int → ByteArray → Bool → Heap → Nat,
   I31 0 s159 b186 H741 ∧
   ∀ n_31 : Int,
   ∀ s160 : ByteArray,
   ∀ b187 : Bool,
   ∀ H742 : Heap,
   I31 n_31 s160 b187 H742 →
   br (decide ((n_31 : Int) < (4 : Nat))) (
   ∃ q320 : Nat,
   ∃ o116 : Nat,
   ((some ⟨q319, 0, none⟩) : Option Addr) = some ⟨q320, o116, none⟩ ∧
   0 ≤ (n_31 : Int) ∧
   (n_31 : Int) < (4 : Nat) ∧
   ∃ p30 : Option Addr,
   cellH H742 ⟨q320, o116 + Int.toNat n_31, none⟩ = some (.pointer p30) ∧
   ∀ q321 : Nat,
   H742 q321 = none →
   FnH Tryz.prog 49 #[.pointer (some ⟨q321, 0, none⟩), .int .i64 7, .int .i64 1, .int .i64 7] (Heap.upd H742 q321 (.cells #[.string s160, .bool b187] 86 (0, 0))) fun r187 H743 =>
   ∃ l328 : Sl,
   r187 = .slice l328.p l328.n l328.c ∧
   ∃ s161 : ByteArray,
   ∃ b188 : Bool,
   H743 q321 = some (.cells #[.string s161, .bool b188] 86 (0, 0)) ∧
   letH (Heap.del H743 q321) fun H744 =>
   ptrm p30 fun q322 o117 =>
   (∃ u, cellH H744 ⟨q322, o117, none⟩ = some u) ∧
   frozenH H744 ⟨q322, o117, none⟩ = false ∧
   letH (Heap.set H744 ⟨q322, o117, none⟩ (.slice l328.p l328.n l328.c)) fun H745 =>
   SelfEq ([.loc 0 0, .v (.pointer p1), .v (.int .i64 n8), .v (.int .i64 n_2), .v (.pointer (some ⟨q281, 0, none⟩)), .v (.slice (some ⟨q319, 0, none⟩) 4 4), .v (.int .i64 (4 : Nat))], [], [86]) ∧
   I31 (IntKind.wrap .i64 (n_31 + 1)) s161 b188 H745 ∧
   M31 (IntKind.wrap .i64 (n_31 + 1)) s161 b188 H745 < M31 n_31 s160 b187 H742)
   (
   ∃ n353 : Int,
   cellH H742 ⟨q281, 0, none⟩ = some (.int .i64 n353) ∧
   ∃ n354 : Int,
   cellH H742 ⟨q281, 1, none⟩ = some (.int .i64 n354) ∧
   ∃ n355 : Int,
   cellH H742 ⟨q281, 2, none⟩ = some (.int .i64 n355) ∧
   ∃ n356 : Int,
   cellH H742 ⟨q281, 3, none⟩ = some (.int .i64 n356) ∧
   ∃ l329 : Sl,
   cellH H742 ⟨q281, 4, none⟩ = some (.slice l329.p l329.n l329.c) ∧
   ∃ l330 : Sl,
   cellH H742 ⟨q281, 5, none⟩ = some (.slice l330.p l330.n l330.c) ∧
   ∃ l331 : Sl,
   cellH H742 ⟨q281, 6, none⟩ = some (.slice l331.p l331.n l331.c) ∧
   ∃ l332 : Sl,
   cellH H742 ⟨q281, 7, none⟩ = some (.slice l332.p l332.n l332.c) ∧
   ∃ n357 : Int,
   cellH H742 ⟨q281, 8, none⟩ = some (.int .i64 n357) ∧
   FnH Tryz.prog 51 #[.agg #[.int .i64 n353, .int .i64 n354, .int .i64 n355, .int .i64 n356, .slice l329.p l329.n l329.c, .slice l330.p l330.n l330.c, .slice l331.p l331.n l331.c, .slice l332.p l332.n l332.c, .int .i64 n357]] H742 fun r188 H746 =>
   ∃ b189 : Bool,
   r188 = .bool b189 ∧
   ∀ q323 : Nat,
   H746 q323 = none →
   FnH Tryz.prog 50 #[.pointer (some ⟨q323, 0, none⟩), .bool b189] (Heap.upd H746 q323 (.cells #[.string s160, .bool b187] 86 (0, 0))) fun r189 H747 =>
   r189 = .tuple #[] ∧
   ∃ s162 : ByteArray,
   ∃ b190 : Bool,
   H747 q323 = some (.cells #[.string s162, .bool b190] 86 (0, 0)) ∧
   letH (Heap.del H747 q323) fun H748 =>
   ptrm p1 fun q324 o118 =>
   ∃ l333 : Sl,
   cellH H748 ⟨q324, o118 + 3, none⟩ = some (.slice l333.p l333.n l333.c) ∧
   ∃ n358 : Int,
   cellH H748 ⟨q281, 0, none⟩ = some (.int .i64 n358) ∧
   ∃ n359 : Int,
   cellH H748 ⟨q281, 1, none⟩ = some (.int .i64 n359) ∧
   ∃ n360 : Int,
   cellH H748 ⟨q281, 2, none⟩ = some (.int .i64 n360) ∧
   ∃ n361 : Int,
   cellH H748 ⟨q281, 3, none⟩ = some (.int .i64 n361) ∧
   ∃ l334 : Sl,
   cellH H748 ⟨q281, 4, none⟩ = some (.slice l334.p l334.n l334.c) ∧
   ∃ l335 : Sl,
   cellH H748 ⟨q281, 5, none⟩ = some (.slice l335.p l335.n l335.c) ∧
   ∃ l336 : Sl,
   cellH H748 ⟨q281, 6, none⟩ = some (.slice l336.p l336.n l336.c) ∧
   ∃ l337 : Sl,
   cellH H748 ⟨q281, 7, none⟩ = some (.slice l337.p l337.n l337.c) ∧
   ∃ n362 : Int,
   cellH H748 ⟨q281, 8, none⟩ = some (.int .i64 n362) ∧
   ∀ q325 : Nat,
   H748 q325 = none →
   letH (Heap.upd H748 q325 (.cells #[.int .i64 n358, .int .i64 n359, .int .i64 n360, .int .i64 n361, .slice l334.p l334.n l334.c, .slice l335.p l335.n l335.c, .slice l336.p l336.n l336.c, .slice l337.p l337.n l337.c, .int .i64 n362] 41 (0, 0))) fun H749 =>
   Sub H748 H749 ∧
   runH Tryz.prog (Builtin.append_ #[35, 35] 35 #[.slice l333.p l333.n l333.c, .slice (some ⟨q325, 0, none⟩) 1 1]) H749 fun r190 H750 =>
   ∃ l338 : Sl,
   r190 = .slice l338.p l338.n l338.c ∧
   ptrm p1 fun q326 o119 =>
   (∃ u, cellH H750 ⟨q326, o119 + 3, none⟩ = some u) ∧
   frozenH H750 ⟨q326, o119 + 3, none⟩ = false ∧
   letH (Heap.set H750 ⟨q326, o119 + 3, none⟩ (.slice l338.p l338.n l338.c)) fun H751 =>
   SelfEq ([.loc 0 0, .v (.pointer p1), .v (.int .i64 n8)], [], [86]) ∧
   I2 (IntKind.wrap .i64 (n_2 - 1)) s162 b190 H751 ∧
   M2 (IntKind.wrap .i64 (n_2 - 1)) s162 b190 H751 < M2 n_2 s12 b11 H25)) ∧
   ∀ q327 : Nat,
   H729 q327 = none →
   FnH Tryz.prog 47 #[.pointer (some ⟨q327, 0, none⟩), .int .i64 1, .int .i64 5] (Heap.upd H729 q327 (.cells #[.string s158, .bool b185] 86 (0, 0))) fun r191 H752 =>
   ∃ n363 : Int,
   r191 = .int .i64 n363 ∧
   ∃ s163 : ByteArray,
   ∃ b191 : Bool,
   H752 q327 = some (.cells #[.string s163, .bool b191] 86 (0, 0)) ∧
   letH (Heap.del H752 q327) fun H753 =>
   ∃ l339 : Sl,
   cellH H753 ⟨q11, o3 + 3, none⟩ = some (.slice l339.p l339.n l339.c) ∧
   (∃ u, cellH H753 ⟨q281, 0, none⟩ = some u) ∧
   frozenH H753 ⟨q281, 0, none⟩ = false ∧
   letH (Heap.set H753 ⟨q281, 0, none⟩ (.int .i64 (IntKind.wrap .i64 ((l339.n : Nat) + 1)))) fun H754 =>
   (∃ u, cellH H754 ⟨q281, 1, none⟩ = some u) ∧
   frozenH H754 ⟨q281, 1, none⟩ = false ∧
   letH (Heap.set H754 ⟨q281, 1, none⟩ (.int .i64 n324)) fun H755 =>
   (∃ u, cellH H755 ⟨q281, 2, none⟩ = some u) ∧
   frozenH H755 ⟨q281, 2, none⟩ = false ∧
   letH (Heap.set H755 ⟨q281, 2, none⟩ (.int .i64 n338)) fun H756 =>
   (∃ u, cellH H756 ⟨q281, 3, none⟩ = some u) ∧
   frozenH H756 ⟨q281, 3, none⟩ = false ∧
   letH (Heap.set H756 ⟨q281, 3, none⟩ (.int .i64 n351)) fun H757 =>
   (∃ u, cellH H757 ⟨q281, 4, none⟩ = some u) ∧
   frozenH H757 ⟨q281, 4, none⟩ = false ∧
   letH (Heap.set H757 ⟨q281, 4, none⟩ (.slice none 0 0)) fun H758 =>
   (∃ u, cellH H758 ⟨q281, 5, none⟩ = some u) ∧
   frozenH H758 ⟨q281, 5, none⟩ = false ∧
   letH (Heap.set H758 ⟨q281, 5, none⟩ (.slice none 0 0)) fun H759 =>
   (∃ u, cellH H759 ⟨q281, 6, none⟩ = some u) ∧
   frozenH H759 ⟨q281, 6, none⟩ = false ∧
   letH (Heap.set H759 ⟨q281, 6, none⟩ (.slice none 0 0)) fun H760 =>
   (∃ u, cellH H760 ⟨q281, 7, none⟩ = some u) ∧
   frozenH H760 ⟨q281, 7, none⟩ = false ∧
   letH (Heap.set H760 ⟨q281, 7, none⟩ (.slice none 0 0)) fun H761 =>
   (∃ u, cellH H761 ⟨q281, 8, none⟩ = some u) ∧
   frozenH H761 ⟨q281, 8, none⟩ = false ∧
   letH (Heap.set H761 ⟨q281, 8, none⟩ (.int .i64 n363)) fun H762 =>
   ∀ q328 : Nat,
   H762 q328 = none →
   letH (Heap.upd H762 q328 (.cells #[.pointer (some ⟨q281, 4, none⟩), .pointer (some ⟨q281, 5, none⟩), .pointer (some ⟨q281, 6, none⟩), .pointer (some ⟨q281, 7, none⟩)] 88 (0, 0))) fun H763 =>
   ∃ I32 : Int → ByteArray → Bool → Heap → Prop,
   ∃ M32 : Int → ByteArray → Bool → Heap → Nat,
   I32 0 s163 b191 H763 ∧
   ∀ n_32 : Int,
   ∀ s164 : ByteArray,
   ∀ b192 : Bool,
   ∀ H764 : Heap,
   I32 n_32 s164 b192 H764 →
   br (decide ((n_32 : Int) < (4 : Nat))) (
   ∃ q329 : Nat,
   ∃ o120 : Nat,
   ((some ⟨q328, 0, none⟩) : Option Addr) = some ⟨q329, o120, none⟩ ∧
   0 ≤ (n_32 : Int) ∧
   (n_32 : Int) < (4 : Nat) ∧
   ∃ p31 : Option Addr,
   cellH H764 ⟨q329, o120 + Int.toNat n_32, none⟩ = some (.pointer p31) ∧
   ∀ q330 : Nat,
   H764 q330 = none →
   FnH Tryz.prog 49 #[.pointer (some ⟨q330, 0, none⟩), .int .i64 7, .int .i64 1, .int .i64 7] (Heap.upd H764 q330 (.cells #[.string s164, .bool b192] 86 (0, 0))) fun r192 H765 =>
   ∃ l340 : Sl,
   r192 = .slice l340.p l340.n l340.c ∧
   ∃ s165 : ByteArray,
   ∃ b193 : Bool,
   H765 q330 = some (.cells #[.string s165, .bool b193] 86 (0, 0)) ∧
   letH (Heap.del H765 q330) fun H766 =>
   ptrm p31 fun q331 o121 =>
   (∃ u, cellH H766 ⟨q331, o121, none⟩ = some u) ∧
   frozenH H766 ⟨q331, o121, none⟩ = false ∧
   letH (Heap.set H766 ⟨q331, o121, none⟩ (.slice l340.p l340.n l340.c)) fun H767 =>
   SelfEq ([.loc 0 0, .v (.pointer p1), .v (.int .i64 n8), .v (.int .i64 n_2), .v (.pointer (some ⟨q281, 0, none⟩)), .v (.slice (some ⟨q328, 0, none⟩) 4 4), .v (.int .i64 (4 : Nat))], [], [86]) ∧
   I32 (IntKind.wrap .i64 (n_32 + 1)) s165 b193 H767 ∧
   M32 (IntKind.wrap .i64 (n_32 + 1)) s165 b193 H767 < M32 n_32 s164 b192 H764)
   (
   ∃ n364 : Int,
   cellH H764 ⟨q281, 0, none⟩ = some (.int .i64 n364) ∧
   ∃ n365 : Int,
   cellH H764 ⟨q281, 1, none⟩ = some (.int .i64 n365) ∧
   ∃ n366 : Int,
   cellH H764 ⟨q281, 2, none⟩ = some (.int .i64 n366) ∧
   ∃ n367 : Int,
   cellH H764 ⟨q281, 3, none⟩ = some (.int .i64 n367) ∧
   ∃ l341 : Sl,
   cellH H764 ⟨q281, 4, none⟩ = some (.slice l341.p l341.n l341.c) ∧
   ∃ l342 : Sl,
   cellH H764 ⟨q281, 5, none⟩ = some (.slice l342.p l342.n l342.c) ∧
   ∃ l343 : Sl,
   cellH H764 ⟨q281, 6, none⟩ = some (.slice l343.p l343.n l343.c) ∧
   ∃ l344 : Sl,
   cellH H764 ⟨q281, 7, none⟩ = some (.slice l344.p l344.n l344.c) ∧
   ∃ n368 : Int,
   cellH H764 ⟨q281, 8, none⟩ = some (.int .i64 n368) ∧
   FnH Tryz.prog 51 #[.agg #[.int .i64 n364, .int .i64 n365, .int .i64 n366, .int .i64 n367, .slice l341.p l341.n l341.c, .slice l342.p l342.n l342.c, .slice l343.p l343.n l343.c, .slice l344.p l344.n l344.c, .int .i64 n368]] H764 fun r193 H768 =>
   ∃ b194 : Bool,
   r193 = .bool b194 ∧
   ∀ q332 : Nat,
   H768 q332 = none →
   FnH Tryz.prog 50 #[.pointer (some ⟨q332, 0, none⟩), .bool b194] (Heap.upd H768 q332 (.cells #[.string s164, .bool b192] 86 (0, 0))) fun r194 H769 =>
   r194 = .tuple #[] ∧
   ∃ s166 : ByteArray,
   ∃ b195 : Bool,
   H769 q332 = some (.cells #[.string s166, .bool b195] 86 (0, 0)) ∧
   letH (Heap.del H769 q332) fun H770 =>
   ptrm p1 fun q333 o122 =>
   ∃ l345 : Sl,
   cellH H770 ⟨q333, o122 + 3, none⟩ = some (.slice l345.p l345.n l345.c) ∧
   ∃ n369 : Int,
   cellH H770 ⟨q281, 0, none⟩ = some (.int .i64 n369) ∧
   ∃ n370 : Int,
   cellH H770 ⟨q281, 1, none⟩ = some (.int .i64 n370) ∧
   ∃ n371 : Int,
   cellH H770 ⟨q281, 2, none⟩ = some (.int .i64 n371) ∧
   ∃ n372 : Int,
   cellH H770 ⟨q281, 3, none⟩ = some (.int .i64 n372) ∧
   ∃ l346 : Sl,
   cellH H770 ⟨q281, 4, none⟩ = some (.slice l346.p l346.n l346.c) ∧
   ∃ l347 : Sl,
   cellH H770 ⟨q281, 5, none⟩ = some (.slice l347.p l347.n l347.c) ∧
   ∃ l348 : Sl,
   cellH H770 ⟨q281, 6, none⟩ = some (.slice l348.p l348.n l348.c) ∧
   ∃ l349 : Sl,
   cellH H770 ⟨q281, 7, none⟩ = some (.slice l349.p l349.n l349.c) ∧
   ∃ n373 : Int,
   cellH H770 ⟨q281, 8, none⟩ = some (.int .i64 n373) ∧
   ∀ q334 : Nat,
   H770 q334 = none →
   letH (Heap.upd H770 q334 (.cells #[.int .i64 n369, .int .i64 n370, .int .i64 n371, .int .i64 n372, .slice l346.p l346.n l346.c, .slice l347.p l347.n l347.c, .slice l348.p l348.n l348.c, .slice l349.p l349.n l349.c, .int .i64 n373] 41 (0, 0))) fun H771 =>
   Sub H770 H771 ∧
   runH Tryz.prog (Builtin.append_ #[35, 35] 35 #[.slice l345.p l345.n l345.c, .slice (some ⟨q334, 0, none⟩) 1 1]) H771 fun r195 H772 =>
   ∃ l350 : Sl,
   r195 = .slice l350.p l350.n l350.c ∧
   ptrm p1 fun q335 o123 =>
   (∃ u, cellH H772 ⟨q335, o123 + 3, none⟩ = some u) ∧
   frozenH H772 ⟨q335, o123 + 3, none⟩ = false ∧
   letH (Heap.set H772 ⟨q335, o123 + 3, none⟩ (.slice l350.p l350.n l350.c)) fun H773 =>
   SelfEq ([.loc 0 0, .v (.pointer p1), .v (.int .i64 n8)], [], [86]) ∧
   I2 (IntKind.wrap .i64 (n_2 - 1)) s166 b195 H773 ∧
   M2 (IntKind.wrap .i64 (n_2 - 1)) s166 b195 H773 < M2 n_2 s12 b11 H25))
   (
   SelfEq ([.loc 0 0, .v (.pointer p1), .v (.int .i64 n8)], [], [86]) ∧
   J2 s12 b11 H25))
   (
   SelfEq ([.loc 0 0, .v (.pointer p1), .v (.int .i64 n8)], [], [86]) ∧
   J2 s12 b11 H25)) ∧
   ∀ s167 : ByteArray,
   ∀ b196 : Bool,
   ∀ H774 : Heap,
   J2 s167 b196 H774 →
   ∀ q336 : Nat,
   H774 q336 = none →
   FnH Tryz.prog 49 #[.pointer (some ⟨q336, 0, none⟩), .int .i64 1000, .int .i64 0, .int .i64 1000000000] (Heap.upd H774 q336 (.cells #[.string s167, .bool b196] 86 (0, 0))) fun r196 H775 =>
   ∃ l351 : Sl,
   r196 = .slice l351.p l351.n l351.c ∧
   ∃ s168 : ByteArray,
   ∃ b197 : Bool,
   H775 q336 = some (.cells #[.string s168, .bool b197] 86 (0, 0)) ∧
   letH (Heap.del H775 q336) fun H776 =>
   ptrm p1 fun q337 o124 =>
   (∃ u, cellH H776 ⟨q337, o124 + 4, none⟩ = some u) ∧
   frozenH H776 ⟨q337, o124 + 4, none⟩ = false ∧
   letH (Heap.set H776 ⟨q337, o124 + 4, none⟩ (.slice l351.p l351.n l351.c)) fun H777 =>
   br (b197) (
   K (.tuple #[.pointer none, .int .i64 4]) H777)
   (
   br (!(s168.toList == (⟨#[]⟩ : ByteArray).toList)) (
   K (.tuple #[.pointer none, .int .i64 4]) H777)
   (
   ptrm p1 fun q338 o125 =>
   ∃ l352 : Sl,
   cellH H777 ⟨q338, o125 + 3, none⟩ = some (.slice l352.p l352.n l352.c) ∧
   br ((n8 : Int) != (IntKind.wrap .i64 ((l352.n : Nat) + 1))) (
   K (.tuple #[.pointer none, .int .i64 4]) H777)
   (
   K (.tuple #[.pointer p1, .int .i64 0]) H777)))))
theorem meta_Load_eq (s : ByteArray) (H : Heap) (K : Value → Heap → Prop) : meta_Load_vc s H K = denFn Tryz.prog meta_Load_ann Tryz.f21 (bodyOf Tryz.f21) [.string s] H K := by kernel_rfl
theorem meta_Load_fn (s : ByteArray) {H : Heap} {K : Value → Heap → Prop} (h : meta_Load_vc s H K) : FnH Tryz.prog 21 #[.string s] H K :=
  denFn_fn Tryz.mixed meta_Load_ann Tryz.func21 (bodyOf_spec (by kernel_rfl)) (meta_Load_eq s H K) h

end Go.Proofs.YtmofinghoacobaaGreatDoor
