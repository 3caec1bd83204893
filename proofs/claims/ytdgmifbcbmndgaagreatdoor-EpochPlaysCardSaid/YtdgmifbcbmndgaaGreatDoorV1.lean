/- Formulas of functions, printed by this session's vc.py; each is tied to the program by the kernel. -/
import Derived.Test.YtdgmifbcbmndgaaGreatDoorProg
import Derived.KernelRfl
import Derived.Test.YtdgmifbcbmndgaaGreatDoorHlFn
import Derived.Test.YtdgmifbcbmndgaaGreatDoorF1
namespace Go.Proofs.YtdgmifbcbmndgaaGreatDoor
open Go.HL
set_option maxRecDepth 100000
/-! function 5: logboom/logboomlaw7.pick -/
def logboomlaw7_pick_ann : Anns := { hid := [], loops := [], joins := [], mix := [] }
def logboomlaw7_pick_vc (c : Int) (n : Int) (H : Heap) (K : Value → Heap → Prop) : Prop :=
  br (decide ((c : Int) < 0)) (
    (n : Int) ≠ 0 ∧
    K (.int .i64 (Int.tmod (IntKind.wrap .i64 (0 - (IntKind.wrap .i64 (c + 1)))) n)) H)
   (
    (n : Int) ≠ 0 ∧
    K (.int .i64 (Int.tmod c n)) H)
theorem logboomlaw7_pick_eq (c : Int) (n : Int) (H : Heap) (K : Value → Heap → Prop) : logboomlaw7_pick_vc c n H K = denFn Tryz.prog logboomlaw7_pick_ann Tryz.f5 (bodyOf Tryz.f5) [.int .i64 c, .int .i64 n] H K := by kernel_rfl
theorem logboomlaw7_pick_fn (c : Int) (n : Int) {H : Heap} {K : Value → Heap → Prop} (h : logboomlaw7_pick_vc c n H K) : FnH Tryz.prog 5 #[.int .i64 c, .int .i64 n] H K :=
  denFn_fn Tryz.mixed logboomlaw7_pick_ann Tryz.func5 (bodyOf_spec (by kernel_rfl)) (logboomlaw7_pick_eq c n H K) h

/-! function 33: slices.Clone[[]logboom/api.Entry,logboom/api.Entry] -/
def slices_Clone_Lapi_Entry_api_Entry_ann : Anns := { hid := [], loops := [], joins := [], mix := [] }
def slices_Clone_Lapi_Entry_api_Entry_vc (s : Sl) (H : Heap) (K : Value → Heap → Prop) : Prop :=
  br (Option.isNone s.p) (
    K (.slice none 0 0) H)
   (
    ∀ q1 : Nat,
    H q1 = none →
    letH (Heap.upd H q1 (.cells #[] 51 (0, 0))) fun H1 =>
    runH Tryz.prog (Builtin.append_ #[44, 44] 44 #[.slice (some ⟨q1, 0, none⟩) 0 0, .slice s.p s.n s.c]) H1 fun r1 H2 =>
      ∃ l1 : Sl,
      r1 = .slice l1.p l1.n l1.c ∧
      K (.slice l1.p l1.n l1.c) H2)
theorem slices_Clone_Lapi_Entry_api_Entry_eq (s : Sl) (H : Heap) (K : Value → Heap → Prop) : slices_Clone_Lapi_Entry_api_Entry_vc s H K = denFn Tryz.prog slices_Clone_Lapi_Entry_api_Entry_ann Tryz.f33 (bodyOf Tryz.f33) [.slice s.p s.n s.c] H K := by kernel_rfl
theorem slices_Clone_Lapi_Entry_api_Entry_fn (s : Sl) {H : Heap} {K : Value → Heap → Prop} (h : slices_Clone_Lapi_Entry_api_Entry_vc s H K) : FnH Tryz.prog 33 #[.slice s.p s.n s.c] H K :=
  denFn_fn Tryz.mixed slices_Clone_Lapi_Entry_api_Entry_ann Tryz.func33 (bodyOf_spec (by kernel_rfl)) (slices_Clone_Lapi_Entry_api_Entry_eq s H K) h

/-! function 30: logboom/epochs.may -/
def epochs_may_ann : Anns := { hid := [], loops := [], joins := [], mix := [] }
def epochs_may_vc (n : Int) (H : Heap) (K : Value → Heap → Prop) : Prop :=
  br (decide ((n : Int) ≥ 0)) (
    K (.bool (decide ((n : Int) ≤ 1000000000))) H)
   (
    K (.bool false) H)
theorem epochs_may_eq (n : Int) (H : Heap) (K : Value → Heap → Prop) : epochs_may_vc n H K = denFn Tryz.prog epochs_may_ann Tryz.f30 (bodyOf Tryz.f30) [.int .i64 n] H K := by kernel_rfl
theorem epochs_may_fn (n : Int) {H : Heap} {K : Value → Heap → Prop} (h : epochs_may_vc n H K) : FnH Tryz.prog 30 #[.int .i64 n] H K :=
  denFn_fn Tryz.mixed epochs_may_ann Tryz.func30 (bodyOf_spec (by kernel_rfl)) (epochs_may_eq n H K) h

/-! function 31: (*logboom/epochs.Cache).ahead -/
def epochs_Cache_ahead_ann : Anns := { hid := [], loops := [], joins := [], mix := [] }
def epochs_Cache_ahead_vc (c : Nat) (co : Nat) (offset : Int) (H : Heap) (K : Value → Heap → Prop) : Prop :=
  ∀ q1 : Nat,
  H q1 = none →
  letH (Heap.upd H q1 (.cells #[.pointer (some ⟨c, co, none⟩)] 25 (0, 0))) fun H1 =>
  ∀ q2 : Nat,
  H1 q2 = none →
  letH (Heap.upd H1 q2 (.cells #[.int .i64 offset] 3 (0, 0))) fun H2 =>
  ∃ p1 : Option Addr,
  cellH H2 ⟨q1, 0, none⟩ = some (.pointer p1) ∧
  ptrm p1 fun q3 o1 =>
  ∃ l1 : Sl,
  cellH H2 ⟨q3, o1 + 2, none⟩ = some (.slice l1.p l1.n l1.c) ∧
  FnH Tryz.prog 37 #[.int .i64 (l1.n : Nat), .func (.func 46) #[] #[.pointer (some ⟨q1, 0, none⟩), .pointer (some ⟨q2, 0, none⟩)]] H2 fun r1 H3 =>
    ∃ n1 : Int,
    r1 = .int .i64 n1 ∧
    K (.int .i64 n1) H3
theorem epochs_Cache_ahead_eq (c : Nat) (co : Nat) (offset : Int) (H : Heap) (K : Value → Heap → Prop) : epochs_Cache_ahead_vc c co offset H K = denFn Tryz.prog epochs_Cache_ahead_ann Tryz.f31 (bodyOf Tryz.f31) [.pointer (some ⟨c, co, none⟩), .int .i64 offset] H K := by kernel_rfl
theorem epochs_Cache_ahead_fn (c : Nat) (co : Nat) (offset : Int) {H : Heap} {K : Value → Heap → Prop} (h : epochs_Cache_ahead_vc c co offset H K) : FnH Tryz.prog 31 #[.pointer (some ⟨c, co, none⟩), .int .i64 offset] H K :=
  denFn_fn Tryz.mixed epochs_Cache_ahead_ann Tryz.func31 (bodyOf_spec (by kernel_rfl)) (epochs_Cache_ahead_eq c co offset H K) h

/-! function 37: sort.Search -/
def Search_ahead_ann : Anns := { hid := [], loops := [(0, { slots := [(5, .int .i64), (6, .int .i64)], kept := [1], locs := [], keptL := [] })], joins := [], mix := [] }
def Search_ahead_vc (n : Int) (f_c0 : Nat) (f_c1 : Nat) (H : Heap) (K : Value → Heap → Prop) : Prop :=
  ∃ I1 : Int → Int → Heap → Prop,
  ∃ M1 : Int → Int → Heap → Nat,
  I1 0 n H ∧
  ∀ i_1 : Int,
  ∀ j_1 : Int,
  ∀ H1 : Heap,
  I1 i_1 j_1 H1 →
  br (decide ((i_1 : Int) < j_1)) (
    FnH Tryz.prog 46 #[.int .i64 (IntKind.wrap .i64 (shrI .u64 (IntKind.wrap .u64 (IntKind.wrap .i64 (i_1 + j_1))) 1)), .pointer (some ⟨f_c0, 0, none⟩), .pointer (some ⟨f_c1, 0, none⟩)] H1 fun r1 H2 =>
      ∃ b1 : Bool,
      r1 = .bool b1 ∧
      br (!b1) (
        SelfEq ([.v (.func (.func 46) #[] #[.pointer (some ⟨f_c0, 0, none⟩), .pointer (some ⟨f_c1, 0, none⟩)])], [], []) ∧
        I1 (IntKind.wrap .i64 ((IntKind.wrap .i64 (shrI .u64 (IntKind.wrap .u64 (IntKind.wrap .i64 (i_1 + j_1))) 1)) + 1)) j_1 H2 ∧
        M1 (IntKind.wrap .i64 ((IntKind.wrap .i64 (shrI .u64 (IntKind.wrap .u64 (IntKind.wrap .i64 (i_1 + j_1))) 1)) + 1)) j_1 H2 < M1 i_1 j_1 H1)
       (
        SelfEq ([.v (.func (.func 46) #[] #[.pointer (some ⟨f_c0, 0, none⟩), .pointer (some ⟨f_c1, 0, none⟩)])], [], []) ∧
        I1 i_1 (IntKind.wrap .i64 (shrI .u64 (IntKind.wrap .u64 (IntKind.wrap .i64 (i_1 + j_1))) 1)) H2 ∧
        M1 i_1 (IntKind.wrap .i64 (shrI .u64 (IntKind.wrap .u64 (IntKind.wrap .i64 (i_1 + j_1))) 1)) H2 < M1 i_1 j_1 H1))
   (
    K (.int .i64 i_1) H1)
theorem Search_ahead_eq (n : Int) (f_c0 : Nat) (f_c1 : Nat) (H : Heap) (K : Value → Heap → Prop) : Search_ahead_vc n f_c0 f_c1 H K = denFn Tryz.prog Search_ahead_ann Tryz.f37 (bodyOf Tryz.f37) [.int .i64 n, .func (.func 46) #[] #[.pointer (some ⟨f_c0, 0, none⟩), .pointer (some ⟨f_c1, 0, none⟩)]] H K := by kernel_rfl
theorem Search_ahead_fn (n : Int) (f_c0 : Nat) (f_c1 : Nat) {H : Heap} {K : Value → Heap → Prop} (h : Search_ahead_vc n f_c0 f_c1 H K) : FnH Tryz.prog 37 #[.int .i64 n, .func (.func 46) #[] #[.pointer (some ⟨f_c0, 0, none⟩), .pointer (some ⟨f_c1, 0, none⟩)]] H K :=
  denFn_fn Tryz.mixed Search_ahead_ann Tryz.func37 (bodyOf_spec (by kernel_rfl)) (Search_ahead_eq n f_c0 f_c1 H K) h

/-! function 37: sort.Search -/
def Search_End_ann : Anns := { hid := [], loops := [(0, { slots := [(5, .int .i64), (6, .int .i64)], kept := [1], locs := [], keptL := [] })], joins := [], mix := [] }
def Search_End_vc (n : Int) (f_c0 : Nat) (f_c1 : Nat) (H : Heap) (K : Value → Heap → Prop) : Prop :=
  ∃ I1 : Int → Int → Heap → Prop,
  ∃ M1 : Int → Int → Heap → Nat,
  I1 0 n H ∧
  ∀ i_1 : Int,
  ∀ j_1 : Int,
  ∀ H1 : Heap,
  I1 i_1 j_1 H1 →
  br (decide ((i_1 : Int) < j_1)) (
    FnH Tryz.prog 38 #[.int .i64 (IntKind.wrap .i64 (shrI .u64 (IntKind.wrap .u64 (IntKind.wrap .i64 (i_1 + j_1))) 1)), .pointer (some ⟨f_c0, 0, none⟩), .pointer (some ⟨f_c1, 0, none⟩)] H1 fun r1 H2 =>
      ∃ b1 : Bool,
      r1 = .bool b1 ∧
      br (!b1) (
        SelfEq ([.v (.func (.func 38) #[] #[.pointer (some ⟨f_c0, 0, none⟩), .pointer (some ⟨f_c1, 0, none⟩)])], [], []) ∧
        I1 (IntKind.wrap .i64 ((IntKind.wrap .i64 (shrI .u64 (IntKind.wrap .u64 (IntKind.wrap .i64 (i_1 + j_1))) 1)) + 1)) j_1 H2 ∧
        M1 (IntKind.wrap .i64 ((IntKind.wrap .i64 (shrI .u64 (IntKind.wrap .u64 (IntKind.wrap .i64 (i_1 + j_1))) 1)) + 1)) j_1 H2 < M1 i_1 j_1 H1)
       (
        SelfEq ([.v (.func (.func 38) #[] #[.pointer (some ⟨f_c0, 0, none⟩), .pointer (some ⟨f_c1, 0, none⟩)])], [], []) ∧
        I1 i_1 (IntKind.wrap .i64 (shrI .u64 (IntKind.wrap .u64 (IntKind.wrap .i64 (i_1 + j_1))) 1)) H2 ∧
        M1 i_1 (IntKind.wrap .i64 (shrI .u64 (IntKind.wrap .u64 (IntKind.wrap .i64 (i_1 + j_1))) 1)) H2 < M1 i_1 j_1 H1))
   (
    K (.int .i64 i_1) H1)
theorem Search_End_eq (n : Int) (f_c0 : Nat) (f_c1 : Nat) (H : Heap) (K : Value → Heap → Prop) : Search_End_vc n f_c0 f_c1 H K = denFn Tryz.prog Search_End_ann Tryz.f37 (bodyOf Tryz.f37) [.int .i64 n, .func (.func 38) #[] #[.pointer (some ⟨f_c0, 0, none⟩), .pointer (some ⟨f_c1, 0, none⟩)]] H K := by kernel_rfl
theorem Search_End_fn (n : Int) (f_c0 : Nat) (f_c1 : Nat) {H : Heap} {K : Value → Heap → Prop} (h : Search_End_vc n f_c0 f_c1 H K) : FnH Tryz.prog 37 #[.int .i64 n, .func (.func 38) #[] #[.pointer (some ⟨f_c0, 0, none⟩), .pointer (some ⟨f_c1, 0, none⟩)]] H K :=
  denFn_fn Tryz.mixed Search_End_ann Tryz.func37 (bodyOf_spec (by kernel_rfl)) (Search_End_eq n f_c0 f_c1 H K) h

/-! function 38: (*logboom/epochs.Cache).End$1 -/
def epochs_Cache_End_1_ann : Anns := { hid := [], loops := [], joins := [], mix := [] }
def epochs_Cache_End_1_vc (i : Int) (c0_c : Nat) (c1_c : Nat) (H : Heap) (K : Value → Heap → Prop) : Prop :=
  ∃ p1 : Option Addr,
  cellH H ⟨c0_c, 0, none⟩ = some (.pointer p1) ∧
  ptrm p1 fun q1 o1 =>
  ∃ l1 : Sl,
  cellH H ⟨q1, o1 + 2, none⟩ = some (.slice l1.p l1.n l1.c) ∧
  ∃ q2 : Nat,
  ∃ o2 : Nat,
  (l1.p : Option Addr) = some ⟨q2, o2, none⟩ ∧
  0 ≤ (i : Int) ∧
  (i : Int) < (l1.n : Nat) ∧
  ∃ n1 : Int,
  cellH H ⟨q2, o2 + Int.toNat i * 3, none⟩ = some (.int .i64 n1) ∧
  ∃ n2 : Int,
  cellH H ⟨c1_c, 0, none⟩ = some (.int .i64 n2) ∧
  K (.bool (decide ((n1 : Int) > n2))) H
theorem epochs_Cache_End_1_eq (i : Int) (c0_c : Nat) (c1_c : Nat) (H : Heap) (K : Value → Heap → Prop) : epochs_Cache_End_1_vc i c0_c c1_c H K = denFn Tryz.prog epochs_Cache_End_1_ann Tryz.f38 (bodyOf Tryz.f38) [.int .i64 i, .pointer (some ⟨c0_c, 0, none⟩), .pointer (some ⟨c1_c, 0, none⟩)] H K := by kernel_rfl
theorem epochs_Cache_End_1_fn (i : Int) (c0_c : Nat) (c1_c : Nat) {H : Heap} {K : Value → Heap → Prop} (h : epochs_Cache_End_1_vc i c0_c c1_c H K) : FnH Tryz.prog 38 #[.int .i64 i, .pointer (some ⟨c0_c, 0, none⟩), .pointer (some ⟨c1_c, 0, none⟩)] H K :=
  denFn_fn Tryz.mixed epochs_Cache_End_1_ann Tryz.func38 (bodyOf_spec (by kernel_rfl)) (epochs_Cache_End_1_eq i c0_c c1_c H K) h

/-! function 51: logboom/epochs.sum -/
def epochs_sum_ann : Anns := { hid := [], loops := [], joins := [], mix := [] }
def epochs_sum_vc (s : ByteArray) (H : Heap) (K : Value → Heap → Prop) : Prop :=
  FnH Tryz.prog 64 #[.string s] H fun r1 H1 =>
    ∃ n1 : Int,
    r1 = .int .i64 n1 ∧
    ∀ q1 : Nat,
    H1 q1 = none →
    letH (Heap.upd H1 q1 (.cells #[.int .u8 (IntKind.wrap .u8 (shrI .i64 n1 24)), .int .u8 (IntKind.wrap .u8 (shrI .i64 n1 16)), .int .u8 (IntKind.wrap .u8 (shrI .i64 n1 8)), .int .u8 (IntKind.wrap .u8 n1)] 5 (0, 0))) fun H2 =>
    runH Tryz.prog (convert 90 9 (.slice (some ⟨q1, 0, none⟩) 4 4)) H2 fun r2 H3 =>
      ∃ s1 : ByteArray,
      r2 = .string s1 ∧
      K (.string s1) H3
theorem epochs_sum_eq (s : ByteArray) (H : Heap) (K : Value → Heap → Prop) : epochs_sum_vc s H K = denFn Tryz.prog epochs_sum_ann Tryz.f51 (bodyOf Tryz.f51) [.string s] H K := by kernel_rfl
theorem epochs_sum_fn (s : ByteArray) {H : Heap} {K : Value → Heap → Prop} (h : epochs_sum_vc s H K) : FnH Tryz.prog 51 #[.string s] H K :=
  denFn_fn Tryz.mixed epochs_sum_ann Tryz.func51 (bodyOf_spec (by kernel_rfl)) (epochs_sum_eq s H K) h

/-! function 57: (*logboom/epochs.Cache).read$1 -/
def epochs_Cache_read_1_ann : Anns := { hid := [], loops := [], joins := [], mix := [] }
def epochs_Cache_read_1_vc (c0_c : Nat) (c1_c : Nat) (H : Heap) (K : Value → Heap → Prop) : Prop :=
  ∃ s1 : ByteArray,
  cellH H ⟨c0_c, 0, none⟩ = some (.string s1) ∧
  FnH Tryz.prog 58 #[.string s1] H fun r1 H1 =>
    ∃ n1 : Int,
    ∃ n2 : Int,
    ∃ n3 : Int,
    r1 = .tuple #[.int .i64 n1, .int .i64 n2, .int .i64 n3] ∧
    ∃ b1 : Bool,
    cellH H1 ⟨c1_c, 0, none⟩ = some (.bool b1) ∧
    br (b1) (
      (∃ u, cellH H1 ⟨c1_c, 0, none⟩ = some u) ∧
      frozenH H1 ⟨c1_c, 0, none⟩ = false ∧
      letH (Heap.set H1 ⟨c1_c, 0, none⟩ (.bool ((n3 : Int) == 0))) fun H2 =>
      ∃ s2 : ByteArray,
      cellH H2 ⟨c0_c, 0, none⟩ = some (.string s2) ∧
      0 ≤ (n2 : Int) ∧
      (n2 : Int) ≤ (s2.size : Nat) ∧
      (∃ u, cellH H2 ⟨c0_c, 0, none⟩ = some u) ∧
      frozenH H2 ⟨c0_c, 0, none⟩ = false ∧
      letH (Heap.set H2 ⟨c0_c, 0, none⟩ (.string (s2.extract (Int.toNat n2) (Int.toNat (s2.size : Nat))))) fun H3 =>
      K (.int .i64 n1) H3)
     (
      (∃ u, cellH H1 ⟨c1_c, 0, none⟩ = some u) ∧
      frozenH H1 ⟨c1_c, 0, none⟩ = false ∧
      letH (Heap.set H1 ⟨c1_c, 0, none⟩ (.bool false)) fun H4 =>
      ∃ s3 : ByteArray,
      cellH H4 ⟨c0_c, 0, none⟩ = some (.string s3) ∧
      0 ≤ (n2 : Int) ∧
      (n2 : Int) ≤ (s3.size : Nat) ∧
      (∃ u, cellH H4 ⟨c0_c, 0, none⟩ = some u) ∧
      frozenH H4 ⟨c0_c, 0, none⟩ = false ∧
      letH (Heap.set H4 ⟨c0_c, 0, none⟩ (.string (s3.extract (Int.toNat n2) (Int.toNat (s3.size : Nat))))) fun H5 =>
      K (.int .i64 n1) H5)
theorem epochs_Cache_read_1_eq (c0_c : Nat) (c1_c : Nat) (H : Heap) (K : Value → Heap → Prop) : epochs_Cache_read_1_vc c0_c c1_c H K = denFn Tryz.prog epochs_Cache_read_1_ann Tryz.f57 (bodyOf Tryz.f57) [.pointer (some ⟨c0_c, 0, none⟩), .pointer (some ⟨c1_c, 0, none⟩)] H K := by kernel_rfl
theorem epochs_Cache_read_1_fn (c0_c : Nat) (c1_c : Nat) {H : Heap} {K : Value → Heap → Prop} (h : epochs_Cache_read_1_vc c0_c c1_c H K) : FnH Tryz.prog 57 #[.pointer (some ⟨c0_c, 0, none⟩), .pointer (some ⟨c1_c, 0, none⟩)] H K :=
  denFn_fn Tryz.mixed epochs_Cache_read_1_ann Tryz.func57 (bodyOf_spec (by kernel_rfl)) (epochs_Cache_read_1_eq c0_c c1_c H K) h

/-! function 46: (*logboom/epochs.Cache).ahead$1 -/
def epochs_Cache_ahead_1_ann : Anns := { hid := [], loops := [], joins := [], mix := [] }
def epochs_Cache_ahead_1_vc (i : Int) (c0_c : Nat) (c1_c : Nat) (H : Heap) (K : Value → Heap → Prop) : Prop :=
  ∃ p1 : Option Addr,
  cellH H ⟨c0_c, 0, none⟩ = some (.pointer p1) ∧
  ptrm p1 fun q1 o1 =>
  ∃ l1 : Sl,
  cellH H ⟨q1, o1 + 2, none⟩ = some (.slice l1.p l1.n l1.c) ∧
  ∃ q2 : Nat,
  ∃ o2 : Nat,
  (l1.p : Option Addr) = some ⟨q2, o2, none⟩ ∧
  0 ≤ (i : Int) ∧
  (i : Int) < (l1.n : Nat) ∧
  ∃ n1 : Int,
  cellH H ⟨q2, o2 + Int.toNat i * 3 + 1, none⟩ = some (.int .i64 n1) ∧
  ∃ n2 : Int,
  cellH H ⟨c1_c, 0, none⟩ = some (.int .i64 n2) ∧
  K (.bool (decide ((n1 : Int) ≥ n2))) H
theorem epochs_Cache_ahead_1_eq (i : Int) (c0_c : Nat) (c1_c : Nat) (H : Heap) (K : Value → Heap → Prop) : epochs_Cache_ahead_1_vc i c0_c c1_c H K = denFn Tryz.prog epochs_Cache_ahead_1_ann Tryz.f46 (bodyOf Tryz.f46) [.int .i64 i, .pointer (some ⟨c0_c, 0, none⟩), .pointer (some ⟨c1_c, 0, none⟩)] H K := by kernel_rfl
theorem epochs_Cache_ahead_1_fn (i : Int) (c0_c : Nat) (c1_c : Nat) {H : Heap} {K : Value → Heap → Prop} (h : epochs_Cache_ahead_1_vc i c0_c c1_c H K) : FnH Tryz.prog 46 #[.int .i64 i, .pointer (some ⟨c0_c, 0, none⟩), .pointer (some ⟨c1_c, 0, none⟩)] H K :=
  denFn_fn Tryz.mixed epochs_Cache_ahead_1_ann Tryz.func46 (bodyOf_spec (by kernel_rfl)) (epochs_Cache_ahead_1_eq i c0_c c1_c H K) h

/-! function 47: slices.Equal[[]logboom/api.Entry,logboom/api.Entry] -/
def slices_Equal_Lapi_Entry_api_Entry_ann : Anns := { hid := [], loops := [(0, { slots := [(13, .int .i64)], kept := [0, 1, 12], locs := [], keptL := [] })], joins := [], mix := [] }
def slices_Equal_Lapi_Entry_api_Entry_vc (ss1 : Sl) (ss2 : Sl) (H : Heap) (K : Value → Heap → Prop) : Prop :=
  br (((ss1.n : Nat) : Int) != (ss2.n : Nat)) (
    K (.bool false) H)
   (
    ∃ I1 : Int → Heap → Prop,
    ∃ M1 : Int → Heap → Nat,
    I1 0 H ∧
    ∀ n_1 : Int,
    ∀ H1 : Heap,
    I1 n_1 H1 →
    br (decide ((n_1 : Int) < (ss1.n : Nat))) (
      ∃ q1 : Nat,
      ∃ o1 : Nat,
      (ss1.p : Option Addr) = some ⟨q1, o1, none⟩ ∧
      0 ≤ (n_1 : Int) ∧
      (n_1 : Int) < (ss1.n : Nat) ∧
      ∃ n1 : Int,
      cellH H1 ⟨q1, o1 + Int.toNat n_1 * 3, none⟩ = some (.int .i64 n1) ∧
      ∃ n2 : Int,
      cellH H1 ⟨q1, o1 + Int.toNat n_1 * 3 + 1, none⟩ = some (.int .i64 n2) ∧
      ∃ s1 : ByteArray,
      cellH H1 ⟨q1, o1 + Int.toNat n_1 * 3 + 2, none⟩ = some (.string s1) ∧
      ∃ q2 : Nat,
      ∃ o2 : Nat,
      (ss2.p : Option Addr) = some ⟨q2, o2, none⟩ ∧
      0 ≤ (n_1 : Int) ∧
      (n_1 : Int) < (ss2.n : Nat) ∧
      ∃ n3 : Int,
      cellH H1 ⟨q2, o2 + Int.toNat n_1 * 3, none⟩ = some (.int .i64 n3) ∧
      ∃ n4 : Int,
      cellH H1 ⟨q2, o2 + Int.toNat n_1 * 3 + 1, none⟩ = some (.int .i64 n4) ∧
      ∃ s2 : ByteArray,
      cellH H1 ⟨q2, o2 + Int.toNat n_1 * 3 + 2, none⟩ = some (.string s2) ∧
      runR Tryz.prog (binOp .neq 51 (.agg #[.int .i64 n1, .int .i64 n2, .string s1]) (.agg #[.int .i64 n3, .int .i64 n4, .string s2])) H1 fun r1 =>
        ∃ b1 : Bool,
        r1 = .bool b1 ∧
        br (b1) (
          K (.bool false) H1)
         (
          SelfEq ([.v (.slice ss1.p ss1.n ss1.c), .v (.slice ss2.p ss2.n ss2.c), .v (.int .i64 (ss1.n : Nat))], [], []) ∧
          I1 (IntKind.wrap .i64 (n_1 + 1)) H1 ∧
          M1 (IntKind.wrap .i64 (n_1 + 1)) H1 < M1 n_1 H1))
     (
      K (.bool true) H1))
theorem slices_Equal_Lapi_Entry_api_Entry_eq (ss1 : Sl) (ss2 : Sl) (H : Heap) (K : Value → Heap → Prop) : slices_Equal_Lapi_Entry_api_Entry_vc ss1 ss2 H K = denFn Tryz.prog slices_Equal_Lapi_Entry_api_Entry_ann Tryz.f47 (bodyOf Tryz.f47) [.slice ss1.p ss1.n ss1.c, .slice ss2.p ss2.n ss2.c] H K := by kernel_rfl
theorem slices_Equal_Lapi_Entry_api_Entry_fn (ss1 : Sl) (ss2 : Sl) {H : Heap} {K : Value → Heap → Prop} (h : slices_Equal_Lapi_Entry_api_Entry_vc ss1 ss2 H K) : FnH Tryz.prog 47 #[.slice ss1.p ss1.n ss1.c, .slice ss2.p ss2.n ss2.c] H K :=
  denFn_fn Tryz.mixed slices_Equal_Lapi_Entry_api_Entry_ann Tryz.func47 (bodyOf_spec (by kernel_rfl)) (slices_Equal_Lapi_Entry_api_Entry_eq ss1 ss2 H K) h

/-! function 48: (*strings.Builder).WriteString -/
def strings_Builder_WriteString_ann : Anns := { hid := [], loops := [], joins := [], mix := [] }
def strings_Builder_WriteString_vc (b : Nat) (bo : Nat) (s : ByteArray) (H : Heap) (K : Value → Heap → Prop) : Prop :=
  FnH Tryz.prog 60 #[.pointer (some ⟨b, bo, none⟩)] H fun r1 H1 =>
    r1 = .tuple #[] ∧
    ∃ l1 : Sl,
    cellH H1 ⟨b, bo + 1, none⟩ = some (.slice l1.p l1.n l1.c) ∧
    runH Tryz.prog (Builtin.append_ #[90, 9] 90 #[.slice l1.p l1.n l1.c, .string s]) H1 fun r2 H2 =>
      ∃ l2 : Sl,
      r2 = .slice l2.p l2.n l2.c ∧
      (∃ u, cellH H2 ⟨b, bo + 1, none⟩ = some u) ∧
      frozenH H2 ⟨b, bo + 1, none⟩ = false ∧
      letH (Heap.set H2 ⟨b, bo + 1, none⟩ (.slice l2.p l2.n l2.c)) fun H3 =>
      K (.tuple #[.int .i64 (s.size : Nat), Value.nilIface]) H3
theorem strings_Builder_WriteString_eq (b : Nat) (bo : Nat) (s : ByteArray) (H : Heap) (K : Value → Heap → Prop) : strings_Builder_WriteString_vc b bo s H K = denFn Tryz.prog strings_Builder_WriteString_ann Tryz.f48 (bodyOf Tryz.f48) [.pointer (some ⟨b, bo, none⟩), .string s] H K := by kernel_rfl
theorem strings_Builder_WriteString_fn (b : Nat) (bo : Nat) (s : ByteArray) {H : Heap} {K : Value → Heap → Prop} (h : strings_Builder_WriteString_vc b bo s H K) : FnH Tryz.prog 48 #[.pointer (some ⟨b, bo, none⟩), .string s] H K :=
  denFn_fn Tryz.mixed strings_Builder_WriteString_ann Tryz.func48 (bodyOf_spec (by kernel_rfl)) (strings_Builder_WriteString_eq b bo s H K) h

/-! function 52: (*strings.Builder).String -/
def strings_Builder_String_ann : Anns := { hid := [], loops := [], joins := [], mix := [(1, [4, 10])] }
def strings_Builder_String_vc (b : Nat) (bo : Nat) (H : Heap) (K : Value → Heap → Prop) : Prop :=
  ∃ l1 : Sl,
  cellH H ⟨b, bo + 1, none⟩ = some (.slice l1.p l1.n l1.c) ∧
  (runH Tryz.prog (Builtin.unsafeSliceData_ #[90] 110 #[.slice l1.p l1.n l1.c]) H fun r1 H1 =>
    ∃ p1 : Option Addr,
    r1 = .pointer p1 ∧
    ∃ l2 : Sl,
    cellH H1 ⟨b, bo + 1, none⟩ = some (.slice l2.p l2.n l2.c) ∧
    runH Tryz.prog (Builtin.unsafeString_ #[110, 3] 9 #[.pointer p1, .int .i64 (l2.n : Nat)]) H1 fun r2 H2 =>
      ∃ s1 : ByteArray,
      r2 = .string s1 ∧
      K (.string s1) H2) ∧
  ∃ l3 : Sl,
  cellH H ⟨b, bo + 1, none⟩ = some (.slice l3.p l3.n l3.c) ∧
  Sub H H ∧
  runH Tryz.prog (Builtin.unsafeSliceData_ #[90] 110 #[.slice l1.p l1.n l1.c]) H fun r3 H3 =>
    ∃ p2 : Option Addr,
    r3 = .pointer p2 ∧
    runH Tryz.prog (Builtin.unsafeString_ #[110, 3] 9 #[.pointer p2, .int .i64 (l3.n : Nat)]) H3 fun r4 H4 =>
      ∃ s2 : ByteArray,
      r4 = .string s2 ∧
      K (.string s2) H4
theorem strings_Builder_String_eq (b : Nat) (bo : Nat) (H : Heap) (K : Value → Heap → Prop) : strings_Builder_String_vc b bo H K = denFn Tryz.prog strings_Builder_String_ann Tryz.f52 (bodyOf Tryz.f52) [.pointer (some ⟨b, bo, none⟩)] H K := by kernel_rfl
theorem strings_Builder_String_fn (b : Nat) (bo : Nat) {H : Heap} {K : Value → Heap → Prop} (h : strings_Builder_String_vc b bo H K) : FnH Tryz.prog 52 #[.pointer (some ⟨b, bo, none⟩)] H K :=
  denFn_fn Tryz.mixed strings_Builder_String_ann Tryz.func52 (bodyOf_spec (by kernel_rfl)) (strings_Builder_String_eq b bo H K) h

/-! function 34: logboom/logboomref7.may -/
def logboomref7_may_ann : Anns := { hid := [], loops := [], joins := [], mix := [] }
def logboomref7_may_vc (n : Int) (H : Heap) (K : Value → Heap → Prop) : Prop :=
  br (decide ((n : Int) ≥ 0)) (
    K (.bool (decide ((n : Int) ≤ 1000000000))) H)
   (
    K (.bool false) H)
theorem logboomref7_may_eq (n : Int) (H : Heap) (K : Value → Heap → Prop) : logboomref7_may_vc n H K = denFn Tryz.prog logboomref7_may_ann Tryz.f34 (bodyOf Tryz.f34) [.int .i64 n] H K := by kernel_rfl
theorem logboomref7_may_fn (n : Int) {H : Heap} {K : Value → Heap → Prop} (h : logboomref7_may_vc n H K) : FnH Tryz.prog 34 #[.int .i64 n] H K :=
  denFn_fn Tryz.mixed logboomref7_may_ann Tryz.func34 (bodyOf_spec (by kernel_rfl)) (logboomref7_may_eq n H K) h

end Go.Proofs.YtdgmifbcbmndgaaGreatDoor
