/- Formulas of functions, printed by this session's vc.py; each is tied to the program by the kernel. -/
import Derived.Test.YtokceblmbmajgaaGreatDoorProg
import Derived.KernelRfl
import Derived.Test.YtokceblmbmajgaaGreatDoorHlFn
namespace Go.Proofs.YtokceblmbmajgaaGreatDoor
open Go.HL
set_option maxRecDepth 100000
theorem Tryz.mixed : Tryz.prog.follows .mixedOrders = true := by kernel_rfl
/-! function 6: logboom/disk.New -/
def disk_New_ann : Anns := { hid := [], loops := [], joins := [], mix := [] }
def disk_New_vc (size : Int) (H : Heap) (K : Value → Heap → Prop) : Prop :=
  br (decide ((size : Int) < 1)) (
    K (.tuple #[.pointer none, .int .i64 1]) H)
   (
    br (decide ((size : Int) > 16777216)) (
      K (.tuple #[.pointer none, .int .i64 1]) H)
     (
      ∀ q1 : Nat,
      H q1 = none →
      letH (Heap.upd H q1 (.map #[] 0)) fun H1 =>
      ∀ q2 : Nat,
      H1 q2 = none →
      letH (Heap.upd H1 q2 (.cells #[.int .i64 size, .int .i64 0, .map (some q1)] 58 (0, 0))) fun H2 =>
      K (.tuple #[.pointer (some ⟨q2, 0, none⟩), .int .i64 0]) H2))
theorem disk_New_eq (size : Int) (H : Heap) (K : Value → Heap → Prop) : disk_New_vc size H K = denFn Tryz.prog disk_New_ann Tryz.f6 (bodyOf Tryz.f6) [.int .i64 size] H K := by kernel_rfl
theorem disk_New_fn (size : Int) {H : Heap} {K : Value → Heap → Prop} (h : disk_New_vc size H K) : FnH Tryz.prog 6 #[.int .i64 size] H K :=
  denFn_fn Tryz.mixed disk_New_ann Tryz.func6 (bodyOf_spec (by kernel_rfl)) (disk_New_eq size H K) h

/-! function 7: logboom/logboomref1.New -/
def logboomref1_New_ann : Anns := { hid := [], loops := [], joins := [], mix := [] }
def logboomref1_New_vc (size : Int) (H : Heap) (K : Value → Heap → Prop) : Prop :=
  br (decide ((size : Int) < 1)) (
    K (.pointer none) H)
   (
    br (decide ((size : Int) > 16777216)) (
      K (.pointer none) H)
     (
      ∀ q1 : Nat,
      H q1 = none →
      letH (Heap.upd H q1 (.cells #[.int .i64 size, .slice none 0 0] 61 (0, 0))) fun H1 =>
      K (.pointer (some ⟨q1, 0, none⟩)) H1))
theorem logboomref1_New_eq (size : Int) (H : Heap) (K : Value → Heap → Prop) : logboomref1_New_vc size H K = denFn Tryz.prog logboomref1_New_ann Tryz.f7 (bodyOf Tryz.f7) [.int .i64 size] H K := by kernel_rfl
theorem logboomref1_New_fn (size : Int) {H : Heap} {K : Value → Heap → Prop} (h : logboomref1_New_vc size H K) : FnH Tryz.prog 7 #[.int .i64 size] H K :=
  denFn_fn Tryz.mixed logboomref1_New_ann Tryz.func7 (bodyOf_spec (by kernel_rfl)) (logboomref1_New_eq size H K) h

/-! function 18: (*logboom/disk.Disk).Crash -/
def disk_Disk_Crash_ann : Anns := { hid := [6], loops := [(0, { slots := [(1, .slice), (12, .int .i64)], kept := [0, 10, 11], locs := [], keptL := [] })], joins := [], mix := [] }
def disk_Disk_Crash_vc (d0 : Nat) (d0o : Nat) (keep : Sl) (H : Heap) (K : Value → Heap → Prop) : Prop :=
  FnH Tryz.prog 48 #[.pointer (some ⟨d0, d0o, none⟩)] H fun r1 H1 =>
    ∃ l1 : Sl,
    r1 = .slice l1.p l1.n l1.c ∧
    ∃ I1 : Sl → Int → Heap → Prop,
    ∃ M1 : Sl → Int → Heap → Nat,
    I1 keep 0 H1 ∧
    ∀ keep_1 : Sl,
    ∀ n_1 : Int,
    ∀ H2 : Heap,
    I1 keep_1 n_1 H2 →
    br (decide ((n_1 : Int) < (l1.n : Nat))) (
      ∃ q1 : Nat,
      ∃ o1 : Nat,
      (l1.p : Option Addr) = some ⟨q1, o1, none⟩ ∧
      0 ≤ (n_1 : Int) ∧
      (n_1 : Int) < (l1.n : Nat) ∧
      ∃ s1 : ByteArray,
      cellH H2 ⟨q1, o1 + Int.toNat n_1, none⟩ = some (.string s1) ∧
      ∃ m1 : Option Nat,
      cellH H2 ⟨d0, d0o + 2, none⟩ = some (.map m1) ∧
      runH Tryz.prog (Instr.lookup 56 (.map m1) (.string s1) false) H2 fun r2 H3 =>
        ∃ s2 : ByteArray,
        ∃ n1 : Int,
        r2 = .agg #[.string s2, .int .i64 n1] ∧
        br (((IntKind.wrap .i64 ((s2.size : Nat) - n1)) : Int) == 0) (
          SelfEq ([.v (.pointer (some ⟨d0, d0o, none⟩)), .v (.slice l1.p l1.n l1.c), .v (.int .i64 (l1.n : Nat))], [], []) ∧
          I1 keep_1 (IntKind.wrap .i64 (n_1 + 1)) H3 ∧
          M1 keep_1 (IntKind.wrap .i64 (n_1 + 1)) H3 < M1 keep_1 n_1 H2)
         (
          br (decide (((keep_1.n : Nat) : Int) > 0)) (
            ∃ q2 : Nat,
            ∃ o2 : Nat,
            (keep_1.p : Option Addr) = some ⟨q2, o2, none⟩ ∧
            0 ≤ (0 : Int) ∧
            (0 : Int) < (keep_1.n : Nat) ∧
            ∃ n2 : Int,
            cellH H3 ⟨q2, o2 + Int.toNat 0, none⟩ = some (.int .i64 n2) ∧
            0 ≤ (1 : Int) ∧
            (1 : Int) ≤ (keep_1.n : Nat) ∧
            br (decide ((n2 : Int) < 0)) (
              ((IntKind.wrap .i64 ((IntKind.wrap .i64 ((s2.size : Nat) - n1)) + 1)) : Int) ≠ 0 ∧
              0 ≤ (IntKind.wrap .i64 (n1 + (Int.tmod (IntKind.wrap .i64 (0 - (IntKind.wrap .i64 (n2 + 1)))) (IntKind.wrap .i64 ((IntKind.wrap .i64 ((s2.size : Nat) - n1)) + 1)))) : Int) ∧
              (IntKind.wrap .i64 (n1 + (Int.tmod (IntKind.wrap .i64 (0 - (IntKind.wrap .i64 (n2 + 1)))) (IntKind.wrap .i64 ((IntKind.wrap .i64 ((s2.size : Nat) - n1)) + 1)))) : Int) ≤ (s2.size : Nat) ∧
              FnH Tryz.prog 49 #[.pointer (some ⟨d0, d0o, none⟩), .string s1, .agg #[.string (s2.extract (Int.toNat (0 : Int)) (Int.toNat (IntKind.wrap .i64 (n1 + (Int.tmod (IntKind.wrap .i64 (0 - (IntKind.wrap .i64 (n2 + 1)))) (IntKind.wrap .i64 ((IntKind.wrap .i64 ((s2.size : Nat) - n1)) + 1))))))), .int .i64 (IntKind.wrap .i64 (n1 + (Int.tmod (IntKind.wrap .i64 (0 - (IntKind.wrap .i64 (n2 + 1)))) (IntKind.wrap .i64 ((IntKind.wrap .i64 ((s2.size : Nat) - n1)) + 1)))))]] H3 fun r3 H4 =>
                r3 = .tuple #[] ∧
                SelfEq ([.v (.pointer (some ⟨d0, d0o, none⟩)), .v (.slice l1.p l1.n l1.c), .v (.int .i64 (l1.n : Nat))], [], []) ∧
                I1 ⟨(slP keep_1.p keep_1.c 1 1), Int.toNat ((keep_1.n : Nat) - 1), Int.toNat ((keep_1.c : Nat) - 1)⟩ (IntKind.wrap .i64 (n_1 + 1)) H4 ∧
                M1 ⟨(slP keep_1.p keep_1.c 1 1), Int.toNat ((keep_1.n : Nat) - 1), Int.toNat ((keep_1.c : Nat) - 1)⟩ (IntKind.wrap .i64 (n_1 + 1)) H4 < M1 keep_1 n_1 H2)
             (
              ((IntKind.wrap .i64 ((IntKind.wrap .i64 ((s2.size : Nat) - n1)) + 1)) : Int) ≠ 0 ∧
              0 ≤ (IntKind.wrap .i64 (n1 + (Int.tmod n2 (IntKind.wrap .i64 ((IntKind.wrap .i64 ((s2.size : Nat) - n1)) + 1)))) : Int) ∧
              (IntKind.wrap .i64 (n1 + (Int.tmod n2 (IntKind.wrap .i64 ((IntKind.wrap .i64 ((s2.size : Nat) - n1)) + 1)))) : Int) ≤ (s2.size : Nat) ∧
              FnH Tryz.prog 49 #[.pointer (some ⟨d0, d0o, none⟩), .string s1, .agg #[.string (s2.extract (Int.toNat (0 : Int)) (Int.toNat (IntKind.wrap .i64 (n1 + (Int.tmod n2 (IntKind.wrap .i64 ((IntKind.wrap .i64 ((s2.size : Nat) - n1)) + 1))))))), .int .i64 (IntKind.wrap .i64 (n1 + (Int.tmod n2 (IntKind.wrap .i64 ((IntKind.wrap .i64 ((s2.size : Nat) - n1)) + 1)))))]] H3 fun r4 H5 =>
                r4 = .tuple #[] ∧
                SelfEq ([.v (.pointer (some ⟨d0, d0o, none⟩)), .v (.slice l1.p l1.n l1.c), .v (.int .i64 (l1.n : Nat))], [], []) ∧
                I1 ⟨(slP keep_1.p keep_1.c 1 1), Int.toNat ((keep_1.n : Nat) - 1), Int.toNat ((keep_1.c : Nat) - 1)⟩ (IntKind.wrap .i64 (n_1 + 1)) H5 ∧
                M1 ⟨(slP keep_1.p keep_1.c 1 1), Int.toNat ((keep_1.n : Nat) - 1), Int.toNat ((keep_1.c : Nat) - 1)⟩ (IntKind.wrap .i64 (n_1 + 1)) H5 < M1 keep_1 n_1 H2))
           (
            br (decide ((0 : Int) < 0)) (
              ((IntKind.wrap .i64 ((IntKind.wrap .i64 ((s2.size : Nat) - n1)) + 1)) : Int) ≠ 0 ∧
              0 ≤ (IntKind.wrap .i64 (n1 + (Int.tmod (IntKind.wrap .i64 (0 - (IntKind.wrap .i64 (0 + 1)))) (IntKind.wrap .i64 ((IntKind.wrap .i64 ((s2.size : Nat) - n1)) + 1)))) : Int) ∧
              (IntKind.wrap .i64 (n1 + (Int.tmod (IntKind.wrap .i64 (0 - (IntKind.wrap .i64 (0 + 1)))) (IntKind.wrap .i64 ((IntKind.wrap .i64 ((s2.size : Nat) - n1)) + 1)))) : Int) ≤ (s2.size : Nat) ∧
              FnH Tryz.prog 49 #[.pointer (some ⟨d0, d0o, none⟩), .string s1, .agg #[.string (s2.extract (Int.toNat (0 : Int)) (Int.toNat (IntKind.wrap .i64 (n1 + (Int.tmod (IntKind.wrap .i64 (0 - (IntKind.wrap .i64 (0 + 1)))) (IntKind.wrap .i64 ((IntKind.wrap .i64 ((s2.size : Nat) - n1)) + 1))))))), .int .i64 (IntKind.wrap .i64 (n1 + (Int.tmod (IntKind.wrap .i64 (0 - (IntKind.wrap .i64 (0 + 1)))) (IntKind.wrap .i64 ((IntKind.wrap .i64 ((s2.size : Nat) - n1)) + 1)))))]] H3 fun r5 H6 =>
                r5 = .tuple #[] ∧
                SelfEq ([.v (.pointer (some ⟨d0, d0o, none⟩)), .v (.slice l1.p l1.n l1.c), .v (.int .i64 (l1.n : Nat))], [], []) ∧
                I1 keep_1 (IntKind.wrap .i64 (n_1 + 1)) H6 ∧
                M1 keep_1 (IntKind.wrap .i64 (n_1 + 1)) H6 < M1 keep_1 n_1 H2)
             (
              ((IntKind.wrap .i64 ((IntKind.wrap .i64 ((s2.size : Nat) - n1)) + 1)) : Int) ≠ 0 ∧
              0 ≤ (IntKind.wrap .i64 (n1 + (Int.tmod 0 (IntKind.wrap .i64 ((IntKind.wrap .i64 ((s2.size : Nat) - n1)) + 1)))) : Int) ∧
              (IntKind.wrap .i64 (n1 + (Int.tmod 0 (IntKind.wrap .i64 ((IntKind.wrap .i64 ((s2.size : Nat) - n1)) + 1)))) : Int) ≤ (s2.size : Nat) ∧
              FnH Tryz.prog 49 #[.pointer (some ⟨d0, d0o, none⟩), .string s1, .agg #[.string (s2.extract (Int.toNat (0 : Int)) (Int.toNat (IntKind.wrap .i64 (n1 + (Int.tmod 0 (IntKind.wrap .i64 ((IntKind.wrap .i64 ((s2.size : Nat) - n1)) + 1))))))), .int .i64 (IntKind.wrap .i64 (n1 + (Int.tmod 0 (IntKind.wrap .i64 ((IntKind.wrap .i64 ((s2.size : Nat) - n1)) + 1)))))]] H3 fun r6 H7 =>
                r6 = .tuple #[] ∧
                SelfEq ([.v (.pointer (some ⟨d0, d0o, none⟩)), .v (.slice l1.p l1.n l1.c), .v (.int .i64 (l1.n : Nat))], [], []) ∧
                I1 keep_1 (IntKind.wrap .i64 (n_1 + 1)) H7 ∧
                M1 keep_1 (IntKind.wrap .i64 (n_1 + 1)) H7 < M1 keep_1 n_1 H2))))
     (
      K (.tuple #[]) H2)
theorem disk_Disk_Crash_eq (d0 : Nat) (d0o : Nat) (keep : Sl) (H : Heap) (K : Value → Heap → Prop) : disk_Disk_Crash_vc d0 d0o keep H K = denFn Tryz.prog disk_Disk_Crash_ann Tryz.f18 (bodyOf Tryz.f18) [.pointer (some ⟨d0, d0o, none⟩), .slice keep.p keep.n keep.c] H K := by kernel_rfl
theorem disk_Disk_Crash_fn (d0 : Nat) (d0o : Nat) (keep : Sl) {H : Heap} {K : Value → Heap → Prop} (h : disk_Disk_Crash_vc d0 d0o keep H K) : FnH Tryz.prog 18 #[.pointer (some ⟨d0, d0o, none⟩), .slice keep.p keep.n keep.c] H K :=
  denFn_fn Tryz.mixed disk_Disk_Crash_ann Tryz.func18 (bodyOf_spec (by kernel_rfl)) (disk_Disk_Crash_eq d0 d0o keep H K) h

/-! function 24: (*logboom/logboomref1.Disk).Sync -/
def logboomref1_Disk_Sync_ann : Anns := { hid := [], loops := [], joins := [], mix := [(4, [16])] }
def logboomref1_Disk_Sync_vc (d0 : Nat) (d0o : Nat) (name : ByteArray) (H : Heap) (K : Value → Heap → Prop) : Prop :=
  FnH Tryz.prog 57 #[.pointer (some ⟨d0, d0o, none⟩), .string name] H fun r1 H1 =>
    ∃ n1 : Int,
    r1 = .int .i64 n1 ∧
    br (decide ((n1 : Int) < 0)) (
      K (.int .i64 8) H1)
     (
      ∃ l1 : Sl,
      cellH H1 ⟨d0, d0o + 1, none⟩ = some (.slice l1.p l1.n l1.c) ∧
      ∃ l2 : Sl,
      cellH H1 ⟨d0, d0o + 1, none⟩ = some (.slice l2.p l2.n l2.c) ∧
      ∃ q1 : Nat,
      ∃ o1 : Nat,
      (l2.p : Option Addr) = some ⟨q1, o1, none⟩ ∧
      0 ≤ (n1 : Int) ∧
      (n1 : Int) < (l2.n : Nat) ∧
      ∃ s1 : ByteArray,
      cellH H1 ⟨q1, o1 + Int.toNat n1 * 3 + 1, none⟩ = some (.string s1) ∧
      ∃ q2 : Nat,
      ∃ o2 : Nat,
      (l1.p : Option Addr) = some ⟨q2, o2, none⟩ ∧
      0 ≤ (n1 : Int) ∧
      (n1 : Int) < (l1.n : Nat) ∧
      (∃ u, cellH H1 ⟨q2, o2 + Int.toNat n1 * 3 + 2, none⟩ = some u) ∧
      frozenH H1 ⟨q2, o2 + Int.toNat n1 * 3 + 2, none⟩ = false ∧
      letH (Heap.set H1 ⟨q2, o2 + Int.toNat n1 * 3 + 2, none⟩ (.int .i64 (s1.size : Nat))) fun H2 =>
      K (.int .i64 0) H2)
theorem logboomref1_Disk_Sync_eq (d0 : Nat) (d0o : Nat) (name : ByteArray) (H : Heap) (K : Value → Heap → Prop) : logboomref1_Disk_Sync_vc d0 d0o name H K = denFn Tryz.prog logboomref1_Disk_Sync_ann Tryz.f24 (bodyOf Tryz.f24) [.pointer (some ⟨d0, d0o, none⟩), .string name] H K := by kernel_rfl
theorem logboomref1_Disk_Sync_fn (d0 : Nat) (d0o : Nat) (name : ByteArray) {H : Heap} {K : Value → Heap → Prop} (h : logboomref1_Disk_Sync_vc d0 d0o name H K) : FnH Tryz.prog 24 #[.pointer (some ⟨d0, d0o, none⟩), .string name] H K :=
  denFn_fn Tryz.mixed logboomref1_Disk_Sync_ann Tryz.func24 (bodyOf_spec (by kernel_rfl)) (logboomref1_Disk_Sync_eq d0 d0o name H K) h

/-! function 29: (*logboom/logboomref1.Disk).Crash -/
def logboomref1_Disk_Crash_ann : Anns := { hid := [], loops := [(0, { slots := [(4, .int .i64), (5, .int .i64)], kept := [0, 1], locs := [], keptL := [] })], joins := [], mix := [(13, [17])] }
def logboomref1_Disk_Crash_vc (d0 : Nat) (d0o : Nat) (keep : Sl) (H : Heap) (K : Value → Heap → Prop) : Prop :=
  ∃ I1 : Int → Int → Heap → Prop,
  ∃ M1 : Int → Int → Heap → Nat,
  I1 0 0 H ∧
  ∀ k_1 : Int,
  ∀ i_1 : Int,
  ∀ H1 : Heap,
  I1 k_1 i_1 H1 →
  ∃ l1 : Sl,
  cellH H1 ⟨d0, d0o + 1, none⟩ = some (.slice l1.p l1.n l1.c) ∧
  br (decide ((i_1 : Int) < (l1.n : Nat))) (
    ∃ l2 : Sl,
    cellH H1 ⟨d0, d0o + 1, none⟩ = some (.slice l2.p l2.n l2.c) ∧
    ∃ q1 : Nat,
    ∃ o1 : Nat,
    (l2.p : Option Addr) = some ⟨q1, o1, none⟩ ∧
    0 ≤ (i_1 : Int) ∧
    (i_1 : Int) < (l2.n : Nat) ∧
    ∃ s1 : ByteArray,
    cellH H1 ⟨q1, o1 + Int.toNat i_1 * 3 + 1, none⟩ = some (.string s1) ∧
    ∃ n1 : Int,
    cellH H1 ⟨q1, o1 + Int.toNat i_1 * 3 + 2, none⟩ = some (.int .i64 n1) ∧
    br (((IntKind.wrap .i64 ((s1.size : Nat) - n1)) : Int) == 0) (
      SelfEq ([.v (.pointer (some ⟨d0, d0o, none⟩)), .v (.slice keep.p keep.n keep.c)], [], []) ∧
      I1 k_1 (IntKind.wrap .i64 (i_1 + 1)) H1 ∧
      M1 k_1 (IntKind.wrap .i64 (i_1 + 1)) H1 < M1 k_1 i_1 H1)
     (
      br (decide ((k_1 : Int) < (keep.n : Nat))) (
        ∃ q2 : Nat,
        ∃ o2 : Nat,
        (keep.p : Option Addr) = some ⟨q2, o2, none⟩ ∧
        0 ≤ (k_1 : Int) ∧
        (k_1 : Int) < (keep.n : Nat) ∧
        ∃ n2 : Int,
        cellH H1 ⟨q2, o2 + Int.toNat k_1, none⟩ = some (.int .i64 n2) ∧
        br (decide ((n2 : Int) < 0)) (
          ∃ s2 : ByteArray,
          cellH H1 ⟨q1, o1 + Int.toNat i_1 * 3 + 1, none⟩ = some (.string s2) ∧
          ∃ n3 : Int,
          cellH H1 ⟨q1, o1 + Int.toNat i_1 * 3 + 2, none⟩ = some (.int .i64 n3) ∧
          ((IntKind.wrap .i64 ((IntKind.wrap .i64 ((s1.size : Nat) - n1)) + 1)) : Int) ≠ 0 ∧
          0 ≤ (IntKind.wrap .i64 (n3 + (Int.tmod (IntKind.wrap .i64 (0 - (IntKind.wrap .i64 (n2 + 1)))) (IntKind.wrap .i64 ((IntKind.wrap .i64 ((s1.size : Nat) - n1)) + 1)))) : Int) ∧
          (IntKind.wrap .i64 (n3 + (Int.tmod (IntKind.wrap .i64 (0 - (IntKind.wrap .i64 (n2 + 1)))) (IntKind.wrap .i64 ((IntKind.wrap .i64 ((s1.size : Nat) - n1)) + 1)))) : Int) ≤ (s2.size : Nat) ∧
          (∃ u, cellH H1 ⟨q1, o1 + Int.toNat i_1 * 3 + 1, none⟩ = some u) ∧
          frozenH H1 ⟨q1, o1 + Int.toNat i_1 * 3 + 1, none⟩ = false ∧
          letH (Heap.set H1 ⟨q1, o1 + Int.toNat i_1 * 3 + 1, none⟩ (.string (s2.extract (Int.toNat (0 : Int)) (Int.toNat (IntKind.wrap .i64 (n3 + (Int.tmod (IntKind.wrap .i64 (0 - (IntKind.wrap .i64 (n2 + 1)))) (IntKind.wrap .i64 ((IntKind.wrap .i64 ((s1.size : Nat) - n1)) + 1))))))))) fun H2 =>
          ∃ s3 : ByteArray,
          cellH H2 ⟨q1, o1 + Int.toNat i_1 * 3 + 1, none⟩ = some (.string s3) ∧
          (∃ u, cellH H2 ⟨q1, o1 + Int.toNat i_1 * 3 + 2, none⟩ = some u) ∧
          frozenH H2 ⟨q1, o1 + Int.toNat i_1 * 3 + 2, none⟩ = false ∧
          letH (Heap.set H2 ⟨q1, o1 + Int.toNat i_1 * 3 + 2, none⟩ (.int .i64 (s3.size : Nat))) fun H3 =>
          SelfEq ([.v (.pointer (some ⟨d0, d0o, none⟩)), .v (.slice keep.p keep.n keep.c)], [], []) ∧
          I1 (IntKind.wrap .i64 (k_1 + 1)) (IntKind.wrap .i64 (i_1 + 1)) H3 ∧
          M1 (IntKind.wrap .i64 (k_1 + 1)) (IntKind.wrap .i64 (i_1 + 1)) H3 < M1 k_1 i_1 H1)
         (
          ∃ s4 : ByteArray,
          cellH H1 ⟨q1, o1 + Int.toNat i_1 * 3 + 1, none⟩ = some (.string s4) ∧
          ∃ n4 : Int,
          cellH H1 ⟨q1, o1 + Int.toNat i_1 * 3 + 2, none⟩ = some (.int .i64 n4) ∧
          ((IntKind.wrap .i64 ((IntKind.wrap .i64 ((s1.size : Nat) - n1)) + 1)) : Int) ≠ 0 ∧
          0 ≤ (IntKind.wrap .i64 (n4 + (Int.tmod n2 (IntKind.wrap .i64 ((IntKind.wrap .i64 ((s1.size : Nat) - n1)) + 1)))) : Int) ∧
          (IntKind.wrap .i64 (n4 + (Int.tmod n2 (IntKind.wrap .i64 ((IntKind.wrap .i64 ((s1.size : Nat) - n1)) + 1)))) : Int) ≤ (s4.size : Nat) ∧
          (∃ u, cellH H1 ⟨q1, o1 + Int.toNat i_1 * 3 + 1, none⟩ = some u) ∧
          frozenH H1 ⟨q1, o1 + Int.toNat i_1 * 3 + 1, none⟩ = false ∧
          letH (Heap.set H1 ⟨q1, o1 + Int.toNat i_1 * 3 + 1, none⟩ (.string (s4.extract (Int.toNat (0 : Int)) (Int.toNat (IntKind.wrap .i64 (n4 + (Int.tmod n2 (IntKind.wrap .i64 ((IntKind.wrap .i64 ((s1.size : Nat) - n1)) + 1))))))))) fun H4 =>
          ∃ s5 : ByteArray,
          cellH H4 ⟨q1, o1 + Int.toNat i_1 * 3 + 1, none⟩ = some (.string s5) ∧
          (∃ u, cellH H4 ⟨q1, o1 + Int.toNat i_1 * 3 + 2, none⟩ = some u) ∧
          frozenH H4 ⟨q1, o1 + Int.toNat i_1 * 3 + 2, none⟩ = false ∧
          letH (Heap.set H4 ⟨q1, o1 + Int.toNat i_1 * 3 + 2, none⟩ (.int .i64 (s5.size : Nat))) fun H5 =>
          SelfEq ([.v (.pointer (some ⟨d0, d0o, none⟩)), .v (.slice keep.p keep.n keep.c)], [], []) ∧
          I1 (IntKind.wrap .i64 (k_1 + 1)) (IntKind.wrap .i64 (i_1 + 1)) H5 ∧
          M1 (IntKind.wrap .i64 (k_1 + 1)) (IntKind.wrap .i64 (i_1 + 1)) H5 < M1 k_1 i_1 H1))
       (
        br (decide ((0 : Int) < 0)) (
          ∃ s6 : ByteArray,
          cellH H1 ⟨q1, o1 + Int.toNat i_1 * 3 + 1, none⟩ = some (.string s6) ∧
          ∃ n5 : Int,
          cellH H1 ⟨q1, o1 + Int.toNat i_1 * 3 + 2, none⟩ = some (.int .i64 n5) ∧
          ((IntKind.wrap .i64 ((IntKind.wrap .i64 ((s1.size : Nat) - n1)) + 1)) : Int) ≠ 0 ∧
          0 ≤ (IntKind.wrap .i64 (n5 + (Int.tmod (IntKind.wrap .i64 (0 - (IntKind.wrap .i64 (0 + 1)))) (IntKind.wrap .i64 ((IntKind.wrap .i64 ((s1.size : Nat) - n1)) + 1)))) : Int) ∧
          (IntKind.wrap .i64 (n5 + (Int.tmod (IntKind.wrap .i64 (0 - (IntKind.wrap .i64 (0 + 1)))) (IntKind.wrap .i64 ((IntKind.wrap .i64 ((s1.size : Nat) - n1)) + 1)))) : Int) ≤ (s6.size : Nat) ∧
          (∃ u, cellH H1 ⟨q1, o1 + Int.toNat i_1 * 3 + 1, none⟩ = some u) ∧
          frozenH H1 ⟨q1, o1 + Int.toNat i_1 * 3 + 1, none⟩ = false ∧
          letH (Heap.set H1 ⟨q1, o1 + Int.toNat i_1 * 3 + 1, none⟩ (.string (s6.extract (Int.toNat (0 : Int)) (Int.toNat (IntKind.wrap .i64 (n5 + (Int.tmod (IntKind.wrap .i64 (0 - (IntKind.wrap .i64 (0 + 1)))) (IntKind.wrap .i64 ((IntKind.wrap .i64 ((s1.size : Nat) - n1)) + 1))))))))) fun H6 =>
          ∃ s7 : ByteArray,
          cellH H6 ⟨q1, o1 + Int.toNat i_1 * 3 + 1, none⟩ = some (.string s7) ∧
          (∃ u, cellH H6 ⟨q1, o1 + Int.toNat i_1 * 3 + 2, none⟩ = some u) ∧
          frozenH H6 ⟨q1, o1 + Int.toNat i_1 * 3 + 2, none⟩ = false ∧
          letH (Heap.set H6 ⟨q1, o1 + Int.toNat i_1 * 3 + 2, none⟩ (.int .i64 (s7.size : Nat))) fun H7 =>
          SelfEq ([.v (.pointer (some ⟨d0, d0o, none⟩)), .v (.slice keep.p keep.n keep.c)], [], []) ∧
          I1 (IntKind.wrap .i64 (k_1 + 1)) (IntKind.wrap .i64 (i_1 + 1)) H7 ∧
          M1 (IntKind.wrap .i64 (k_1 + 1)) (IntKind.wrap .i64 (i_1 + 1)) H7 < M1 k_1 i_1 H1)
         (
          ∃ s8 : ByteArray,
          cellH H1 ⟨q1, o1 + Int.toNat i_1 * 3 + 1, none⟩ = some (.string s8) ∧
          ∃ n6 : Int,
          cellH H1 ⟨q1, o1 + Int.toNat i_1 * 3 + 2, none⟩ = some (.int .i64 n6) ∧
          ((IntKind.wrap .i64 ((IntKind.wrap .i64 ((s1.size : Nat) - n1)) + 1)) : Int) ≠ 0 ∧
          0 ≤ (IntKind.wrap .i64 (n6 + (Int.tmod 0 (IntKind.wrap .i64 ((IntKind.wrap .i64 ((s1.size : Nat) - n1)) + 1)))) : Int) ∧
          (IntKind.wrap .i64 (n6 + (Int.tmod 0 (IntKind.wrap .i64 ((IntKind.wrap .i64 ((s1.size : Nat) - n1)) + 1)))) : Int) ≤ (s8.size : Nat) ∧
          (∃ u, cellH H1 ⟨q1, o1 + Int.toNat i_1 * 3 + 1, none⟩ = some u) ∧
          frozenH H1 ⟨q1, o1 + Int.toNat i_1 * 3 + 1, none⟩ = false ∧
          letH (Heap.set H1 ⟨q1, o1 + Int.toNat i_1 * 3 + 1, none⟩ (.string (s8.extract (Int.toNat (0 : Int)) (Int.toNat (IntKind.wrap .i64 (n6 + (Int.tmod 0 (IntKind.wrap .i64 ((IntKind.wrap .i64 ((s1.size : Nat) - n1)) + 1))))))))) fun H8 =>
          ∃ s9 : ByteArray,
          cellH H8 ⟨q1, o1 + Int.toNat i_1 * 3 + 1, none⟩ = some (.string s9) ∧
          (∃ u, cellH H8 ⟨q1, o1 + Int.toNat i_1 * 3 + 2, none⟩ = some u) ∧
          frozenH H8 ⟨q1, o1 + Int.toNat i_1 * 3 + 2, none⟩ = false ∧
          letH (Heap.set H8 ⟨q1, o1 + Int.toNat i_1 * 3 + 2, none⟩ (.int .i64 (s9.size : Nat))) fun H9 =>
          SelfEq ([.v (.pointer (some ⟨d0, d0o, none⟩)), .v (.slice keep.p keep.n keep.c)], [], []) ∧
          I1 (IntKind.wrap .i64 (k_1 + 1)) (IntKind.wrap .i64 (i_1 + 1)) H9 ∧
          M1 (IntKind.wrap .i64 (k_1 + 1)) (IntKind.wrap .i64 (i_1 + 1)) H9 < M1 k_1 i_1 H1))))
   (
    K (.tuple #[]) H1)
theorem logboomref1_Disk_Crash_eq (d0 : Nat) (d0o : Nat) (keep : Sl) (H : Heap) (K : Value → Heap → Prop) : logboomref1_Disk_Crash_vc d0 d0o keep H K = denFn Tryz.prog logboomref1_Disk_Crash_ann Tryz.f29 (bodyOf Tryz.f29) [.pointer (some ⟨d0, d0o, none⟩), .slice keep.p keep.n keep.c] H K := by kernel_rfl
theorem logboomref1_Disk_Crash_fn (d0 : Nat) (d0o : Nat) (keep : Sl) {H : Heap} {K : Value → Heap → Prop} (h : logboomref1_Disk_Crash_vc d0 d0o keep H K) : FnH Tryz.prog 29 #[.pointer (some ⟨d0, d0o, none⟩), .slice keep.p keep.n keep.c] H K :=
  denFn_fn Tryz.mixed logboomref1_Disk_Crash_ann Tryz.func29 (bodyOf_spec (by kernel_rfl)) (logboomref1_Disk_Crash_eq d0 d0o keep H K) h

/-! function 30: (*logboom/disk.Disk).Read -/
def disk_Disk_Read_ann : Anns := { hid := [6], loops := [], joins := [], mix := [] }
def disk_Disk_Read_vc (d0 : Nat) (d0o : Nat) (name : ByteArray) (H : Heap) (K : Value → Heap → Prop) : Prop :=
  ∃ m1 : Option Nat,
  cellH H ⟨d0, d0o + 2, none⟩ = some (.map m1) ∧
  runH Tryz.prog (Instr.lookup 56 (.map m1) (.string name) true) H fun r1 H1 =>
    ∃ s1 : ByteArray,
    ∃ n1 : Int,
    ∃ b1 : Bool,
    r1 = .tuple #[.agg #[.string s1, .int .i64 n1], .bool b1] ∧
    br (!b1) (
      K (.tuple #[.string (⟨#[]⟩ : ByteArray), .int .i64 8]) H1)
     (
      K (.tuple #[.string s1, .int .i64 0]) H1)
theorem disk_Disk_Read_eq (d0 : Nat) (d0o : Nat) (name : ByteArray) (H : Heap) (K : Value → Heap → Prop) : disk_Disk_Read_vc d0 d0o name H K = denFn Tryz.prog disk_Disk_Read_ann Tryz.f30 (bodyOf Tryz.f30) [.pointer (some ⟨d0, d0o, none⟩), .string name] H K := by kernel_rfl
theorem disk_Disk_Read_fn (d0 : Nat) (d0o : Nat) (name : ByteArray) {H : Heap} {K : Value → Heap → Prop} (h : disk_Disk_Read_vc d0 d0o name H K) : FnH Tryz.prog 30 #[.pointer (some ⟨d0, d0o, none⟩), .string name] H K :=
  denFn_fn Tryz.mixed disk_Disk_Read_ann Tryz.func30 (bodyOf_spec (by kernel_rfl)) (disk_Disk_Read_eq d0 d0o name H K) h

/-! function 31: (*logboom/logboomref1.Disk).Read -/
def logboomref1_Disk_Read_ann : Anns := { hid := [], loops := [], joins := [], mix := [] }
def logboomref1_Disk_Read_vc (d0 : Nat) (d0o : Nat) (name : ByteArray) (H : Heap) (K : Value → Heap → Prop) : Prop :=
  FnH Tryz.prog 57 #[.pointer (some ⟨d0, d0o, none⟩), .string name] H fun r1 H1 =>
    ∃ n1 : Int,
    r1 = .int .i64 n1 ∧
    br (decide ((n1 : Int) < 0)) (
      K (.tuple #[.string (⟨#[]⟩ : ByteArray), .int .i64 8]) H1)
     (
      ∃ l1 : Sl,
      cellH H1 ⟨d0, d0o + 1, none⟩ = some (.slice l1.p l1.n l1.c) ∧
      ∃ q1 : Nat,
      ∃ o1 : Nat,
      (l1.p : Option Addr) = some ⟨q1, o1, none⟩ ∧
      0 ≤ (n1 : Int) ∧
      (n1 : Int) < (l1.n : Nat) ∧
      ∃ s1 : ByteArray,
      cellH H1 ⟨q1, o1 + Int.toNat n1 * 3 + 1, none⟩ = some (.string s1) ∧
      K (.tuple #[.string s1, .int .i64 0]) H1)
theorem logboomref1_Disk_Read_eq (d0 : Nat) (d0o : Nat) (name : ByteArray) (H : Heap) (K : Value → Heap → Prop) : logboomref1_Disk_Read_vc d0 d0o name H K = denFn Tryz.prog logboomref1_Disk_Read_ann Tryz.f31 (bodyOf Tryz.f31) [.pointer (some ⟨d0, d0o, none⟩), .string name] H K := by kernel_rfl
theorem logboomref1_Disk_Read_fn (d0 : Nat) (d0o : Nat) (name : ByteArray) {H : Heap} {K : Value → Heap → Prop} (h : logboomref1_Disk_Read_vc d0 d0o name H K) : FnH Tryz.prog 31 #[.pointer (some ⟨d0, d0o, none⟩), .string name] H K :=
  denFn_fn Tryz.mixed logboomref1_Disk_Read_ann Tryz.func31 (bodyOf_spec (by kernel_rfl)) (logboomref1_Disk_Read_eq d0 d0o name H K) h

/-! function 34: (*logboom/disk.Disk).Synced -/
def disk_Disk_Synced_ann : Anns := { hid := [], loops := [], joins := [], mix := [] }
def disk_Disk_Synced_vc (d0 : Nat) (d0o : Nat) (name : ByteArray) (H : Heap) (K : Value → Heap → Prop) : Prop :=
  ∃ m1 : Option Nat,
  cellH H ⟨d0, d0o + 2, none⟩ = some (.map m1) ∧
  runH Tryz.prog (Instr.lookup 56 (.map m1) (.string name) false) H fun r1 H1 =>
    ∃ s1 : ByteArray,
    ∃ n1 : Int,
    r1 = .agg #[.string s1, .int .i64 n1] ∧
    K (.int .i64 n1) H1
theorem disk_Disk_Synced_eq (d0 : Nat) (d0o : Nat) (name : ByteArray) (H : Heap) (K : Value → Heap → Prop) : disk_Disk_Synced_vc d0 d0o name H K = denFn Tryz.prog disk_Disk_Synced_ann Tryz.f34 (bodyOf Tryz.f34) [.pointer (some ⟨d0, d0o, none⟩), .string name] H K := by kernel_rfl
theorem disk_Disk_Synced_fn (d0 : Nat) (d0o : Nat) (name : ByteArray) {H : Heap} {K : Value → Heap → Prop} (h : disk_Disk_Synced_vc d0 d0o name H K) : FnH Tryz.prog 34 #[.pointer (some ⟨d0, d0o, none⟩), .string name] H K :=
  denFn_fn Tryz.mixed disk_Disk_Synced_ann Tryz.func34 (bodyOf_spec (by kernel_rfl)) (disk_Disk_Synced_eq d0 d0o name H K) h

/-! function 35: (*logboom/logboomref1.Disk).Synced -/
def logboomref1_Disk_Synced_ann : Anns := { hid := [], loops := [], joins := [], mix := [] }
def logboomref1_Disk_Synced_vc (d0 : Nat) (d0o : Nat) (name : ByteArray) (H : Heap) (K : Value → Heap → Prop) : Prop :=
  FnH Tryz.prog 57 #[.pointer (some ⟨d0, d0o, none⟩), .string name] H fun r1 H1 =>
    ∃ n1 : Int,
    r1 = .int .i64 n1 ∧
    br (decide ((n1 : Int) < 0)) (
      K (.int .i64 0) H1)
     (
      ∃ l1 : Sl,
      cellH H1 ⟨d0, d0o + 1, none⟩ = some (.slice l1.p l1.n l1.c) ∧
      ∃ q1 : Nat,
      ∃ o1 : Nat,
      (l1.p : Option Addr) = some ⟨q1, o1, none⟩ ∧
      0 ≤ (n1 : Int) ∧
      (n1 : Int) < (l1.n : Nat) ∧
      ∃ n2 : Int,
      cellH H1 ⟨q1, o1 + Int.toNat n1 * 3 + 2, none⟩ = some (.int .i64 n2) ∧
      K (.int .i64 n2) H1)
theorem logboomref1_Disk_Synced_eq (d0 : Nat) (d0o : Nat) (name : ByteArray) (H : Heap) (K : Value → Heap → Prop) : logboomref1_Disk_Synced_vc d0 d0o name H K = denFn Tryz.prog logboomref1_Disk_Synced_ann Tryz.f35 (bodyOf Tryz.f35) [.pointer (some ⟨d0, d0o, none⟩), .string name] H K := by kernel_rfl
theorem logboomref1_Disk_Synced_fn (d0 : Nat) (d0o : Nat) (name : ByteArray) {H : Heap} {K : Value → Heap → Prop} (h : logboomref1_Disk_Synced_vc d0 d0o name H K) : FnH Tryz.prog 35 #[.pointer (some ⟨d0, d0o, none⟩), .string name] H K :=
  denFn_fn Tryz.mixed logboomref1_Disk_Synced_ann Tryz.func35 (bodyOf_spec (by kernel_rfl)) (logboomref1_Disk_Synced_eq d0 d0o name H K) h

/-! function 38: (*logboom/disk.Disk).Append -/
def disk_Disk_Append_ann : Anns := { hid := [8], loops := [], joins := [], mix := [(6, [11])] }
def disk_Disk_Append_vc (d0 : Nat) (d0o : Nat) (name : ByteArray) (b : ByteArray) (H : Heap) (K : Value → Heap → Prop) : Prop :=
  FnH Tryz.prog 62 #[.pointer (some ⟨d0, d0o, none⟩), .string name] H fun r1 H1 =>
    ∃ n1 : Int,
    r1 = .int .i64 n1 ∧
    br ((n1 : Int) != 0) (
      K (.int .i64 n1) H1)
     (
      ∃ m1 : Option Nat,
      cellH H1 ⟨d0, d0o + 2, none⟩ = some (.map m1) ∧
      runH Tryz.prog (Instr.lookup 56 (.map m1) (.string name) false) H1 fun r2 H2 =>
        ∃ s1 : ByteArray,
        ∃ n2 : Int,
        r2 = .agg #[.string s1, .int .i64 n2] ∧
        FnH Tryz.prog 63 #[.pointer (some ⟨d0, d0o, none⟩)] H2 fun r3 H3 =>
          ∃ n3 : Int,
          r3 = .int .i64 n3 ∧
          0 ≤ (if n3 < ((b.size : Nat) : Int) then n3 else ((b.size : Nat) : Int) : Int) ∧
          (if n3 < ((b.size : Nat) : Int) then n3 else ((b.size : Nat) : Int) : Int) ≤ (b.size : Nat) ∧
          s1.size + (b.extract (Int.toNat (0 : Int)) (Int.toNat (if n3 < ((b.size : Nat) : Int) then n3 else ((b.size : Nat) : Int)))).size < 9223372036854775808 ∧
          FnH Tryz.prog 49 #[.pointer (some ⟨d0, d0o, none⟩), .string name, .agg #[.string (s1 ++ (b.extract (Int.toNat (0 : Int)) (Int.toNat (if n3 < ((b.size : Nat) : Int) then n3 else ((b.size : Nat) : Int))))), .int .i64 n2]] H3 fun r4 H4 =>
            r4 = .tuple #[] ∧
            br (decide (((if n3 < ((b.size : Nat) : Int) then n3 else ((b.size : Nat) : Int)) : Int) < (b.size : Nat))) (
              K (.int .i64 7) H4)
             (
              K (.int .i64 0) H4))
theorem disk_Disk_Append_eq (d0 : Nat) (d0o : Nat) (name : ByteArray) (b : ByteArray) (H : Heap) (K : Value → Heap → Prop) : disk_Disk_Append_vc d0 d0o name b H K = denFn Tryz.prog disk_Disk_Append_ann Tryz.f38 (bodyOf Tryz.f38) [.pointer (some ⟨d0, d0o, none⟩), .string name, .string b] H K := by kernel_rfl
theorem disk_Disk_Append_fn (d0 : Nat) (d0o : Nat) (name : ByteArray) (b : ByteArray) {H : Heap} {K : Value → Heap → Prop} (h : disk_Disk_Append_vc d0 d0o name b H K) : FnH Tryz.prog 38 #[.pointer (some ⟨d0, d0o, none⟩), .string name, .string b] H K :=
  denFn_fn Tryz.mixed disk_Disk_Append_ann Tryz.func38 (bodyOf_spec (by kernel_rfl)) (disk_Disk_Append_eq d0 d0o name b H K) h

/-! function 42: (*logboom/disk.Disk).Cut -/
def disk_Disk_Cut_ann : Anns := { hid := [7], loops := [], joins := [], mix := [(6, [11])] }
def disk_Disk_Cut_vc (d0 : Nat) (d0o : Nat) (name : ByteArray) (n : Int) (H : Heap) (K : Value → Heap → Prop) : Prop :=
  ∃ m1 : Option Nat,
  cellH H ⟨d0, d0o + 2, none⟩ = some (.map m1) ∧
  runH Tryz.prog (Instr.lookup 56 (.map m1) (.string name) true) H fun r1 H1 =>
    ∃ s1 : ByteArray,
    ∃ n1 : Int,
    ∃ b1 : Bool,
    r1 = .tuple #[.agg #[.string s1, .int .i64 n1], .bool b1] ∧
    br (!b1) (
      K (.int .i64 8) H1)
     (
      br (decide ((n : Int) < 0)) (
        K (.int .i64 1) H1)
       (
        br (decide ((n : Int) > (s1.size : Nat))) (
          K (.int .i64 1) H1)
         (
          0 ≤ (n : Int) ∧
          (n : Int) ≤ (s1.size : Nat) ∧
          FnH Tryz.prog 49 #[.pointer (some ⟨d0, d0o, none⟩), .string name, .agg #[.string (s1.extract (Int.toNat (0 : Int)) (Int.toNat n)), .int .i64 (if n < n1 then n else n1)]] H1 fun r2 H2 =>
            r2 = .tuple #[] ∧
            K (.int .i64 0) H2)))
theorem disk_Disk_Cut_eq (d0 : Nat) (d0o : Nat) (name : ByteArray) (n : Int) (H : Heap) (K : Value → Heap → Prop) : disk_Disk_Cut_vc d0 d0o name n H K = denFn Tryz.prog disk_Disk_Cut_ann Tryz.f42 (bodyOf Tryz.f42) [.pointer (some ⟨d0, d0o, none⟩), .string name, .int .i64 n] H K := by kernel_rfl
theorem disk_Disk_Cut_fn (d0 : Nat) (d0o : Nat) (name : ByteArray) (n : Int) {H : Heap} {K : Value → Heap → Prop} (h : disk_Disk_Cut_vc d0 d0o name n H K) : FnH Tryz.prog 42 #[.pointer (some ⟨d0, d0o, none⟩), .string name, .int .i64 n] H K :=
  denFn_fn Tryz.mixed disk_Disk_Cut_ann Tryz.func42 (bodyOf_spec (by kernel_rfl)) (disk_Disk_Cut_eq d0 d0o name n H K) h

/-! function 43: (*logboom/disk.Disk).Sync -/
def disk_Disk_Sync_ann : Anns := { hid := [5], loops := [], joins := [], mix := [] }
def disk_Disk_Sync_vc (d0 : Nat) (d0o : Nat) (name : ByteArray) (H : Heap) (K : Value → Heap → Prop) : Prop :=
  ∃ m1 : Option Nat,
  cellH H ⟨d0, d0o + 2, none⟩ = some (.map m1) ∧
  runH Tryz.prog (Instr.lookup 56 (.map m1) (.string name) true) H fun r1 H1 =>
    ∃ s1 : ByteArray,
    ∃ n1 : Int,
    ∃ b1 : Bool,
    r1 = .tuple #[.agg #[.string s1, .int .i64 n1], .bool b1] ∧
    br (!b1) (
      K (.int .i64 8) H1)
     (
      FnH Tryz.prog 49 #[.pointer (some ⟨d0, d0o, none⟩), .string name, .agg #[.string s1, .int .i64 (s1.size : Nat)]] H1 fun r2 H2 =>
        r2 = .tuple #[] ∧
        K (.int .i64 0) H2)
theorem disk_Disk_Sync_eq (d0 : Nat) (d0o : Nat) (name : ByteArray) (H : Heap) (K : Value → Heap → Prop) : disk_Disk_Sync_vc d0 d0o name H K = denFn Tryz.prog disk_Disk_Sync_ann Tryz.f43 (bodyOf Tryz.f43) [.pointer (some ⟨d0, d0o, none⟩), .string name] H K := by kernel_rfl
theorem disk_Disk_Sync_fn (d0 : Nat) (d0o : Nat) (name : ByteArray) {H : Heap} {K : Value → Heap → Prop} (h : disk_Disk_Sync_vc d0 d0o name H K) : FnH Tryz.prog 43 #[.pointer (some ⟨d0, d0o, none⟩), .string name] H K :=
  denFn_fn Tryz.mixed disk_Disk_Sync_ann Tryz.func43 (bodyOf_spec (by kernel_rfl)) (disk_Disk_Sync_eq d0 d0o name H K) h

/-! function 47: (*logboom/disk.Disk).Size -/
def disk_Disk_Size_ann : Anns := { hid := [], loops := [], joins := [], mix := [] }
def disk_Disk_Size_vc (d0 : Nat) (d0o : Nat) (name : ByteArray) (H : Heap) (K : Value → Heap → Prop) : Prop :=
  ∃ m1 : Option Nat,
  cellH H ⟨d0, d0o + 2, none⟩ = some (.map m1) ∧
  runH Tryz.prog (Instr.lookup 56 (.map m1) (.string name) false) H fun r1 H1 =>
    ∃ s1 : ByteArray,
    ∃ n1 : Int,
    r1 = .agg #[.string s1, .int .i64 n1] ∧
    K (.int .i64 (s1.size : Nat)) H1
theorem disk_Disk_Size_eq (d0 : Nat) (d0o : Nat) (name : ByteArray) (H : Heap) (K : Value → Heap → Prop) : disk_Disk_Size_vc d0 d0o name H K = denFn Tryz.prog disk_Disk_Size_ann Tryz.f47 (bodyOf Tryz.f47) [.pointer (some ⟨d0, d0o, none⟩), .string name] H K := by kernel_rfl
theorem disk_Disk_Size_fn (d0 : Nat) (d0o : Nat) (name : ByteArray) {H : Heap} {K : Value → Heap → Prop} (h : disk_Disk_Size_vc d0 d0o name H K) : FnH Tryz.prog 47 #[.pointer (some ⟨d0, d0o, none⟩), .string name] H K :=
  denFn_fn Tryz.mixed disk_Disk_Size_ann Tryz.func47 (bodyOf_spec (by kernel_rfl)) (disk_Disk_Size_eq d0 d0o name H K) h

/-! function 48: (*logboom/disk.Disk).Names -/
def disk_Disk_Names_ann : Anns := { hid := [], loops := [], joins := [], mix := [] }
def disk_Disk_Names_vc (d0 : Nat) (d0o : Nat) (H : Heap) (K : Value → Heap → Prop) : Prop :=
  ∃ m1 : Option Nat,
  cellH H ⟨d0, d0o + 2, none⟩ = some (.map m1) ∧
  FnH Tryz.prog 72 #[.map m1] H fun r1 H1 =>
    ∃ w1 : Fv,
    r1 = .func (.func w1.k) w1.first w1.cap ∧
    FnH Tryz.prog 71 #[.func (.func w1.k) w1.first w1.cap] H1 fun r2 H2 =>
      ∃ l1 : Sl,
      r2 = .slice l1.p l1.n l1.c ∧
      K (.slice l1.p l1.n l1.c) H2
theorem disk_Disk_Names_eq (d0 : Nat) (d0o : Nat) (H : Heap) (K : Value → Heap → Prop) : disk_Disk_Names_vc d0 d0o H K = denFn Tryz.prog disk_Disk_Names_ann Tryz.f48 (bodyOf Tryz.f48) [.pointer (some ⟨d0, d0o, none⟩)] H K := by kernel_rfl
theorem disk_Disk_Names_fn (d0 : Nat) (d0o : Nat) {H : Heap} {K : Value → Heap → Prop} (h : disk_Disk_Names_vc d0 d0o H K) : FnH Tryz.prog 48 #[.pointer (some ⟨d0, d0o, none⟩)] H K :=
  denFn_fn Tryz.mixed disk_Disk_Names_ann Tryz.func48 (bodyOf_spec (by kernel_rfl)) (disk_Disk_Names_eq d0 d0o H K) h

/-! function 49: (*logboom/disk.Disk).put -/
def disk_Disk_put_ann : Anns := { hid := [5], loops := [], joins := [], mix := [(1, [19]), (2, [6])] }
def disk_Disk_put_vc (d0 : Nat) (d0o : Nat) (name : ByteArray) (f_0 : ByteArray) (f_1 : Int) (H : Heap) (K : Value → Heap → Prop) : Prop :=
  ∃ n1 : Int,
  cellH H ⟨d0, d0o + 1, none⟩ = some (.int .i64 n1) ∧
  ∃ m1 : Option Nat,
  cellH H ⟨d0, d0o + 2, none⟩ = some (.map m1) ∧
  runH Tryz.prog (Instr.lookup 56 (.map m1) (.string name) false) H fun r1 H1 =>
    ∃ s1 : ByteArray,
    ∃ n2 : Int,
    r1 = .agg #[.string s1, .int .i64 n2] ∧
    Sub H H1 ∧
    (∃ u, cellH H1 ⟨d0, d0o + 1, none⟩ = some u) ∧
    frozenH H1 ⟨d0, d0o + 1, none⟩ = false ∧
    letH (Heap.set H1 ⟨d0, d0o + 1, none⟩ (.int .i64 (IntKind.wrap .i64 (n1 + (IntKind.wrap .i64 ((f_0.size : Nat) - (s1.size : Nat))))))) fun H2 =>
    ∃ m2 : Option Nat,
    cellH H2 ⟨d0, d0o + 2, none⟩ = some (.map m2) ∧
    runH Tryz.prog (Instr.mapUpdate 56 (.map m2) (.string name) (.agg #[.string f_0, .int .i64 f_1])) H2 fun _ H3 =>
      K (.tuple #[]) H3
theorem disk_Disk_put_eq (d0 : Nat) (d0o : Nat) (name : ByteArray) (f_0 : ByteArray) (f_1 : Int) (H : Heap) (K : Value → Heap → Prop) : disk_Disk_put_vc d0 d0o name f_0 f_1 H K = denFn Tryz.prog disk_Disk_put_ann Tryz.f49 (bodyOf Tryz.f49) [.pointer (some ⟨d0, d0o, none⟩), .string name, .agg #[.string f_0, .int .i64 f_1]] H K := by kernel_rfl
theorem disk_Disk_put_fn (d0 : Nat) (d0o : Nat) (name : ByteArray) (f_0 : ByteArray) (f_1 : Int) {H : Heap} {K : Value → Heap → Prop} (h : disk_Disk_put_vc d0 d0o name f_0 f_1 H K) : FnH Tryz.prog 49 #[.pointer (some ⟨d0, d0o, none⟩), .string name, .agg #[.string f_0, .int .i64 f_1]] H K :=
  denFn_fn Tryz.mixed disk_Disk_put_ann Tryz.func49 (bodyOf_spec (by kernel_rfl)) (disk_Disk_put_eq d0 d0o name f_0 f_1 H K) h

/-! function 51: (*logboom/logboomref1.Disk).Append -/
def logboomref1_Disk_Append_ann : Anns := { hid := [], loops := [], joins := [], mix := [(6, []), (8, [11])] }
def logboomref1_Disk_Append_vc (d0 : Nat) (d0o : Nat) (name : ByteArray) (b : ByteArray) (H : Heap) (K : Value → Heap → Prop) : Prop :=
  FnH Tryz.prog 73 #[.pointer (some ⟨d0, d0o, none⟩), .string name] H fun r1 H1 =>
    ∃ n1 : Int,
    r1 = .int .i64 n1 ∧
    br ((n1 : Int) != 0) (
      K (.int .i64 n1) H1)
     (
      FnH Tryz.prog 57 #[.pointer (some ⟨d0, d0o, none⟩), .string name] H1 fun r2 H2 =>
        ∃ n2 : Int,
        r2 = .int .i64 n2 ∧
        br (decide ((n2 : Int) < 0)) (
          FnH Tryz.prog 74 #[.pointer (some ⟨d0, d0o, none⟩), .agg #[.string name, .string (⟨#[]⟩ : ByteArray), .int .i64 0]] H2 fun r3 H3 =>
            r3 = .tuple #[] ∧
            ∃ l1 : Sl,
            cellH H3 ⟨d0, d0o + 1, none⟩ = some (.slice l1.p l1.n l1.c) ∧
            FnH Tryz.prog 57 #[.pointer (some ⟨d0, d0o, none⟩), .string name] H3 fun r4 H4 =>
              ∃ n3 : Int,
              r4 = .int .i64 n3 ∧
              Sub H3 H4 ∧
              ∃ q1 : Nat,
              ∃ o1 : Nat,
              (l1.p : Option Addr) = some ⟨q1, o1, none⟩ ∧
              0 ≤ (n3 : Int) ∧
              (n3 : Int) < (l1.n : Nat) ∧
              FnH Tryz.prog 75 #[.pointer (some ⟨d0, d0o, none⟩)] H4 fun r5 H5 =>
                ∃ n4 : Int,
                r5 = .int .i64 n4 ∧
                ∃ s1 : ByteArray,
                cellH H5 ⟨q1, o1 + Int.toNat n3 * 3 + 1, none⟩ = some (.string s1) ∧
                0 ≤ (if ((b.size : Nat) : Int) < n4 then ((b.size : Nat) : Int) else n4 : Int) ∧
                (if ((b.size : Nat) : Int) < n4 then ((b.size : Nat) : Int) else n4 : Int) ≤ (b.size : Nat) ∧
                s1.size + (b.extract (Int.toNat (0 : Int)) (Int.toNat (if ((b.size : Nat) : Int) < n4 then ((b.size : Nat) : Int) else n4))).size < 9223372036854775808 ∧
                (∃ u, cellH H5 ⟨q1, o1 + Int.toNat n3 * 3 + 1, none⟩ = some u) ∧
                frozenH H5 ⟨q1, o1 + Int.toNat n3 * 3 + 1, none⟩ = false ∧
                letH (Heap.set H5 ⟨q1, o1 + Int.toNat n3 * 3 + 1, none⟩ (.string (s1 ++ (b.extract (Int.toNat (0 : Int)) (Int.toNat (if ((b.size : Nat) : Int) < n4 then ((b.size : Nat) : Int) else n4)))))) fun H6 =>
                br (decide (((if ((b.size : Nat) : Int) < n4 then ((b.size : Nat) : Int) else n4) : Int) < (b.size : Nat))) (
                  K (.int .i64 7) H6)
                 (
                  K (.int .i64 0) H6))
         (
          ∃ l2 : Sl,
          cellH H2 ⟨d0, d0o + 1, none⟩ = some (.slice l2.p l2.n l2.c) ∧
          FnH Tryz.prog 57 #[.pointer (some ⟨d0, d0o, none⟩), .string name] H2 fun r6 H7 =>
            ∃ n5 : Int,
            r6 = .int .i64 n5 ∧
            Sub H2 H7 ∧
            ∃ q2 : Nat,
            ∃ o2 : Nat,
            (l2.p : Option Addr) = some ⟨q2, o2, none⟩ ∧
            0 ≤ (n5 : Int) ∧
            (n5 : Int) < (l2.n : Nat) ∧
            FnH Tryz.prog 75 #[.pointer (some ⟨d0, d0o, none⟩)] H7 fun r7 H8 =>
              ∃ n6 : Int,
              r7 = .int .i64 n6 ∧
              ∃ s2 : ByteArray,
              cellH H8 ⟨q2, o2 + Int.toNat n5 * 3 + 1, none⟩ = some (.string s2) ∧
              0 ≤ (if ((b.size : Nat) : Int) < n6 then ((b.size : Nat) : Int) else n6 : Int) ∧
              (if ((b.size : Nat) : Int) < n6 then ((b.size : Nat) : Int) else n6 : Int) ≤ (b.size : Nat) ∧
              s2.size + (b.extract (Int.toNat (0 : Int)) (Int.toNat (if ((b.size : Nat) : Int) < n6 then ((b.size : Nat) : Int) else n6))).size < 9223372036854775808 ∧
              (∃ u, cellH H8 ⟨q2, o2 + Int.toNat n5 * 3 + 1, none⟩ = some u) ∧
              frozenH H8 ⟨q2, o2 + Int.toNat n5 * 3 + 1, none⟩ = false ∧
              letH (Heap.set H8 ⟨q2, o2 + Int.toNat n5 * 3 + 1, none⟩ (.string (s2 ++ (b.extract (Int.toNat (0 : Int)) (Int.toNat (if ((b.size : Nat) : Int) < n6 then ((b.size : Nat) : Int) else n6)))))) fun H9 =>
              br (decide (((if ((b.size : Nat) : Int) < n6 then ((b.size : Nat) : Int) else n6) : Int) < (b.size : Nat))) (
                K (.int .i64 7) H9)
               (
                K (.int .i64 0) H9)))
theorem logboomref1_Disk_Append_eq (d0 : Nat) (d0o : Nat) (name : ByteArray) (b : ByteArray) (H : Heap) (K : Value → Heap → Prop) : logboomref1_Disk_Append_vc d0 d0o name b H K = denFn Tryz.prog logboomref1_Disk_Append_ann Tryz.f51 (bodyOf Tryz.f51) [.pointer (some ⟨d0, d0o, none⟩), .string name, .string b] H K := by kernel_rfl
theorem logboomref1_Disk_Append_fn (d0 : Nat) (d0o : Nat) (name : ByteArray) (b : ByteArray) {H : Heap} {K : Value → Heap → Prop} (h : logboomref1_Disk_Append_vc d0 d0o name b H K) : FnH Tryz.prog 51 #[.pointer (some ⟨d0, d0o, none⟩), .string name, .string b] H K :=
  denFn_fn Tryz.mixed logboomref1_Disk_Append_ann Tryz.func51 (bodyOf_spec (by kernel_rfl)) (logboomref1_Disk_Append_eq d0 d0o name b H K) h

/-! function 53: (*logboom/logboomref1.Disk).Size -/
def logboomref1_Disk_Size_ann : Anns := { hid := [], loops := [], joins := [], mix := [] }
def logboomref1_Disk_Size_vc (d0 : Nat) (d0o : Nat) (name : ByteArray) (H : Heap) (K : Value → Heap → Prop) : Prop :=
  FnH Tryz.prog 31 #[.pointer (some ⟨d0, d0o, none⟩), .string name] H fun r1 H1 =>
    ∃ s1 : ByteArray,
    ∃ n1 : Int,
    r1 = .tuple #[.string s1, .int .i64 n1] ∧
    K (.int .i64 (s1.size : Nat)) H1
theorem logboomref1_Disk_Size_eq (d0 : Nat) (d0o : Nat) (name : ByteArray) (H : Heap) (K : Value → Heap → Prop) : logboomref1_Disk_Size_vc d0 d0o name H K = denFn Tryz.prog logboomref1_Disk_Size_ann Tryz.f53 (bodyOf Tryz.f53) [.pointer (some ⟨d0, d0o, none⟩), .string name] H K := by kernel_rfl
theorem logboomref1_Disk_Size_fn (d0 : Nat) (d0o : Nat) (name : ByteArray) {H : Heap} {K : Value → Heap → Prop} (h : logboomref1_Disk_Size_vc d0 d0o name H K) : FnH Tryz.prog 53 #[.pointer (some ⟨d0, d0o, none⟩), .string name] H K :=
  denFn_fn Tryz.mixed logboomref1_Disk_Size_ann Tryz.func53 (bodyOf_spec (by kernel_rfl)) (logboomref1_Disk_Size_eq d0 d0o name H K) h

/-! function 54: (*logboom/logboomref1.Disk).Cut -/
def logboomref1_Disk_Cut_ann : Anns := { hid := [], loops := [], joins := [], mix := [] }
def logboomref1_Disk_Cut_vc (d0 : Nat) (d0o : Nat) (name : ByteArray) (n : Int) (H : Heap) (K : Value → Heap → Prop) : Prop :=
  FnH Tryz.prog 57 #[.pointer (some ⟨d0, d0o, none⟩), .string name] H fun r1 H1 =>
    ∃ n1 : Int,
    r1 = .int .i64 n1 ∧
    br (decide ((n1 : Int) < 0)) (
      K (.int .i64 8) H1)
     (
      ∃ l1 : Sl,
      cellH H1 ⟨d0, d0o + 1, none⟩ = some (.slice l1.p l1.n l1.c) ∧
      ∃ q1 : Nat,
      ∃ o1 : Nat,
      (l1.p : Option Addr) = some ⟨q1, o1, none⟩ ∧
      0 ≤ (n1 : Int) ∧
      (n1 : Int) < (l1.n : Nat) ∧
      br (decide ((n : Int) < 0)) (
        K (.int .i64 1) H1)
       (
        ∃ s1 : ByteArray,
        cellH H1 ⟨q1, o1 + Int.toNat n1 * 3 + 1, none⟩ = some (.string s1) ∧
        br (decide ((n : Int) > (s1.size : Nat))) (
          K (.int .i64 1) H1)
         (
          ∃ s2 : ByteArray,
          cellH H1 ⟨q1, o1 + Int.toNat n1 * 3 + 1, none⟩ = some (.string s2) ∧
          0 ≤ (n : Int) ∧
          (n : Int) ≤ (s2.size : Nat) ∧
          (∃ u, cellH H1 ⟨q1, o1 + Int.toNat n1 * 3 + 1, none⟩ = some u) ∧
          frozenH H1 ⟨q1, o1 + Int.toNat n1 * 3 + 1, none⟩ = false ∧
          letH (Heap.set H1 ⟨q1, o1 + Int.toNat n1 * 3 + 1, none⟩ (.string (s2.extract (Int.toNat (0 : Int)) (Int.toNat n)))) fun H2 =>
          ∃ n2 : Int,
          cellH H2 ⟨q1, o1 + Int.toNat n1 * 3 + 2, none⟩ = some (.int .i64 n2) ∧
          (∃ u, cellH H2 ⟨q1, o1 + Int.toNat n1 * 3 + 2, none⟩ = some u) ∧
          frozenH H2 ⟨q1, o1 + Int.toNat n1 * 3 + 2, none⟩ = false ∧
          letH (Heap.set H2 ⟨q1, o1 + Int.toNat n1 * 3 + 2, none⟩ (.int .i64 (if n < n2 then n else n2))) fun H3 =>
          K (.int .i64 0) H3)))
theorem logboomref1_Disk_Cut_eq (d0 : Nat) (d0o : Nat) (name : ByteArray) (n : Int) (H : Heap) (K : Value → Heap → Prop) : logboomref1_Disk_Cut_vc d0 d0o name n H K = denFn Tryz.prog logboomref1_Disk_Cut_ann Tryz.f54 (bodyOf Tryz.f54) [.pointer (some ⟨d0, d0o, none⟩), .string name, .int .i64 n] H K := by kernel_rfl
theorem logboomref1_Disk_Cut_fn (d0 : Nat) (d0o : Nat) (name : ByteArray) (n : Int) {H : Heap} {K : Value → Heap → Prop} (h : logboomref1_Disk_Cut_vc d0 d0o name n H K) : FnH Tryz.prog 54 #[.pointer (some ⟨d0, d0o, none⟩), .string name, .int .i64 n] H K :=
  denFn_fn Tryz.mixed logboomref1_Disk_Cut_ann Tryz.func54 (bodyOf_spec (by kernel_rfl)) (logboomref1_Disk_Cut_eq d0 d0o name n H K) h

/-! function 57: (*logboom/logboomref1.Disk).at -/
def logboomref1_Disk_at_ann : Anns := { hid := [], loops := [(0, { slots := [(5, .int .i64)], kept := [0, 1], locs := [], keptL := [] })], joins := [], mix := [] }
def logboomref1_Disk_at_vc (d0 : Nat) (d0o : Nat) (name : ByteArray) (H : Heap) (K : Value → Heap → Prop) : Prop :=
  ∃ I1 : Int → Heap → Prop,
  ∃ M1 : Int → Heap → Nat,
  I1 0 H ∧
  ∀ i_1 : Int,
  ∀ H1 : Heap,
  I1 i_1 H1 →
  ∃ l1 : Sl,
  cellH H1 ⟨d0, d0o + 1, none⟩ = some (.slice l1.p l1.n l1.c) ∧
  br (decide ((i_1 : Int) < (l1.n : Nat))) (
    ∃ l2 : Sl,
    cellH H1 ⟨d0, d0o + 1, none⟩ = some (.slice l2.p l2.n l2.c) ∧
    ∃ q1 : Nat,
    ∃ o1 : Nat,
    (l2.p : Option Addr) = some ⟨q1, o1, none⟩ ∧
    0 ≤ (i_1 : Int) ∧
    (i_1 : Int) < (l2.n : Nat) ∧
    ∃ s1 : ByteArray,
    cellH H1 ⟨q1, o1 + Int.toNat i_1 * 3, none⟩ = some (.string s1) ∧
    br (s1.toList == name.toList) (
      K (.int .i64 i_1) H1)
     (
      SelfEq ([.v (.pointer (some ⟨d0, d0o, none⟩)), .v (.string name)], [], []) ∧
      I1 (IntKind.wrap .i64 (i_1 + 1)) H1 ∧
      M1 (IntKind.wrap .i64 (i_1 + 1)) H1 < M1 i_1 H1))
   (
    K (.int .i64 (-1)) H1)
theorem logboomref1_Disk_at_eq (d0 : Nat) (d0o : Nat) (name : ByteArray) (H : Heap) (K : Value → Heap → Prop) : logboomref1_Disk_at_vc d0 d0o name H K = denFn Tryz.prog logboomref1_Disk_at_ann Tryz.f57 (bodyOf Tryz.f57) [.pointer (some ⟨d0, d0o, none⟩), .string name] H K := by kernel_rfl
theorem logboomref1_Disk_at_fn (d0 : Nat) (d0o : Nat) (name : ByteArray) {H : Heap} {K : Value → Heap → Prop} (h : logboomref1_Disk_at_vc d0 d0o name H K) : FnH Tryz.prog 57 #[.pointer (some ⟨d0, d0o, none⟩), .string name] H K :=
  denFn_fn Tryz.mixed logboomref1_Disk_at_ann Tryz.func57 (bodyOf_spec (by kernel_rfl)) (logboomref1_Disk_at_eq d0 d0o name H K) h

/-! function 62: (*logboom/disk.Disk).room -/
def disk_Disk_room_ann : Anns := { hid := [5], loops := [], joins := [], mix := [] }
def disk_Disk_room_vc (d0 : Nat) (d0o : Nat) (name : ByteArray) (H : Heap) (K : Value → Heap → Prop) : Prop :=
  FnH Tryz.prog 82 #[.string name] H fun r1 H1 =>
    ∃ b1 : Bool,
    r1 = .bool b1 ∧
    br (!b1) (
      K (.int .i64 1) H1)
     (
      ∃ m1 : Option Nat,
      cellH H1 ⟨d0, d0o + 2, none⟩ = some (.map m1) ∧
      runH Tryz.prog (Instr.lookup 56 (.map m1) (.string name) true) H1 fun r2 H2 =>
        ∃ s1 : ByteArray,
        ∃ n1 : Int,
        ∃ b2 : Bool,
        r2 = .tuple #[.agg #[.string s1, .int .i64 n1], .bool b2] ∧
        br (!b2) (
          ∃ m2 : Option Nat,
          cellH H2 ⟨d0, d0o + 2, none⟩ = some (.map m2) ∧
          lenM H2 m2 fun n2 =>
          br (decide (((n2 : Nat) : Int) ≥ 256)) (
            K (.int .i64 3) H2)
           (
            K (.int .i64 0) H2))
         (
          K (.int .i64 0) H2))
theorem disk_Disk_room_eq (d0 : Nat) (d0o : Nat) (name : ByteArray) (H : Heap) (K : Value → Heap → Prop) : disk_Disk_room_vc d0 d0o name H K = denFn Tryz.prog disk_Disk_room_ann Tryz.f62 (bodyOf Tryz.f62) [.pointer (some ⟨d0, d0o, none⟩), .string name] H K := by kernel_rfl
theorem disk_Disk_room_fn (d0 : Nat) (d0o : Nat) (name : ByteArray) {H : Heap} {K : Value → Heap → Prop} (h : disk_Disk_room_vc d0 d0o name H K) : FnH Tryz.prog 62 #[.pointer (some ⟨d0, d0o, none⟩), .string name] H K :=
  denFn_fn Tryz.mixed disk_Disk_room_ann Tryz.func62 (bodyOf_spec (by kernel_rfl)) (disk_Disk_room_eq d0 d0o name H K) h

/-! function 63: (*logboom/disk.Disk).Free -/
def disk_Disk_Free_ann : Anns := { hid := [], loops := [], joins := [], mix := [] }
def disk_Disk_Free_vc (d0 : Nat) (d0o : Nat) (H : Heap) (K : Value → Heap → Prop) : Prop :=
  ∃ n1 : Int,
  cellH H ⟨d0, d0o, none⟩ = some (.int .i64 n1) ∧
  ∃ n2 : Int,
  cellH H ⟨d0, d0o + 1, none⟩ = some (.int .i64 n2) ∧
  K (.int .i64 (IntKind.wrap .i64 (n1 - n2))) H
theorem disk_Disk_Free_eq (d0 : Nat) (d0o : Nat) (H : Heap) (K : Value → Heap → Prop) : disk_Disk_Free_vc d0 d0o H K = denFn Tryz.prog disk_Disk_Free_ann Tryz.f63 (bodyOf Tryz.f63) [.pointer (some ⟨d0, d0o, none⟩)] H K := by kernel_rfl
theorem disk_Disk_Free_fn (d0 : Nat) (d0o : Nat) {H : Heap} {K : Value → Heap → Prop} (h : disk_Disk_Free_vc d0 d0o H K) : FnH Tryz.prog 63 #[.pointer (some ⟨d0, d0o, none⟩)] H K :=
  denFn_fn Tryz.mixed disk_Disk_Free_ann Tryz.func63 (bodyOf_spec (by kernel_rfl)) (disk_Disk_Free_eq d0 d0o H K) h

/-! function 65: logboom/wire.Crc -/
def wire_Crc_ann : Anns := { hid := [], loops := [(0, { slots := [(3, .int .u32), (7, .int .i64)], kept := [0, 6], locs := [], keptL := [] }), (2, { slots := [(3, .int .u32), (16, .int .i64)], kept := [0, 6, 7], locs := [], keptL := [] })], joins := [], mix := [] }
def wire_Crc_vc (b : ByteArray) (H : Heap) (K : Value → Heap → Prop) : Prop :=
  ∃ I1 : Int → Int → Heap → Prop,
  ∃ M1 : Int → Int → Heap → Nat,
  I1 4294967295 0 H ∧
  ∀ c_1 : Int,
  ∀ n_1 : Int,
  ∀ H1 : Heap,
  I1 c_1 n_1 H1 →
  br (decide ((n_1 : Int) < (b.size : Nat))) (
    0 ≤ (n_1 : Int) ∧
    ∃ c1 : UInt8,
    b[Int.toNat n_1]? = some c1 ∧
    ∃ I2 : Int → Int → Heap → Prop,
    ∃ M2 : Int → Int → Heap → Nat,
    I2 (xorI .u32 c_1 (IntKind.wrap .u32 (c1.toNat : Int))) 0 H1 ∧
    ∀ c_2 : Int,
    ∀ n_2 : Int,
    ∀ H2 : Heap,
    I2 c_2 n_2 H2 →
    br (decide ((n_2 : Int) < 8)) (
      SelfEq ([.v (.string b), .v (.int .i64 (b.size : Nat)), .v (.int .i64 n_1)], [], []) ∧
      I2 (xorI .u32 (shrI .u32 c_2 1) (andI .u32 2197175160 (IntKind.wrap .u32 (0 - (andI .u32 c_2 1))))) (IntKind.wrap .i64 (n_2 + 1)) H2 ∧
      M2 (xorI .u32 (shrI .u32 c_2 1) (andI .u32 2197175160 (IntKind.wrap .u32 (0 - (andI .u32 c_2 1))))) (IntKind.wrap .i64 (n_2 + 1)) H2 < M2 c_2 n_2 H2)
     (
      SelfEq ([.v (.string b), .v (.int .i64 (b.size : Nat))], [], []) ∧
      I1 c_2 (IntKind.wrap .i64 (n_1 + 1)) H2 ∧
      M1 c_2 (IntKind.wrap .i64 (n_1 + 1)) H2 < M1 c_1 n_1 H1))
   (
    K (.int .i64 (IntKind.wrap .i64 (xorI .u32 4294967295 c_1))) H1)
theorem wire_Crc_eq (b : ByteArray) (H : Heap) (K : Value → Heap → Prop) : wire_Crc_vc b H K = denFn Tryz.prog wire_Crc_ann Tryz.f65 (bodyOf Tryz.f65) [.string b] H K := by kernel_rfl
theorem wire_Crc_fn (b : ByteArray) {H : Heap} {K : Value → Heap → Prop} (h : wire_Crc_vc b H K) : FnH Tryz.prog 65 #[.string b] H K :=
  denFn_fn Tryz.mixed wire_Crc_ann Tryz.func65 (bodyOf_spec (by kernel_rfl)) (wire_Crc_eq b H K) h

/-! function 73: (*logboom/logboomref1.Disk).made -/
def logboomref1_Disk_made_ann : Anns := { hid := [], loops := [], joins := [], mix := [] }
def logboomref1_Disk_made_vc (d0 : Nat) (d0o : Nat) (name : ByteArray) (H : Heap) (K : Value → Heap → Prop) : Prop :=
  FnH Tryz.prog 90 #[.string name] H fun r1 H1 =>
    ∃ b1 : Bool,
    r1 = .bool b1 ∧
    br (!b1) (
      K (.int .i64 1) H1)
     (
      FnH Tryz.prog 57 #[.pointer (some ⟨d0, d0o, none⟩), .string name] H1 fun r2 H2 =>
        ∃ n1 : Int,
        r2 = .int .i64 n1 ∧
        br (decide ((n1 : Int) < 0)) (
          ∃ l1 : Sl,
          cellH H2 ⟨d0, d0o + 1, none⟩ = some (.slice l1.p l1.n l1.c) ∧
          br (decide (((l1.n : Nat) : Int) ≥ 256)) (
            K (.int .i64 3) H2)
           (
            K (.int .i64 0) H2))
         (
          K (.int .i64 0) H2))
theorem logboomref1_Disk_made_eq (d0 : Nat) (d0o : Nat) (name : ByteArray) (H : Heap) (K : Value → Heap → Prop) : logboomref1_Disk_made_vc d0 d0o name H K = denFn Tryz.prog logboomref1_Disk_made_ann Tryz.f73 (bodyOf Tryz.f73) [.pointer (some ⟨d0, d0o, none⟩), .string name] H K := by kernel_rfl
theorem logboomref1_Disk_made_fn (d0 : Nat) (d0o : Nat) (name : ByteArray) {H : Heap} {K : Value → Heap → Prop} (h : logboomref1_Disk_made_vc d0 d0o name H K) : FnH Tryz.prog 73 #[.pointer (some ⟨d0, d0o, none⟩), .string name] H K :=
  denFn_fn Tryz.mixed logboomref1_Disk_made_ann Tryz.func73 (bodyOf_spec (by kernel_rfl)) (logboomref1_Disk_made_eq d0 d0o name H K) h

/-! function 74: (*logboom/logboomref1.Disk).put -/
def logboomref1_Disk_put_ann : Anns := { hid := [3], loops := [(0, { slots := [(4, .int .i64)], kept := [0, 3], locs := [], keptL := [0] })], joins := [], mix := [] }
def logboomref1_Disk_put_vc (d0 : Nat) (d0o : Nat) (f_0 : ByteArray) (f_1 : ByteArray) (f_2 : Int) (H : Heap) (K : Value → Heap → Prop) : Prop :=
  ∃ I1 : Int → Heap → Prop,
  ∃ M1 : Int → Heap → Nat,
  I1 0 H ∧
  ∀ i_1 : Int,
  ∀ H1 : Heap,
  I1 i_1 H1 →
  ∃ l1 : Sl,
  cellH H1 ⟨d0, d0o + 1, none⟩ = some (.slice l1.p l1.n l1.c) ∧
  br (decide ((i_1 : Int) < (l1.n : Nat))) (
    ∃ l2 : Sl,
    cellH H1 ⟨d0, d0o + 1, none⟩ = some (.slice l2.p l2.n l2.c) ∧
    ∃ q1 : Nat,
    ∃ o1 : Nat,
    (l2.p : Option Addr) = some ⟨q1, o1, none⟩ ∧
    0 ≤ (i_1 : Int) ∧
    (i_1 : Int) < (l2.n : Nat) ∧
    ∃ s1 : ByteArray,
    cellH H1 ⟨q1, o1 + Int.toNat i_1 * 3, none⟩ = some (.string s1) ∧
    br (Op.bytesLess s1.toList f_0.toList) (
      SelfEq ([.v (.pointer (some ⟨d0, d0o, none⟩)), .loc 0 0], [some (101, [.string f_0, .string f_1, .int .i64 f_2])], []) ∧
      I1 (IntKind.wrap .i64 (i_1 + 1)) H1 ∧
      M1 (IntKind.wrap .i64 (i_1 + 1)) H1 < M1 i_1 H1)
     (
      ∀ q2 : Nat,
      H1 q2 = none →
      letH (Heap.upd H1 q2 (.cells #[] 101 (0, 0))) fun H2 =>
      ∃ l3 : Sl,
      cellH H2 ⟨d0, d0o + 1, none⟩ = some (.slice l3.p l3.n l3.c) ∧
      0 ≤ (i_1 : Int) ∧
      (i_1 : Int) ≤ (l3.c : Nat) ∧
      runH Tryz.prog (Builtin.append_ #[59, 59] 59 #[.slice (some ⟨q2, 0, none⟩) 0 0, .slice (slP l3.p l3.c (0 : Int) 3) (Int.toNat (i_1 - (0 : Int))) (Int.toNat ((l3.c : Nat) - (0 : Int)))]) H2 fun r1 H3 =>
        ∃ l4 : Sl,
        r1 = .slice l4.p l4.n l4.c ∧
        ∀ q3 : Nat,
        H3 q3 = none →
        letH (Heap.upd H3 q3 (.cells #[.string f_0, .string f_1, .int .i64 f_2] 101 (0, 0))) fun H4 =>
        runH Tryz.prog (Builtin.append_ #[59, 59] 59 #[.slice l4.p l4.n l4.c, .slice (some ⟨q3, 0, none⟩) 1 1]) H4 fun r2 H5 =>
          ∃ l5 : Sl,
          r2 = .slice l5.p l5.n l5.c ∧
          ∃ l6 : Sl,
          cellH H5 ⟨d0, d0o + 1, none⟩ = some (.slice l6.p l6.n l6.c) ∧
          0 ≤ (i_1 : Int) ∧
          (i_1 : Int) ≤ (l6.n : Nat) ∧
          runH Tryz.prog (Builtin.append_ #[59, 59] 59 #[.slice l5.p l5.n l5.c, .slice (slP l6.p l6.c i_1 3) (Int.toNat ((l6.n : Nat) - i_1)) (Int.toNat ((l6.c : Nat) - i_1))]) H5 fun r3 H6 =>
            ∃ l7 : Sl,
            r3 = .slice l7.p l7.n l7.c ∧
            (∃ u, cellH H6 ⟨d0, d0o + 1, none⟩ = some u) ∧
            frozenH H6 ⟨d0, d0o + 1, none⟩ = false ∧
            letH (Heap.set H6 ⟨d0, d0o + 1, none⟩ (.slice l7.p l7.n l7.c)) fun H7 =>
            K (.tuple #[]) H7))
   (
    ∀ q4 : Nat,
    H1 q4 = none →
    letH (Heap.upd H1 q4 (.cells #[] 101 (0, 0))) fun H8 =>
    ∃ l8 : Sl,
    cellH H8 ⟨d0, d0o + 1, none⟩ = some (.slice l8.p l8.n l8.c) ∧
    0 ≤ (i_1 : Int) ∧
    (i_1 : Int) ≤ (l8.c : Nat) ∧
    runH Tryz.prog (Builtin.append_ #[59, 59] 59 #[.slice (some ⟨q4, 0, none⟩) 0 0, .slice (slP l8.p l8.c (0 : Int) 3) (Int.toNat (i_1 - (0 : Int))) (Int.toNat ((l8.c : Nat) - (0 : Int)))]) H8 fun r4 H9 =>
      ∃ l9 : Sl,
      r4 = .slice l9.p l9.n l9.c ∧
      ∀ q5 : Nat,
      H9 q5 = none →
      letH (Heap.upd H9 q5 (.cells #[.string f_0, .string f_1, .int .i64 f_2] 101 (0, 0))) fun H10 =>
      runH Tryz.prog (Builtin.append_ #[59, 59] 59 #[.slice l9.p l9.n l9.c, .slice (some ⟨q5, 0, none⟩) 1 1]) H10 fun r5 H11 =>
        ∃ l10 : Sl,
        r5 = .slice l10.p l10.n l10.c ∧
        ∃ l11 : Sl,
        cellH H11 ⟨d0, d0o + 1, none⟩ = some (.slice l11.p l11.n l11.c) ∧
        0 ≤ (i_1 : Int) ∧
        (i_1 : Int) ≤ (l11.n : Nat) ∧
        runH Tryz.prog (Builtin.append_ #[59, 59] 59 #[.slice l10.p l10.n l10.c, .slice (slP l11.p l11.c i_1 3) (Int.toNat ((l11.n : Nat) - i_1)) (Int.toNat ((l11.c : Nat) - i_1))]) H11 fun r6 H12 =>
          ∃ l12 : Sl,
          r6 = .slice l12.p l12.n l12.c ∧
          (∃ u, cellH H12 ⟨d0, d0o + 1, none⟩ = some u) ∧
          frozenH H12 ⟨d0, d0o + 1, none⟩ = false ∧
          letH (Heap.set H12 ⟨d0, d0o + 1, none⟩ (.slice l12.p l12.n l12.c)) fun H13 =>
          K (.tuple #[]) H13)
theorem logboomref1_Disk_put_eq (d0 : Nat) (d0o : Nat) (f_0 : ByteArray) (f_1 : ByteArray) (f_2 : Int) (H : Heap) (K : Value → Heap → Prop) : logboomref1_Disk_put_vc d0 d0o f_0 f_1 f_2 H K = denFn Tryz.prog logboomref1_Disk_put_ann Tryz.f74 (bodyOf Tryz.f74) [.pointer (some ⟨d0, d0o, none⟩), .agg #[.string f_0, .string f_1, .int .i64 f_2]] H K := by kernel_rfl
theorem logboomref1_Disk_put_fn (d0 : Nat) (d0o : Nat) (f_0 : ByteArray) (f_1 : ByteArray) (f_2 : Int) {H : Heap} {K : Value → Heap → Prop} (h : logboomref1_Disk_put_vc d0 d0o f_0 f_1 f_2 H K) : FnH Tryz.prog 74 #[.pointer (some ⟨d0, d0o, none⟩), .agg #[.string f_0, .string f_1, .int .i64 f_2]] H K :=
  denFn_fn Tryz.mixed logboomref1_Disk_put_ann Tryz.func74 (bodyOf_spec (by kernel_rfl)) (logboomref1_Disk_put_eq d0 d0o f_0 f_1 f_2 H K) h

/-! function 75: (*logboom/logboomref1.Disk).Free -/
def logboomref1_Disk_Free_ann : Anns := { hid := [], loops := [(0, { slots := [(3, .int .i64), (4, .int .i64)], kept := [0], locs := [], keptL := [] })], joins := [], mix := [] }
def logboomref1_Disk_Free_vc (d0 : Nat) (d0o : Nat) (H : Heap) (K : Value → Heap → Prop) : Prop :=
  ∃ n1 : Int,
  cellH H ⟨d0, d0o, none⟩ = some (.int .i64 n1) ∧
  ∃ I1 : Int → Int → Heap → Prop,
  ∃ M1 : Int → Int → Heap → Nat,
  I1 n1 0 H ∧
  ∀ n_1 : Int,
  ∀ i_1 : Int,
  ∀ H1 : Heap,
  I1 n_1 i_1 H1 →
  ∃ l1 : Sl,
  cellH H1 ⟨d0, d0o + 1, none⟩ = some (.slice l1.p l1.n l1.c) ∧
  br (decide ((i_1 : Int) < (l1.n : Nat))) (
    ∃ l2 : Sl,
    cellH H1 ⟨d0, d0o + 1, none⟩ = some (.slice l2.p l2.n l2.c) ∧
    ∃ q1 : Nat,
    ∃ o1 : Nat,
    (l2.p : Option Addr) = some ⟨q1, o1, none⟩ ∧
    0 ≤ (i_1 : Int) ∧
    (i_1 : Int) < (l2.n : Nat) ∧
    ∃ s1 : ByteArray,
    cellH H1 ⟨q1, o1 + Int.toNat i_1 * 3 + 1, none⟩ = some (.string s1) ∧
    SelfEq ([.v (.pointer (some ⟨d0, d0o, none⟩))], [], []) ∧
    I1 (IntKind.wrap .i64 (n_1 - (s1.size : Nat))) (IntKind.wrap .i64 (i_1 + 1)) H1 ∧
    M1 (IntKind.wrap .i64 (n_1 - (s1.size : Nat))) (IntKind.wrap .i64 (i_1 + 1)) H1 < M1 n_1 i_1 H1)
   (
    K (.int .i64 n_1) H1)
theorem logboomref1_Disk_Free_eq (d0 : Nat) (d0o : Nat) (H : Heap) (K : Value → Heap → Prop) : logboomref1_Disk_Free_vc d0 d0o H K = denFn Tryz.prog logboomref1_Disk_Free_ann Tryz.f75 (bodyOf Tryz.f75) [.pointer (some ⟨d0, d0o, none⟩)] H K := by kernel_rfl
theorem logboomref1_Disk_Free_fn (d0 : Nat) (d0o : Nat) {H : Heap} {K : Value → Heap → Prop} (h : logboomref1_Disk_Free_vc d0 d0o H K) : FnH Tryz.prog 75 #[.pointer (some ⟨d0, d0o, none⟩)] H K :=
  denFn_fn Tryz.mixed logboomref1_Disk_Free_ann Tryz.func75 (bodyOf_spec (by kernel_rfl)) (logboomref1_Disk_Free_eq d0 d0o H K) h

/-! function 79: logboom/logboomref3.Four -/
def logboomref3_Four_ann : Anns := { hid := [], loops := [], joins := [], mix := [] }
def logboomref3_Four_vc (n : Int) (H : Heap) (K : Value → Heap → Prop) : Prop :=
  (16777216 : Int) ≠ 0 ∧
  (65536 : Int) ≠ 0 ∧
  (256 : Int) ≠ 0 ∧
  (256 : Int) ≠ 0 ∧
  (256 : Int) ≠ 0 ∧
  (256 : Int) ≠ 0 ∧
  ∀ q1 : Nat,
  H q1 = none →
  letH (Heap.upd H q1 (.cells #[.int .u8 (IntKind.wrap .u8 (IntKind.wrap .i64 (Int.tdiv n 16777216))), .int .u8 (IntKind.wrap .u8 (Int.tmod (IntKind.wrap .i64 (Int.tdiv n 65536)) 256)), .int .u8 (IntKind.wrap .u8 (Int.tmod (IntKind.wrap .i64 (Int.tdiv n 256)) 256)), .int .u8 (IntKind.wrap .u8 (Int.tmod n 256))] 5 (0, 0))) fun H1 =>
  runH Tryz.prog (convert 112 9 (.slice (some ⟨q1, 0, none⟩) 4 4)) H1 fun r1 H2 =>
    ∃ s1 : ByteArray,
    r1 = .string s1 ∧
    K (.string s1) H2
theorem logboomref3_Four_eq (n : Int) (H : Heap) (K : Value → Heap → Prop) : logboomref3_Four_vc n H K = denFn Tryz.prog logboomref3_Four_ann Tryz.f79 (bodyOf Tryz.f79) [.int .i64 n] H K := by kernel_rfl
theorem logboomref3_Four_fn (n : Int) {H : Heap} {K : Value → Heap → Prop} (h : logboomref3_Four_vc n H K) : FnH Tryz.prog 79 #[.int .i64 n] H K :=
  denFn_fn Tryz.mixed logboomref3_Four_ann Tryz.func79 (bodyOf_spec (by kernel_rfl)) (logboomref3_Four_eq n H K) h

/-! function 80: logboom/logboomref3.Crc -/
def logboomref3_Crc_ann : Anns := { hid := [], loops := [(0, { slots := [(3, .int .u32), (4, .int .i64)], kept := [0], locs := [], keptL := [] }), (2, { slots := [(3, .int .u32), (5, .int .i64)], kept := [0, 4], locs := [], keptL := [] })], joins := [], mix := [] }
def logboomref3_Crc_vc (b : ByteArray) (H : Heap) (K : Value → Heap → Prop) : Prop :=
  ∃ I1 : Int → Int → Heap → Prop,
  ∃ M1 : Int → Int → Heap → Nat,
  I1 4294967295 0 H ∧
  ∀ c_1 : Int,
  ∀ i_1 : Int,
  ∀ H1 : Heap,
  I1 c_1 i_1 H1 →
  br (decide ((i_1 : Int) < (b.size : Nat))) (
    0 ≤ (i_1 : Int) ∧
    ∃ c1 : UInt8,
    b[Int.toNat i_1]? = some c1 ∧
    ∃ I2 : Int → Int → Heap → Prop,
    ∃ M2 : Int → Int → Heap → Nat,
    I2 (xorI .u32 c_1 (IntKind.wrap .u32 (c1.toNat : Int))) 0 H1 ∧
    ∀ c_2 : Int,
    ∀ k_1 : Int,
    ∀ H2 : Heap,
    I2 c_2 k_1 H2 →
    br (decide ((k_1 : Int) < 8)) (
      (2 : Int) ≠ 0 ∧
      (2 : Int) ≠ 0 ∧
      br (((Int.tmod c_2 2) : Int) == 1) (
        SelfEq ([.v (.string b), .v (.int .i64 i_1)], [], []) ∧
        I2 (xorI .u32 (IntKind.wrap .u32 (Int.tdiv c_2 2)) 2197175160) (IntKind.wrap .i64 (k_1 + 1)) H2 ∧
        M2 (xorI .u32 (IntKind.wrap .u32 (Int.tdiv c_2 2)) 2197175160) (IntKind.wrap .i64 (k_1 + 1)) H2 < M2 c_2 k_1 H2)
       (
        SelfEq ([.v (.string b), .v (.int .i64 i_1)], [], []) ∧
        I2 (IntKind.wrap .u32 (Int.tdiv c_2 2)) (IntKind.wrap .i64 (k_1 + 1)) H2 ∧
        M2 (IntKind.wrap .u32 (Int.tdiv c_2 2)) (IntKind.wrap .i64 (k_1 + 1)) H2 < M2 c_2 k_1 H2))
     (
      SelfEq ([.v (.string b)], [], []) ∧
      I1 c_2 (IntKind.wrap .i64 (i_1 + 1)) H2 ∧
      M1 c_2 (IntKind.wrap .i64 (i_1 + 1)) H2 < M1 c_1 i_1 H1))
   (
    K (.int .i64 (IntKind.wrap .i64 (xorI .u32 c_1 4294967295))) H1)
theorem logboomref3_Crc_eq (b : ByteArray) (H : Heap) (K : Value → Heap → Prop) : logboomref3_Crc_vc b H K = denFn Tryz.prog logboomref3_Crc_ann Tryz.f80 (bodyOf Tryz.f80) [.string b] H K := by kernel_rfl
theorem logboomref3_Crc_fn (b : ByteArray) {H : Heap} {K : Value → Heap → Prop} (h : logboomref3_Crc_vc b H K) : FnH Tryz.prog 80 #[.string b] H K :=
  denFn_fn Tryz.mixed logboomref3_Crc_ann Tryz.func80 (bodyOf_spec (by kernel_rfl)) (logboomref3_Crc_eq b H K) h

/-! function 82: logboom/disk.named -/
def disk_named_ann : Anns := { hid := [], loops := [], joins := [], mix := [] }
def disk_named_vc (s : ByteArray) (H : Heap) (K : Value → Heap → Prop) : Prop :=
  br (!(s.toList == (⟨#[]⟩ : ByteArray).toList)) (
    br (decide (((s.size : Nat) : Int) ≤ 64)) (
      FnH Tryz.prog 95 #[.string s, .string (⟨#[97, 98, 99, 100, 101, 102, 103, 104, 105, 106, 107, 108, 109, 110, 111, 112, 113, 114, 115, 116, 117, 118, 119, 120, 121, 122, 48, 49, 50, 51, 52, 53, 54, 55, 56, 57, 45, 46]⟩ : ByteArray)] H fun r1 H1 =>
        ∃ s1 : ByteArray,
        r1 = .string s1 ∧
        K (.bool (s1.toList == (⟨#[]⟩ : ByteArray).toList)) H1)
     (
      K (.bool false) H))
   (
    K (.bool false) H)
theorem disk_named_eq (s : ByteArray) (H : Heap) (K : Value → Heap → Prop) : disk_named_vc s H K = denFn Tryz.prog disk_named_ann Tryz.f82 (bodyOf Tryz.f82) [.string s] H K := by kernel_rfl
theorem disk_named_fn (s : ByteArray) {H : Heap} {K : Value → Heap → Prop} (h : disk_named_vc s H K) : FnH Tryz.prog 82 #[.string s] H K :=
  denFn_fn Tryz.mixed disk_named_ann Tryz.func82 (bodyOf_spec (by kernel_rfl)) (disk_named_eq s H K) h

/-! function 83: logboom/wire.ReadInt -/
def wire_ReadInt_ann : Anns := { hid := [], loops := [(0, { slots := [(5, .int .u64), (7, .int .i64)], kept := [0], locs := [], keptL := [] })], joins := [((0, 12), { slots := [(49, .bool)], kept := [5, 6], locs := [], keptL := [] })], mix := [] }
def wire_ReadInt_vc (b : ByteArray) (H : Heap) (K : Value → Heap → Prop) : Prop :=
  ∃ I1 : Int → Int → Heap → Prop,
  ∃ M1 : Int → Int → Heap → Nat,
  I1 0 0 H ∧
  ∀ z_1 : Int,
  ∀ n_1 : Int,
  ∀ H1 : Heap,
  I1 z_1 n_1 H1 →
  br (decide ((n_1 : Int) < 10)) (
    br ((n_1 : Int) == (b.size : Nat)) (
      K (.tuple #[.int .i64 0, .int .i64 0, .int .i64 5]) H1)
     (
      br ((n_1 : Int) == 9) (
        0 ≤ (n_1 : Int) ∧
        ∃ c1 : UInt8,
        b[Int.toNat n_1]? = some c1 ∧
        br (decide (((c1.toNat : Int) : Int) > 1)) (
          K (.tuple #[.int .i64 0, .int .i64 0, .int .i64 4]) H1)
         (
          0 ≤ (n_1 : Int) ∧
          ∃ c2 : UInt8,
          b[Int.toNat n_1]? = some c2 ∧
          shG (decide (((IntKind.wrap .i64 (7 * n_1)) : Int) < 0)) (
            0 ≤ (n_1 : Int) ∧
            ∃ c3 : UInt8,
            b[Int.toNat n_1]? = some c3 ∧
            br (decide (((c3.toNat : Int) : Int) > 127)) (
              SelfEq ([.v (.string b)], [], []) ∧
              I1 (orI .u64 z_1 (shlI .u64 (IntKind.wrap .u64 (andI .u8 (c2.toNat : Int) 127)) (IntKind.wrap .i64 (7 * n_1)))) (IntKind.wrap .i64 (n_1 + 1)) H1 ∧
              M1 (orI .u64 z_1 (shlI .u64 (IntKind.wrap .u64 (andI .u8 (c2.toNat : Int) 127)) (IntKind.wrap .i64 (7 * n_1)))) (IntKind.wrap .i64 (n_1 + 1)) H1 < M1 z_1 n_1 H1)
             (
              ∃ J1 : Bool → Heap → Prop,
              (br (decide ((n_1 : Int) > 0)) (
                0 ≤ (n_1 : Int) ∧
                ∃ c4 : UInt8,
                b[Int.toNat n_1]? = some c4 ∧
                SelfEq ([.v (.int .u64 (orI .u64 z_1 (shlI .u64 (IntKind.wrap .u64 (andI .u8 (c2.toNat : Int) 127)) (IntKind.wrap .i64 (7 * n_1))))), .v (.int .i64 n_1)], [], []) ∧
                J1 (((c4.toNat : Int) : Int) == 0) H1)
               (
                SelfEq ([.v (.int .u64 (orI .u64 z_1 (shlI .u64 (IntKind.wrap .u64 (andI .u8 (c2.toNat : Int) 127)) (IntKind.wrap .i64 (7 * n_1))))), .v (.int .i64 n_1)], [], []) ∧
                J1 false H1)) ∧
              ∀ b_1 : Bool,
              ∀ H2 : Heap,
              J1 b_1 H2 →
              br (b_1) (
                K (.tuple #[.int .i64 0, .int .i64 0, .int .i64 4]) H2)
               (
                K (.tuple #[.int .i64 (xorI .i64 (IntKind.wrap .i64 (shrI .u64 (orI .u64 z_1 (shlI .u64 (IntKind.wrap .u64 (andI .u8 (c2.toNat : Int) 127)) (IntKind.wrap .i64 (7 * n_1)))) 1)) (IntKind.wrap .i64 (0 - (IntKind.wrap .i64 (andI .u64 (orI .u64 z_1 (shlI .u64 (IntKind.wrap .u64 (andI .u8 (c2.toNat : Int) 127)) (IntKind.wrap .i64 (7 * n_1)))) 1))))), .int .i64 (IntKind.wrap .i64 (n_1 + 1)), .int .i64 0]) H2)))))
       (
        0 ≤ (n_1 : Int) ∧
        ∃ c5 : UInt8,
        b[Int.toNat n_1]? = some c5 ∧
        shG (decide (((IntKind.wrap .i64 (7 * n_1)) : Int) < 0)) (
          0 ≤ (n_1 : Int) ∧
          ∃ c6 : UInt8,
          b[Int.toNat n_1]? = some c6 ∧
          br (decide (((c6.toNat : Int) : Int) > 127)) (
            SelfEq ([.v (.string b)], [], []) ∧
            I1 (orI .u64 z_1 (shlI .u64 (IntKind.wrap .u64 (andI .u8 (c5.toNat : Int) 127)) (IntKind.wrap .i64 (7 * n_1)))) (IntKind.wrap .i64 (n_1 + 1)) H1 ∧
            M1 (orI .u64 z_1 (shlI .u64 (IntKind.wrap .u64 (andI .u8 (c5.toNat : Int) 127)) (IntKind.wrap .i64 (7 * n_1)))) (IntKind.wrap .i64 (n_1 + 1)) H1 < M1 z_1 n_1 H1)
           (
            ∃ J2 : Bool → Heap → Prop,
            (br (decide ((n_1 : Int) > 0)) (
              0 ≤ (n_1 : Int) ∧
              ∃ c7 : UInt8,
              b[Int.toNat n_1]? = some c7 ∧
              SelfEq ([.v (.int .u64 (orI .u64 z_1 (shlI .u64 (IntKind.wrap .u64 (andI .u8 (c5.toNat : Int) 127)) (IntKind.wrap .i64 (7 * n_1))))), .v (.int .i64 n_1)], [], []) ∧
              J2 (((c7.toNat : Int) : Int) == 0) H1)
             (
              SelfEq ([.v (.int .u64 (orI .u64 z_1 (shlI .u64 (IntKind.wrap .u64 (andI .u8 (c5.toNat : Int) 127)) (IntKind.wrap .i64 (7 * n_1))))), .v (.int .i64 n_1)], [], []) ∧
              J2 false H1)) ∧
            ∀ b_2 : Bool,
            ∀ H3 : Heap,
            J2 b_2 H3 →
            br (b_2) (
              K (.tuple #[.int .i64 0, .int .i64 0, .int .i64 4]) H3)
             (
              K (.tuple #[.int .i64 (xorI .i64 (IntKind.wrap .i64 (shrI .u64 (orI .u64 z_1 (shlI .u64 (IntKind.wrap .u64 (andI .u8 (c5.toNat : Int) 127)) (IntKind.wrap .i64 (7 * n_1)))) 1)) (IntKind.wrap .i64 (0 - (IntKind.wrap .i64 (andI .u64 (orI .u64 z_1 (shlI .u64 (IntKind.wrap .u64 (andI .u8 (c5.toNat : Int) 127)) (IntKind.wrap .i64 (7 * n_1)))) 1))))), .int .i64 (IntKind.wrap .i64 (n_1 + 1)), .int .i64 0]) H3))))))
   (
    K (.tuple #[.int .i64 0, .int .i64 0, .int .i64 4]) H1)
theorem wire_ReadInt_eq (b : ByteArray) (H : Heap) (K : Value → Heap → Prop) : wire_ReadInt_vc b H K = denFn Tryz.prog wire_ReadInt_ann Tryz.f83 (bodyOf Tryz.f83) [.string b] H K := by kernel_rfl
theorem wire_ReadInt_fn (b : ByteArray) {H : Heap} {K : Value → Heap → Prop} (h : wire_ReadInt_vc b H K) : FnH Tryz.prog 83 #[.string b] H K :=
  denFn_fn Tryz.mixed wire_ReadInt_ann Tryz.func83 (bodyOf_spec (by kernel_rfl)) (wire_ReadInt_eq b H K) h

/-! function 85: logboom/wire.appendInt -/
def wire_appendInt_ann : Anns := { hid := [], loops := [(0, { slots := [(0, .slice), (5, .int .u64)], kept := [], locs := [], keptL := [] })], joins := [], mix := [] }
def wire_appendInt_vc (b : Sl) (n : Int) (H : Heap) (K : Value → Heap → Prop) : Prop :=
  ∃ I1 : Sl → Int → Heap → Prop,
  ∃ M1 : Sl → Int → Heap → Nat,
  I1 b (IntKind.wrap .u64 (xorI .i64 (shlI .i64 n 1) (shrI .i64 n 63))) H ∧
  ∀ b_1 : Sl,
  ∀ z_1 : Int,
  ∀ H1 : Heap,
  I1 b_1 z_1 H1 →
  br (decide ((z_1 : Int) ≥ 128)) (
    ∀ q1 : Nat,
    H1 q1 = none →
    letH (Heap.upd H1 q1 (.cells #[.int .u8 (orI .u8 (IntKind.wrap .u8 z_1) 128)] 5 (0, 0))) fun H2 =>
    runH Tryz.prog (Builtin.append_ #[112, 112] 112 #[.slice b_1.p b_1.n b_1.c, .slice (some ⟨q1, 0, none⟩) 1 1]) H2 fun r1 H3 =>
      ∃ l1 : Sl,
      r1 = .slice l1.p l1.n l1.c ∧
      SelfEq ([], [], []) ∧
      I1 l1 (shrI .u64 z_1 7) H3 ∧
      M1 l1 (shrI .u64 z_1 7) H3 < M1 b_1 z_1 H1)
   (
    ∀ q2 : Nat,
    H1 q2 = none →
    letH (Heap.upd H1 q2 (.cells #[.int .u8 (IntKind.wrap .u8 z_1)] 5 (0, 0))) fun H4 =>
    runH Tryz.prog (Builtin.append_ #[112, 112] 112 #[.slice b_1.p b_1.n b_1.c, .slice (some ⟨q2, 0, none⟩) 1 1]) H4 fun r2 H5 =>
      ∃ l2 : Sl,
      r2 = .slice l2.p l2.n l2.c ∧
      K (.slice l2.p l2.n l2.c) H5)
theorem wire_appendInt_eq (b : Sl) (n : Int) (H : Heap) (K : Value → Heap → Prop) : wire_appendInt_vc b n H K = denFn Tryz.prog wire_appendInt_ann Tryz.f85 (bodyOf Tryz.f85) [.slice b.p b.n b.c, .int .i64 n] H K := by kernel_rfl
theorem wire_appendInt_fn (b : Sl) (n : Int) {H : Heap} {K : Value → Heap → Prop} (h : wire_appendInt_vc b n H K) : FnH Tryz.prog 85 #[.slice b.p b.n b.c, .int .i64 n] H K :=
  denFn_fn Tryz.mixed wire_appendInt_ann Tryz.func85 (bodyOf_spec (by kernel_rfl)) (wire_appendInt_eq b n H K) h

/-! function 86: logboom/wire.appendText -/
def wire_appendText_ann : Anns := { hid := [], loops := [], joins := [], mix := [] }
def wire_appendText_vc (b : Sl) (s : ByteArray) (H : Heap) (K : Value → Heap → Prop) : Prop :=
  FnH Tryz.prog 85 #[.slice b.p b.n b.c, .int .i64 (s.size : Nat)] H fun r1 H1 =>
    ∃ l1 : Sl,
    r1 = .slice l1.p l1.n l1.c ∧
    runH Tryz.prog (Builtin.append_ #[112, 9] 112 #[.slice l1.p l1.n l1.c, .string s]) H1 fun r2 H2 =>
      ∃ l2 : Sl,
      r2 = .slice l2.p l2.n l2.c ∧
      K (.slice l2.p l2.n l2.c) H2
theorem wire_appendText_eq (b : Sl) (s : ByteArray) (H : Heap) (K : Value → Heap → Prop) : wire_appendText_vc b s H K = denFn Tryz.prog wire_appendText_ann Tryz.f86 (bodyOf Tryz.f86) [.slice b.p b.n b.c, .string s] H K := by kernel_rfl
theorem wire_appendText_fn (b : Sl) (s : ByteArray) {H : Heap} {K : Value → Heap → Prop} (h : wire_appendText_vc b s H K) : FnH Tryz.prog 86 #[.slice b.p b.n b.c, .string s] H K :=
  denFn_fn Tryz.mixed wire_appendText_ann Tryz.func86 (bodyOf_spec (by kernel_rfl)) (wire_appendText_eq b s H K) h

/-! function 90: logboom/logboomref1.Name -/
def logboomref1_Name_ann : Anns := { hid := [], loops := [(0, { slots := [(3, .int .i64)], kept := [0], locs := [], keptL := [] })], joins := [], mix := [] }
def logboomref1_Name_vc (s : ByteArray) (H : Heap) (K : Value → Heap → Prop) : Prop :=
  br (decide (((s.size : Nat) : Int) < 1)) (
    K (.bool false) H)
   (
    br (decide (((s.size : Nat) : Int) > 64)) (
      K (.bool false) H)
     (
      ∃ I1 : Int → Heap → Prop,
      ∃ M1 : Int → Heap → Nat,
      I1 0 H ∧
      ∀ i_1 : Int,
      ∀ H1 : Heap,
      I1 i_1 H1 →
      br (decide ((i_1 : Int) < (s.size : Nat))) (
        0 ≤ (i_1 : Int) ∧
        ∃ c1 : UInt8,
        s[Int.toNat i_1]? = some c1 ∧
        br (decide (((c1.toNat : Int) : Int) < 97)) (
          br (decide (((c1.toNat : Int) : Int) < 48)) (
            br (((c1.toNat : Int) : Int) != 45) (
              br (((c1.toNat : Int) : Int) != 46) (
                K (.bool false) H1)
               (
                SelfEq ([.v (.string s)], [], []) ∧
                I1 (IntKind.wrap .i64 (i_1 + 1)) H1 ∧
                M1 (IntKind.wrap .i64 (i_1 + 1)) H1 < M1 i_1 H1))
             (
              SelfEq ([.v (.string s)], [], []) ∧
              I1 (IntKind.wrap .i64 (i_1 + 1)) H1 ∧
              M1 (IntKind.wrap .i64 (i_1 + 1)) H1 < M1 i_1 H1))
           (
            br (decide (((c1.toNat : Int) : Int) > 57)) (
              br (((c1.toNat : Int) : Int) != 45) (
                br (((c1.toNat : Int) : Int) != 46) (
                  K (.bool false) H1)
                 (
                  SelfEq ([.v (.string s)], [], []) ∧
                  I1 (IntKind.wrap .i64 (i_1 + 1)) H1 ∧
                  M1 (IntKind.wrap .i64 (i_1 + 1)) H1 < M1 i_1 H1))
               (
                SelfEq ([.v (.string s)], [], []) ∧
                I1 (IntKind.wrap .i64 (i_1 + 1)) H1 ∧
                M1 (IntKind.wrap .i64 (i_1 + 1)) H1 < M1 i_1 H1))
             (
              SelfEq ([.v (.string s)], [], []) ∧
              I1 (IntKind.wrap .i64 (i_1 + 1)) H1 ∧
              M1 (IntKind.wrap .i64 (i_1 + 1)) H1 < M1 i_1 H1)))
         (
          br (decide (((c1.toNat : Int) : Int) > 122)) (
            br (decide (((c1.toNat : Int) : Int) < 48)) (
              br (((c1.toNat : Int) : Int) != 45) (
                br (((c1.toNat : Int) : Int) != 46) (
                  K (.bool false) H1)
                 (
                  SelfEq ([.v (.string s)], [], []) ∧
                  I1 (IntKind.wrap .i64 (i_1 + 1)) H1 ∧
                  M1 (IntKind.wrap .i64 (i_1 + 1)) H1 < M1 i_1 H1))
               (
                SelfEq ([.v (.string s)], [], []) ∧
                I1 (IntKind.wrap .i64 (i_1 + 1)) H1 ∧
                M1 (IntKind.wrap .i64 (i_1 + 1)) H1 < M1 i_1 H1))
             (
              br (decide (((c1.toNat : Int) : Int) > 57)) (
                br (((c1.toNat : Int) : Int) != 45) (
                  br (((c1.toNat : Int) : Int) != 46) (
                    K (.bool false) H1)
                   (
                    SelfEq ([.v (.string s)], [], []) ∧
                    I1 (IntKind.wrap .i64 (i_1 + 1)) H1 ∧
                    M1 (IntKind.wrap .i64 (i_1 + 1)) H1 < M1 i_1 H1))
                 (
                  SelfEq ([.v (.string s)], [], []) ∧
                  I1 (IntKind.wrap .i64 (i_1 + 1)) H1 ∧
                  M1 (IntKind.wrap .i64 (i_1 + 1)) H1 < M1 i_1 H1))
               (
                SelfEq ([.v (.string s)], [], []) ∧
                I1 (IntKind.wrap .i64 (i_1 + 1)) H1 ∧
                M1 (IntKind.wrap .i64 (i_1 + 1)) H1 < M1 i_1 H1)))
           (
            SelfEq ([.v (.string s)], [], []) ∧
            I1 (IntKind.wrap .i64 (i_1 + 1)) H1 ∧
            M1 (IntKind.wrap .i64 (i_1 + 1)) H1 < M1 i_1 H1)))
       (
        K (.bool true) H1)))
theorem logboomref1_Name_eq (s : ByteArray) (H : Heap) (K : Value → Heap → Prop) : logboomref1_Name_vc s H K = denFn Tryz.prog logboomref1_Name_ann Tryz.f90 (bodyOf Tryz.f90) [.string s] H K := by kernel_rfl
theorem logboomref1_Name_fn (s : ByteArray) {H : Heap} {K : Value → Heap → Prop} (h : logboomref1_Name_vc s H K) : FnH Tryz.prog 90 #[.string s] H K :=
  denFn_fn Tryz.mixed logboomref1_Name_ann Tryz.func90 (bodyOf_spec (by kernel_rfl)) (logboomref1_Name_eq s H K) h

/-! function 92: (*logboom/logboomref3.Reader).Int -/
def logboomref3_Reader_Int_ann : Anns := { hid := [], loops := [], joins := [], mix := [] }
def logboomref3_Reader_Int_vc (r : Nat) (ro : Nat) (H : Heap) (K : Value → Heap → Prop) : Prop :=
  ∃ s1 : ByteArray,
  cellH H ⟨r, ro, none⟩ = some (.string s1) ∧
  FnH Tryz.prog 99 #[.string s1] H fun r1 H1 =>
    ∃ n1 : Int,
    ∃ n2 : Int,
    ∃ n3 : Int,
    r1 = .tuple #[.int .i64 n1, .int .i64 n2, .int .i64 n3] ∧
    br ((n3 : Int) != 0) (
      (∃ u, cellH H1 ⟨r, ro + 1, none⟩ = some u) ∧
      frozenH H1 ⟨r, ro + 1, none⟩ = false ∧
      letH (Heap.set H1 ⟨r, ro + 1, none⟩ (.bool true)) fun H2 =>
      (∃ u, cellH H2 ⟨r, ro, none⟩ = some u) ∧
      frozenH H2 ⟨r, ro, none⟩ = false ∧
      letH (Heap.set H2 ⟨r, ro, none⟩ (.string (⟨#[]⟩ : ByteArray))) fun H3 =>
      K (.int .i64 0) H3)
     (
      ∃ s2 : ByteArray,
      cellH H1 ⟨r, ro, none⟩ = some (.string s2) ∧
      0 ≤ (n2 : Int) ∧
      (n2 : Int) ≤ (s2.size : Nat) ∧
      (∃ u, cellH H1 ⟨r, ro, none⟩ = some u) ∧
      frozenH H1 ⟨r, ro, none⟩ = false ∧
      letH (Heap.set H1 ⟨r, ro, none⟩ (.string (s2.extract (Int.toNat n2) (Int.toNat (s2.size : Nat))))) fun H4 =>
      K (.int .i64 n1) H4)
theorem logboomref3_Reader_Int_eq (r : Nat) (ro : Nat) (H : Heap) (K : Value → Heap → Prop) : logboomref3_Reader_Int_vc r ro H K = denFn Tryz.prog logboomref3_Reader_Int_ann Tryz.f92 (bodyOf Tryz.f92) [.pointer (some ⟨r, ro, none⟩)] H K := by kernel_rfl
theorem logboomref3_Reader_Int_fn (r : Nat) (ro : Nat) {H : Heap} {K : Value → Heap → Prop} (h : logboomref3_Reader_Int_vc r ro H K) : FnH Tryz.prog 92 #[.pointer (some ⟨r, ro, none⟩)] H K :=
  denFn_fn Tryz.mixed logboomref3_Reader_Int_ann Tryz.func92 (bodyOf_spec (by kernel_rfl)) (logboomref3_Reader_Int_eq r ro H K) h

/-! function 94: logboom/logboomref3.Int -/
def logboomref3_Int_ann : Anns := { hid := [], loops := [(0, { slots := [(3, .int .u64), (4, .slice)], kept := [], locs := [], keptL := [] })], joins := [], mix := [] }
def logboomref3_Int_vc (n : Int) (H : Heap) (K : Value → Heap → Prop) : Prop :=
  br (decide ((n : Int) < 0)) (
    ∃ I1 : Int → Sl → Heap → Prop,
    ∃ M1 : Int → Sl → Heap → Nat,
    I1 (IntKind.wrap .u64 ((IntKind.wrap .u64 (2 * (IntKind.wrap .u64 (IntKind.wrap .i64 (0 - (IntKind.wrap .i64 (n + 1))))))) + 1)) ⟨none, 0, 0⟩ H ∧
    ∀ z_1 : Int,
    ∀ b_1 : Sl,
    ∀ H1 : Heap,
    I1 z_1 b_1 H1 →
    br (decide ((z_1 : Int) ≥ 128)) (
      (128 : Int) ≠ 0 ∧
      ∀ q1 : Nat,
      H1 q1 = none →
      letH (Heap.upd H1 q1 (.cells #[.int .u8 (IntKind.wrap .u8 (IntKind.wrap .u64 ((Int.tmod z_1 128) + 128)))] 5 (0, 0))) fun H2 =>
      runH Tryz.prog (Builtin.append_ #[112, 112] 112 #[.slice b_1.p b_1.n b_1.c, .slice (some ⟨q1, 0, none⟩) 1 1]) H2 fun r1 H3 =>
        ∃ l1 : Sl,
        r1 = .slice l1.p l1.n l1.c ∧
        (128 : Int) ≠ 0 ∧
        SelfEq ([], [], []) ∧
        I1 (IntKind.wrap .u64 (Int.tdiv z_1 128)) l1 H3 ∧
        M1 (IntKind.wrap .u64 (Int.tdiv z_1 128)) l1 H3 < M1 z_1 b_1 H1)
     (
      ∀ q2 : Nat,
      H1 q2 = none →
      letH (Heap.upd H1 q2 (.cells #[.int .u8 (IntKind.wrap .u8 z_1)] 5 (0, 0))) fun H4 =>
      runH Tryz.prog (Builtin.append_ #[112, 112] 112 #[.slice b_1.p b_1.n b_1.c, .slice (some ⟨q2, 0, none⟩) 1 1]) H4 fun r2 H5 =>
        ∃ l2 : Sl,
        r2 = .slice l2.p l2.n l2.c ∧
        runH Tryz.prog (convert 112 9 (.slice l2.p l2.n l2.c)) H5 fun r3 H6 =>
          ∃ s1 : ByteArray,
          r3 = .string s1 ∧
          K (.string s1) H6))
   (
    ∃ I2 : Int → Sl → Heap → Prop,
    ∃ M2 : Int → Sl → Heap → Nat,
    I2 (IntKind.wrap .u64 (2 * (IntKind.wrap .u64 n))) ⟨none, 0, 0⟩ H ∧
    ∀ z_2 : Int,
    ∀ b_2 : Sl,
    ∀ H7 : Heap,
    I2 z_2 b_2 H7 →
    br (decide ((z_2 : Int) ≥ 128)) (
      (128 : Int) ≠ 0 ∧
      ∀ q3 : Nat,
      H7 q3 = none →
      letH (Heap.upd H7 q3 (.cells #[.int .u8 (IntKind.wrap .u8 (IntKind.wrap .u64 ((Int.tmod z_2 128) + 128)))] 5 (0, 0))) fun H8 =>
      runH Tryz.prog (Builtin.append_ #[112, 112] 112 #[.slice b_2.p b_2.n b_2.c, .slice (some ⟨q3, 0, none⟩) 1 1]) H8 fun r4 H9 =>
        ∃ l3 : Sl,
        r4 = .slice l3.p l3.n l3.c ∧
        (128 : Int) ≠ 0 ∧
        SelfEq ([], [], []) ∧
        I2 (IntKind.wrap .u64 (Int.tdiv z_2 128)) l3 H9 ∧
        M2 (IntKind.wrap .u64 (Int.tdiv z_2 128)) l3 H9 < M2 z_2 b_2 H7)
     (
      ∀ q4 : Nat,
      H7 q4 = none →
      letH (Heap.upd H7 q4 (.cells #[.int .u8 (IntKind.wrap .u8 z_2)] 5 (0, 0))) fun H10 =>
      runH Tryz.prog (Builtin.append_ #[112, 112] 112 #[.slice b_2.p b_2.n b_2.c, .slice (some ⟨q4, 0, none⟩) 1 1]) H10 fun r5 H11 =>
        ∃ l4 : Sl,
        r5 = .slice l4.p l4.n l4.c ∧
        runH Tryz.prog (convert 112 9 (.slice l4.p l4.n l4.c)) H11 fun r6 H12 =>
          ∃ s2 : ByteArray,
          r6 = .string s2 ∧
          K (.string s2) H12))
theorem logboomref3_Int_eq (n : Int) (H : Heap) (K : Value → Heap → Prop) : logboomref3_Int_vc n H K = denFn Tryz.prog logboomref3_Int_ann Tryz.f94 (bodyOf Tryz.f94) [.int .i64 n] H K := by kernel_rfl
theorem logboomref3_Int_fn (n : Int) {H : Heap} {K : Value → Heap → Prop} (h : logboomref3_Int_vc n H K) : FnH Tryz.prog 94 #[.int .i64 n] H K :=
  denFn_fn Tryz.mixed logboomref3_Int_ann Tryz.func94 (bodyOf_spec (by kernel_rfl)) (logboomref3_Int_eq n H K) h

/-! function 99: logboom/logboomref3.ReadInt -/
def logboomref3_ReadInt_ann : Anns := { hid := [], loops := [(0, { slots := [(5, .int .u64), (6, .int .u64), (7, .int .i64)], kept := [0], locs := [], keptL := [] })], joins := [], mix := [] }
def logboomref3_ReadInt_vc (b : ByteArray) (H : Heap) (K : Value → Heap → Prop) : Prop :=
  ∃ I1 : Int → Int → Int → Heap → Prop,
  ∃ M1 : Int → Int → Int → Heap → Nat,
  I1 0 1 0 H ∧
  ∀ z_1 : Int,
  ∀ worth_1 : Int,
  ∀ i_1 : Int,
  ∀ H1 : Heap,
  I1 z_1 worth_1 i_1 H1 →
  br (decide ((i_1 : Int) < 10)) (
    br (decide ((i_1 : Int) ≥ (b.size : Nat))) (
      K (.tuple #[.int .i64 0, .int .i64 0, .int .i64 5]) H1)
     (
      br ((i_1 : Int) == 9) (
        0 ≤ (i_1 : Int) ∧
        ∃ c1 : UInt8,
        b[Int.toNat i_1]? = some c1 ∧
        br (decide (((c1.toNat : Int) : Int) > 1)) (
          K (.tuple #[.int .i64 0, .int .i64 0, .int .i64 4]) H1)
         (
          0 ≤ (i_1 : Int) ∧
          ∃ c2 : UInt8,
          b[Int.toNat i_1]? = some c2 ∧
          (128 : Int) ≠ 0 ∧
          0 ≤ (i_1 : Int) ∧
          ∃ c3 : UInt8,
          b[Int.toNat i_1]? = some c3 ∧
          br (decide (((c3.toNat : Int) : Int) ≥ 128)) (
            SelfEq ([.v (.string b)], [], []) ∧
            I1 (IntKind.wrap .u64 (z_1 + (IntKind.wrap .u64 ((IntKind.wrap .u64 (Int.tmod (c2.toNat : Int) 128)) * worth_1)))) (IntKind.wrap .u64 (worth_1 * 128)) (IntKind.wrap .i64 (i_1 + 1)) H1 ∧
            M1 (IntKind.wrap .u64 (z_1 + (IntKind.wrap .u64 ((IntKind.wrap .u64 (Int.tmod (c2.toNat : Int) 128)) * worth_1)))) (IntKind.wrap .u64 (worth_1 * 128)) (IntKind.wrap .i64 (i_1 + 1)) H1 < M1 z_1 worth_1 i_1 H1)
           (
            br (decide ((i_1 : Int) > 0)) (
              0 ≤ (i_1 : Int) ∧
              ∃ c4 : UInt8,
              b[Int.toNat i_1]? = some c4 ∧
              br (((c4.toNat : Int) : Int) == 0) (
                K (.tuple #[.int .i64 0, .int .i64 0, .int .i64 4]) H1)
               (
                (2 : Int) ≠ 0 ∧
                br (((Int.tmod (IntKind.wrap .u64 (z_1 + (IntKind.wrap .u64 ((IntKind.wrap .u64 (Int.tmod (c2.toNat : Int) 128)) * worth_1)))) 2) : Int) == 1) (
                  (2 : Int) ≠ 0 ∧
                  K (.tuple #[.int .i64 (IntKind.wrap .i64 ((IntKind.wrap .i64 (0 - (IntKind.wrap .i64 (IntKind.wrap .u64 (Int.tdiv (IntKind.wrap .u64 (z_1 + (IntKind.wrap .u64 ((IntKind.wrap .u64 (Int.tmod (c2.toNat : Int) 128)) * worth_1)))) 2))))) - 1)), .int .i64 (IntKind.wrap .i64 (i_1 + 1)), .int .i64 0]) H1)
                 (
                  (2 : Int) ≠ 0 ∧
                  K (.tuple #[.int .i64 (IntKind.wrap .i64 (IntKind.wrap .u64 (Int.tdiv (IntKind.wrap .u64 (z_1 + (IntKind.wrap .u64 ((IntKind.wrap .u64 (Int.tmod (c2.toNat : Int) 128)) * worth_1)))) 2))), .int .i64 (IntKind.wrap .i64 (i_1 + 1)), .int .i64 0]) H1)))
             (
              (2 : Int) ≠ 0 ∧
              br (((Int.tmod (IntKind.wrap .u64 (z_1 + (IntKind.wrap .u64 ((IntKind.wrap .u64 (Int.tmod (c2.toNat : Int) 128)) * worth_1)))) 2) : Int) == 1) (
                (2 : Int) ≠ 0 ∧
                K (.tuple #[.int .i64 (IntKind.wrap .i64 ((IntKind.wrap .i64 (0 - (IntKind.wrap .i64 (IntKind.wrap .u64 (Int.tdiv (IntKind.wrap .u64 (z_1 + (IntKind.wrap .u64 ((IntKind.wrap .u64 (Int.tmod (c2.toNat : Int) 128)) * worth_1)))) 2))))) - 1)), .int .i64 (IntKind.wrap .i64 (i_1 + 1)), .int .i64 0]) H1)
               (
                (2 : Int) ≠ 0 ∧
                K (.tuple #[.int .i64 (IntKind.wrap .i64 (IntKind.wrap .u64 (Int.tdiv (IntKind.wrap .u64 (z_1 + (IntKind.wrap .u64 ((IntKind.wrap .u64 (Int.tmod (c2.toNat : Int) 128)) * worth_1)))) 2))), .int .i64 (IntKind.wrap .i64 (i_1 + 1)), .int .i64 0]) H1)))))
       (
        0 ≤ (i_1 : Int) ∧
        ∃ c5 : UInt8,
        b[Int.toNat i_1]? = some c5 ∧
        (128 : Int) ≠ 0 ∧
        0 ≤ (i_1 : Int) ∧
        ∃ c6 : UInt8,
        b[Int.toNat i_1]? = some c6 ∧
        br (decide (((c6.toNat : Int) : Int) ≥ 128)) (
          SelfEq ([.v (.string b)], [], []) ∧
          I1 (IntKind.wrap .u64 (z_1 + (IntKind.wrap .u64 ((IntKind.wrap .u64 (Int.tmod (c5.toNat : Int) 128)) * worth_1)))) (IntKind.wrap .u64 (worth_1 * 128)) (IntKind.wrap .i64 (i_1 + 1)) H1 ∧
          M1 (IntKind.wrap .u64 (z_1 + (IntKind.wrap .u64 ((IntKind.wrap .u64 (Int.tmod (c5.toNat : Int) 128)) * worth_1)))) (IntKind.wrap .u64 (worth_1 * 128)) (IntKind.wrap .i64 (i_1 + 1)) H1 < M1 z_1 worth_1 i_1 H1)
         (
          br (decide ((i_1 : Int) > 0)) (
            0 ≤ (i_1 : Int) ∧
            ∃ c7 : UInt8,
            b[Int.toNat i_1]? = some c7 ∧
            br (((c7.toNat : Int) : Int) == 0) (
              K (.tuple #[.int .i64 0, .int .i64 0, .int .i64 4]) H1)
             (
              (2 : Int) ≠ 0 ∧
              br (((Int.tmod (IntKind.wrap .u64 (z_1 + (IntKind.wrap .u64 ((IntKind.wrap .u64 (Int.tmod (c5.toNat : Int) 128)) * worth_1)))) 2) : Int) == 1) (
                (2 : Int) ≠ 0 ∧
                K (.tuple #[.int .i64 (IntKind.wrap .i64 ((IntKind.wrap .i64 (0 - (IntKind.wrap .i64 (IntKind.wrap .u64 (Int.tdiv (IntKind.wrap .u64 (z_1 + (IntKind.wrap .u64 ((IntKind.wrap .u64 (Int.tmod (c5.toNat : Int) 128)) * worth_1)))) 2))))) - 1)), .int .i64 (IntKind.wrap .i64 (i_1 + 1)), .int .i64 0]) H1)
               (
                (2 : Int) ≠ 0 ∧
                K (.tuple #[.int .i64 (IntKind.wrap .i64 (IntKind.wrap .u64 (Int.tdiv (IntKind.wrap .u64 (z_1 + (IntKind.wrap .u64 ((IntKind.wrap .u64 (Int.tmod (c5.toNat : Int) 128)) * worth_1)))) 2))), .int .i64 (IntKind.wrap .i64 (i_1 + 1)), .int .i64 0]) H1)))
           (
            (2 : Int) ≠ 0 ∧
            br (((Int.tmod (IntKind.wrap .u64 (z_1 + (IntKind.wrap .u64 ((IntKind.wrap .u64 (Int.tmod (c5.toNat : Int) 128)) * worth_1)))) 2) : Int) == 1) (
              (2 : Int) ≠ 0 ∧
              K (.tuple #[.int .i64 (IntKind.wrap .i64 ((IntKind.wrap .i64 (0 - (IntKind.wrap .i64 (IntKind.wrap .u64 (Int.tdiv (IntKind.wrap .u64 (z_1 + (IntKind.wrap .u64 ((IntKind.wrap .u64 (Int.tmod (c5.toNat : Int) 128)) * worth_1)))) 2))))) - 1)), .int .i64 (IntKind.wrap .i64 (i_1 + 1)), .int .i64 0]) H1)
             (
              (2 : Int) ≠ 0 ∧
              K (.tuple #[.int .i64 (IntKind.wrap .i64 (IntKind.wrap .u64 (Int.tdiv (IntKind.wrap .u64 (z_1 + (IntKind.wrap .u64 ((IntKind.wrap .u64 (Int.tmod (c5.toNat : Int) 128)) * worth_1)))) 2))), .int .i64 (IntKind.wrap .i64 (i_1 + 1)), .int .i64 0]) H1))))))
   (
    K (.tuple #[.int .i64 0, .int .i64 0, .int .i64 4]) H1)
theorem logboomref3_ReadInt_eq (b : ByteArray) (H : Heap) (K : Value → Heap → Prop) : logboomref3_ReadInt_vc b H K = denFn Tryz.prog logboomref3_ReadInt_ann Tryz.f99 (bodyOf Tryz.f99) [.string b] H K := by kernel_rfl
theorem logboomref3_ReadInt_fn (b : ByteArray) {H : Heap} {K : Value → Heap → Prop} (h : logboomref3_ReadInt_vc b H K) : FnH Tryz.prog 99 #[.string b] H K :=
  denFn_fn Tryz.mixed logboomref3_ReadInt_ann Tryz.func99 (bodyOf_spec (by kernel_rfl)) (logboomref3_ReadInt_eq b H K) h

end Go.Proofs.YtokceblmbmajgaaGreatDoor
