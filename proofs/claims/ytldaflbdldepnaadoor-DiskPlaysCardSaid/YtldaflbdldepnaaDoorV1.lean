/- Formulas of functions, printed by this session's vc.py; each is tied to the program by the kernel. -/
import Derived.Test.YtldaflbdldepnaaDoorProg
import Derived.KernelRfl
import Derived.Test.YtldaflbdldepnaaDoorHlFn
namespace Go.Proofs.YtldaflbdldepnaaDoor
open Go.HL
set_option maxRecDepth 100000
theorem Tryd.mixed : Tryd.prog.follows .mixedOrders = true := by kernel_rfl
/-! function 11: logboom/logboomlaw1.pick -/
def logboomlaw1_pick_ann : Anns := { hid := [], loops := [], joins := [], mix := [] }
def logboomlaw1_pick_vc (c : Int) (n : Int) (H : Heap) (K : Value → Heap → Prop) : Prop :=
  br (decide ((c : Int) < 0)) (
    (n : Int) ≠ 0 ∧
    K (.int .i64 (Int.tmod (IntKind.wrap .i64 (0 - (IntKind.wrap .i64 (c + 1)))) n)) H)
   (
    (n : Int) ≠ 0 ∧
    K (.int .i64 (Int.tmod c n)) H)
theorem logboomlaw1_pick_eq (c : Int) (n : Int) (H : Heap) (K : Value → Heap → Prop) : logboomlaw1_pick_vc c n H K = denFn Tryd.prog logboomlaw1_pick_ann Tryd.f11 (bodyOf Tryd.f11) [.int .i64 c, .int .i64 n] H K := by kernel_rfl
theorem logboomlaw1_pick_fn (c : Int) (n : Int) {H : Heap} {K : Value → Heap → Prop} (h : logboomlaw1_pick_vc c n H K) : FnH Tryd.prog 11 #[.int .i64 c, .int .i64 n] H K :=
  denFn_fn Tryd.mixed logboomlaw1_pick_ann Tryd.func11 (bodyOf_spec (by kernel_rfl)) (logboomlaw1_pick_eq c n H K) h

/-! function 12: logboom/disk.New -/
def disk_New_ann : Anns := { hid := [], loops := [], joins := [], mix := [] }
def disk_New_vc (size : Int) (H : Heap) (K : Value → Heap → Prop) : Prop :=
  br (decide ((size : Int) < 1)) (
    K (.tuple #[.pointer none, .int .i64 1]) H)
   (
    br (decide ((size : Int) > 16777216)) (
      K (.tuple #[.pointer none, .int .i64 1]) H)
     (
      ∀ q1 : Nat,
      H q1 = none →
      letH (Heap.upd H q1 (.map #[] 0)) fun H1 =>
      ∀ q2 : Nat,
      H1 q2 = none →
      letH (Heap.upd H1 q2 (.cells #[.int .i64 size, .int .i64 0, .map (some q1)] 57 (0, 0))) fun H2 =>
      K (.tuple #[.pointer (some ⟨q2, 0, none⟩), .int .i64 0]) H2))
theorem disk_New_eq (size : Int) (H : Heap) (K : Value → Heap → Prop) : disk_New_vc size H K = denFn Tryd.prog disk_New_ann Tryd.f12 (bodyOf Tryd.f12) [.int .i64 size] H K := by kernel_rfl
theorem disk_New_fn (size : Int) {H : Heap} {K : Value → Heap → Prop} (h : disk_New_vc size H K) : FnH Tryd.prog 12 #[.int .i64 size] H K :=
  denFn_fn Tryd.mixed disk_New_ann Tryd.func12 (bodyOf_spec (by kernel_rfl)) (disk_New_eq size H K) h

/-! function 13: (*logboom/disk.Disk).Append -/
def disk_Disk_Append_ann : Anns := { hid := [8], loops := [], joins := [], mix := [(6, [11])] }
def disk_Disk_Append_vc (d0 : Nat) (d0o : Nat) (name : ByteArray) (b : ByteArray) (H : Heap) (K : Value → Heap → Prop) : Prop :=
  FnH Tryd.prog 29 #[.pointer (some ⟨d0, d0o, none⟩), .string name] H fun r1 H1 =>
    ∃ n1 : Int,
    r1 = .int .i64 n1 ∧
    br ((n1 : Int) != 0) (
      K (.int .i64 n1) H1)
     (
      ∃ m1 : Option Nat,
      cellH H1 ⟨d0, d0o + 2, none⟩ = some (.map m1) ∧
      runH Tryd.prog (Instr.lookup 55 (.map m1) (.string name) false) H1 fun r2 H2 =>
        ∃ s1 : ByteArray,
        ∃ n2 : Int,
        r2 = .agg #[.string s1, .int .i64 n2] ∧
        FnH Tryd.prog 18 #[.pointer (some ⟨d0, d0o, none⟩)] H2 fun r3 H3 =>
          ∃ n3 : Int,
          r3 = .int .i64 n3 ∧
          0 ≤ (if n3 < (b.size : Nat) then n3 else (b.size : Nat) : Int) ∧
          (if n3 < (b.size : Nat) then n3 else (b.size : Nat) : Int) ≤ (b.size : Nat) ∧
          s1.size + (b.extract (Int.toNat (0 : Int)) (Int.toNat (if n3 < (b.size : Nat) then n3 else (b.size : Nat)))).size < 9223372036854775808 ∧
          FnH Tryd.prog 30 #[.pointer (some ⟨d0, d0o, none⟩), .string name, .agg #[.string (s1 ++ (b.extract (Int.toNat (0 : Int)) (Int.toNat (if n3 < (b.size : Nat) then n3 else (b.size : Nat))))), .int .i64 n2]] H3 fun r4 H4 =>
            r4 = .tuple #[] ∧
            br (decide (((if n3 < (b.size : Nat) then n3 else (b.size : Nat)) : Int) < (b.size : Nat))) (
              K (.int .i64 7) H4)
             (
              K (.int .i64 0) H4))
theorem disk_Disk_Append_eq (d0 : Nat) (d0o : Nat) (name : ByteArray) (b : ByteArray) (H : Heap) (K : Value → Heap → Prop) : disk_Disk_Append_vc d0 d0o name b H K = denFn Tryd.prog disk_Disk_Append_ann Tryd.f13 (bodyOf Tryd.f13) [.pointer (some ⟨d0, d0o, none⟩), .string name, .string b] H K := by kernel_rfl
theorem disk_Disk_Append_fn (d0 : Nat) (d0o : Nat) (name : ByteArray) (b : ByteArray) {H : Heap} {K : Value → Heap → Prop} (h : disk_Disk_Append_vc d0 d0o name b H K) : FnH Tryd.prog 13 #[.pointer (some ⟨d0, d0o, none⟩), .string name, .string b] H K :=
  denFn_fn Tryd.mixed disk_Disk_Append_ann Tryd.func13 (bodyOf_spec (by kernel_rfl)) (disk_Disk_Append_eq d0 d0o name b H K) h

/-! function 14: (*logboom/disk.Disk).Sync -/
def disk_Disk_Sync_ann : Anns := { hid := [5], loops := [], joins := [], mix := [] }
def disk_Disk_Sync_vc (d0 : Nat) (d0o : Nat) (name : ByteArray) (H : Heap) (K : Value → Heap → Prop) : Prop :=
  ∃ m1 : Option Nat,
  cellH H ⟨d0, d0o + 2, none⟩ = some (.map m1) ∧
  runH Tryd.prog (Instr.lookup 55 (.map m1) (.string name) true) H fun r1 H1 =>
    ∃ s1 : ByteArray,
    ∃ n1 : Int,
    ∃ b1 : Bool,
    r1 = .tuple #[.agg #[.string s1, .int .i64 n1], .bool b1] ∧
    br (!b1) (
      K (.int .i64 8) H1)
     (
      FnH Tryd.prog 30 #[.pointer (some ⟨d0, d0o, none⟩), .string name, .agg #[.string s1, .int .i64 (s1.size : Nat)]] H1 fun r2 H2 =>
        r2 = .tuple #[] ∧
        K (.int .i64 0) H2)
theorem disk_Disk_Sync_eq (d0 : Nat) (d0o : Nat) (name : ByteArray) (H : Heap) (K : Value → Heap → Prop) : disk_Disk_Sync_vc d0 d0o name H K = denFn Tryd.prog disk_Disk_Sync_ann Tryd.f14 (bodyOf Tryd.f14) [.pointer (some ⟨d0, d0o, none⟩), .string name] H K := by kernel_rfl
theorem disk_Disk_Sync_fn (d0 : Nat) (d0o : Nat) (name : ByteArray) {H : Heap} {K : Value → Heap → Prop} (h : disk_Disk_Sync_vc d0 d0o name H K) : FnH Tryd.prog 14 #[.pointer (some ⟨d0, d0o, none⟩), .string name] H K :=
  denFn_fn Tryd.mixed disk_Disk_Sync_ann Tryd.func14 (bodyOf_spec (by kernel_rfl)) (disk_Disk_Sync_eq d0 d0o name H K) h

/-! function 15: (*logboom/disk.Disk).Crash -/
def disk_Disk_Crash_ann : Anns := { hid := [6], loops := [(0, { slots := [(1, .slice), (12, .int .i64)], kept := [0, 10, 11], locs := [], keptL := [] })], joins := [], mix := [] }
def disk_Disk_Crash_vc (d0 : Nat) (d0o : Nat) (keep : Sl) (H : Heap) (K : Value → Heap → Prop) : Prop :=
  FnH Tryd.prog 20 #[.pointer (some ⟨d0, d0o, none⟩)] H fun r1 H1 =>
    ∃ l1 : Sl,
    r1 = .slice l1.p l1.n l1.c ∧
    ∃ I1 : Sl → Int → Heap → Prop,
    ∃ M1 : Sl → Int → Heap → Nat,
    I1 keep 0 H1 ∧
    ∀ keep_1 : Sl,
    ∀ n_1 : Int,
    ∀ H2 : Heap,
    I1 keep_1 n_1 H2 →
    br (decide ((n_1 : Int) < (l1.n : Nat))) (
      ∃ q1 : Nat,
      ∃ o1 : Nat,
      (l1.p : Option Addr) = some ⟨q1, o1, none⟩ ∧
      0 ≤ (n_1 : Int) ∧
      (n_1 : Int) < (l1.n : Nat) ∧
      ∃ s1 : ByteArray,
      cellH H2 ⟨q1, o1 + Int.toNat n_1, none⟩ = some (.string s1) ∧
      ∃ m1 : Option Nat,
      cellH H2 ⟨d0, d0o + 2, none⟩ = some (.map m1) ∧
      runH Tryd.prog (Instr.lookup 55 (.map m1) (.string s1) false) H2 fun r2 H3 =>
        ∃ s2 : ByteArray,
        ∃ n1 : Int,
        r2 = .agg #[.string s2, .int .i64 n1] ∧
        br (((IntKind.wrap .i64 ((s2.size : Nat) - n1)) : Int) == 0) (
          SelfEq ([.v (.pointer (some ⟨d0, d0o, none⟩)), .v (.slice l1.p l1.n l1.c), .v (.int .i64 (l1.n : Nat))], [], []) ∧
          I1 keep_1 (IntKind.wrap .i64 (n_1 + 1)) H3 ∧
          M1 keep_1 (IntKind.wrap .i64 (n_1 + 1)) H3 < M1 keep_1 n_1 H2)
         (
          br (decide (((keep_1.n : Nat) : Int) > 0)) (
            ∃ q2 : Nat,
            ∃ o2 : Nat,
            (keep_1.p : Option Addr) = some ⟨q2, o2, none⟩ ∧
            0 ≤ (0 : Int) ∧
            (0 : Int) < (keep_1.n : Nat) ∧
            ∃ n2 : Int,
            cellH H3 ⟨q2, o2 + Int.toNat 0, none⟩ = some (.int .i64 n2) ∧
            0 ≤ (1 : Int) ∧
            (1 : Int) ≤ (keep_1.n : Nat) ∧
            br (decide ((n2 : Int) < 0)) (
              ((IntKind.wrap .i64 ((IntKind.wrap .i64 ((s2.size : Nat) - n1)) + 1)) : Int) ≠ 0 ∧
              0 ≤ (IntKind.wrap .i64 (n1 + (Int.tmod (IntKind.wrap .i64 (0 - (IntKind.wrap .i64 (n2 + 1)))) (IntKind.wrap .i64 ((IntKind.wrap .i64 ((s2.size : Nat) - n1)) + 1)))) : Int) ∧
              (IntKind.wrap .i64 (n1 + (Int.tmod (IntKind.wrap .i64 (0 - (IntKind.wrap .i64 (n2 + 1)))) (IntKind.wrap .i64 ((IntKind.wrap .i64 ((s2.size : Nat) - n1)) + 1)))) : Int) ≤ (s2.size : Nat) ∧
              FnH Tryd.prog 30 #[.pointer (some ⟨d0, d0o, none⟩), .string s1, .agg #[.string (s2.extract (Int.toNat (0 : Int)) (Int.toNat (IntKind.wrap .i64 (n1 + (Int.tmod (IntKind.wrap .i64 (0 - (IntKind.wrap .i64 (n2 + 1)))) (IntKind.wrap .i64 ((IntKind.wrap .i64 ((s2.size : Nat) - n1)) + 1))))))), .int .i64 (IntKind.wrap .i64 (n1 + (Int.tmod (IntKind.wrap .i64 (0 - (IntKind.wrap .i64 (n2 + 1)))) (IntKind.wrap .i64 ((IntKind.wrap .i64 ((s2.size : Nat) - n1)) + 1)))))]] H3 fun r3 H4 =>
                r3 = .tuple #[] ∧
                SelfEq ([.v (.pointer (some ⟨d0, d0o, none⟩)), .v (.slice l1.p l1.n l1.c), .v (.int .i64 (l1.n : Nat))], [], []) ∧
                I1 ⟨(slP keep_1.p keep_1.c 1 1), Int.toNat ((keep_1.n : Nat) - 1), Int.toNat ((keep_1.c : Nat) - 1)⟩ (IntKind.wrap .i64 (n_1 + 1)) H4 ∧
                M1 ⟨(slP keep_1.p keep_1.c 1 1), Int.toNat ((keep_1.n : Nat) - 1), Int.toNat ((keep_1.c : Nat) - 1)⟩ (IntKind.wrap .i64 (n_1 + 1)) H4 < M1 keep_1 n_1 H2)
             (
              ((IntKind.wrap .i64 ((IntKind.wrap .i64 ((s2.size : Nat) - n1)) + 1)) : Int) ≠ 0 ∧
              0 ≤ (IntKind.wrap .i64 (n1 + (Int.tmod n2 (IntKind.wrap .i64 ((IntKind.wrap .i64 ((s2.size : Nat) - n1)) + 1)))) : Int) ∧
              (IntKind.wrap .i64 (n1 + (Int.tmod n2 (IntKind.wrap .i64 ((IntKind.wrap .i64 ((s2.size : Nat) - n1)) + 1)))) : Int) ≤ (s2.size : Nat) ∧
              FnH Tryd.prog 30 #[.pointer (some ⟨d0, d0o, none⟩), .string s1, .agg #[.string (s2.extract (Int.toNat (0 : Int)) (Int.toNat (IntKind.wrap .i64 (n1 + (Int.tmod n2 (IntKind.wrap .i64 ((IntKind.wrap .i64 ((s2.size : Nat) - n1)) + 1))))))), .int .i64 (IntKind.wrap .i64 (n1 + (Int.tmod n2 (IntKind.wrap .i64 ((IntKind.wrap .i64 ((s2.size : Nat) - n1)) + 1)))))]] H3 fun r4 H5 =>
                r4 = .tuple #[] ∧
                SelfEq ([.v (.pointer (some ⟨d0, d0o, none⟩)), .v (.slice l1.p l1.n l1.c), .v (.int .i64 (l1.n : Nat))], [], []) ∧
                I1 ⟨(slP keep_1.p keep_1.c 1 1), Int.toNat ((keep_1.n : Nat) - 1), Int.toNat ((keep_1.c : Nat) - 1)⟩ (IntKind.wrap .i64 (n_1 + 1)) H5 ∧
                M1 ⟨(slP keep_1.p keep_1.c 1 1), Int.toNat ((keep_1.n : Nat) - 1), Int.toNat ((keep_1.c : Nat) - 1)⟩ (IntKind.wrap .i64 (n_1 + 1)) H5 < M1 keep_1 n_1 H2))
           (
            br (decide ((0 : Int) < 0)) (
              ((IntKind.wrap .i64 ((IntKind.wrap .i64 ((s2.size : Nat) - n1)) + 1)) : Int) ≠ 0 ∧
              0 ≤ (IntKind.wrap .i64 (n1 + (Int.tmod (IntKind.wrap .i64 (0 - (IntKind.wrap .i64 (0 + 1)))) (IntKind.wrap .i64 ((IntKind.wrap .i64 ((s2.size : Nat) - n1)) + 1)))) : Int) ∧
              (IntKind.wrap .i64 (n1 + (Int.tmod (IntKind.wrap .i64 (0 - (IntKind.wrap .i64 (0 + 1)))) (IntKind.wrap .i64 ((IntKind.wrap .i64 ((s2.size : Nat) - n1)) + 1)))) : Int) ≤ (s2.size : Nat) ∧
              FnH Tryd.prog 30 #[.pointer (some ⟨d0, d0o, none⟩), .string s1, .agg #[.string (s2.extract (Int.toNat (0 : Int)) (Int.toNat (IntKind.wrap .i64 (n1 + (Int.tmod (IntKind.wrap .i64 (0 - (IntKind.wrap .i64 (0 + 1)))) (IntKind.wrap .i64 ((IntKind.wrap .i64 ((s2.size : Nat) - n1)) + 1))))))), .int .i64 (IntKind.wrap .i64 (n1 + (Int.tmod (IntKind.wrap .i64 (0 - (IntKind.wrap .i64 (0 + 1)))) (IntKind.wrap .i64 ((IntKind.wrap .i64 ((s2.size : Nat) - n1)) + 1)))))]] H3 fun r5 H6 =>
                r5 = .tuple #[] ∧
                SelfEq ([.v (.pointer (some ⟨d0, d0o, none⟩)), .v (.slice l1.p l1.n l1.c), .v (.int .i64 (l1.n : Nat))], [], []) ∧
                I1 keep_1 (IntKind.wrap .i64 (n_1 + 1)) H6 ∧
                M1 keep_1 (IntKind.wrap .i64 (n_1 + 1)) H6 < M1 keep_1 n_1 H2)
             (
              ((IntKind.wrap .i64 ((IntKind.wrap .i64 ((s2.size : Nat) - n1)) + 1)) : Int) ≠ 0 ∧
              0 ≤ (IntKind.wrap .i64 (n1 + (Int.tmod 0 (IntKind.wrap .i64 ((IntKind.wrap .i64 ((s2.size : Nat) - n1)) + 1)))) : Int) ∧
              (IntKind.wrap .i64 (n1 + (Int.tmod 0 (IntKind.wrap .i64 ((IntKind.wrap .i64 ((s2.size : Nat) - n1)) + 1)))) : Int) ≤ (s2.size : Nat) ∧
              FnH Tryd.prog 30 #[.pointer (some ⟨d0, d0o, none⟩), .string s1, .agg #[.string (s2.extract (Int.toNat (0 : Int)) (Int.toNat (IntKind.wrap .i64 (n1 + (Int.tmod 0 (IntKind.wrap .i64 ((IntKind.wrap .i64 ((s2.size : Nat) - n1)) + 1))))))), .int .i64 (IntKind.wrap .i64 (n1 + (Int.tmod 0 (IntKind.wrap .i64 ((IntKind.wrap .i64 ((s2.size : Nat) - n1)) + 1)))))]] H3 fun r6 H7 =>
                r6 = .tuple #[] ∧
                SelfEq ([.v (.pointer (some ⟨d0, d0o, none⟩)), .v (.slice l1.p l1.n l1.c), .v (.int .i64 (l1.n : Nat))], [], []) ∧
                I1 keep_1 (IntKind.wrap .i64 (n_1 + 1)) H7 ∧
                M1 keep_1 (IntKind.wrap .i64 (n_1 + 1)) H7 < M1 keep_1 n_1 H2))))
     (
      K (.tuple #[]) H2)
theorem disk_Disk_Crash_eq (d0 : Nat) (d0o : Nat) (keep : Sl) (H : Heap) (K : Value → Heap → Prop) : disk_Disk_Crash_vc d0 d0o keep H K = denFn Tryd.prog disk_Disk_Crash_ann Tryd.f15 (bodyOf Tryd.f15) [.pointer (some ⟨d0, d0o, none⟩), .slice keep.p keep.n keep.c] H K := by kernel_rfl
theorem disk_Disk_Crash_fn (d0 : Nat) (d0o : Nat) (keep : Sl) {H : Heap} {K : Value → Heap → Prop} (h : disk_Disk_Crash_vc d0 d0o keep H K) : FnH Tryd.prog 15 #[.pointer (some ⟨d0, d0o, none⟩), .slice keep.p keep.n keep.c] H K :=
  denFn_fn Tryd.mixed disk_Disk_Crash_ann Tryd.func15 (bodyOf_spec (by kernel_rfl)) (disk_Disk_Crash_eq d0 d0o keep H K) h

/-! function 16: (*logboom/disk.Disk).Read -/
def disk_Disk_Read_ann : Anns := { hid := [6], loops := [], joins := [], mix := [] }
def disk_Disk_Read_vc (d0 : Nat) (d0o : Nat) (name : ByteArray) (H : Heap) (K : Value → Heap → Prop) : Prop :=
  ∃ m1 : Option Nat,
  cellH H ⟨d0, d0o + 2, none⟩ = some (.map m1) ∧
  runH Tryd.prog (Instr.lookup 55 (.map m1) (.string name) true) H fun r1 H1 =>
    ∃ s1 : ByteArray,
    ∃ n1 : Int,
    ∃ b1 : Bool,
    r1 = .tuple #[.agg #[.string s1, .int .i64 n1], .bool b1] ∧
    br (!b1) (
      K (.tuple #[.string (⟨#[]⟩ : ByteArray), .int .i64 8]) H1)
     (
      K (.tuple #[.string s1, .int .i64 0]) H1)
theorem disk_Disk_Read_eq (d0 : Nat) (d0o : Nat) (name : ByteArray) (H : Heap) (K : Value → Heap → Prop) : disk_Disk_Read_vc d0 d0o name H K = denFn Tryd.prog disk_Disk_Read_ann Tryd.f16 (bodyOf Tryd.f16) [.pointer (some ⟨d0, d0o, none⟩), .string name] H K := by kernel_rfl
theorem disk_Disk_Read_fn (d0 : Nat) (d0o : Nat) (name : ByteArray) {H : Heap} {K : Value → Heap → Prop} (h : disk_Disk_Read_vc d0 d0o name H K) : FnH Tryd.prog 16 #[.pointer (some ⟨d0, d0o, none⟩), .string name] H K :=
  denFn_fn Tryd.mixed disk_Disk_Read_ann Tryd.func16 (bodyOf_spec (by kernel_rfl)) (disk_Disk_Read_eq d0 d0o name H K) h

/-! function 17: (*logboom/disk.Disk).Synced -/
def disk_Disk_Synced_ann : Anns := { hid := [], loops := [], joins := [], mix := [] }
def disk_Disk_Synced_vc (d0 : Nat) (d0o : Nat) (name : ByteArray) (H : Heap) (K : Value → Heap → Prop) : Prop :=
  ∃ m1 : Option Nat,
  cellH H ⟨d0, d0o + 2, none⟩ = some (.map m1) ∧
  runH Tryd.prog (Instr.lookup 55 (.map m1) (.string name) false) H fun r1 H1 =>
    ∃ s1 : ByteArray,
    ∃ n1 : Int,
    r1 = .agg #[.string s1, .int .i64 n1] ∧
    K (.int .i64 n1) H1
theorem disk_Disk_Synced_eq (d0 : Nat) (d0o : Nat) (name : ByteArray) (H : Heap) (K : Value → Heap → Prop) : disk_Disk_Synced_vc d0 d0o name H K = denFn Tryd.prog disk_Disk_Synced_ann Tryd.f17 (bodyOf Tryd.f17) [.pointer (some ⟨d0, d0o, none⟩), .string name] H K := by kernel_rfl
theorem disk_Disk_Synced_fn (d0 : Nat) (d0o : Nat) (name : ByteArray) {H : Heap} {K : Value → Heap → Prop} (h : disk_Disk_Synced_vc d0 d0o name H K) : FnH Tryd.prog 17 #[.pointer (some ⟨d0, d0o, none⟩), .string name] H K :=
  denFn_fn Tryd.mixed disk_Disk_Synced_ann Tryd.func17 (bodyOf_spec (by kernel_rfl)) (disk_Disk_Synced_eq d0 d0o name H K) h

/-! function 18: (*logboom/disk.Disk).Free -/
def disk_Disk_Free_ann : Anns := { hid := [], loops := [], joins := [], mix := [] }
def disk_Disk_Free_vc (d0 : Nat) (d0o : Nat) (H : Heap) (K : Value → Heap → Prop) : Prop :=
  ∃ n1 : Int,
  cellH H ⟨d0, d0o, none⟩ = some (.int .i64 n1) ∧
  ∃ n2 : Int,
  cellH H ⟨d0, d0o + 1, none⟩ = some (.int .i64 n2) ∧
  K (.int .i64 (IntKind.wrap .i64 (n1 - n2))) H
theorem disk_Disk_Free_eq (d0 : Nat) (d0o : Nat) (H : Heap) (K : Value → Heap → Prop) : disk_Disk_Free_vc d0 d0o H K = denFn Tryd.prog disk_Disk_Free_ann Tryd.f18 (bodyOf Tryd.f18) [.pointer (some ⟨d0, d0o, none⟩)] H K := by kernel_rfl
theorem disk_Disk_Free_fn (d0 : Nat) (d0o : Nat) {H : Heap} {K : Value → Heap → Prop} (h : disk_Disk_Free_vc d0 d0o H K) : FnH Tryd.prog 18 #[.pointer (some ⟨d0, d0o, none⟩)] H K :=
  denFn_fn Tryd.mixed disk_Disk_Free_ann Tryd.func18 (bodyOf_spec (by kernel_rfl)) (disk_Disk_Free_eq d0 d0o H K) h

/-! function 19: (*logboom/disk.Disk).Replace -/
def disk_Disk_Replace_ann : Anns := { hid := [], loops := [], joins := [], mix := [] }
def disk_Disk_Replace_vc (d0 : Nat) (d0o : Nat) (name : ByteArray) (b : ByteArray) (H : Heap) (K : Value → Heap → Prop) : Prop :=
  FnH Tryd.prog 29 #[.pointer (some ⟨d0, d0o, none⟩), .string name] H fun r1 H1 =>
    ∃ n1 : Int,
    r1 = .int .i64 n1 ∧
    br ((n1 : Int) != 0) (
      K (.int .i64 n1) H1)
     (
      FnH Tryd.prog 18 #[.pointer (some ⟨d0, d0o, none⟩)] H1 fun r2 H2 =>
        ∃ n2 : Int,
        r2 = .int .i64 n2 ∧
        FnH Tryd.prog 26 #[.pointer (some ⟨d0, d0o, none⟩), .string name] H2 fun r3 H3 =>
          ∃ n3 : Int,
          r3 = .int .i64 n3 ∧
          br (decide (((b.size : Nat) : Int) > (IntKind.wrap .i64 (n2 + n3)))) (
            K (.int .i64 7) H3)
           (
            FnH Tryd.prog 30 #[.pointer (some ⟨d0, d0o, none⟩), .string name, .agg #[.string b, .int .i64 (b.size : Nat)]] H3 fun r4 H4 =>
              r4 = .tuple #[] ∧
              K (.int .i64 0) H4))
theorem disk_Disk_Replace_eq (d0 : Nat) (d0o : Nat) (name : ByteArray) (b : ByteArray) (H : Heap) (K : Value → Heap → Prop) : disk_Disk_Replace_vc d0 d0o name b H K = denFn Tryd.prog disk_Disk_Replace_ann Tryd.f19 (bodyOf Tryd.f19) [.pointer (some ⟨d0, d0o, none⟩), .string name, .string b] H K := by kernel_rfl
theorem disk_Disk_Replace_fn (d0 : Nat) (d0o : Nat) (name : ByteArray) (b : ByteArray) {H : Heap} {K : Value → Heap → Prop} (h : disk_Disk_Replace_vc d0 d0o name b H K) : FnH Tryd.prog 19 #[.pointer (some ⟨d0, d0o, none⟩), .string name, .string b] H K :=
  denFn_fn Tryd.mixed disk_Disk_Replace_ann Tryd.func19 (bodyOf_spec (by kernel_rfl)) (disk_Disk_Replace_eq d0 d0o name b H K) h

/-! function 20: (*logboom/disk.Disk).Names -/
def disk_Disk_Names_ann : Anns := { hid := [], loops := [], joins := [], mix := [] }
def disk_Disk_Names_vc (d0 : Nat) (d0o : Nat) (H : Heap) (K : Value → Heap → Prop) : Prop :=
  ∃ m1 : Option Nat,
  cellH H ⟨d0, d0o + 2, none⟩ = some (.map m1) ∧
  FnH Tryd.prog 32 #[.map m1] H fun r1 H1 =>
    ∃ v1 : Value,
    r1 = v1 ∧
    FnH Tryd.prog 31 #[v1] H1 fun r2 H2 =>
      ∃ l1 : Sl,
      r2 = .slice l1.p l1.n l1.c ∧
      K (.slice l1.p l1.n l1.c) H2
theorem disk_Disk_Names_eq (d0 : Nat) (d0o : Nat) (H : Heap) (K : Value → Heap → Prop) : disk_Disk_Names_vc d0 d0o H K = denFn Tryd.prog disk_Disk_Names_ann Tryd.f20 (bodyOf Tryd.f20) [.pointer (some ⟨d0, d0o, none⟩)] H K := by kernel_rfl
theorem disk_Disk_Names_fn (d0 : Nat) (d0o : Nat) {H : Heap} {K : Value → Heap → Prop} (h : disk_Disk_Names_vc d0 d0o H K) : FnH Tryd.prog 20 #[.pointer (some ⟨d0, d0o, none⟩)] H K :=
  denFn_fn Tryd.mixed disk_Disk_Names_ann Tryd.func20 (bodyOf_spec (by kernel_rfl)) (disk_Disk_Names_eq d0 d0o H K) h

/-! function 24: (*logboom/disk.Disk).Clone -/
def disk_Disk_Clone_ann : Anns := { hid := [], loops := [], joins := [], mix := [(1, [])] }
def disk_Disk_Clone_vc (d0 : Nat) (d0o : Nat) (H : Heap) (K : Value → Heap → Prop) : Prop :=
  ∃ n1 : Int,
  cellH H ⟨d0, d0o, none⟩ = some (.int .i64 n1) ∧
  ∃ n2 : Int,
  cellH H ⟨d0, d0o + 1, none⟩ = some (.int .i64 n2) ∧
  ∃ m1 : Option Nat,
  cellH H ⟨d0, d0o + 2, none⟩ = some (.map m1) ∧
  FnH Tryd.prog 47 #[.map m1] H fun r1 H1 =>
    ∃ m2 : Option Nat,
    r1 = .map m2 ∧
    Sub H H1 ∧
    ∀ q1 : Nat,
    H1 q1 = none →
    letH (Heap.upd H1 q1 (.cells #[.int .i64 n1, .int .i64 n2, .map m2] 57 (0, 0))) fun H2 =>
    Sub H H2 ∧
    K (.pointer (some ⟨q1, 0, none⟩)) H2
theorem disk_Disk_Clone_eq (d0 : Nat) (d0o : Nat) (H : Heap) (K : Value → Heap → Prop) : disk_Disk_Clone_vc d0 d0o H K = denFn Tryd.prog disk_Disk_Clone_ann Tryd.f24 (bodyOf Tryd.f24) [.pointer (some ⟨d0, d0o, none⟩)] H K := by kernel_rfl
theorem disk_Disk_Clone_fn (d0 : Nat) (d0o : Nat) {H : Heap} {K : Value → Heap → Prop} (h : disk_Disk_Clone_vc d0 d0o H K) : FnH Tryd.prog 24 #[.pointer (some ⟨d0, d0o, none⟩)] H K :=
  denFn_fn Tryd.mixed disk_Disk_Clone_ann Tryd.func24 (bodyOf_spec (by kernel_rfl)) (disk_Disk_Clone_eq d0 d0o H K) h

/-! function 26: (*logboom/disk.Disk).Size -/
def disk_Disk_Size_ann : Anns := { hid := [], loops := [], joins := [], mix := [] }
def disk_Disk_Size_vc (d0 : Nat) (d0o : Nat) (name : ByteArray) (H : Heap) (K : Value → Heap → Prop) : Prop :=
  ∃ m1 : Option Nat,
  cellH H ⟨d0, d0o + 2, none⟩ = some (.map m1) ∧
  runH Tryd.prog (Instr.lookup 55 (.map m1) (.string name) false) H fun r1 H1 =>
    ∃ s1 : ByteArray,
    ∃ n1 : Int,
    r1 = .agg #[.string s1, .int .i64 n1] ∧
    K (.int .i64 (s1.size : Nat)) H1
theorem disk_Disk_Size_eq (d0 : Nat) (d0o : Nat) (name : ByteArray) (H : Heap) (K : Value → Heap → Prop) : disk_Disk_Size_vc d0 d0o name H K = denFn Tryd.prog disk_Disk_Size_ann Tryd.f26 (bodyOf Tryd.f26) [.pointer (some ⟨d0, d0o, none⟩), .string name] H K := by kernel_rfl
theorem disk_Disk_Size_fn (d0 : Nat) (d0o : Nat) (name : ByteArray) {H : Heap} {K : Value → Heap → Prop} (h : disk_Disk_Size_vc d0 d0o name H K) : FnH Tryd.prog 26 #[.pointer (some ⟨d0, d0o, none⟩), .string name] H K :=
  denFn_fn Tryd.mixed disk_Disk_Size_ann Tryd.func26 (bodyOf_spec (by kernel_rfl)) (disk_Disk_Size_eq d0 d0o name H K) h

/-! function 29: (*logboom/disk.Disk).room -/
def disk_Disk_room_ann : Anns := { hid := [5], loops := [], joins := [], mix := [] }
def disk_Disk_room_vc (d0 : Nat) (d0o : Nat) (name : ByteArray) (H : Heap) (K : Value → Heap → Prop) : Prop :=
  FnH Tryd.prog 48 #[.string name] H fun r1 H1 =>
    ∃ b1 : Bool,
    r1 = .bool b1 ∧
    br (!b1) (
      K (.int .i64 1) H1)
     (
      ∃ m1 : Option Nat,
      cellH H1 ⟨d0, d0o + 2, none⟩ = some (.map m1) ∧
      runH Tryd.prog (Instr.lookup 55 (.map m1) (.string name) true) H1 fun r2 H2 =>
        ∃ s1 : ByteArray,
        ∃ n1 : Int,
        ∃ b2 : Bool,
        r2 = .tuple #[.agg #[.string s1, .int .i64 n1], .bool b2] ∧
        br (!b2) (
          ∃ m2 : Option Nat,
          cellH H2 ⟨d0, d0o + 2, none⟩ = some (.map m2) ∧
          lenM H2 m2 fun n2 =>
          br (decide (((n2 : Nat) : Int) ≥ 256)) (
            K (.int .i64 3) H2)
           (
            K (.int .i64 0) H2))
         (
          K (.int .i64 0) H2))
theorem disk_Disk_room_eq (d0 : Nat) (d0o : Nat) (name : ByteArray) (H : Heap) (K : Value → Heap → Prop) : disk_Disk_room_vc d0 d0o name H K = denFn Tryd.prog disk_Disk_room_ann Tryd.f29 (bodyOf Tryd.f29) [.pointer (some ⟨d0, d0o, none⟩), .string name] H K := by kernel_rfl
theorem disk_Disk_room_fn (d0 : Nat) (d0o : Nat) (name : ByteArray) {H : Heap} {K : Value → Heap → Prop} (h : disk_Disk_room_vc d0 d0o name H K) : FnH Tryd.prog 29 #[.pointer (some ⟨d0, d0o, none⟩), .string name] H K :=
  denFn_fn Tryd.mixed disk_Disk_room_ann Tryd.func29 (bodyOf_spec (by kernel_rfl)) (disk_Disk_room_eq d0 d0o name H K) h

/-! function 30: (*logboom/disk.Disk).put -/
def disk_Disk_put_ann : Anns := { hid := [5], loops := [], joins := [], mix := [(1, [19]), (2, [6])] }
def disk_Disk_put_vc (d0 : Nat) (d0o : Nat) (name : ByteArray) (f_0 : ByteArray) (f_1 : Int) (H : Heap) (K : Value → Heap → Prop) : Prop :=
  ∃ n1 : Int,
  cellH H ⟨d0, d0o + 1, none⟩ = some (.int .i64 n1) ∧
  ∃ m1 : Option Nat,
  cellH H ⟨d0, d0o + 2, none⟩ = some (.map m1) ∧
  runH Tryd.prog (Instr.lookup 55 (.map m1) (.string name) false) H fun r1 H1 =>
    ∃ s1 : ByteArray,
    ∃ n2 : Int,
    r1 = .agg #[.string s1, .int .i64 n2] ∧
    Sub H H1 ∧
    (∃ u, cellH H1 ⟨d0, d0o + 1, none⟩ = some u) ∧
    frozenH H1 ⟨d0, d0o + 1, none⟩ = false ∧
    letH (Heap.set H1 ⟨d0, d0o + 1, none⟩ (.int .i64 (IntKind.wrap .i64 (n1 + (IntKind.wrap .i64 ((f_0.size : Nat) - (s1.size : Nat))))))) fun H2 =>
    ∃ m2 : Option Nat,
    cellH H2 ⟨d0, d0o + 2, none⟩ = some (.map m2) ∧
    runH Tryd.prog (Instr.mapUpdate 55 (.map m2) (.string name) (.agg #[.string f_0, .int .i64 f_1])) H2 fun _ H3 =>
      K (.tuple #[]) H3
theorem disk_Disk_put_eq (d0 : Nat) (d0o : Nat) (name : ByteArray) (f_0 : ByteArray) (f_1 : Int) (H : Heap) (K : Value → Heap → Prop) : disk_Disk_put_vc d0 d0o name f_0 f_1 H K = denFn Tryd.prog disk_Disk_put_ann Tryd.f30 (bodyOf Tryd.f30) [.pointer (some ⟨d0, d0o, none⟩), .string name, .agg #[.string f_0, .int .i64 f_1]] H K := by kernel_rfl
theorem disk_Disk_put_fn (d0 : Nat) (d0o : Nat) (name : ByteArray) (f_0 : ByteArray) (f_1 : Int) {H : Heap} {K : Value → Heap → Prop} (h : disk_Disk_put_vc d0 d0o name f_0 f_1 H K) : FnH Tryd.prog 30 #[.pointer (some ⟨d0, d0o, none⟩), .string name, .agg #[.string f_0, .int .i64 f_1]] H K :=
  denFn_fn Tryd.mixed disk_Disk_put_ann Tryd.func30 (bodyOf_spec (by kernel_rfl)) (disk_Disk_put_eq d0 d0o name f_0 f_1 H K) h

/-! function 35: (*logboom/disk.Disk).Cut -/
def disk_Disk_Cut_ann : Anns := { hid := [7], loops := [], joins := [], mix := [(6, [11])] }
def disk_Disk_Cut_vc (d0 : Nat) (d0o : Nat) (name : ByteArray) (n : Int) (H : Heap) (K : Value → Heap → Prop) : Prop :=
  ∃ m1 : Option Nat,
  cellH H ⟨d0, d0o + 2, none⟩ = some (.map m1) ∧
  runH Tryd.prog (Instr.lookup 55 (.map m1) (.string name) true) H fun r1 H1 =>
    ∃ s1 : ByteArray,
    ∃ n1 : Int,
    ∃ b1 : Bool,
    r1 = .tuple #[.agg #[.string s1, .int .i64 n1], .bool b1] ∧
    br (!b1) (
      K (.int .i64 8) H1)
     (
      br (decide ((n : Int) < 0)) (
        K (.int .i64 1) H1)
       (
        br (decide ((n : Int) > (s1.size : Nat))) (
          K (.int .i64 1) H1)
         (
          0 ≤ (n : Int) ∧
          (n : Int) ≤ (s1.size : Nat) ∧
          FnH Tryd.prog 30 #[.pointer (some ⟨d0, d0o, none⟩), .string name, .agg #[.string (s1.extract (Int.toNat (0 : Int)) (Int.toNat n)), .int .i64 (if n < n1 then n else n1)]] H1 fun r2 H2 =>
            r2 = .tuple #[] ∧
            K (.int .i64 0) H2)))
theorem disk_Disk_Cut_eq (d0 : Nat) (d0o : Nat) (name : ByteArray) (n : Int) (H : Heap) (K : Value → Heap → Prop) : disk_Disk_Cut_vc d0 d0o name n H K = denFn Tryd.prog disk_Disk_Cut_ann Tryd.f35 (bodyOf Tryd.f35) [.pointer (some ⟨d0, d0o, none⟩), .string name, .int .i64 n] H K := by kernel_rfl
theorem disk_Disk_Cut_fn (d0 : Nat) (d0o : Nat) (name : ByteArray) (n : Int) {H : Heap} {K : Value → Heap → Prop} (h : disk_Disk_Cut_vc d0 d0o name n H K) : FnH Tryd.prog 35 #[.pointer (some ⟨d0, d0o, none⟩), .string name, .int .i64 n] H K :=
  denFn_fn Tryd.mixed disk_Disk_Cut_ann Tryd.func35 (bodyOf_spec (by kernel_rfl)) (disk_Disk_Cut_eq d0 d0o name n H K) h

/-! function 38: (*logboom/disk.Disk).Rename -/
def disk_Disk_Rename_ann : Anns := { hid := [7], loops := [], joins := [], mix := [] }
def disk_Disk_Rename_vc (d0 : Nat) (d0o : Nat) (name : ByteArray) (to : ByteArray) (H : Heap) (K : Value → Heap → Prop) : Prop :=
  ∃ m1 : Option Nat,
  cellH H ⟨d0, d0o + 2, none⟩ = some (.map m1) ∧
  runH Tryd.prog (Instr.lookup 55 (.map m1) (.string name) true) H fun r1 H1 =>
    ∃ s1 : ByteArray,
    ∃ n1 : Int,
    ∃ b1 : Bool,
    r1 = .tuple #[.agg #[.string s1, .int .i64 n1], .bool b1] ∧
    FnH Tryd.prog 48 #[.string to] H1 fun r2 H2 =>
      ∃ b2 : Bool,
      r2 = .bool b2 ∧
      br (!b2) (
        K (.int .i64 1) H2)
       (
        br (!b1) (
          K (.int .i64 8) H2)
         (
          br (!(name.toList == to.toList)) (
            FnH Tryd.prog 40 #[.pointer (some ⟨d0, d0o, none⟩), .string name] H2 fun r3 H3 =>
              ∃ n2 : Int,
              r3 = .int .i64 n2 ∧
              FnH Tryd.prog 30 #[.pointer (some ⟨d0, d0o, none⟩), .string to, .agg #[.string s1, .int .i64 n1]] H3 fun r4 H4 =>
                r4 = .tuple #[] ∧
                K (.int .i64 0) H4)
           (
            K (.int .i64 0) H2)))
theorem disk_Disk_Rename_eq (d0 : Nat) (d0o : Nat) (name : ByteArray) (to : ByteArray) (H : Heap) (K : Value → Heap → Prop) : disk_Disk_Rename_vc d0 d0o name to H K = denFn Tryd.prog disk_Disk_Rename_ann Tryd.f38 (bodyOf Tryd.f38) [.pointer (some ⟨d0, d0o, none⟩), .string name, .string to] H K := by kernel_rfl
theorem disk_Disk_Rename_fn (d0 : Nat) (d0o : Nat) (name : ByteArray) (to : ByteArray) {H : Heap} {K : Value → Heap → Prop} (h : disk_Disk_Rename_vc d0 d0o name to H K) : FnH Tryd.prog 38 #[.pointer (some ⟨d0, d0o, none⟩), .string name, .string to] H K :=
  denFn_fn Tryd.mixed disk_Disk_Rename_ann Tryd.func38 (bodyOf_spec (by kernel_rfl)) (disk_Disk_Rename_eq d0 d0o name to H K) h

/-! function 40: (*logboom/disk.Disk).Remove -/
def disk_Disk_Remove_ann : Anns := { hid := [5], loops := [], joins := [], mix := [] }
def disk_Disk_Remove_vc (d0 : Nat) (d0o : Nat) (name : ByteArray) (H : Heap) (K : Value → Heap → Prop) : Prop :=
  ∃ m1 : Option Nat,
  cellH H ⟨d0, d0o + 2, none⟩ = some (.map m1) ∧
  runH Tryd.prog (Instr.lookup 55 (.map m1) (.string name) true) H fun r1 H1 =>
    ∃ s1 : ByteArray,
    ∃ n1 : Int,
    ∃ b1 : Bool,
    r1 = .tuple #[.agg #[.string s1, .int .i64 n1], .bool b1] ∧
    br (!b1) (
      K (.int .i64 8) H1)
     (
      FnH Tryd.prog 30 #[.pointer (some ⟨d0, d0o, none⟩), .string name, .agg #[.string (⟨#[]⟩ : ByteArray), .int .i64 0]] H1 fun r2 H2 =>
        r2 = .tuple #[] ∧
        ∃ m2 : Option Nat,
        cellH H2 ⟨d0, d0o + 2, none⟩ = some (.map m2) ∧
        runH Tryd.prog (Builtin.delete_ #[55, 9] 0 #[.map m2, .string name]) H2 fun r3 H3 =>
          r3 = .tuple #[] ∧
          K (.int .i64 0) H3)
theorem disk_Disk_Remove_eq (d0 : Nat) (d0o : Nat) (name : ByteArray) (H : Heap) (K : Value → Heap → Prop) : disk_Disk_Remove_vc d0 d0o name H K = denFn Tryd.prog disk_Disk_Remove_ann Tryd.f40 (bodyOf Tryd.f40) [.pointer (some ⟨d0, d0o, none⟩), .string name] H K := by kernel_rfl
theorem disk_Disk_Remove_fn (d0 : Nat) (d0o : Nat) (name : ByteArray) {H : Heap} {K : Value → Heap → Prop} (h : disk_Disk_Remove_vc d0 d0o name H K) : FnH Tryd.prog 40 #[.pointer (some ⟨d0, d0o, none⟩), .string name] H K :=
  denFn_fn Tryd.mixed disk_Disk_Remove_ann Tryd.func40 (bodyOf_spec (by kernel_rfl)) (disk_Disk_Remove_eq d0 d0o name H K) h

/-! function 48: logboom/disk.named -/
def disk_named_ann : Anns := { hid := [], loops := [], joins := [], mix := [] }
def disk_named_vc (s : ByteArray) (H : Heap) (K : Value → Heap → Prop) : Prop :=
  br (!(s.toList == (⟨#[]⟩ : ByteArray).toList)) (
    br (decide (((s.size : Nat) : Int) ≤ 64)) (
      FnH Tryd.prog 58 #[.string s, .string (⟨#[97, 98, 99, 100, 101, 102, 103, 104, 105, 106, 107, 108, 109, 110, 111, 112, 113, 114, 115, 116, 117, 118, 119, 120, 121, 122, 48, 49, 50, 51, 52, 53, 54, 55, 56, 57, 45, 46]⟩ : ByteArray)] H fun r1 H1 =>
        ∃ s1 : ByteArray,
        r1 = .string s1 ∧
        K (.bool (s1.toList == (⟨#[]⟩ : ByteArray).toList)) H1)
     (
      K (.bool false) H))
   (
    K (.bool false) H)
theorem disk_named_eq (s : ByteArray) (H : Heap) (K : Value → Heap → Prop) : disk_named_vc s H K = denFn Tryd.prog disk_named_ann Tryd.f48 (bodyOf Tryd.f48) [.string s] H K := by kernel_rfl
theorem disk_named_fn (s : ByteArray) {H : Heap} {K : Value → Heap → Prop} (h : disk_named_vc s H K) : FnH Tryd.prog 48 #[.string s] H K :=
  denFn_fn Tryd.mixed disk_named_ann Tryd.func48 (bodyOf_spec (by kernel_rfl)) (disk_named_eq s H K) h

end Go.Proofs.YtldaflbdldepnaaDoor
