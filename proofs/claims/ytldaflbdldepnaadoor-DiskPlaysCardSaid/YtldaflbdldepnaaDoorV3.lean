/- Formulas of functions, printed by this session's vc.py; each is tied to the program by the kernel. -/
import Derived.Test.YtldaflbdldepnaaDoorProg
import Derived.KernelRfl
import Derived.Test.YtldaflbdldepnaaDoorHlFn
import Derived.Test.YtldaflbdldepnaaDoorV2
namespace Go.Proofs.YtldaflbdldepnaaDoor
open Go.HL
set_option maxRecDepth 100000
/-! function 21: logboom/logboomref1.New -/
def logboomref1_New_ann : Anns := { hid := [], loops := [], joins := [], mix := [] }
def logboomref1_New_vc (size : Int) (H : Heap) (K : Value → Heap → Prop) : Prop :=
  br (decide ((size : Int) < 1)) (
    K (.pointer none) H)
   (
    br (decide ((size : Int) > 16777216)) (
      K (.pointer none) H)
     (
      ∀ q1 : Nat,
      H q1 = none →
      letH (Heap.upd H q1 (.cells #[.int .i64 size, .slice none 0 0] 68 (0, 0))) fun H1 =>
      K (.pointer (some ⟨q1, 0, none⟩)) H1))
theorem logboomref1_New_eq (size : Int) (H : Heap) (K : Value → Heap → Prop) : logboomref1_New_vc size H K = denFn Tryd.prog logboomref1_New_ann Tryd.f21 (bodyOf Tryd.f21) [.int .i64 size] H K := by kernel_rfl
theorem logboomref1_New_fn (size : Int) {H : Heap} {K : Value → Heap → Prop} (h : logboomref1_New_vc size H K) : FnH Tryd.prog 21 #[.int .i64 size] H K :=
  denFn_fn Tryd.mixed logboomref1_New_ann Tryd.func21 (bodyOf_spec (by kernel_rfl)) (logboomref1_New_eq size H K) h

/-! function 33: (*logboom/logboomref1.Disk).Append -/
def logboomref1_Disk_Append_ann : Anns := { hid := [], loops := [], joins := [], mix := [(6, []), (8, [11])] }
def logboomref1_Disk_Append_vc (d0 : Nat) (d0o : Nat) (name : ByteArray) (b : ByteArray) (H : Heap) (K : Value → Heap → Prop) : Prop :=
  FnH Tryd.prog 52 #[.pointer (some ⟨d0, d0o, none⟩), .string name] H fun r1 H1 =>
    ∃ n1 : Int,
    r1 = .int .i64 n1 ∧
    br ((n1 : Int) != 0) (
      K (.int .i64 n1) H1)
     (
      FnH Tryd.prog 53 #[.pointer (some ⟨d0, d0o, none⟩), .string name] H1 fun r2 H2 =>
        ∃ n2 : Int,
        r2 = .int .i64 n2 ∧
        br (decide ((n2 : Int) < 0)) (
          FnH Tryd.prog 54 #[.pointer (some ⟨d0, d0o, none⟩), .agg #[.string name, .string (⟨#[]⟩ : ByteArray), .int .i64 0]] H2 fun r3 H3 =>
            r3 = .tuple #[] ∧
            ∃ l1 : Sl,
            cellH H3 ⟨d0, d0o + 1, none⟩ = some (.slice l1.p l1.n l1.c) ∧
            FnH Tryd.prog 53 #[.pointer (some ⟨d0, d0o, none⟩), .string name] H3 fun r4 H4 =>
              ∃ n3 : Int,
              r4 = .int .i64 n3 ∧
              Sub H3 H4 ∧
              ∃ q1 : Nat,
              ∃ o1 : Nat,
              (l1.p : Option Addr) = some ⟨q1, o1, none⟩ ∧
              0 ≤ (n3 : Int) ∧
              (n3 : Int) < (l1.n : Nat) ∧
              FnH Tryd.prog 46 #[.pointer (some ⟨d0, d0o, none⟩)] H4 fun r5 H5 =>
                ∃ n4 : Int,
                r5 = .int .i64 n4 ∧
                ∃ s1 : ByteArray,
                cellH H5 ⟨q1, o1 + Int.toNat n3 * 3 + 1, none⟩ = some (.string s1) ∧
                0 ≤ (if (b.size : Nat) < n4 then (b.size : Nat) else n4 : Int) ∧
                (if (b.size : Nat) < n4 then (b.size : Nat) else n4 : Int) ≤ (b.size : Nat) ∧
                s1.size + (b.extract (Int.toNat (0 : Int)) (Int.toNat (if (b.size : Nat) < n4 then (b.size : Nat) else n4))).size < 9223372036854775808 ∧
                (∃ u, cellH H5 ⟨q1, o1 + Int.toNat n3 * 3 + 1, none⟩ = some u) ∧
                frozenH H5 ⟨q1, o1 + Int.toNat n3 * 3 + 1, none⟩ = false ∧
                letH (Heap.set H5 ⟨q1, o1 + Int.toNat n3 * 3 + 1, none⟩ (.string (s1 ++ (b.extract (Int.toNat (0 : Int)) (Int.toNat (if (b.size : Nat) < n4 then (b.size : Nat) else n4)))))) fun H6 =>
                br (decide (((if (b.size : Nat) < n4 then (b.size : Nat) else n4) : Int) < (b.size : Nat))) (
                  K (.int .i64 7) H6)
                 (
                  K (.int .i64 0) H6))
         (
          ∃ l2 : Sl,
          cellH H2 ⟨d0, d0o + 1, none⟩ = some (.slice l2.p l2.n l2.c) ∧
          FnH Tryd.prog 53 #[.pointer (some ⟨d0, d0o, none⟩), .string name] H2 fun r6 H7 =>
            ∃ n5 : Int,
            r6 = .int .i64 n5 ∧
            Sub H2 H7 ∧
            ∃ q2 : Nat,
            ∃ o2 : Nat,
            (l2.p : Option Addr) = some ⟨q2, o2, none⟩ ∧
            0 ≤ (n5 : Int) ∧
            (n5 : Int) < (l2.n : Nat) ∧
            FnH Tryd.prog 46 #[.pointer (some ⟨d0, d0o, none⟩)] H7 fun r7 H8 =>
              ∃ n6 : Int,
              r7 = .int .i64 n6 ∧
              ∃ s2 : ByteArray,
              cellH H8 ⟨q2, o2 + Int.toNat n5 * 3 + 1, none⟩ = some (.string s2) ∧
              0 ≤ (if (b.size : Nat) < n6 then (b.size : Nat) else n6 : Int) ∧
              (if (b.size : Nat) < n6 then (b.size : Nat) else n6 : Int) ≤ (b.size : Nat) ∧
              s2.size + (b.extract (Int.toNat (0 : Int)) (Int.toNat (if (b.size : Nat) < n6 then (b.size : Nat) else n6))).size < 9223372036854775808 ∧
              (∃ u, cellH H8 ⟨q2, o2 + Int.toNat n5 * 3 + 1, none⟩ = some u) ∧
              frozenH H8 ⟨q2, o2 + Int.toNat n5 * 3 + 1, none⟩ = false ∧
              letH (Heap.set H8 ⟨q2, o2 + Int.toNat n5 * 3 + 1, none⟩ (.string (s2 ++ (b.extract (Int.toNat (0 : Int)) (Int.toNat (if (b.size : Nat) < n6 then (b.size : Nat) else n6)))))) fun H9 =>
              br (decide (((if (b.size : Nat) < n6 then (b.size : Nat) else n6) : Int) < (b.size : Nat))) (
                K (.int .i64 7) H9)
               (
                K (.int .i64 0) H9)))
theorem logboomref1_Disk_Append_eq (d0 : Nat) (d0o : Nat) (name : ByteArray) (b : ByteArray) (H : Heap) (K : Value → Heap → Prop) : logboomref1_Disk_Append_vc d0 d0o name b H K = denFn Tryd.prog logboomref1_Disk_Append_ann Tryd.f33 (bodyOf Tryd.f33) [.pointer (some ⟨d0, d0o, none⟩), .string name, .string b] H K := by kernel_rfl
theorem logboomref1_Disk_Append_fn (d0 : Nat) (d0o : Nat) (name : ByteArray) (b : ByteArray) {H : Heap} {K : Value → Heap → Prop} (h : logboomref1_Disk_Append_vc d0 d0o name b H K) : FnH Tryd.prog 33 #[.pointer (some ⟨d0, d0o, none⟩), .string name, .string b] H K :=
  denFn_fn Tryd.mixed logboomref1_Disk_Append_ann Tryd.func33 (bodyOf_spec (by kernel_rfl)) (logboomref1_Disk_Append_eq d0 d0o name b H K) h

/-! function 34: (*logboom/logboomref1.Disk).Sync -/
def logboomref1_Disk_Sync_ann : Anns := { hid := [], loops := [], joins := [], mix := [(4, [16])] }
def logboomref1_Disk_Sync_vc (d0 : Nat) (d0o : Nat) (name : ByteArray) (H : Heap) (K : Value → Heap → Prop) : Prop :=
  FnH Tryd.prog 53 #[.pointer (some ⟨d0, d0o, none⟩), .string name] H fun r1 H1 =>
    ∃ n1 : Int,
    r1 = .int .i64 n1 ∧
    br (decide ((n1 : Int) < 0)) (
      K (.int .i64 8) H1)
     (
      ∃ l1 : Sl,
      cellH H1 ⟨d0, d0o + 1, none⟩ = some (.slice l1.p l1.n l1.c) ∧
      ∃ l2 : Sl,
      cellH H1 ⟨d0, d0o + 1, none⟩ = some (.slice l2.p l2.n l2.c) ∧
      ∃ q1 : Nat,
      ∃ o1 : Nat,
      (l2.p : Option Addr) = some ⟨q1, o1, none⟩ ∧
      0 ≤ (n1 : Int) ∧
      (n1 : Int) < (l2.n : Nat) ∧
      ∃ s1 : ByteArray,
      cellH H1 ⟨q1, o1 + Int.toNat n1 * 3 + 1, none⟩ = some (.string s1) ∧
      ∃ q2 : Nat,
      ∃ o2 : Nat,
      (l1.p : Option Addr) = some ⟨q2, o2, none⟩ ∧
      0 ≤ (n1 : Int) ∧
      (n1 : Int) < (l1.n : Nat) ∧
      (∃ u, cellH H1 ⟨q2, o2 + Int.toNat n1 * 3 + 2, none⟩ = some u) ∧
      frozenH H1 ⟨q2, o2 + Int.toNat n1 * 3 + 2, none⟩ = false ∧
      letH (Heap.set H1 ⟨q2, o2 + Int.toNat n1 * 3 + 2, none⟩ (.int .i64 (s1.size : Nat))) fun H2 =>
      K (.int .i64 0) H2)
theorem logboomref1_Disk_Sync_eq (d0 : Nat) (d0o : Nat) (name : ByteArray) (H : Heap) (K : Value → Heap → Prop) : logboomref1_Disk_Sync_vc d0 d0o name H K = denFn Tryd.prog logboomref1_Disk_Sync_ann Tryd.f34 (bodyOf Tryd.f34) [.pointer (some ⟨d0, d0o, none⟩), .string name] H K := by kernel_rfl
theorem logboomref1_Disk_Sync_fn (d0 : Nat) (d0o : Nat) (name : ByteArray) {H : Heap} {K : Value → Heap → Prop} (h : logboomref1_Disk_Sync_vc d0 d0o name H K) : FnH Tryd.prog 34 #[.pointer (some ⟨d0, d0o, none⟩), .string name] H K :=
  denFn_fn Tryd.mixed logboomref1_Disk_Sync_ann Tryd.func34 (bodyOf_spec (by kernel_rfl)) (logboomref1_Disk_Sync_eq d0 d0o name H K) h

/-! function 36: (*logboom/logboomref1.Disk).Cut -/
def logboomref1_Disk_Cut_ann : Anns := { hid := [], loops := [], joins := [], mix := [] }
def logboomref1_Disk_Cut_vc (d0 : Nat) (d0o : Nat) (name : ByteArray) (n : Int) (H : Heap) (K : Value → Heap → Prop) : Prop :=
  FnH Tryd.prog 53 #[.pointer (some ⟨d0, d0o, none⟩), .string name] H fun r1 H1 =>
    ∃ n1 : Int,
    r1 = .int .i64 n1 ∧
    br (decide ((n1 : Int) < 0)) (
      K (.int .i64 8) H1)
     (
      ∃ l1 : Sl,
      cellH H1 ⟨d0, d0o + 1, none⟩ = some (.slice l1.p l1.n l1.c) ∧
      ∃ q1 : Nat,
      ∃ o1 : Nat,
      (l1.p : Option Addr) = some ⟨q1, o1, none⟩ ∧
      0 ≤ (n1 : Int) ∧
      (n1 : Int) < (l1.n : Nat) ∧
      br (decide ((n : Int) < 0)) (
        K (.int .i64 1) H1)
       (
        ∃ s1 : ByteArray,
        cellH H1 ⟨q1, o1 + Int.toNat n1 * 3 + 1, none⟩ = some (.string s1) ∧
        br (decide ((n : Int) > (s1.size : Nat))) (
          K (.int .i64 1) H1)
         (
          ∃ s2 : ByteArray,
          cellH H1 ⟨q1, o1 + Int.toNat n1 * 3 + 1, none⟩ = some (.string s2) ∧
          0 ≤ (n : Int) ∧
          (n : Int) ≤ (s2.size : Nat) ∧
          (∃ u, cellH H1 ⟨q1, o1 + Int.toNat n1 * 3 + 1, none⟩ = some u) ∧
          frozenH H1 ⟨q1, o1 + Int.toNat n1 * 3 + 1, none⟩ = false ∧
          letH (Heap.set H1 ⟨q1, o1 + Int.toNat n1 * 3 + 1, none⟩ (.string (s2.extract (Int.toNat (0 : Int)) (Int.toNat n)))) fun H2 =>
          ∃ n2 : Int,
          cellH H2 ⟨q1, o1 + Int.toNat n1 * 3 + 2, none⟩ = some (.int .i64 n2) ∧
          (∃ u, cellH H2 ⟨q1, o1 + Int.toNat n1 * 3 + 2, none⟩ = some u) ∧
          frozenH H2 ⟨q1, o1 + Int.toNat n1 * 3 + 2, none⟩ = false ∧
          letH (Heap.set H2 ⟨q1, o1 + Int.toNat n1 * 3 + 2, none⟩ (.int .i64 (if n < n2 then n else n2))) fun H3 =>
          K (.int .i64 0) H3)))
theorem logboomref1_Disk_Cut_eq (d0 : Nat) (d0o : Nat) (name : ByteArray) (n : Int) (H : Heap) (K : Value → Heap → Prop) : logboomref1_Disk_Cut_vc d0 d0o name n H K = denFn Tryd.prog logboomref1_Disk_Cut_ann Tryd.f36 (bodyOf Tryd.f36) [.pointer (some ⟨d0, d0o, none⟩), .string name, .int .i64 n] H K := by kernel_rfl
theorem logboomref1_Disk_Cut_fn (d0 : Nat) (d0o : Nat) (name : ByteArray) (n : Int) {H : Heap} {K : Value → Heap → Prop} (h : logboomref1_Disk_Cut_vc d0 d0o name n H K) : FnH Tryd.prog 36 #[.pointer (some ⟨d0, d0o, none⟩), .string name, .int .i64 n] H K :=
  denFn_fn Tryd.mixed logboomref1_Disk_Cut_ann Tryd.func36 (bodyOf_spec (by kernel_rfl)) (logboomref1_Disk_Cut_eq d0 d0o name n H K) h

/-! function 37: (*logboom/logboomref1.Disk).Replace -/
def logboomref1_Disk_Replace_ann : Anns := { hid := [], loops := [], joins := [], mix := [] }
def logboomref1_Disk_Replace_vc (d0 : Nat) (d0o : Nat) (name : ByteArray) (b : ByteArray) (H : Heap) (K : Value → Heap → Prop) : Prop :=
  FnH Tryd.prog 52 #[.pointer (some ⟨d0, d0o, none⟩), .string name] H fun r1 H1 =>
    ∃ n1 : Int,
    r1 = .int .i64 n1 ∧
    br ((n1 : Int) != 0) (
      K (.int .i64 n1) H1)
     (
      FnH Tryd.prog 53 #[.pointer (some ⟨d0, d0o, none⟩), .string name] H1 fun r2 H2 =>
        ∃ n2 : Int,
        r2 = .int .i64 n2 ∧
        FnH Tryd.prog 46 #[.pointer (some ⟨d0, d0o, none⟩)] H2 fun r3 H3 =>
          ∃ n3 : Int,
          r3 = .int .i64 n3 ∧
          br (decide ((n2 : Int) ≥ 0)) (
            ∃ l1 : Sl,
            cellH H3 ⟨d0, d0o + 1, none⟩ = some (.slice l1.p l1.n l1.c) ∧
            ∃ q1 : Nat,
            ∃ o1 : Nat,
            (l1.p : Option Addr) = some ⟨q1, o1, none⟩ ∧
            0 ≤ (n2 : Int) ∧
            (n2 : Int) < (l1.n : Nat) ∧
            ∃ s1 : ByteArray,
            cellH H3 ⟨q1, o1 + Int.toNat n2 * 3 + 1, none⟩ = some (.string s1) ∧
            br (decide (((b.size : Nat) : Int) > (IntKind.wrap .i64 (n3 + (s1.size : Nat))))) (
              K (.int .i64 7) H3)
             (
              br (decide ((n2 : Int) ≥ 0)) (
                FnH Tryd.prog 55 #[.pointer (some ⟨d0, d0o, none⟩), .int .i64 n2] H3 fun r4 H4 =>
                  r4 = .tuple #[] ∧
                  FnH Tryd.prog 54 #[.pointer (some ⟨d0, d0o, none⟩), .agg #[.string name, .string b, .int .i64 (b.size : Nat)]] H4 fun r5 H5 =>
                    r5 = .tuple #[] ∧
                    K (.int .i64 0) H5)
               (
                FnH Tryd.prog 54 #[.pointer (some ⟨d0, d0o, none⟩), .agg #[.string name, .string b, .int .i64 (b.size : Nat)]] H3 fun r6 H6 =>
                  r6 = .tuple #[] ∧
                  K (.int .i64 0) H6)))
           (
            br (decide (((b.size : Nat) : Int) > n3)) (
              K (.int .i64 7) H3)
             (
              br (decide ((n2 : Int) ≥ 0)) (
                FnH Tryd.prog 55 #[.pointer (some ⟨d0, d0o, none⟩), .int .i64 n2] H3 fun r7 H7 =>
                  r7 = .tuple #[] ∧
                  FnH Tryd.prog 54 #[.pointer (some ⟨d0, d0o, none⟩), .agg #[.string name, .string b, .int .i64 (b.size : Nat)]] H7 fun r8 H8 =>
                    r8 = .tuple #[] ∧
                    K (.int .i64 0) H8)
               (
                FnH Tryd.prog 54 #[.pointer (some ⟨d0, d0o, none⟩), .agg #[.string name, .string b, .int .i64 (b.size : Nat)]] H3 fun r9 H9 =>
                  r9 = .tuple #[] ∧
                  K (.int .i64 0) H9))))
theorem logboomref1_Disk_Replace_eq (d0 : Nat) (d0o : Nat) (name : ByteArray) (b : ByteArray) (H : Heap) (K : Value → Heap → Prop) : logboomref1_Disk_Replace_vc d0 d0o name b H K = denFn Tryd.prog logboomref1_Disk_Replace_ann Tryd.f37 (bodyOf Tryd.f37) [.pointer (some ⟨d0, d0o, none⟩), .string name, .string b] H K := by kernel_rfl
theorem logboomref1_Disk_Replace_fn (d0 : Nat) (d0o : Nat) (name : ByteArray) (b : ByteArray) {H : Heap} {K : Value → Heap → Prop} (h : logboomref1_Disk_Replace_vc d0 d0o name b H K) : FnH Tryd.prog 37 #[.pointer (some ⟨d0, d0o, none⟩), .string name, .string b] H K :=
  denFn_fn Tryd.mixed logboomref1_Disk_Replace_ann Tryd.func37 (bodyOf_spec (by kernel_rfl)) (logboomref1_Disk_Replace_eq d0 d0o name b H K) h

/-! function 39: (*logboom/logboomref1.Disk).Rename -/
def logboomref1_Disk_Rename_ann : Anns := { hid := [9], loops := [], joins := [], mix := [] }
def logboomref1_Disk_Rename_vc (d0 : Nat) (d0o : Nat) (name : ByteArray) (to : ByteArray) (H : Heap) (K : Value → Heap → Prop) : Prop :=
  FnH Tryd.prog 56 #[.string to] H fun r1 H1 =>
    ∃ b1 : Bool,
    r1 = .bool b1 ∧
    FnH Tryd.prog 53 #[.pointer (some ⟨d0, d0o, none⟩), .string name] H1 fun r2 H2 =>
      ∃ n1 : Int,
      r2 = .int .i64 n1 ∧
      br (!b1) (
        K (.int .i64 1) H2)
       (
        br (decide ((n1 : Int) < 0)) (
          K (.int .i64 8) H2)
         (
          br (name.toList == to.toList) (
            K (.int .i64 0) H2)
           (
            ∃ l1 : Sl,
            cellH H2 ⟨d0, d0o + 1, none⟩ = some (.slice l1.p l1.n l1.c) ∧
            ∃ q1 : Nat,
            ∃ o1 : Nat,
            (l1.p : Option Addr) = some ⟨q1, o1, none⟩ ∧
            0 ≤ (n1 : Int) ∧
            (n1 : Int) < (l1.n : Nat) ∧
            ∃ s1 : ByteArray,
            cellH H2 ⟨q1, o1 + Int.toNat n1 * 3, none⟩ = some (.string s1) ∧
            ∃ s2 : ByteArray,
            cellH H2 ⟨q1, o1 + Int.toNat n1 * 3 + 1, none⟩ = some (.string s2) ∧
            ∃ n2 : Int,
            cellH H2 ⟨q1, o1 + Int.toNat n1 * 3 + 2, none⟩ = some (.int .i64 n2) ∧
            FnH Tryd.prog 55 #[.pointer (some ⟨d0, d0o, none⟩), .int .i64 n1] H2 fun r3 H3 =>
              r3 = .tuple #[] ∧
              FnH Tryd.prog 53 #[.pointer (some ⟨d0, d0o, none⟩), .string to] H3 fun r4 H4 =>
                ∃ n3 : Int,
                r4 = .int .i64 n3 ∧
                br (decide ((n3 : Int) ≥ 0)) (
                  FnH Tryd.prog 55 #[.pointer (some ⟨d0, d0o, none⟩), .int .i64 n3] H4 fun r5 H5 =>
                    r5 = .tuple #[] ∧
                    FnH Tryd.prog 54 #[.pointer (some ⟨d0, d0o, none⟩), .agg #[.string to, .string s2, .int .i64 n2]] H5 fun r6 H6 =>
                      r6 = .tuple #[] ∧
                      K (.int .i64 0) H6)
                 (
                  FnH Tryd.prog 54 #[.pointer (some ⟨d0, d0o, none⟩), .agg #[.string to, .string s2, .int .i64 n2]] H4 fun r7 H7 =>
                    r7 = .tuple #[] ∧
                    K (.int .i64 0) H7))))
theorem logboomref1_Disk_Rename_eq (d0 : Nat) (d0o : Nat) (name : ByteArray) (to : ByteArray) (H : Heap) (K : Value → Heap → Prop) : logboomref1_Disk_Rename_vc d0 d0o name to H K = denFn Tryd.prog logboomref1_Disk_Rename_ann Tryd.f39 (bodyOf Tryd.f39) [.pointer (some ⟨d0, d0o, none⟩), .string name, .string to] H K := by kernel_rfl
theorem logboomref1_Disk_Rename_fn (d0 : Nat) (d0o : Nat) (name : ByteArray) (to : ByteArray) {H : Heap} {K : Value → Heap → Prop} (h : logboomref1_Disk_Rename_vc d0 d0o name to H K) : FnH Tryd.prog 39 #[.pointer (some ⟨d0, d0o, none⟩), .string name, .string to] H K :=
  denFn_fn Tryd.mixed logboomref1_Disk_Rename_ann Tryd.func39 (bodyOf_spec (by kernel_rfl)) (logboomref1_Disk_Rename_eq d0 d0o name to H K) h

/-! function 41: (*logboom/logboomref1.Disk).Remove -/
def logboomref1_Disk_Remove_ann : Anns := { hid := [], loops := [], joins := [], mix := [] }
def logboomref1_Disk_Remove_vc (d0 : Nat) (d0o : Nat) (name : ByteArray) (H : Heap) (K : Value → Heap → Prop) : Prop :=
  FnH Tryd.prog 53 #[.pointer (some ⟨d0, d0o, none⟩), .string name] H fun r1 H1 =>
    ∃ n1 : Int,
    r1 = .int .i64 n1 ∧
    br (decide ((n1 : Int) < 0)) (
      K (.int .i64 8) H1)
     (
      FnH Tryd.prog 55 #[.pointer (some ⟨d0, d0o, none⟩), .int .i64 n1] H1 fun r2 H2 =>
        r2 = .tuple #[] ∧
        K (.int .i64 0) H2)
theorem logboomref1_Disk_Remove_eq (d0 : Nat) (d0o : Nat) (name : ByteArray) (H : Heap) (K : Value → Heap → Prop) : logboomref1_Disk_Remove_vc d0 d0o name H K = denFn Tryd.prog logboomref1_Disk_Remove_ann Tryd.f41 (bodyOf Tryd.f41) [.pointer (some ⟨d0, d0o, none⟩), .string name] H K := by kernel_rfl
theorem logboomref1_Disk_Remove_fn (d0 : Nat) (d0o : Nat) (name : ByteArray) {H : Heap} {K : Value → Heap → Prop} (h : logboomref1_Disk_Remove_vc d0 d0o name H K) : FnH Tryd.prog 41 #[.pointer (some ⟨d0, d0o, none⟩), .string name] H K :=
  denFn_fn Tryd.mixed logboomref1_Disk_Remove_ann Tryd.func41 (bodyOf_spec (by kernel_rfl)) (logboomref1_Disk_Remove_eq d0 d0o name H K) h

/-! function 42: (*logboom/logboomref1.Disk).Read -/
def logboomref1_Disk_Read_ann : Anns := { hid := [], loops := [], joins := [], mix := [] }
def logboomref1_Disk_Read_vc (d0 : Nat) (d0o : Nat) (name : ByteArray) (H : Heap) (K : Value → Heap → Prop) : Prop :=
  FnH Tryd.prog 53 #[.pointer (some ⟨d0, d0o, none⟩), .string name] H fun r1 H1 =>
    ∃ n1 : Int,
    r1 = .int .i64 n1 ∧
    br (decide ((n1 : Int) < 0)) (
      K (.tuple #[.string (⟨#[]⟩ : ByteArray), .int .i64 8]) H1)
     (
      ∃ l1 : Sl,
      cellH H1 ⟨d0, d0o + 1, none⟩ = some (.slice l1.p l1.n l1.c) ∧
      ∃ q1 : Nat,
      ∃ o1 : Nat,
      (l1.p : Option Addr) = some ⟨q1, o1, none⟩ ∧
      0 ≤ (n1 : Int) ∧
      (n1 : Int) < (l1.n : Nat) ∧
      ∃ s1 : ByteArray,
      cellH H1 ⟨q1, o1 + Int.toNat n1 * 3 + 1, none⟩ = some (.string s1) ∧
      K (.tuple #[.string s1, .int .i64 0]) H1)
theorem logboomref1_Disk_Read_eq (d0 : Nat) (d0o : Nat) (name : ByteArray) (H : Heap) (K : Value → Heap → Prop) : logboomref1_Disk_Read_vc d0 d0o name H K = denFn Tryd.prog logboomref1_Disk_Read_ann Tryd.f42 (bodyOf Tryd.f42) [.pointer (some ⟨d0, d0o, none⟩), .string name] H K := by kernel_rfl
theorem logboomref1_Disk_Read_fn (d0 : Nat) (d0o : Nat) (name : ByteArray) {H : Heap} {K : Value → Heap → Prop} (h : logboomref1_Disk_Read_vc d0 d0o name H K) : FnH Tryd.prog 42 #[.pointer (some ⟨d0, d0o, none⟩), .string name] H K :=
  denFn_fn Tryd.mixed logboomref1_Disk_Read_ann Tryd.func42 (bodyOf_spec (by kernel_rfl)) (logboomref1_Disk_Read_eq d0 d0o name H K) h

/-! function 43: (*logboom/logboomref1.Disk).Size -/
def logboomref1_Disk_Size_ann : Anns := { hid := [], loops := [], joins := [], mix := [] }
def logboomref1_Disk_Size_vc (d0 : Nat) (d0o : Nat) (name : ByteArray) (H : Heap) (K : Value → Heap → Prop) : Prop :=
  FnH Tryd.prog 42 #[.pointer (some ⟨d0, d0o, none⟩), .string name] H fun r1 H1 =>
    ∃ s1 : ByteArray,
    ∃ n1 : Int,
    r1 = .tuple #[.string s1, .int .i64 n1] ∧
    K (.int .i64 (s1.size : Nat)) H1
theorem logboomref1_Disk_Size_eq (d0 : Nat) (d0o : Nat) (name : ByteArray) (H : Heap) (K : Value → Heap → Prop) : logboomref1_Disk_Size_vc d0 d0o name H K = denFn Tryd.prog logboomref1_Disk_Size_ann Tryd.f43 (bodyOf Tryd.f43) [.pointer (some ⟨d0, d0o, none⟩), .string name] H K := by kernel_rfl
theorem logboomref1_Disk_Size_fn (d0 : Nat) (d0o : Nat) (name : ByteArray) {H : Heap} {K : Value → Heap → Prop} (h : logboomref1_Disk_Size_vc d0 d0o name H K) : FnH Tryd.prog 43 #[.pointer (some ⟨d0, d0o, none⟩), .string name] H K :=
  denFn_fn Tryd.mixed logboomref1_Disk_Size_ann Tryd.func43 (bodyOf_spec (by kernel_rfl)) (logboomref1_Disk_Size_eq d0 d0o name H K) h

/-! function 44: (*logboom/logboomref1.Disk).Synced -/
def logboomref1_Disk_Synced_ann : Anns := { hid := [], loops := [], joins := [], mix := [] }
def logboomref1_Disk_Synced_vc (d0 : Nat) (d0o : Nat) (name : ByteArray) (H : Heap) (K : Value → Heap → Prop) : Prop :=
  FnH Tryd.prog 53 #[.pointer (some ⟨d0, d0o, none⟩), .string name] H fun r1 H1 =>
    ∃ n1 : Int,
    r1 = .int .i64 n1 ∧
    br (decide ((n1 : Int) < 0)) (
      K (.int .i64 0) H1)
     (
      ∃ l1 : Sl,
      cellH H1 ⟨d0, d0o + 1, none⟩ = some (.slice l1.p l1.n l1.c) ∧
      ∃ q1 : Nat,
      ∃ o1 : Nat,
      (l1.p : Option Addr) = some ⟨q1, o1, none⟩ ∧
      0 ≤ (n1 : Int) ∧
      (n1 : Int) < (l1.n : Nat) ∧
      ∃ n2 : Int,
      cellH H1 ⟨q1, o1 + Int.toNat n1 * 3 + 2, none⟩ = some (.int .i64 n2) ∧
      K (.int .i64 n2) H1)
theorem logboomref1_Disk_Synced_eq (d0 : Nat) (d0o : Nat) (name : ByteArray) (H : Heap) (K : Value → Heap → Prop) : logboomref1_Disk_Synced_vc d0 d0o name H K = denFn Tryd.prog logboomref1_Disk_Synced_ann Tryd.f44 (bodyOf Tryd.f44) [.pointer (some ⟨d0, d0o, none⟩), .string name] H K := by kernel_rfl
theorem logboomref1_Disk_Synced_fn (d0 : Nat) (d0o : Nat) (name : ByteArray) {H : Heap} {K : Value → Heap → Prop} (h : logboomref1_Disk_Synced_vc d0 d0o name H K) : FnH Tryd.prog 44 #[.pointer (some ⟨d0, d0o, none⟩), .string name] H K :=
  denFn_fn Tryd.mixed logboomref1_Disk_Synced_ann Tryd.func44 (bodyOf_spec (by kernel_rfl)) (logboomref1_Disk_Synced_eq d0 d0o name H K) h

/-! function 45: (*logboom/logboomref1.Disk).Crash -/
def logboomref1_Disk_Crash_ann : Anns := { hid := [], loops := [(0, { slots := [(4, .int .i64), (5, .int .i64)], kept := [0, 1], locs := [], keptL := [] })], joins := [], mix := [(13, [17])] }
def logboomref1_Disk_Crash_vc (d0 : Nat) (d0o : Nat) (keep : Sl) (H : Heap) (K : Value → Heap → Prop) : Prop :=
  ∃ I1 : Int → Int → Heap → Prop,
  ∃ M1 : Int → Int → Heap → Nat,
  I1 0 0 H ∧
  ∀ k_1 : Int,
  ∀ i_1 : Int,
  ∀ H1 : Heap,
  I1 k_1 i_1 H1 →
  ∃ l1 : Sl,
  cellH H1 ⟨d0, d0o + 1, none⟩ = some (.slice l1.p l1.n l1.c) ∧
  br (decide ((i_1 : Int) < (l1.n : Nat))) (
    ∃ l2 : Sl,
    cellH H1 ⟨d0, d0o + 1, none⟩ = some (.slice l2.p l2.n l2.c) ∧
    ∃ q1 : Nat,
    ∃ o1 : Nat,
    (l2.p : Option Addr) = some ⟨q1, o1, none⟩ ∧
    0 ≤ (i_1 : Int) ∧
    (i_1 : Int) < (l2.n : Nat) ∧
    ∃ s1 : ByteArray,
    cellH H1 ⟨q1, o1 + Int.toNat i_1 * 3 + 1, none⟩ = some (.string s1) ∧
    ∃ n1 : Int,
    cellH H1 ⟨q1, o1 + Int.toNat i_1 * 3 + 2, none⟩ = some (.int .i64 n1) ∧
    br (((IntKind.wrap .i64 ((s1.size : Nat) - n1)) : Int) == 0) (
      SelfEq ([.v (.pointer (some ⟨d0, d0o, none⟩)), .v (.slice keep.p keep.n keep.c)], [], []) ∧
      I1 k_1 (IntKind.wrap .i64 (i_1 + 1)) H1 ∧
      M1 k_1 (IntKind.wrap .i64 (i_1 + 1)) H1 < M1 k_1 i_1 H1)
     (
      br (decide ((k_1 : Int) < (keep.n : Nat))) (
        ∃ q2 : Nat,
        ∃ o2 : Nat,
        (keep.p : Option Addr) = some ⟨q2, o2, none⟩ ∧
        0 ≤ (k_1 : Int) ∧
        (k_1 : Int) < (keep.n : Nat) ∧
        ∃ n2 : Int,
        cellH H1 ⟨q2, o2 + Int.toNat k_1, none⟩ = some (.int .i64 n2) ∧
        br (decide ((n2 : Int) < 0)) (
          ∃ s2 : ByteArray,
          cellH H1 ⟨q1, o1 + Int.toNat i_1 * 3 + 1, none⟩ = some (.string s2) ∧
          ∃ n3 : Int,
          cellH H1 ⟨q1, o1 + Int.toNat i_1 * 3 + 2, none⟩ = some (.int .i64 n3) ∧
          ((IntKind.wrap .i64 ((IntKind.wrap .i64 ((s1.size : Nat) - n1)) + 1)) : Int) ≠ 0 ∧
          0 ≤ (IntKind.wrap .i64 (n3 + (Int.tmod (IntKind.wrap .i64 (0 - (IntKind.wrap .i64 (n2 + 1)))) (IntKind.wrap .i64 ((IntKind.wrap .i64 ((s1.size : Nat) - n1)) + 1)))) : Int) ∧
          (IntKind.wrap .i64 (n3 + (Int.tmod (IntKind.wrap .i64 (0 - (IntKind.wrap .i64 (n2 + 1)))) (IntKind.wrap .i64 ((IntKind.wrap .i64 ((s1.size : Nat) - n1)) + 1)))) : Int) ≤ (s2.size : Nat) ∧
          (∃ u, cellH H1 ⟨q1, o1 + Int.toNat i_1 * 3 + 1, none⟩ = some u) ∧
          frozenH H1 ⟨q1, o1 + Int.toNat i_1 * 3 + 1, none⟩ = false ∧
          letH (Heap.set H1 ⟨q1, o1 + Int.toNat i_1 * 3 + 1, none⟩ (.string (s2.extract (Int.toNat (0 : Int)) (Int.toNat (IntKind.wrap .i64 (n3 + (Int.tmod (IntKind.wrap .i64 (0 - (IntKind.wrap .i64 (n2 + 1)))) (IntKind.wrap .i64 ((IntKind.wrap .i64 ((s1.size : Nat) - n1)) + 1))))))))) fun H2 =>
          ∃ s3 : ByteArray,
          cellH H2 ⟨q1, o1 + Int.toNat i_1 * 3 + 1, none⟩ = some (.string s3) ∧
          (∃ u, cellH H2 ⟨q1, o1 + Int.toNat i_1 * 3 + 2, none⟩ = some u) ∧
          frozenH H2 ⟨q1, o1 + Int.toNat i_1 * 3 + 2, none⟩ = false ∧
          letH (Heap.set H2 ⟨q1, o1 + Int.toNat i_1 * 3 + 2, none⟩ (.int .i64 (s3.size : Nat))) fun H3 =>
          SelfEq ([.v (.pointer (some ⟨d0, d0o, none⟩)), .v (.slice keep.p keep.n keep.c)], [], []) ∧
          I1 (IntKind.wrap .i64 (k_1 + 1)) (IntKind.wrap .i64 (i_1 + 1)) H3 ∧
          M1 (IntKind.wrap .i64 (k_1 + 1)) (IntKind.wrap .i64 (i_1 + 1)) H3 < M1 k_1 i_1 H1)
         (
          ∃ s4 : ByteArray,
          cellH H1 ⟨q1, o1 + Int.toNat i_1 * 3 + 1, none⟩ = some (.string s4) ∧
          ∃ n4 : Int,
          cellH H1 ⟨q1, o1 + Int.toNat i_1 * 3 + 2, none⟩ = some (.int .i64 n4) ∧
          ((IntKind.wrap .i64 ((IntKind.wrap .i64 ((s1.size : Nat) - n1)) + 1)) : Int) ≠ 0 ∧
          0 ≤ (IntKind.wrap .i64 (n4 + (Int.tmod n2 (IntKind.wrap .i64 ((IntKind.wrap .i64 ((s1.size : Nat) - n1)) + 1)))) : Int) ∧
          (IntKind.wrap .i64 (n4 + (Int.tmod n2 (IntKind.wrap .i64 ((IntKind.wrap .i64 ((s1.size : Nat) - n1)) + 1)))) : Int) ≤ (s4.size : Nat) ∧
          (∃ u, cellH H1 ⟨q1, o1 + Int.toNat i_1 * 3 + 1, none⟩ = some u) ∧
          frozenH H1 ⟨q1, o1 + Int.toNat i_1 * 3 + 1, none⟩ = false ∧
          letH (Heap.set H1 ⟨q1, o1 + Int.toNat i_1 * 3 + 1, none⟩ (.string (s4.extract (Int.toNat (0 : Int)) (Int.toNat (IntKind.wrap .i64 (n4 + (Int.tmod n2 (IntKind.wrap .i64 ((IntKind.wrap .i64 ((s1.size : Nat) - n1)) + 1))))))))) fun H4 =>
          ∃ s5 : ByteArray,
          cellH H4 ⟨q1, o1 + Int.toNat i_1 * 3 + 1, none⟩ = some (.string s5) ∧
          (∃ u, cellH H4 ⟨q1, o1 + Int.toNat i_1 * 3 + 2, none⟩ = some u) ∧
          frozenH H4 ⟨q1, o1 + Int.toNat i_1 * 3 + 2, none⟩ = false ∧
          letH (Heap.set H4 ⟨q1, o1 + Int.toNat i_1 * 3 + 2, none⟩ (.int .i64 (s5.size : Nat))) fun H5 =>
          SelfEq ([.v (.pointer (some ⟨d0, d0o, none⟩)), .v (.slice keep.p keep.n keep.c)], [], []) ∧
          I1 (IntKind.wrap .i64 (k_1 + 1)) (IntKind.wrap .i64 (i_1 + 1)) H5 ∧
          M1 (IntKind.wrap .i64 (k_1 + 1)) (IntKind.wrap .i64 (i_1 + 1)) H5 < M1 k_1 i_1 H1))
       (
        br (decide ((0 : Int) < 0)) (
          ∃ s6 : ByteArray,
          cellH H1 ⟨q1, o1 + Int.toNat i_1 * 3 + 1, none⟩ = some (.string s6) ∧
          ∃ n5 : Int,
          cellH H1 ⟨q1, o1 + Int.toNat i_1 * 3 + 2, none⟩ = some (.int .i64 n5) ∧
          ((IntKind.wrap .i64 ((IntKind.wrap .i64 ((s1.size : Nat) - n1)) + 1)) : Int) ≠ 0 ∧
          0 ≤ (IntKind.wrap .i64 (n5 + (Int.tmod (IntKind.wrap .i64 (0 - (IntKind.wrap .i64 (0 + 1)))) (IntKind.wrap .i64 ((IntKind.wrap .i64 ((s1.size : Nat) - n1)) + 1)))) : Int) ∧
          (IntKind.wrap .i64 (n5 + (Int.tmod (IntKind.wrap .i64 (0 - (IntKind.wrap .i64 (0 + 1)))) (IntKind.wrap .i64 ((IntKind.wrap .i64 ((s1.size : Nat) - n1)) + 1)))) : Int) ≤ (s6.size : Nat) ∧
          (∃ u, cellH H1 ⟨q1, o1 + Int.toNat i_1 * 3 + 1, none⟩ = some u) ∧
          frozenH H1 ⟨q1, o1 + Int.toNat i_1 * 3 + 1, none⟩ = false ∧
          letH (Heap.set H1 ⟨q1, o1 + Int.toNat i_1 * 3 + 1, none⟩ (.string (s6.extract (Int.toNat (0 : Int)) (Int.toNat (IntKind.wrap .i64 (n5 + (Int.tmod (IntKind.wrap .i64 (0 - (IntKind.wrap .i64 (0 + 1)))) (IntKind.wrap .i64 ((IntKind.wrap .i64 ((s1.size : Nat) - n1)) + 1))))))))) fun H6 =>
          ∃ s7 : ByteArray,
          cellH H6 ⟨q1, o1 + Int.toNat i_1 * 3 + 1, none⟩ = some (.string s7) ∧
          (∃ u, cellH H6 ⟨q1, o1 + Int.toNat i_1 * 3 + 2, none⟩ = some u) ∧
          frozenH H6 ⟨q1, o1 + Int.toNat i_1 * 3 + 2, none⟩ = false ∧
          letH (Heap.set H6 ⟨q1, o1 + Int.toNat i_1 * 3 + 2, none⟩ (.int .i64 (s7.size : Nat))) fun H7 =>
          SelfEq ([.v (.pointer (some ⟨d0, d0o, none⟩)), .v (.slice keep.p keep.n keep.c)], [], []) ∧
          I1 (IntKind.wrap .i64 (k_1 + 1)) (IntKind.wrap .i64 (i_1 + 1)) H7 ∧
          M1 (IntKind.wrap .i64 (k_1 + 1)) (IntKind.wrap .i64 (i_1 + 1)) H7 < M1 k_1 i_1 H1)
         (
          ∃ s8 : ByteArray,
          cellH H1 ⟨q1, o1 + Int.toNat i_1 * 3 + 1, none⟩ = some (.string s8) ∧
          ∃ n6 : Int,
          cellH H1 ⟨q1, o1 + Int.toNat i_1 * 3 + 2, none⟩ = some (.int .i64 n6) ∧
          ((IntKind.wrap .i64 ((IntKind.wrap .i64 ((s1.size : Nat) - n1)) + 1)) : Int) ≠ 0 ∧
          0 ≤ (IntKind.wrap .i64 (n6 + (Int.tmod 0 (IntKind.wrap .i64 ((IntKind.wrap .i64 ((s1.size : Nat) - n1)) + 1)))) : Int) ∧
          (IntKind.wrap .i64 (n6 + (Int.tmod 0 (IntKind.wrap .i64 ((IntKind.wrap .i64 ((s1.size : Nat) - n1)) + 1)))) : Int) ≤ (s8.size : Nat) ∧
          (∃ u, cellH H1 ⟨q1, o1 + Int.toNat i_1 * 3 + 1, none⟩ = some u) ∧
          frozenH H1 ⟨q1, o1 + Int.toNat i_1 * 3 + 1, none⟩ = false ∧
          letH (Heap.set H1 ⟨q1, o1 + Int.toNat i_1 * 3 + 1, none⟩ (.string (s8.extract (Int.toNat (0 : Int)) (Int.toNat (IntKind.wrap .i64 (n6 + (Int.tmod 0 (IntKind.wrap .i64 ((IntKind.wrap .i64 ((s1.size : Nat) - n1)) + 1))))))))) fun H8 =>
          ∃ s9 : ByteArray,
          cellH H8 ⟨q1, o1 + Int.toNat i_1 * 3 + 1, none⟩ = some (.string s9) ∧
          (∃ u, cellH H8 ⟨q1, o1 + Int.toNat i_1 * 3 + 2, none⟩ = some u) ∧
          frozenH H8 ⟨q1, o1 + Int.toNat i_1 * 3 + 2, none⟩ = false ∧
          letH (Heap.set H8 ⟨q1, o1 + Int.toNat i_1 * 3 + 2, none⟩ (.int .i64 (s9.size : Nat))) fun H9 =>
          SelfEq ([.v (.pointer (some ⟨d0, d0o, none⟩)), .v (.slice keep.p keep.n keep.c)], [], []) ∧
          I1 (IntKind.wrap .i64 (k_1 + 1)) (IntKind.wrap .i64 (i_1 + 1)) H9 ∧
          M1 (IntKind.wrap .i64 (k_1 + 1)) (IntKind.wrap .i64 (i_1 + 1)) H9 < M1 k_1 i_1 H1))))
   (
    K (.tuple #[]) H1)
theorem logboomref1_Disk_Crash_eq (d0 : Nat) (d0o : Nat) (keep : Sl) (H : Heap) (K : Value → Heap → Prop) : logboomref1_Disk_Crash_vc d0 d0o keep H K = denFn Tryd.prog logboomref1_Disk_Crash_ann Tryd.f45 (bodyOf Tryd.f45) [.pointer (some ⟨d0, d0o, none⟩), .slice keep.p keep.n keep.c] H K := by kernel_rfl
theorem logboomref1_Disk_Crash_fn (d0 : Nat) (d0o : Nat) (keep : Sl) {H : Heap} {K : Value → Heap → Prop} (h : logboomref1_Disk_Crash_vc d0 d0o keep H K) : FnH Tryd.prog 45 #[.pointer (some ⟨d0, d0o, none⟩), .slice keep.p keep.n keep.c] H K :=
  denFn_fn Tryd.mixed logboomref1_Disk_Crash_ann Tryd.func45 (bodyOf_spec (by kernel_rfl)) (logboomref1_Disk_Crash_eq d0 d0o keep H K) h

/-! function 46: (*logboom/logboomref1.Disk).Free -/
def logboomref1_Disk_Free_ann : Anns := { hid := [], loops := [(0, { slots := [(3, .int .i64), (4, .int .i64)], kept := [0], locs := [], keptL := [] })], joins := [], mix := [] }
def logboomref1_Disk_Free_vc (d0 : Nat) (d0o : Nat) (H : Heap) (K : Value → Heap → Prop) : Prop :=
  ∃ n1 : Int,
  cellH H ⟨d0, d0o, none⟩ = some (.int .i64 n1) ∧
  ∃ I1 : Int → Int → Heap → Prop,
  ∃ M1 : Int → Int → Heap → Nat,
  I1 n1 0 H ∧
  ∀ n_1 : Int,
  ∀ i_1 : Int,
  ∀ H1 : Heap,
  I1 n_1 i_1 H1 →
  ∃ l1 : Sl,
  cellH H1 ⟨d0, d0o + 1, none⟩ = some (.slice l1.p l1.n l1.c) ∧
  br (decide ((i_1 : Int) < (l1.n : Nat))) (
    ∃ l2 : Sl,
    cellH H1 ⟨d0, d0o + 1, none⟩ = some (.slice l2.p l2.n l2.c) ∧
    ∃ q1 : Nat,
    ∃ o1 : Nat,
    (l2.p : Option Addr) = some ⟨q1, o1, none⟩ ∧
    0 ≤ (i_1 : Int) ∧
    (i_1 : Int) < (l2.n : Nat) ∧
    ∃ s1 : ByteArray,
    cellH H1 ⟨q1, o1 + Int.toNat i_1 * 3 + 1, none⟩ = some (.string s1) ∧
    SelfEq ([.v (.pointer (some ⟨d0, d0o, none⟩))], [], []) ∧
    I1 (IntKind.wrap .i64 (n_1 - (s1.size : Nat))) (IntKind.wrap .i64 (i_1 + 1)) H1 ∧
    M1 (IntKind.wrap .i64 (n_1 - (s1.size : Nat))) (IntKind.wrap .i64 (i_1 + 1)) H1 < M1 n_1 i_1 H1)
   (
    K (.int .i64 n_1) H1)
theorem logboomref1_Disk_Free_eq (d0 : Nat) (d0o : Nat) (H : Heap) (K : Value → Heap → Prop) : logboomref1_Disk_Free_vc d0 d0o H K = denFn Tryd.prog logboomref1_Disk_Free_ann Tryd.f46 (bodyOf Tryd.f46) [.pointer (some ⟨d0, d0o, none⟩)] H K := by kernel_rfl
theorem logboomref1_Disk_Free_fn (d0 : Nat) (d0o : Nat) {H : Heap} {K : Value → Heap → Prop} (h : logboomref1_Disk_Free_vc d0 d0o H K) : FnH Tryd.prog 46 #[.pointer (some ⟨d0, d0o, none⟩)] H K :=
  denFn_fn Tryd.mixed logboomref1_Disk_Free_ann Tryd.func46 (bodyOf_spec (by kernel_rfl)) (logboomref1_Disk_Free_eq d0 d0o H K) h

/-! function 52: (*logboom/logboomref1.Disk).made -/
def logboomref1_Disk_made_ann : Anns := { hid := [], loops := [], joins := [], mix := [] }
def logboomref1_Disk_made_vc (d0 : Nat) (d0o : Nat) (name : ByteArray) (H : Heap) (K : Value → Heap → Prop) : Prop :=
  FnH Tryd.prog 56 #[.string name] H fun r1 H1 =>
    ∃ b1 : Bool,
    r1 = .bool b1 ∧
    br (!b1) (
      K (.int .i64 1) H1)
     (
      FnH Tryd.prog 53 #[.pointer (some ⟨d0, d0o, none⟩), .string name] H1 fun r2 H2 =>
        ∃ n1 : Int,
        r2 = .int .i64 n1 ∧
        br (decide ((n1 : Int) < 0)) (
          ∃ l1 : Sl,
          cellH H2 ⟨d0, d0o + 1, none⟩ = some (.slice l1.p l1.n l1.c) ∧
          br (decide (((l1.n : Nat) : Int) ≥ 256)) (
            K (.int .i64 3) H2)
           (
            K (.int .i64 0) H2))
         (
          K (.int .i64 0) H2))
theorem logboomref1_Disk_made_eq (d0 : Nat) (d0o : Nat) (name : ByteArray) (H : Heap) (K : Value → Heap → Prop) : logboomref1_Disk_made_vc d0 d0o name H K = denFn Tryd.prog logboomref1_Disk_made_ann Tryd.f52 (bodyOf Tryd.f52) [.pointer (some ⟨d0, d0o, none⟩), .string name] H K := by kernel_rfl
theorem logboomref1_Disk_made_fn (d0 : Nat) (d0o : Nat) (name : ByteArray) {H : Heap} {K : Value → Heap → Prop} (h : logboomref1_Disk_made_vc d0 d0o name H K) : FnH Tryd.prog 52 #[.pointer (some ⟨d0, d0o, none⟩), .string name] H K :=
  denFn_fn Tryd.mixed logboomref1_Disk_made_ann Tryd.func52 (bodyOf_spec (by kernel_rfl)) (logboomref1_Disk_made_eq d0 d0o name H K) h

/-! function 53: (*logboom/logboomref1.Disk).at -/
def logboomref1_Disk_at_ann : Anns := { hid := [], loops := [(0, { slots := [(5, .int .i64)], kept := [0, 1], locs := [], keptL := [] })], joins := [], mix := [] }
def logboomref1_Disk_at_vc (d0 : Nat) (d0o : Nat) (name : ByteArray) (H : Heap) (K : Value → Heap → Prop) : Prop :=
  ∃ I1 : Int → Heap → Prop,
  ∃ M1 : Int → Heap → Nat,
  I1 0 H ∧
  ∀ i_1 : Int,
  ∀ H1 : Heap,
  I1 i_1 H1 →
  ∃ l1 : Sl,
  cellH H1 ⟨d0, d0o + 1, none⟩ = some (.slice l1.p l1.n l1.c) ∧
  br (decide ((i_1 : Int) < (l1.n : Nat))) (
    ∃ l2 : Sl,
    cellH H1 ⟨d0, d0o + 1, none⟩ = some (.slice l2.p l2.n l2.c) ∧
    ∃ q1 : Nat,
    ∃ o1 : Nat,
    (l2.p : Option Addr) = some ⟨q1, o1, none⟩ ∧
    0 ≤ (i_1 : Int) ∧
    (i_1 : Int) < (l2.n : Nat) ∧
    ∃ s1 : ByteArray,
    cellH H1 ⟨q1, o1 + Int.toNat i_1 * 3, none⟩ = some (.string s1) ∧
    br (s1.toList == name.toList) (
      K (.int .i64 i_1) H1)
     (
      SelfEq ([.v (.pointer (some ⟨d0, d0o, none⟩)), .v (.string name)], [], []) ∧
      I1 (IntKind.wrap .i64 (i_1 + 1)) H1 ∧
      M1 (IntKind.wrap .i64 (i_1 + 1)) H1 < M1 i_1 H1))
   (
    K (.int .i64 (-1)) H1)
theorem logboomref1_Disk_at_eq (d0 : Nat) (d0o : Nat) (name : ByteArray) (H : Heap) (K : Value → Heap → Prop) : logboomref1_Disk_at_vc d0 d0o name H K = denFn Tryd.prog logboomref1_Disk_at_ann Tryd.f53 (bodyOf Tryd.f53) [.pointer (some ⟨d0, d0o, none⟩), .string name] H K := by kernel_rfl
theorem logboomref1_Disk_at_fn (d0 : Nat) (d0o : Nat) (name : ByteArray) {H : Heap} {K : Value → Heap → Prop} (h : logboomref1_Disk_at_vc d0 d0o name H K) : FnH Tryd.prog 53 #[.pointer (some ⟨d0, d0o, none⟩), .string name] H K :=
  denFn_fn Tryd.mixed logboomref1_Disk_at_ann Tryd.func53 (bodyOf_spec (by kernel_rfl)) (logboomref1_Disk_at_eq d0 d0o name H K) h

/-! function 54: (*logboom/logboomref1.Disk).put -/
def logboomref1_Disk_put_ann : Anns := { hid := [3], loops := [(0, { slots := [(4, .int .i64)], kept := [0, 3], locs := [], keptL := [0] })], joins := [], mix := [] }
def logboomref1_Disk_put_vc (d0 : Nat) (d0o : Nat) (f_0 : ByteArray) (f_1 : ByteArray) (f_2 : Int) (H : Heap) (K : Value → Heap → Prop) : Prop :=
  ∃ I1 : Int → Heap → Prop,
  ∃ M1 : Int → Heap → Nat,
  I1 0 H ∧
  ∀ i_1 : Int,
  ∀ H1 : Heap,
  I1 i_1 H1 →
  ∃ l1 : Sl,
  cellH H1 ⟨d0, d0o + 1, none⟩ = some (.slice l1.p l1.n l1.c) ∧
  br (decide ((i_1 : Int) < (l1.n : Nat))) (
    ∃ l2 : Sl,
    cellH H1 ⟨d0, d0o + 1, none⟩ = some (.slice l2.p l2.n l2.c) ∧
    ∃ q1 : Nat,
    ∃ o1 : Nat,
    (l2.p : Option Addr) = some ⟨q1, o1, none⟩ ∧
    0 ≤ (i_1 : Int) ∧
    (i_1 : Int) < (l2.n : Nat) ∧
    ∃ s1 : ByteArray,
    cellH H1 ⟨q1, o1 + Int.toNat i_1 * 3, none⟩ = some (.string s1) ∧
    br (Op.bytesLess s1.toList f_0.toList) (
      SelfEq ([.v (.pointer (some ⟨d0, d0o, none⟩)), .loc 0 0], [some (71, [.string f_0, .string f_1, .int .i64 f_2])], []) ∧
      I1 (IntKind.wrap .i64 (i_1 + 1)) H1 ∧
      M1 (IntKind.wrap .i64 (i_1 + 1)) H1 < M1 i_1 H1)
     (
      ∀ q2 : Nat,
      H1 q2 = none →
      letH (Heap.upd H1 q2 (.cells #[] 71 (0, 0))) fun H2 =>
      ∃ l3 : Sl,
      cellH H2 ⟨d0, d0o + 1, none⟩ = some (.slice l3.p l3.n l3.c) ∧
      0 ≤ (i_1 : Int) ∧
      (i_1 : Int) ≤ (l3.c : Nat) ∧
      runH Tryd.prog (Builtin.append_ #[66, 66] 66 #[.slice (some ⟨q2, 0, none⟩) 0 0, .slice (slP l3.p l3.c (0 : Int) 3) (Int.toNat (i_1 - (0 : Int))) (Int.toNat ((l3.c : Nat) - (0 : Int)))]) H2 fun r1 H3 =>
        ∃ l4 : Sl,
        r1 = .slice l4.p l4.n l4.c ∧
        ∀ q3 : Nat,
        H3 q3 = none →
        letH (Heap.upd H3 q3 (.cells #[.string f_0, .string f_1, .int .i64 f_2] 71 (0, 0))) fun H4 =>
        runH Tryd.prog (Builtin.append_ #[66, 66] 66 #[.slice l4.p l4.n l4.c, .slice (some ⟨q3, 0, none⟩) 1 1]) H4 fun r2 H5 =>
          ∃ l5 : Sl,
          r2 = .slice l5.p l5.n l5.c ∧
          ∃ l6 : Sl,
          cellH H5 ⟨d0, d0o + 1, none⟩ = some (.slice l6.p l6.n l6.c) ∧
          0 ≤ (i_1 : Int) ∧
          (i_1 : Int) ≤ (l6.n : Nat) ∧
          runH Tryd.prog (Builtin.append_ #[66, 66] 66 #[.slice l5.p l5.n l5.c, .slice (slP l6.p l6.c i_1 3) (Int.toNat ((l6.n : Nat) - i_1)) (Int.toNat ((l6.c : Nat) - i_1))]) H5 fun r3 H6 =>
            ∃ l7 : Sl,
            r3 = .slice l7.p l7.n l7.c ∧
            (∃ u, cellH H6 ⟨d0, d0o + 1, none⟩ = some u) ∧
            frozenH H6 ⟨d0, d0o + 1, none⟩ = false ∧
            letH (Heap.set H6 ⟨d0, d0o + 1, none⟩ (.slice l7.p l7.n l7.c)) fun H7 =>
            K (.tuple #[]) H7))
   (
    ∀ q4 : Nat,
    H1 q4 = none →
    letH (Heap.upd H1 q4 (.cells #[] 71 (0, 0))) fun H8 =>
    ∃ l8 : Sl,
    cellH H8 ⟨d0, d0o + 1, none⟩ = some (.slice l8.p l8.n l8.c) ∧
    0 ≤ (i_1 : Int) ∧
    (i_1 : Int) ≤ (l8.c : Nat) ∧
    runH Tryd.prog (Builtin.append_ #[66, 66] 66 #[.slice (some ⟨q4, 0, none⟩) 0 0, .slice (slP l8.p l8.c (0 : Int) 3) (Int.toNat (i_1 - (0 : Int))) (Int.toNat ((l8.c : Nat) - (0 : Int)))]) H8 fun r4 H9 =>
      ∃ l9 : Sl,
      r4 = .slice l9.p l9.n l9.c ∧
      ∀ q5 : Nat,
      H9 q5 = none →
      letH (Heap.upd H9 q5 (.cells #[.string f_0, .string f_1, .int .i64 f_2] 71 (0, 0))) fun H10 =>
      runH Tryd.prog (Builtin.append_ #[66, 66] 66 #[.slice l9.p l9.n l9.c, .slice (some ⟨q5, 0, none⟩) 1 1]) H10 fun r5 H11 =>
        ∃ l10 : Sl,
        r5 = .slice l10.p l10.n l10.c ∧
        ∃ l11 : Sl,
        cellH H11 ⟨d0, d0o + 1, none⟩ = some (.slice l11.p l11.n l11.c) ∧
        0 ≤ (i_1 : Int) ∧
        (i_1 : Int) ≤ (l11.n : Nat) ∧
        runH Tryd.prog (Builtin.append_ #[66, 66] 66 #[.slice l10.p l10.n l10.c, .slice (slP l11.p l11.c i_1 3) (Int.toNat ((l11.n : Nat) - i_1)) (Int.toNat ((l11.c : Nat) - i_1))]) H11 fun r6 H12 =>
          ∃ l12 : Sl,
          r6 = .slice l12.p l12.n l12.c ∧
          (∃ u, cellH H12 ⟨d0, d0o + 1, none⟩ = some u) ∧
          frozenH H12 ⟨d0, d0o + 1, none⟩ = false ∧
          letH (Heap.set H12 ⟨d0, d0o + 1, none⟩ (.slice l12.p l12.n l12.c)) fun H13 =>
          K (.tuple #[]) H13)
theorem logboomref1_Disk_put_eq (d0 : Nat) (d0o : Nat) (f_0 : ByteArray) (f_1 : ByteArray) (f_2 : Int) (H : Heap) (K : Value → Heap → Prop) : logboomref1_Disk_put_vc d0 d0o f_0 f_1 f_2 H K = denFn Tryd.prog logboomref1_Disk_put_ann Tryd.f54 (bodyOf Tryd.f54) [.pointer (some ⟨d0, d0o, none⟩), .agg #[.string f_0, .string f_1, .int .i64 f_2]] H K := by kernel_rfl
theorem logboomref1_Disk_put_fn (d0 : Nat) (d0o : Nat) (f_0 : ByteArray) (f_1 : ByteArray) (f_2 : Int) {H : Heap} {K : Value → Heap → Prop} (h : logboomref1_Disk_put_vc d0 d0o f_0 f_1 f_2 H K) : FnH Tryd.prog 54 #[.pointer (some ⟨d0, d0o, none⟩), .agg #[.string f_0, .string f_1, .int .i64 f_2]] H K :=
  denFn_fn Tryd.mixed logboomref1_Disk_put_ann Tryd.func54 (bodyOf_spec (by kernel_rfl)) (logboomref1_Disk_put_eq d0 d0o f_0 f_1 f_2 H K) h

/-! function 55: (*logboom/logboomref1.Disk).drop -/
def logboomref1_Disk_drop_ann : Anns := { hid := [], loops := [], joins := [], mix := [] }
def logboomref1_Disk_drop_vc (d0 : Nat) (d0o : Nat) (i : Int) (H : Heap) (K : Value → Heap → Prop) : Prop :=
  ∀ q1 : Nat,
  H q1 = none →
  letH (Heap.upd H q1 (.cells #[] 71 (0, 0))) fun H1 =>
  ∃ l1 : Sl,
  cellH H1 ⟨d0, d0o + 1, none⟩ = some (.slice l1.p l1.n l1.c) ∧
  0 ≤ (i : Int) ∧
  (i : Int) ≤ (l1.c : Nat) ∧
  runH Tryd.prog (Builtin.append_ #[66, 66] 66 #[.slice (some ⟨q1, 0, none⟩) 0 0, .slice (slP l1.p l1.c (0 : Int) 3) (Int.toNat (i - (0 : Int))) (Int.toNat ((l1.c : Nat) - (0 : Int)))]) H1 fun r1 H2 =>
    ∃ l2 : Sl,
    r1 = .slice l2.p l2.n l2.c ∧
    ∃ l3 : Sl,
    cellH H2 ⟨d0, d0o + 1, none⟩ = some (.slice l3.p l3.n l3.c) ∧
    0 ≤ (IntKind.wrap .i64 (i + 1) : Int) ∧
    (IntKind.wrap .i64 (i + 1) : Int) ≤ (l3.n : Nat) ∧
    runH Tryd.prog (Builtin.append_ #[66, 66] 66 #[.slice l2.p l2.n l2.c, .slice (slP l3.p l3.c (IntKind.wrap .i64 (i + 1)) 3) (Int.toNat ((l3.n : Nat) - (IntKind.wrap .i64 (i + 1)))) (Int.toNat ((l3.c : Nat) - (IntKind.wrap .i64 (i + 1))))]) H2 fun r2 H3 =>
      ∃ l4 : Sl,
      r2 = .slice l4.p l4.n l4.c ∧
      (∃ u, cellH H3 ⟨d0, d0o + 1, none⟩ = some u) ∧
      frozenH H3 ⟨d0, d0o + 1, none⟩ = false ∧
      letH (Heap.set H3 ⟨d0, d0o + 1, none⟩ (.slice l4.p l4.n l4.c)) fun H4 =>
      K (.tuple #[]) H4
theorem logboomref1_Disk_drop_eq (d0 : Nat) (d0o : Nat) (i : Int) (H : Heap) (K : Value → Heap → Prop) : logboomref1_Disk_drop_vc d0 d0o i H K = denFn Tryd.prog logboomref1_Disk_drop_ann Tryd.f55 (bodyOf Tryd.f55) [.pointer (some ⟨d0, d0o, none⟩), .int .i64 i] H K := by kernel_rfl
theorem logboomref1_Disk_drop_fn (d0 : Nat) (d0o : Nat) (i : Int) {H : Heap} {K : Value → Heap → Prop} (h : logboomref1_Disk_drop_vc d0 d0o i H K) : FnH Tryd.prog 55 #[.pointer (some ⟨d0, d0o, none⟩), .int .i64 i] H K :=
  denFn_fn Tryd.mixed logboomref1_Disk_drop_ann Tryd.func55 (bodyOf_spec (by kernel_rfl)) (logboomref1_Disk_drop_eq d0 d0o i H K) h

/-! function 56: logboom/logboomref1.Name -/
def logboomref1_Name_ann : Anns := { hid := [], loops := [(0, { slots := [(3, .int .i64)], kept := [0], locs := [], keptL := [] })], joins := [], mix := [] }
def logboomref1_Name_vc (s : ByteArray) (H : Heap) (K : Value → Heap → Prop) : Prop :=
  br (decide (((s.size : Nat) : Int) < 1)) (
    K (.bool false) H)
   (
    br (decide (((s.size : Nat) : Int) > 64)) (
      K (.bool false) H)
     (
      ∃ I1 : Int → Heap → Prop,
      ∃ M1 : Int → Heap → Nat,
      I1 0 H ∧
      ∀ i_1 : Int,
      ∀ H1 : Heap,
      I1 i_1 H1 →
      br (decide ((i_1 : Int) < (s.size : Nat))) (
        0 ≤ (i_1 : Int) ∧
        ∃ c1 : UInt8,
        s[Int.toNat i_1]? = some c1 ∧
        br (decide (((c1.toNat : Int) : Int) < 97)) (
          br (decide (((c1.toNat : Int) : Int) < 48)) (
            br (((c1.toNat : Int) : Int) != 45) (
              br (((c1.toNat : Int) : Int) != 46) (
                K (.bool false) H1)
               (
                SelfEq ([.v (.string s)], [], []) ∧
                I1 (IntKind.wrap .i64 (i_1 + 1)) H1 ∧
                M1 (IntKind.wrap .i64 (i_1 + 1)) H1 < M1 i_1 H1))
             (
              SelfEq ([.v (.string s)], [], []) ∧
              I1 (IntKind.wrap .i64 (i_1 + 1)) H1 ∧
              M1 (IntKind.wrap .i64 (i_1 + 1)) H1 < M1 i_1 H1))
           (
            br (decide (((c1.toNat : Int) : Int) > 57)) (
              br (((c1.toNat : Int) : Int) != 45) (
                br (((c1.toNat : Int) : Int) != 46) (
                  K (.bool false) H1)
                 (
                  SelfEq ([.v (.string s)], [], []) ∧
                  I1 (IntKind.wrap .i64 (i_1 + 1)) H1 ∧
                  M1 (IntKind.wrap .i64 (i_1 + 1)) H1 < M1 i_1 H1))
               (
                SelfEq ([.v (.string s)], [], []) ∧
                I1 (IntKind.wrap .i64 (i_1 + 1)) H1 ∧
                M1 (IntKind.wrap .i64 (i_1 + 1)) H1 < M1 i_1 H1))
             (
              SelfEq ([.v (.string s)], [], []) ∧
              I1 (IntKind.wrap .i64 (i_1 + 1)) H1 ∧
              M1 (IntKind.wrap .i64 (i_1 + 1)) H1 < M1 i_1 H1)))
         (
          br (decide (((c1.toNat : Int) : Int) > 122)) (
            br (decide (((c1.toNat : Int) : Int) < 48)) (
              br (((c1.toNat : Int) : Int) != 45) (
                br (((c1.toNat : Int) : Int) != 46) (
                  K (.bool false) H1)
                 (
                  SelfEq ([.v (.string s)], [], []) ∧
                  I1 (IntKind.wrap .i64 (i_1 + 1)) H1 ∧
                  M1 (IntKind.wrap .i64 (i_1 + 1)) H1 < M1 i_1 H1))
               (
                SelfEq ([.v (.string s)], [], []) ∧
                I1 (IntKind.wrap .i64 (i_1 + 1)) H1 ∧
                M1 (IntKind.wrap .i64 (i_1 + 1)) H1 < M1 i_1 H1))
             (
              br (decide (((c1.toNat : Int) : Int) > 57)) (
                br (((c1.toNat : Int) : Int) != 45) (
                  br (((c1.toNat : Int) : Int) != 46) (
                    K (.bool false) H1)
                   (
                    SelfEq ([.v (.string s)], [], []) ∧
                    I1 (IntKind.wrap .i64 (i_1 + 1)) H1 ∧
                    M1 (IntKind.wrap .i64 (i_1 + 1)) H1 < M1 i_1 H1))
                 (
                  SelfEq ([.v (.string s)], [], []) ∧
                  I1 (IntKind.wrap .i64 (i_1 + 1)) H1 ∧
                  M1 (IntKind.wrap .i64 (i_1 + 1)) H1 < M1 i_1 H1))
               (
                SelfEq ([.v (.string s)], [], []) ∧
                I1 (IntKind.wrap .i64 (i_1 + 1)) H1 ∧
                M1 (IntKind.wrap .i64 (i_1 + 1)) H1 < M1 i_1 H1)))
           (
            SelfEq ([.v (.string s)], [], []) ∧
            I1 (IntKind.wrap .i64 (i_1 + 1)) H1 ∧
            M1 (IntKind.wrap .i64 (i_1 + 1)) H1 < M1 i_1 H1)))
       (
        K (.bool true) H1)))
theorem logboomref1_Name_eq (s : ByteArray) (H : Heap) (K : Value → Heap → Prop) : logboomref1_Name_vc s H K = denFn Tryd.prog logboomref1_Name_ann Tryd.f56 (bodyOf Tryd.f56) [.string s] H K := by kernel_rfl
theorem logboomref1_Name_fn (s : ByteArray) {H : Heap} {K : Value → Heap → Prop} (h : logboomref1_Name_vc s H K) : FnH Tryd.prog 56 #[.string s] H K :=
  denFn_fn Tryd.mixed logboomref1_Name_ann Tryd.func56 (bodyOf_spec (by kernel_rfl)) (logboomref1_Name_eq s H K) h

end Go.Proofs.YtldaflbdldepnaaDoor
