/- Formulas of functions, printed by this session's vc.py; each is tied to the program by the kernel. -/
import Derived.Test.YtkabaoigablphaaProg
import Derived.KernelRfl
import Derived.Test.YtkabaoigablphaaHlFn
import Derived.Test.YtkabaoigablphaaV1
namespace Go.Proofs.Ytkabaoigablphaa
open Go.HL
set_option maxRecDepth 100000
/-! function 11: (*logboom/dedup.Table).Cut -/
def dedup_Table_Cut_ann : Anns := { hid := [1000014], loops := [(0, { slots := [], kept := [0, 1, 11], locs := [], keptL := [] })], joins := [], mix := [(5, [9])] }
def dedup_Table_Cut_vc (t : Nat) (to : Nat) (end0 : Int) (H : Heap) (K : Value → Heap → Prop) : Prop :=
  ∃ m1 : Option Nat,
  cellH H ⟨t, to, none⟩ = some (.map m1) ∧
  runH Try.prog (Instr.range 53 (.map m1)) H fun r1 H1 =>
    ∃ p1 : Option Addr,
    r1 = .pointer p1 ∧
    ∃ I1 : Heap → Prop,
    ∃ M1 : Heap → Nat,
    I1 H1 ∧
    ∀ H2 : Heap,
    I1 H2 →
    runH Try.prog (Instr.next (.pointer p1) false 0) H2 fun r2 H3 =>
      (
        r2 = .tuple #[.bool false] ∧
        K (.tuple #[]) H3) ∨ (
        ∃ v1 : Value,
        ∃ v2 : Value,
        r2 = .tuple #[.bool true, v1, v2] ∧
        runH Try.prog (Instr.entry (.pointer p1)) H3 fun r3 H4 =>
          ∃ v3 : Value,
          ∃ v4 : Value,
          r3 = .tuple #[v3, v4] ∧
          ∃ n1 : Int,
          (v3 : Value) = .int .i64 n1 ∧
          ∃ l1 : Sl,
          (v4 : Value) = .slice l1.p l1.n l1.c ∧
          FnH Try.prog 28 #[.slice l1.p l1.n l1.c, .int .i64 end0] H4 fun r4 H5 =>
            ∃ n2 : Int,
            r4 = .int .i64 n2 ∧
            br (decide ((n2 : Int) > 0)) (
              ∃ m2 : Option Nat,
              cellH H5 ⟨t, to, none⟩ = some (.map m2) ∧
              0 ≤ (n2 : Int) ∧
              (n2 : Int) ≤ (l1.c : Nat) ∧
              FnH Try.prog 29 #[.slice (slP l1.p l1.c (0 : Int) 4) (Int.toNat (n2 - (0 : Int))) (Int.toNat ((l1.c : Nat) - (0 : Int)))] H5 fun r5 H6 =>
                ∃ l2 : Sl,
                r5 = .slice l2.p l2.n l2.c ∧
                Sub H5 H6 ∧
                runH Try.prog (Instr.mapUpdate 53 (.map m2) (.int .i64 n1) (.slice l2.p l2.n l2.c)) H6 fun _ H7 =>
                  SelfEq ([.v (.pointer (some ⟨t, to, none⟩)), .v (.int .i64 end0), .v (.pointer p1)], [], []) ∧
                  I1 H7 ∧
                  M1 H7 < M1 H2)
             (
              ∃ m3 : Option Nat,
              cellH H5 ⟨t, to, none⟩ = some (.map m3) ∧
              runH Try.prog (Builtin.delete_ #[53, 3] 0 #[.map m3, .int .i64 n1]) H5 fun r6 H8 =>
                r6 = .tuple #[] ∧
                SelfEq ([.v (.pointer (some ⟨t, to, none⟩)), .v (.int .i64 end0), .v (.pointer p1)], [], []) ∧
                I1 H8 ∧
                M1 H8 < M1 H2))
theorem dedup_Table_Cut_eq (t : Nat) (to : Nat) (end0 : Int) (H : Heap) (K : Value → Heap → Prop) : dedup_Table_Cut_vc t to end0 H K = denFn Try.prog dedup_Table_Cut_ann Try.f11 (bodyOf Try.f11) [.pointer (some ⟨t, to, none⟩), .int .i64 end0] H K := by kernel_rfl
theorem dedup_Table_Cut_fn (t : Nat) (to : Nat) (end0 : Int) {H : Heap} {K : Value → Heap → Prop} (h : dedup_Table_Cut_vc t to end0 H K) : FnH Try.prog 11 #[.pointer (some ⟨t, to, none⟩), .int .i64 end0] H K :=
  denFn_fn Try.mixed dedup_Table_Cut_ann Try.func11 (bodyOf_spec (by kernel_rfl)) (dedup_Table_Cut_eq t to end0 H K) h

/-! function 12: (*logboom/dedup.Table).Delete -/
def dedup_Table_Delete_ann : Anns := { hid := [1000014], loops := [(0, { slots := [], kept := [0, 1, 11], locs := [], keptL := [] })], joins := [], mix := [(4, [14])] }
def dedup_Table_Delete_vc (t : Nat) (to : Nat) (start : Int) (H : Heap) (K : Value → Heap → Prop) : Prop :=
  ∃ m1 : Option Nat,
  cellH H ⟨t, to, none⟩ = some (.map m1) ∧
  runH Try.prog (Instr.range 53 (.map m1)) H fun r1 H1 =>
    ∃ p1 : Option Addr,
    r1 = .pointer p1 ∧
    ∃ I1 : Heap → Prop,
    ∃ M1 : Heap → Nat,
    I1 H1 ∧
    ∀ H2 : Heap,
    I1 H2 →
    runH Try.prog (Instr.next (.pointer p1) false 0) H2 fun r2 H3 =>
      (
        r2 = .tuple #[.bool false] ∧
        K (.tuple #[]) H3) ∨ (
        ∃ v1 : Value,
        ∃ v2 : Value,
        r2 = .tuple #[.bool true, v1, v2] ∧
        runH Try.prog (Instr.entry (.pointer p1)) H3 fun r3 H4 =>
          ∃ v3 : Value,
          ∃ v4 : Value,
          r3 = .tuple #[v3, v4] ∧
          ∃ n1 : Int,
          (v3 : Value) = .int .i64 n1 ∧
          ∃ l1 : Sl,
          (v4 : Value) = .slice l1.p l1.n l1.c ∧
          FnH Try.prog 28 #[.slice l1.p l1.n l1.c, .int .i64 start] H4 fun r4 H5 =>
            ∃ n2 : Int,
            r4 = .int .i64 n2 ∧
            ∃ m2 : Option Nat,
            cellH H5 ⟨t, to, none⟩ = some (.map m2) ∧
            0 ≤ (n2 : Int) ∧
            (n2 : Int) ≤ (l1.c : Nat) ∧
            0 ≤ (n2 : Int) ∧
            (n2 : Int) ≤ (l1.n : Nat) ∧
            FnH Try.prog 31 #[.slice (slP l1.p l1.c (0 : Int) 4) (Int.toNat (n2 - (0 : Int))) (Int.toNat ((l1.c : Nat) - (0 : Int))), .int .i64 5] H5 fun r5 H6 =>
              ∃ l2 : Sl,
              r5 = .slice l2.p l2.n l2.c ∧
              Sub H5 H6 ∧
              ∀ q1 : Nat,
              H6 q1 = none →
              letH (Heap.upd H6 q1 (.cells #[.slice l2.p l2.n l2.c, .slice (slP l1.p l1.c n2 4) (Int.toNat ((l1.n : Nat) - n2)) (Int.toNat ((l1.c : Nat) - n2))] 56 (0, 0))) fun H7 =>
              Sub H5 H7 ∧
              FnH Try.prog 30 #[.slice (some ⟨q1, 0, none⟩) 2 2] H7 fun r6 H8 =>
                ∃ l3 : Sl,
                r6 = .slice l3.p l3.n l3.c ∧
                Sub H5 H8 ∧
                runH Try.prog (Instr.mapUpdate 53 (.map m2) (.int .i64 n1) (.slice l3.p l3.n l3.c)) H8 fun _ H9 =>
                  SelfEq ([.v (.pointer (some ⟨t, to, none⟩)), .v (.int .i64 start), .v (.pointer p1)], [], []) ∧
                  I1 H9 ∧
                  M1 H9 < M1 H2)
theorem dedup_Table_Delete_eq (t : Nat) (to : Nat) (start : Int) (H : Heap) (K : Value → Heap → Prop) : dedup_Table_Delete_vc t to start H K = denFn Try.prog dedup_Table_Delete_ann Try.f12 (bodyOf Try.f12) [.pointer (some ⟨t, to, none⟩), .int .i64 start] H K := by kernel_rfl
theorem dedup_Table_Delete_fn (t : Nat) (to : Nat) (start : Int) {H : Heap} {K : Value → Heap → Prop} (h : dedup_Table_Delete_vc t to start H K) : FnH Try.prog 12 #[.pointer (some ⟨t, to, none⟩), .int .i64 start] H K :=
  denFn_fn Try.mixed dedup_Table_Delete_ann Try.func12 (bodyOf_spec (by kernel_rfl)) (dedup_Table_Delete_eq t to start H K) h

/-! function 14: (*logboom/dedup.Table).Ask -/
def dedup_Table_Ask_ann : Anns := { hid := [14, 15], loops := [(1, { slots := [(88, .int .i64)], kept := [2, 3, 4, 12, 86, 87], locs := [], keptL := [] })], joins := [((0, 1), { slots := [(17, .bool)], kept := [0, 1, 2, 3, 4], locs := [], keptL := [] })], mix := [] }
def dedup_Table_Ask_vc (t : Nat) (to : Nat) (pid : Int) (epoch : Int) (seq : Int) (n : Int) (H : Heap) (K : Value → Heap → Prop) : Prop :=
  ∃ J1 : Bool → Heap → Prop,
  (FnH Try.prog 32 #[.int .i64 pid, .int .i64 1000000000] H fun r1 H1 =>
    ∃ b1 : Bool,
    r1 = .bool b1 ∧
    br (!b1) (
      SelfEq ([.v (.pointer (some ⟨t, to, none⟩)), .v (.int .i64 pid), .v (.int .i64 epoch), .v (.int .i64 seq), .v (.int .i64 n)], [], []) ∧
      J1 true H1)
     (
      FnH Try.prog 32 #[.int .i64 epoch, .int .i64 1000000000] H1 fun r2 H2 =>
        ∃ b2 : Bool,
        r2 = .bool b2 ∧
        br (!b2) (
          SelfEq ([.v (.pointer (some ⟨t, to, none⟩)), .v (.int .i64 pid), .v (.int .i64 epoch), .v (.int .i64 seq), .v (.int .i64 n)], [], []) ∧
          J1 true H2)
         (
          FnH Try.prog 32 #[.int .i64 seq, .int .i64 1000000000] H2 fun r3 H3 =>
            ∃ b3 : Bool,
            r3 = .bool b3 ∧
            br (!b3) (
              SelfEq ([.v (.pointer (some ⟨t, to, none⟩)), .v (.int .i64 pid), .v (.int .i64 epoch), .v (.int .i64 seq), .v (.int .i64 n)], [], []) ∧
              J1 true H3)
             (
              br (decide ((n : Int) < 1)) (
                SelfEq ([.v (.pointer (some ⟨t, to, none⟩)), .v (.int .i64 pid), .v (.int .i64 epoch), .v (.int .i64 seq), .v (.int .i64 n)], [], []) ∧
                J1 true H3)
               (
                br (decide ((n : Int) > 64)) (
                  SelfEq ([.v (.pointer (some ⟨t, to, none⟩)), .v (.int .i64 pid), .v (.int .i64 epoch), .v (.int .i64 seq), .v (.int .i64 n)], [], []) ∧
                  J1 true H3)
                 (
                  br ((pid : Int) == 0) (
                    SelfEq ([.v (.pointer (some ⟨t, to, none⟩)), .v (.int .i64 pid), .v (.int .i64 epoch), .v (.int .i64 seq), .v (.int .i64 n)], [], []) ∧
                    J1 (((orI .i64 epoch seq) : Int) != 0) H3)
                   (
                    SelfEq ([.v (.pointer (some ⟨t, to, none⟩)), .v (.int .i64 pid), .v (.int .i64 epoch), .v (.int .i64 seq), .v (.int .i64 n)], [], []) ∧
                    J1 false H3))))))) ∧
  ∀ b_1 : Bool,
  ∀ H4 : Heap,
  J1 b_1 H4 →
  br (b_1) (
    K (.tuple #[.int .i64 (-1), .int .i64 1]) H4)
   (
    br ((pid : Int) == 0) (
      K (.tuple #[.int .i64 (-1), .int .i64 0]) H4)
     (
      br (decide ((seq : Int) > (IntKind.wrap .i64 ((IntKind.wrap .i64 (1000000 - n)) + 1)))) (
        K (.tuple #[.int .i64 (-1), .int .i64 20]) H4)
       (
        ∃ m1 : Option Nat,
        cellH H4 ⟨t, to, none⟩ = some (.map m1) ∧
        runH Try.prog (Instr.lookup 53 (.map m1) (.int .i64 pid) false) H4 fun r4 H5 =>
          ∃ l1 : Sl,
          r4 = .slice l1.p l1.n l1.c ∧
          FnH Try.prog 31 #[.slice l1.p l1.n l1.c, .int .i64 5] H5 fun r5 H6 =>
            ∃ l2 : Sl,
            r5 = .slice l2.p l2.n l2.c ∧
            br (((l2.n : Nat) : Int) == 0) (
              br (decide ((seq : Int) > 0)) (
                K (.tuple #[.int .i64 (-1), .int .i64 11]) H6)
               (
                K (.tuple #[.int .i64 (-1), .int .i64 0]) H6))
             (
              ∃ q1 : Nat,
              ∃ o1 : Nat,
              (l2.p : Option Addr) = some ⟨q1, o1, none⟩ ∧
              0 ≤ (0 : Int) ∧
              (0 : Int) < (l2.n : Nat) ∧
              ∃ n1 : Int,
              cellH H6 ⟨q1, o1 + Int.toNat 0 * 4, none⟩ = some (.int .i64 n1) ∧
              br (decide ((epoch : Int) > n1)) (
                br (decide ((seq : Int) > 0)) (
                  K (.tuple #[.int .i64 (-1), .int .i64 11]) H6)
                 (
                  K (.tuple #[.int .i64 (-1), .int .i64 0]) H6))
               (
                ∃ q2 : Nat,
                ∃ o2 : Nat,
                (l2.p : Option Addr) = some ⟨q2, o2, none⟩ ∧
                0 ≤ (0 : Int) ∧
                (0 : Int) < (l2.n : Nat) ∧
                ∃ n2 : Int,
                cellH H6 ⟨q2, o2 + Int.toNat 0 * 4, none⟩ = some (.int .i64 n2) ∧
                br (decide ((epoch : Int) < n2)) (
                  K (.tuple #[.int .i64 (-1), .int .i64 13]) H6)
                 (
                  ∃ I1 : Int → Heap → Prop,
                  ∃ M1 : Int → Heap → Nat,
                  I1 0 H6 ∧
                  ∀ n_1 : Int,
                  ∀ H7 : Heap,
                  I1 n_1 H7 →
                  br (decide ((n_1 : Int) < (l2.n : Nat))) (
                    ∃ q3 : Nat,
                    ∃ o3 : Nat,
                    (l2.p : Option Addr) = some ⟨q3, o3, none⟩ ∧
                    0 ≤ (n_1 : Int) ∧
                    (n_1 : Int) < (l2.n : Nat) ∧
                    ∃ n3 : Int,
                    cellH H7 ⟨q3, o3 + Int.toNat n_1 * 4, none⟩ = some (.int .i64 n3) ∧
                    ∃ n4 : Int,
                    cellH H7 ⟨q3, o3 + Int.toNat n_1 * 4 + 1, none⟩ = some (.int .i64 n4) ∧
                    ∃ n5 : Int,
                    cellH H7 ⟨q3, o3 + Int.toNat n_1 * 4 + 2, none⟩ = some (.int .i64 n5) ∧
                    ∃ n6 : Int,
                    cellH H7 ⟨q3, o3 + Int.toNat n_1 * 4 + 3, none⟩ = some (.int .i64 n6) ∧
                    runR Try.prog (binOp .eql 60 (.agg #[.int .i64 n3, .int .i64 n4, .int .i64 n5]) (.agg #[.int .i64 epoch, .int .i64 seq, .int .i64 n])) H7 fun r6 =>
                      ∃ b4 : Bool,
                      r6 = .bool b4 ∧
                      br (b4) (
                        K (.tuple #[.int .i64 n6, .int .i64 0]) H7)
                       (
                        SelfEq ([.v (.int .i64 epoch), .v (.int .i64 seq), .v (.int .i64 n), .v (.slice l2.p l2.n l2.c), .v (.slice l2.p l2.n l2.c), .v (.int .i64 (l2.n : Nat))], [], []) ∧
                        I1 (IntKind.wrap .i64 (n_1 + 1)) H7 ∧
                        M1 (IntKind.wrap .i64 (n_1 + 1)) H7 < M1 n_1 H7))
                   (
                    ∃ q4 : Nat,
                    ∃ o4 : Nat,
                    (l2.p : Option Addr) = some ⟨q4, o4, none⟩ ∧
                    0 ≤ ((IntKind.wrap .i64 ((l2.n : Nat) - 1)) : Int) ∧
                    ((IntKind.wrap .i64 ((l2.n : Nat) - 1)) : Int) < (l2.n : Nat) ∧
                    ∃ n7 : Int,
                    cellH H7 ⟨q4, o4 + Int.toNat (IntKind.wrap .i64 ((l2.n : Nat) - 1)) * 4, none⟩ = some (.int .i64 n7) ∧
                    ∃ n8 : Int,
                    cellH H7 ⟨q4, o4 + Int.toNat (IntKind.wrap .i64 ((l2.n : Nat) - 1)) * 4 + 1, none⟩ = some (.int .i64 n8) ∧
                    ∃ n9 : Int,
                    cellH H7 ⟨q4, o4 + Int.toNat (IntKind.wrap .i64 ((l2.n : Nat) - 1)) * 4 + 2, none⟩ = some (.int .i64 n9) ∧
                    ∃ n10 : Int,
                    cellH H7 ⟨q4, o4 + Int.toNat (IntKind.wrap .i64 ((l2.n : Nat) - 1)) * 4 + 3, none⟩ = some (.int .i64 n10) ∧
                    br ((seq : Int) == (IntKind.wrap .i64 (n8 + n9))) (
                      K (.tuple #[.int .i64 (-1), .int .i64 0]) H7)
                     (
                      br (decide ((seq : Int) > (IntKind.wrap .i64 (n8 + n9)))) (
                        K (.tuple #[.int .i64 (-1), .int .i64 11]) H7)
                       (
                        K (.tuple #[.int .i64 (-1), .int .i64 12]) H7)))))))))
theorem dedup_Table_Ask_eq (t : Nat) (to : Nat) (pid : Int) (epoch : Int) (seq : Int) (n : Int) (H : Heap) (K : Value → Heap → Prop) : dedup_Table_Ask_vc t to pid epoch seq n H K = denFn Try.prog dedup_Table_Ask_ann Try.f14 (bodyOf Try.f14) [.pointer (some ⟨t, to, none⟩), .int .i64 pid, .int .i64 epoch, .int .i64 seq, .int .i64 n] H K := by kernel_rfl
theorem dedup_Table_Ask_fn (t : Nat) (to : Nat) (pid : Int) (epoch : Int) (seq : Int) (n : Int) {H : Heap} {K : Value → Heap → Prop} (h : dedup_Table_Ask_vc t to pid epoch seq n H K) : FnH Try.prog 14 #[.pointer (some ⟨t, to, none⟩), .int .i64 pid, .int .i64 epoch, .int .i64 seq, .int .i64 n] H K :=
  denFn_fn Try.mixed dedup_Table_Ask_ann Try.func14 (bodyOf_spec (by kernel_rfl)) (dedup_Table_Ask_eq t to pid epoch seq n H K) h

/-! function 16: (*logboom/dedup.Table).Note -/
def dedup_Table_Note_ann : Anns := { hid := [3, 5], loops := [], joins := [((11, 4), { slots := [], kept := [0, 3, 4], locs := [], keptL := [0] })], mix := [(6, [19, 20])] }
def dedup_Table_Note_vc (t : Nat) (to : Nat) (b_0 : Int) (b_1 : Int) (b_2 : Int) (b_3 : Int) (b_4 : Int) (b_5 : Sl) (H : Heap) (K : Value → Heap → Prop) : Prop :=
  br ((b_2 : Int) == 0) (
    K (.tuple #[]) H)
   (
    FnH Try.prog 34 #[.agg #[.int .i64 b_0, .int .i64 b_1, .int .i64 b_2, .int .i64 b_3, .int .i64 b_4, .slice b_5.p b_5.n b_5.c]] H fun r1 H1 =>
      ∃ n1 : Int,
      r1 = .int .i64 n1 ∧
      br ((n1 : Int) != 0) (
        K (.tuple #[]) H1)
       (
        ∃ m1 : Option Nat,
        cellH H1 ⟨t, to, none⟩ = some (.map m1) ∧
        runR Try.prog (Instr.lookup 53 (.map m1) (.int .i64 b_2) false) H1 fun r2 =>
          ∃ l1 : Sl,
          r2 = .slice l1.p l1.n l1.c ∧
          ∃ J1 : Heap → Prop,
          (br (decide (((l1.n : Nat) : Int) > 0)) (
            ∃ q1 : Nat,
            ∃ o1 : Nat,
            (l1.p : Option Addr) = some ⟨q1, o1, none⟩ ∧
            0 ≤ ((IntKind.wrap .i64 ((l1.n : Nat) - 1)) : Int) ∧
            ((IntKind.wrap .i64 ((l1.n : Nat) - 1)) : Int) < (l1.n : Nat) ∧
            ∃ n2 : Int,
            cellH H1 ⟨q1, o1 + Int.toNat (IntKind.wrap .i64 ((l1.n : Nat) - 1)) * 4, none⟩ = some (.int .i64 n2) ∧
            ∃ n3 : Int,
            cellH H1 ⟨q1, o1 + Int.toNat (IntKind.wrap .i64 ((l1.n : Nat) - 1)) * 4 + 1, none⟩ = some (.int .i64 n3) ∧
            ∃ n4 : Int,
            cellH H1 ⟨q1, o1 + Int.toNat (IntKind.wrap .i64 ((l1.n : Nat) - 1)) * 4 + 2, none⟩ = some (.int .i64 n4) ∧
            ∃ n5 : Int,
            cellH H1 ⟨q1, o1 + Int.toNat (IntKind.wrap .i64 ((l1.n : Nat) - 1)) * 4 + 3, none⟩ = some (.int .i64 n5) ∧
            br (decide ((n5 : Int) ≥ b_0)) (
              K (.tuple #[]) H1)
             (
              br (decide ((n2 : Int) > b_3)) (
                K (.tuple #[]) H1)
               (
                br ((n2 : Int) == b_3) (
                  br (decide ((b_4 : Int) < (IntKind.wrap .i64 (n3 + n4)))) (
                    K (.tuple #[]) H1)
                   (
                    SelfEq ([.v (.pointer (some ⟨t, to, none⟩)), .loc 0 0, .v (.slice l1.p l1.n l1.c)], [some (33, [.int .i64 b_0, .int .i64 b_1, .int .i64 b_2, .int .i64 b_3, .int .i64 b_4, .slice b_5.p b_5.n b_5.c])], []) ∧
                    J1 H1))
                 (
                  SelfEq ([.v (.pointer (some ⟨t, to, none⟩)), .loc 0 0, .v (.slice l1.p l1.n l1.c)], [some (33, [.int .i64 b_0, .int .i64 b_1, .int .i64 b_2, .int .i64 b_3, .int .i64 b_4, .slice b_5.p b_5.n b_5.c])], []) ∧
                  J1 H1))))
           (
            SelfEq ([.v (.pointer (some ⟨t, to, none⟩)), .loc 0 0, .v (.slice l1.p l1.n l1.c)], [some (33, [.int .i64 b_0, .int .i64 b_1, .int .i64 b_2, .int .i64 b_3, .int .i64 b_4, .slice b_5.p b_5.n b_5.c])], []) ∧
            J1 H1)) ∧
          ∀ H2 : Heap,
          J1 H2 →
          (∃ m2 : Option Nat,
          cellH H2 ⟨t, to, none⟩ = some (.map m2) ∧
          Sub H2 H2 ∧
          (Sub H2 H2 ∧
          ∀ q2 : Nat,
          H2 q2 = none →
          letH (Heap.upd H2 q2 (.cells #[.int .i64 b_3, .int .i64 b_4, .int .i64 (b_5.n : Nat), .int .i64 b_0] 62 (0, 0))) fun H3 =>
          Sub H2 H3 ∧
          runH Try.prog (Builtin.append_ #[56, 56] 56 #[.slice l1.p l1.n l1.c, .slice (some ⟨q2, 0, none⟩) 1 1]) H3 fun r3 H4 =>
            ∃ l2 : Sl,
            r3 = .slice l2.p l2.n l2.c ∧
            runH Try.prog (Instr.mapUpdate 53 (.map m2) (.int .i64 b_2) (.slice l2.p l2.n l2.c)) H4 fun _ H5 =>
              K (.tuple #[]) H5) ∧
          ∀ q3 : Nat,
          H2 q3 = none →
          letH (Heap.upd H2 q3 (.cells #[.int .i64 b_3, .int .i64 b_4, .int .i64 (b_5.n : Nat), .int .i64 b_0] 62 (0, 0))) fun H6 =>
          Sub H2 H6 ∧
          (Sub H2 H6 ∧
          runH Try.prog (Builtin.append_ #[56, 56] 56 #[.slice l1.p l1.n l1.c, .slice (some ⟨q3, 0, none⟩) 1 1]) H6 fun r4 H7 =>
            ∃ l3 : Sl,
            r4 = .slice l3.p l3.n l3.c ∧
            runH Try.prog (Instr.mapUpdate 53 (.map m2) (.int .i64 b_2) (.slice l3.p l3.n l3.c)) H7 fun _ H8 =>
              K (.tuple #[]) H8) ∧
          runH Try.prog (Builtin.append_ #[56, 56] 56 #[.slice l1.p l1.n l1.c, .slice (some ⟨q3, 0, none⟩) 1 1]) H6 fun r5 H9 =>
            ∃ l4 : Sl,
            r5 = .slice l4.p l4.n l4.c ∧
            runH Try.prog (Instr.mapUpdate 53 (.map m2) (.int .i64 b_2) (.slice l4.p l4.n l4.c)) H9 fun _ H10 =>
              K (.tuple #[]) H10) ∧
          (Sub H2 H2 ∧
          (∃ m3 : Option Nat,
          cellH H2 ⟨t, to, none⟩ = some (.map m3) ∧
          Sub H2 H2 ∧
          ∀ q4 : Nat,
          H2 q4 = none →
          letH (Heap.upd H2 q4 (.cells #[.int .i64 b_3, .int .i64 b_4, .int .i64 (b_5.n : Nat), .int .i64 b_0] 62 (0, 0))) fun H11 =>
          Sub H2 H11 ∧
          runH Try.prog (Builtin.append_ #[56, 56] 56 #[.slice l1.p l1.n l1.c, .slice (some ⟨q4, 0, none⟩) 1 1]) H11 fun r6 H12 =>
            ∃ l5 : Sl,
            r6 = .slice l5.p l5.n l5.c ∧
            runH Try.prog (Instr.mapUpdate 53 (.map m3) (.int .i64 b_2) (.slice l5.p l5.n l5.c)) H12 fun _ H13 =>
              K (.tuple #[]) H13) ∧
          ∀ q5 : Nat,
          H2 q5 = none →
          letH (Heap.upd H2 q5 (.cells #[.int .i64 b_3, .int .i64 b_4, .int .i64 (b_5.n : Nat), .int .i64 b_0] 62 (0, 0))) fun H14 =>
          Sub H2 H14 ∧
          (∃ m4 : Option Nat,
          cellH H14 ⟨t, to, none⟩ = some (.map m4) ∧
          Sub H2 H14 ∧
          runH Try.prog (Builtin.append_ #[56, 56] 56 #[.slice l1.p l1.n l1.c, .slice (some ⟨q5, 0, none⟩) 1 1]) H14 fun r7 H15 =>
            ∃ l6 : Sl,
            r7 = .slice l6.p l6.n l6.c ∧
            runH Try.prog (Instr.mapUpdate 53 (.map m4) (.int .i64 b_2) (.slice l6.p l6.n l6.c)) H15 fun _ H16 =>
              K (.tuple #[]) H16) ∧
          runH Try.prog (Builtin.append_ #[56, 56] 56 #[.slice l1.p l1.n l1.c, .slice (some ⟨q5, 0, none⟩) 1 1]) H14 fun r8 H17 =>
            ∃ l7 : Sl,
            r8 = .slice l7.p l7.n l7.c ∧
            ∃ m5 : Option Nat,
            cellH H17 ⟨t, to, none⟩ = some (.map m5) ∧
            runH Try.prog (Instr.mapUpdate 53 (.map m5) (.int .i64 b_2) (.slice l7.p l7.n l7.c)) H17 fun _ H18 =>
              K (.tuple #[]) H18) ∧
          ∀ q6 : Nat,
          H2 q6 = none →
          letH (Heap.upd H2 q6 (.cells #[.int .i64 b_3, .int .i64 b_4, .int .i64 (b_5.n : Nat), .int .i64 b_0] 62 (0, 0))) fun H19 =>
          Sub H2 H19 ∧
          (∃ m6 : Option Nat,
          cellH H19 ⟨t, to, none⟩ = some (.map m6) ∧
          Sub H2 H19 ∧
          (Sub H2 H19 ∧
          runH Try.prog (Builtin.append_ #[56, 56] 56 #[.slice l1.p l1.n l1.c, .slice (some ⟨q6, 0, none⟩) 1 1]) H19 fun r9 H20 =>
            ∃ l8 : Sl,
            r9 = .slice l8.p l8.n l8.c ∧
            runH Try.prog (Instr.mapUpdate 53 (.map m6) (.int .i64 b_2) (.slice l8.p l8.n l8.c)) H20 fun _ H21 =>
              K (.tuple #[]) H21) ∧
          runH Try.prog (Builtin.append_ #[56, 56] 56 #[.slice l1.p l1.n l1.c, .slice (some ⟨q6, 0, none⟩) 1 1]) H19 fun r10 H22 =>
            ∃ l9 : Sl,
            r10 = .slice l9.p l9.n l9.c ∧
            runH Try.prog (Instr.mapUpdate 53 (.map m6) (.int .i64 b_2) (.slice l9.p l9.n l9.c)) H22 fun _ H23 =>
              K (.tuple #[]) H23) ∧
          (Sub H2 H19 ∧
          (∃ m7 : Option Nat,
          cellH H19 ⟨t, to, none⟩ = some (.map m7) ∧
          Sub H2 H19 ∧
          runH Try.prog (Builtin.append_ #[56, 56] 56 #[.slice l1.p l1.n l1.c, .slice (some ⟨q6, 0, none⟩) 1 1]) H19 fun r11 H24 =>
            ∃ l10 : Sl,
            r11 = .slice l10.p l10.n l10.c ∧
            runH Try.prog (Instr.mapUpdate 53 (.map m7) (.int .i64 b_2) (.slice l10.p l10.n l10.c)) H24 fun _ H25 =>
              K (.tuple #[]) H25) ∧
          runH Try.prog (Builtin.append_ #[56, 56] 56 #[.slice l1.p l1.n l1.c, .slice (some ⟨q6, 0, none⟩) 1 1]) H19 fun r12 H26 =>
            ∃ l11 : Sl,
            r12 = .slice l11.p l11.n l11.c ∧
            ∃ m8 : Option Nat,
            cellH H26 ⟨t, to, none⟩ = some (.map m8) ∧
            runH Try.prog (Instr.mapUpdate 53 (.map m8) (.int .i64 b_2) (.slice l11.p l11.n l11.c)) H26 fun _ H27 =>
              K (.tuple #[]) H27) ∧
          runH Try.prog (Builtin.append_ #[56, 56] 56 #[.slice l1.p l1.n l1.c, .slice (some ⟨q6, 0, none⟩) 1 1]) H19 fun r13 H28 =>
            ∃ l12 : Sl,
            r13 = .slice l12.p l12.n l12.c ∧
            (∃ m9 : Option Nat,
            cellH H28 ⟨t, to, none⟩ = some (.map m9) ∧
            runH Try.prog (Instr.mapUpdate 53 (.map m9) (.int .i64 b_2) (.slice l12.p l12.n l12.c)) H28 fun _ H29 =>
              K (.tuple #[]) H29) ∧
            ∃ m10 : Option Nat,
            cellH H28 ⟨t, to, none⟩ = some (.map m10) ∧
            runH Try.prog (Instr.mapUpdate 53 (.map m10) (.int .i64 b_2) (.slice l12.p l12.n l12.c)) H28 fun _ H30 =>
              K (.tuple #[]) H30))
theorem dedup_Table_Note_eq (t : Nat) (to : Nat) (b_0 : Int) (b_1 : Int) (b_2 : Int) (b_3 : Int) (b_4 : Int) (b_5 : Sl) (H : Heap) (K : Value → Heap → Prop) : dedup_Table_Note_vc t to b_0 b_1 b_2 b_3 b_4 b_5 H K = denFn Try.prog dedup_Table_Note_ann Try.f16 (bodyOf Try.f16) [.pointer (some ⟨t, to, none⟩), .agg #[.int .i64 b_0, .int .i64 b_1, .int .i64 b_2, .int .i64 b_3, .int .i64 b_4, .slice b_5.p b_5.n b_5.c]] H K := by kernel_rfl
theorem dedup_Table_Note_fn (t : Nat) (to : Nat) (b_0 : Int) (b_1 : Int) (b_2 : Int) (b_3 : Int) (b_4 : Int) (b_5 : Sl) {H : Heap} {K : Value → Heap → Prop} (h : dedup_Table_Note_vc t to b_0 b_1 b_2 b_3 b_4 b_5 H K) : FnH Try.prog 16 #[.pointer (some ⟨t, to, none⟩), .agg #[.int .i64 b_0, .int .i64 b_1, .int .i64 b_2, .int .i64 b_3, .int .i64 b_4, .slice b_5.p b_5.n b_5.c]] H K :=
  denFn_fn Try.mixed dedup_Table_Note_ann Try.func16 (bodyOf_spec (by kernel_rfl)) (dedup_Table_Note_eq t to b_0 b_1 b_2 b_3 b_4 b_5 H K) h

/-! function 34: logboom/wire.Right -/
def wire_Right_ann : Anns := { hid := [1, 6], loops := [(0, { slots := [(4, .bool), (57, .int .i64)], kept := [1, 3, 55, 56], locs := [], keptL := [0] })], joins := [((0, 16), { slots := [(84, .bool)], kept := [1], locs := [], keptL := [0] })], mix := [] }
def wire_Right_vc (b_0 : Int) (b_1 : Int) (b_2 : Int) (b_3 : Int) (b_4 : Int) (b_5 : Sl) (H : Heap) (K : Value → Heap → Prop) : Prop :=
  br (decide ((b_0 : Int) < 0)) (
    K (.int .i64 1) H)
   (
    FnH Try.prog 51 #[.int .i64 b_1, .int .i64 1000000000] H fun r1 H1 =>
      ∃ b1 : Bool,
      r1 = .bool b1 ∧
      br (!b1) (
        K (.int .i64 1) H1)
       (
        FnH Try.prog 51 #[.int .i64 b_2, .int .i64 1000000000] H1 fun r2 H2 =>
          ∃ b2 : Bool,
          r2 = .bool b2 ∧
          br (!b2) (
            K (.int .i64 1) H2)
           (
            FnH Try.prog 51 #[.int .i64 b_3, .int .i64 1000000000] H2 fun r3 H3 =>
              ∃ b3 : Bool,
              r3 = .bool b3 ∧
              br (!b3) (
                K (.int .i64 1) H3)
               (
                FnH Try.prog 51 #[.int .i64 b_4, .int .i64 1000000000] H3 fun r4 H4 =>
                  ∃ b4 : Bool,
                  r4 = .bool b4 ∧
                  br (!b4) (
                    K (.int .i64 1) H4)
                   (
                    br ((b_2 : Int) == 0) (
                      br (((orI .i64 b_3 b_4) : Int) != 0) (
                        K (.int .i64 1) H4)
                       (
                        br (((b_5.n : Nat) : Int) == 0) (
                          K (.int .i64 1) H4)
                         (
                          ∃ I1 : Bool → Int → Heap → Prop,
                          ∃ M1 : Bool → Int → Heap → Nat,
                          I1 false 0 H4 ∧
                          ∀ long_1 : Bool,
                          ∀ n_1 : Int,
                          ∀ H5 : Heap,
                          I1 long_1 n_1 H5 →
                          br (decide ((n_1 : Int) < (b_5.n : Nat))) (
                            ∃ q1 : Nat,
                            ∃ o1 : Nat,
                            (b_5.p : Option Addr) = some ⟨q1, o1, none⟩ ∧
                            0 ≤ (n_1 : Int) ∧
                            (n_1 : Int) < (b_5.n : Nat) ∧
                            ∃ s1 : ByteArray,
                            cellH H5 ⟨q1, o1 + Int.toNat n_1 * 3, none⟩ = some (.string s1) ∧
                            ∃ s2 : ByteArray,
                            cellH H5 ⟨q1, o1 + Int.toNat n_1 * 3 + 1, none⟩ = some (.string s2) ∧
                            ∃ n1 : Int,
                            cellH H5 ⟨q1, o1 + Int.toNat n_1 * 3 + 2, none⟩ = some (.int .i64 n1) ∧
                            FnH Try.prog 51 #[.int .i64 n1, .int .i64 1000000000] H5 fun r5 H6 =>
                              ∃ b5 : Bool,
                              r5 = .bool b5 ∧
                              br (!b5) (
                                K (.int .i64 1) H6)
                               (
                                br (long_1) (
                                  SelfEq ([.loc 0 0, .v (.int .i64 (b_5.n : Nat)), .v (.slice b_5.p b_5.n b_5.c), .v (.int .i64 (b_5.n : Nat))], [some (33, [.int .i64 b_0, .int .i64 b_1, .int .i64 b_2, .int .i64 b_3, .int .i64 b_4, .slice b_5.p b_5.n b_5.c])], []) ∧
                                  I1 true (IntKind.wrap .i64 (n_1 + 1)) H6 ∧
                                  M1 true (IntKind.wrap .i64 (n_1 + 1)) H6 < M1 long_1 n_1 H5)
                                 (
                                  br (decide (((s1.size : Nat) : Int) > 1000)) (
                                    SelfEq ([.loc 0 0, .v (.int .i64 (b_5.n : Nat)), .v (.slice b_5.p b_5.n b_5.c), .v (.int .i64 (b_5.n : Nat))], [some (33, [.int .i64 b_0, .int .i64 b_1, .int .i64 b_2, .int .i64 b_3, .int .i64 b_4, .slice b_5.p b_5.n b_5.c])], []) ∧
                                    I1 true (IntKind.wrap .i64 (n_1 + 1)) H6 ∧
                                    M1 true (IntKind.wrap .i64 (n_1 + 1)) H6 < M1 long_1 n_1 H5)
                                   (
                                    SelfEq ([.loc 0 0, .v (.int .i64 (b_5.n : Nat)), .v (.slice b_5.p b_5.n b_5.c), .v (.int .i64 (b_5.n : Nat))], [some (33, [.int .i64 b_0, .int .i64 b_1, .int .i64 b_2, .int .i64 b_3, .int .i64 b_4, .slice b_5.p b_5.n b_5.c])], []) ∧
                                    I1 (decide (((s2.size : Nat) : Int) > 1000)) (IntKind.wrap .i64 (n_1 + 1)) H6 ∧
                                    M1 (decide (((s2.size : Nat) : Int) > 1000)) (IntKind.wrap .i64 (n_1 + 1)) H6 < M1 long_1 n_1 H5))))
                           (
                            br (decide (((b_5.n : Nat) : Int) > 64)) (
                              K (.int .i64 3) H5)
                             (
                              br (long_1) (
                                K (.int .i64 2) H5)
                               (
                                ∃ J1 : Bool → Heap → Prop,
                                (br (decide ((b_0 : Int) > (IntKind.wrap .i64 ((IntKind.wrap .i64 (1000000000 - (b_5.n : Nat))) + 1)))) (
                                  SelfEq ([.loc 0 0], [some (33, [.int .i64 b_0, .int .i64 b_1, .int .i64 b_2, .int .i64 b_3, .int .i64 b_4, .slice b_5.p b_5.n b_5.c])], []) ∧
                                  J1 true H5)
                                 (
                                  SelfEq ([.loc 0 0], [some (33, [.int .i64 b_0, .int .i64 b_1, .int .i64 b_2, .int .i64 b_3, .int .i64 b_4, .slice b_5.p b_5.n b_5.c])], []) ∧
                                  J1 (decide ((b_4 : Int) > (IntKind.wrap .i64 ((IntKind.wrap .i64 (1000000 - (b_5.n : Nat))) + 1)))) H5)) ∧
                                ∀ b_6 : Bool,
                                ∀ H7 : Heap,
                                J1 b_6 H7 →
                                br (b_6) (
                                  K (.int .i64 20) H7)
                                 (
                                  FnH Try.prog 52 #[.agg #[.int .i64 b_0, .int .i64 b_1, .int .i64 b_2, .int .i64 b_3, .int .i64 b_4, .slice b_5.p b_5.n b_5.c]] H7 fun r6 H8 =>
                                    ∃ l1 : Sl,
                                    r6 = .slice l1.p l1.n l1.c ∧
                                    br (decide (((l1.n : Nat) : Int) > 4088)) (
                                      K (.int .i64 2) H8)
                                     (
                                      K (.int .i64 0) H8))))))))
                     (
                      br (((b_5.n : Nat) : Int) == 0) (
                        K (.int .i64 1) H4)
                       (
                        ∃ I2 : Bool → Int → Heap → Prop,
                        ∃ M2 : Bool → Int → Heap → Nat,
                        I2 false 0 H4 ∧
                        ∀ long_2 : Bool,
                        ∀ n_2 : Int,
                        ∀ H9 : Heap,
                        I2 long_2 n_2 H9 →
                        br (decide ((n_2 : Int) < (b_5.n : Nat))) (
                          ∃ q2 : Nat,
                          ∃ o2 : Nat,
                          (b_5.p : Option Addr) = some ⟨q2, o2, none⟩ ∧
                          0 ≤ (n_2 : Int) ∧
                          (n_2 : Int) < (b_5.n : Nat) ∧
                          ∃ s3 : ByteArray,
                          cellH H9 ⟨q2, o2 + Int.toNat n_2 * 3, none⟩ = some (.string s3) ∧
                          ∃ s4 : ByteArray,
                          cellH H9 ⟨q2, o2 + Int.toNat n_2 * 3 + 1, none⟩ = some (.string s4) ∧
                          ∃ n2 : Int,
                          cellH H9 ⟨q2, o2 + Int.toNat n_2 * 3 + 2, none⟩ = some (.int .i64 n2) ∧
                          FnH Try.prog 51 #[.int .i64 n2, .int .i64 1000000000] H9 fun r7 H10 =>
                            ∃ b6 : Bool,
                            r7 = .bool b6 ∧
                            br (!b6) (
                              K (.int .i64 1) H10)
                             (
                              br (long_2) (
                                SelfEq ([.loc 0 0, .v (.int .i64 (b_5.n : Nat)), .v (.slice b_5.p b_5.n b_5.c), .v (.int .i64 (b_5.n : Nat))], [some (33, [.int .i64 b_0, .int .i64 b_1, .int .i64 b_2, .int .i64 b_3, .int .i64 b_4, .slice b_5.p b_5.n b_5.c])], []) ∧
                                I2 true (IntKind.wrap .i64 (n_2 + 1)) H10 ∧
                                M2 true (IntKind.wrap .i64 (n_2 + 1)) H10 < M2 long_2 n_2 H9)
                               (
                                br (decide (((s3.size : Nat) : Int) > 1000)) (
                                  SelfEq ([.loc 0 0, .v (.int .i64 (b_5.n : Nat)), .v (.slice b_5.p b_5.n b_5.c), .v (.int .i64 (b_5.n : Nat))], [some (33, [.int .i64 b_0, .int .i64 b_1, .int .i64 b_2, .int .i64 b_3, .int .i64 b_4, .slice b_5.p b_5.n b_5.c])], []) ∧
                                  I2 true (IntKind.wrap .i64 (n_2 + 1)) H10 ∧
                                  M2 true (IntKind.wrap .i64 (n_2 + 1)) H10 < M2 long_2 n_2 H9)
                                 (
                                  SelfEq ([.loc 0 0, .v (.int .i64 (b_5.n : Nat)), .v (.slice b_5.p b_5.n b_5.c), .v (.int .i64 (b_5.n : Nat))], [some (33, [.int .i64 b_0, .int .i64 b_1, .int .i64 b_2, .int .i64 b_3, .int .i64 b_4, .slice b_5.p b_5.n b_5.c])], []) ∧
                                  I2 (decide (((s4.size : Nat) : Int) > 1000)) (IntKind.wrap .i64 (n_2 + 1)) H10 ∧
                                  M2 (decide (((s4.size : Nat) : Int) > 1000)) (IntKind.wrap .i64 (n_2 + 1)) H10 < M2 long_2 n_2 H9))))
                         (
                          br (decide (((b_5.n : Nat) : Int) > 64)) (
                            K (.int .i64 3) H9)
                           (
                            br (long_2) (
                              K (.int .i64 2) H9)
                             (
                              ∃ J2 : Bool → Heap → Prop,
                              (br (decide ((b_0 : Int) > (IntKind.wrap .i64 ((IntKind.wrap .i64 (1000000000 - (b_5.n : Nat))) + 1)))) (
                                SelfEq ([.loc 0 0], [some (33, [.int .i64 b_0, .int .i64 b_1, .int .i64 b_2, .int .i64 b_3, .int .i64 b_4, .slice b_5.p b_5.n b_5.c])], []) ∧
                                J2 true H9)
                               (
                                SelfEq ([.loc 0 0], [some (33, [.int .i64 b_0, .int .i64 b_1, .int .i64 b_2, .int .i64 b_3, .int .i64 b_4, .slice b_5.p b_5.n b_5.c])], []) ∧
                                J2 (decide ((b_4 : Int) > (IntKind.wrap .i64 ((IntKind.wrap .i64 (1000000 - (b_5.n : Nat))) + 1)))) H9)) ∧
                              ∀ b_7 : Bool,
                              ∀ H11 : Heap,
                              J2 b_7 H11 →
                              br (b_7) (
                                K (.int .i64 20) H11)
                               (
                                FnH Try.prog 52 #[.agg #[.int .i64 b_0, .int .i64 b_1, .int .i64 b_2, .int .i64 b_3, .int .i64 b_4, .slice b_5.p b_5.n b_5.c]] H11 fun r8 H12 =>
                                  ∃ l2 : Sl,
                                  r8 = .slice l2.p l2.n l2.c ∧
                                  br (decide (((l2.n : Nat) : Int) > 4088)) (
                                    K (.int .i64 2) H12)
                                   (
                                    K (.int .i64 0) H12))))))))))))
theorem wire_Right_eq (b_0 : Int) (b_1 : Int) (b_2 : Int) (b_3 : Int) (b_4 : Int) (b_5 : Sl) (H : Heap) (K : Value → Heap → Prop) : wire_Right_vc b_0 b_1 b_2 b_3 b_4 b_5 H K = denFn Try.prog wire_Right_ann Try.f34 (bodyOf Try.f34) [.agg #[.int .i64 b_0, .int .i64 b_1, .int .i64 b_2, .int .i64 b_3, .int .i64 b_4, .slice b_5.p b_5.n b_5.c]] H K := by kernel_rfl
theorem wire_Right_fn (b_0 : Int) (b_1 : Int) (b_2 : Int) (b_3 : Int) (b_4 : Int) (b_5 : Sl) {H : Heap} {K : Value → Heap → Prop} (h : wire_Right_vc b_0 b_1 b_2 b_3 b_4 b_5 H K) : FnH Try.prog 34 #[.agg #[.int .i64 b_0, .int .i64 b_1, .int .i64 b_2, .int .i64 b_3, .int .i64 b_4, .slice b_5.p b_5.n b_5.c]] H K :=
  denFn_fn Try.mixed wire_Right_ann Try.func34 (bodyOf_spec (by kernel_rfl)) (wire_Right_eq b_0 b_1 b_2 b_3 b_4 b_5 H K) h

end Go.Proofs.Ytkabaoigablphaa
