/- Formulas of functions, printed by this session's vc.py; each is tied to the program by the kernel. -/
import Derived.Test.YtmneimfhcjkinaaDoorProg
import Derived.KernelRfl
import Derived.Test.YtmneimfhcjkinaaDoorHlFn
import Derived.Test.YtmneimfhcjkinaaDoorV1
namespace Go.Proofs.YtmneimfhcjkinaaDoor
open Go.HL
set_option maxRecDepth 100000
/-! function 33: logboom/raftlog.bytes -/
def raftlog_bytes_ann : Anns := { hid := [5], loops := [(0, { slots := [(3, .slice), (9, .int .i64)], kept := [7, 8], locs := [], keptL := [] })], joins := [], mix := [] }
def raftlog_bytes_vc (l : Sl) (H : Heap) (K : Value → Heap → Prop) : Prop :=
  ∃ I1 : Sl → Int → Heap → Prop,
  ∃ M1 : Sl → Int → Heap → Nat,
  I1 ⟨none, 0, 0⟩ 0 H ∧
  ∀ b_1 : Sl,
  ∀ n_1 : Int,
  ∀ H1 : Heap,
  I1 b_1 n_1 H1 →
  br (decide ((n_1 : Int) < (l.n : Nat))) (
    ∃ q1 : Nat,
    ∃ o1 : Nat,
    (l.p : Option Addr) = some ⟨q1, o1, none⟩ ∧
    0 ≤ (n_1 : Int) ∧
    (n_1 : Int) < (l.n : Nat) ∧
    ∃ n1 : Int,
    cellH H1 ⟨q1, o1 + Int.toNat n_1 * 3, none⟩ = some (.int .i64 n1) ∧
    ∃ n2 : Int,
    cellH H1 ⟨q1, o1 + Int.toNat n_1 * 3 + 1, none⟩ = some (.int .i64 n2) ∧
    ∃ s1 : ByteArray,
    cellH H1 ⟨q1, o1 + Int.toNat n_1 * 3 + 2, none⟩ = some (.string s1) ∧
    FnH Tryd.prog 50 #[.agg #[.int .i64 n1, .int .i64 n2, .string s1]] H1 fun r1 H2 =>
      ∃ s2 : ByteArray,
      r1 = .string s2 ∧
      FnH Tryd.prog 48 #[.int .i64 (s2.size : Nat)] H2 fun r2 H3 =>
        ∃ s3 : ByteArray,
        r2 = .string s3 ∧
        runH Tryd.prog (Builtin.append_ #[53, 9] 53 #[.slice b_1.p b_1.n b_1.c, .string s3]) H3 fun r3 H4 =>
          ∃ l1 : Sl,
          r3 = .slice l1.p l1.n l1.c ∧
          FnH Tryd.prog 30 #[.string s2] H4 fun r4 H5 =>
            ∃ s4 : ByteArray,
            r4 = .string s4 ∧
            runH Tryd.prog (Builtin.append_ #[53, 9] 53 #[.slice l1.p l1.n l1.c, .string s4]) H5 fun r5 H6 =>
              ∃ l2 : Sl,
              r5 = .slice l2.p l2.n l2.c ∧
              SelfEq ([.v (.slice l.p l.n l.c), .v (.int .i64 (l.n : Nat))], [], []) ∧
              I1 l2 (IntKind.wrap .i64 (n_1 + 1)) H6 ∧
              M1 l2 (IntKind.wrap .i64 (n_1 + 1)) H6 < M1 b_1 n_1 H1)
   (
    runH Tryd.prog (convert 53 9 (.slice b_1.p b_1.n b_1.c)) H1 fun r6 H7 =>
      ∃ s5 : ByteArray,
      r6 = .string s5 ∧
      K (.string s5) H7)
theorem raftlog_bytes_eq (l : Sl) (H : Heap) (K : Value → Heap → Prop) : raftlog_bytes_vc l H K = denFn Tryd.prog raftlog_bytes_ann Tryd.f33 (bodyOf Tryd.f33) [.slice l.p l.n l.c] H K := by kernel_rfl
theorem raftlog_bytes_fn (l : Sl) {H : Heap} {K : Value → Heap → Prop} (h : raftlog_bytes_vc l H K) : FnH Tryd.prog 33 #[.slice l.p l.n l.c] H K :=
  denFn_fn Tryd.mixed raftlog_bytes_ann Tryd.func33 (bodyOf_spec (by kernel_rfl)) (raftlog_bytes_eq l H K) h

/-! function 46: logboom/raftlog.one -/
def raftlog_one_ann : Anns := { hid := [2], loops := [], joins := [], mix := [] }
def raftlog_one_vc (s : ByteArray) (H : Heap) (K : Value → Heap → Prop) : Prop :=
  br (decide (((s.size : Nat) : Int) < 8)) (
    K (.tuple #[.agg #[.int .i64 0, .int .i64 0, .string (⟨#[]⟩ : ByteArray)], .int .i64 0, .int .i64 0]) H)
   (
    FnH Tryd.prog 44 #[.string s] H fun r1 H1 =>
      ∃ n1 : Int,
      r1 = .int .i64 n1 ∧
      br (decide ((n1 : Int) > 2100)) (
        K (.tuple #[.agg #[.int .i64 0, .int .i64 0, .string (⟨#[]⟩ : ByteArray)], .int .i64 0, .int .i64 4]) H1)
       (
        br (decide (((s.size : Nat) : Int) < (IntKind.wrap .i64 (8 + n1)))) (
          K (.tuple #[.agg #[.int .i64 0, .int .i64 0, .string (⟨#[]⟩ : ByteArray)], .int .i64 0, .int .i64 0]) H1)
         (
          0 ≤ (IntKind.wrap .i64 (8 + n1) : Int) ∧
          (IntKind.wrap .i64 (8 + n1) : Int) ≤ (s.size : Nat) ∧
          0 ≤ (4 : Int) ∧
          (4 : Int) ≤ (IntKind.wrap .i64 (8 + n1)) ∧
          FnH Tryd.prog 26 #[.string (s.extract (Int.toNat 4) (Int.toNat (IntKind.wrap .i64 (8 + n1))))] H1 fun r2 H2 =>
            ∃ s1 : ByteArray,
            ∃ n2 : Int,
            r2 = .tuple #[.string s1, .int .i64 n2] ∧
            br ((n2 : Int) != 0) (
              K (.tuple #[.agg #[.int .i64 0, .int .i64 0, .string (⟨#[]⟩ : ByteArray)], .int .i64 0, .int .i64 n2]) H2)
             (
              FnH Tryd.prog 42 #[.string s1, .int .i64 1] H2 fun r3 H3 =>
                ∃ n3 : Int,
                ∃ n4 : Int,
                ∃ s2 : ByteArray,
                ∃ b1 : Bool,
                r3 = .tuple #[.int .i64 n3, .int .i64 n4, .string s2, .bool b1] ∧
                FnH Tryd.prog 43 #[.string s2, .int .i64 2048] H3 fun r4 H4 =>
                  ∃ s3 : ByteArray,
                  ∃ b2 : Bool,
                  r4 = .tuple #[.string s3, .bool b2] ∧
                  br (!b1) (
                    K (.tuple #[.agg #[.int .i64 0, .int .i64 0, .string (⟨#[]⟩ : ByteArray)], .int .i64 0, .int .i64 4]) H4)
                   (
                    br (!b2) (
                      K (.tuple #[.agg #[.int .i64 0, .int .i64 0, .string (⟨#[]⟩ : ByteArray)], .int .i64 0, .int .i64 4]) H4)
                     (
                      K (.tuple #[.agg #[.int .i64 n3, .int .i64 n4, .string s3], .int .i64 (IntKind.wrap .i64 (8 + n1)), .int .i64 0]) H4))))))
theorem raftlog_one_eq (s : ByteArray) (H : Heap) (K : Value → Heap → Prop) : raftlog_one_vc s H K = denFn Tryd.prog raftlog_one_ann Tryd.f46 (bodyOf Tryd.f46) [.string s] H K := by kernel_rfl
theorem raftlog_one_fn (s : ByteArray) {H : Heap} {K : Value → Heap → Prop} (h : raftlog_one_vc s H K) : FnH Tryd.prog 46 #[.string s] H K :=
  denFn_fn Tryd.mixed raftlog_one_ann Tryd.func46 (bodyOf_spec (by kernel_rfl)) (raftlog_one_eq s H K) h

/-! function 21: (*logboom/raftlog.Log).Turn -/
def raftlog_Log_Turn_ann : Anns := { hid := [], loops := [], joins := [((0, 2), { slots := [(16, .bool)], kept := [0, 1, 2, 7], locs := [], keptL := [] }), ((0, 6), { slots := [(33, .bool)], kept := [0, 1, 2, 7], locs := [], keptL := [] })], mix := [(10, [15])] }
def raftlog_Log_Turn_vc (l : Nat) (lo : Nat) (term0 : Int) (vote : Int) (H : Heap) (K : Value → Heap → Prop) : Prop :=
  ∃ n1 : Int,
  cellH H ⟨l, lo, none⟩ = some (.int .i64 n1) ∧
  ∃ J1 : Bool → Heap → Prop,
  (FnH Tryd.prog 28 #[.int .i64 term0, .int .i64 0] H fun r1 H1 =>
    ∃ b1 : Bool,
    r1 = .bool b1 ∧
    br (!b1) (
      SelfEq ([.v (.pointer (some ⟨l, lo, none⟩)), .v (.int .i64 term0), .v (.int .i64 vote), .v (.bool ((term0 : Int) == n1))], [], []) ∧
      J1 true H1)
     (
      FnH Tryd.prog 28 #[.int .i64 vote, .int .i64 0] H1 fun r2 H2 =>
        ∃ b2 : Bool,
        r2 = .bool b2 ∧
        SelfEq ([.v (.pointer (some ⟨l, lo, none⟩)), .v (.int .i64 term0), .v (.int .i64 vote), .v (.bool ((term0 : Int) == n1))], [], []) ∧
        J1 (!b2) H2)) ∧
  ∀ b_1 : Bool,
  ∀ H3 : Heap,
  J1 b_1 H3 →
  br (b_1) (
    K (.int .i64 1) H3)
   (
    ∃ n2 : Int,
    cellH H3 ⟨l, lo, none⟩ = some (.int .i64 n2) ∧
    br (decide ((term0 : Int) < n2)) (
      K (.int .i64 13) H3)
     (
      ∃ J2 : Bool → Heap → Prop,
      (br ((term0 : Int) == n1) (
        ∃ n3 : Int,
        cellH H3 ⟨l, lo + 1, none⟩ = some (.int .i64 n3) ∧
        SelfEq ([.v (.pointer (some ⟨l, lo, none⟩)), .v (.int .i64 term0), .v (.int .i64 vote), .v (.bool ((term0 : Int) == n1))], [], []) ∧
        J2 ((vote : Int) == n3) H3)
       (
        SelfEq ([.v (.pointer (some ⟨l, lo, none⟩)), .v (.int .i64 term0), .v (.int .i64 vote), .v (.bool ((term0 : Int) == n1))], [], []) ∧
        J2 false H3)) ∧
      ∀ b_2 : Bool,
      ∀ H4 : Heap,
      J2 b_2 H4 →
      br (b_2) (
        K (.int .i64 0) H4)
       (
        br ((term0 : Int) == n1) (
          ∃ n4 : Int,
          cellH H4 ⟨l, lo + 1, none⟩ = some (.int .i64 n4) ∧
          br ((n4 : Int) != 0) (
            K (.int .i64 19) H4)
           (
            ∃ p1 : Option Addr,
            cellH H4 ⟨l, lo + 6, none⟩ = some (.pointer p1) ∧
            ∃ s1 : ByteArray,
            cellH H4 ⟨l, lo + 7, none⟩ = some (.string s1) ∧
            s1.size + (⟨#[46, 116, 101, 114, 109]⟩ : ByteArray).size < 9223372036854775808 ∧
            FnH Tryd.prog 31 #[.int .i64 term0] H4 fun r3 H5 =>
              ∃ s2 : ByteArray,
              r3 = .string s2 ∧
              Sub H4 H5 ∧
              FnH Tryd.prog 31 #[.int .i64 vote] H5 fun r4 H6 =>
                ∃ s3 : ByteArray,
                r4 = .string s3 ∧
                Sub H4 H6 ∧
                s2.size + s3.size < 9223372036854775808 ∧
                FnH Tryd.prog 30 #[.string (s2 ++ s3)] H6 fun r5 H7 =>
                  ∃ s4 : ByteArray,
                  r5 = .string s4 ∧
                  Sub H4 H7 ∧
                  FnH Tryd.prog 29 #[.pointer p1, .string (s1 ++ (⟨#[46, 116, 101, 114, 109]⟩ : ByteArray)), .string s4] H7 fun r6 H8 =>
                    ∃ n5 : Int,
                    r6 = .int .i64 n5 ∧
                    br ((n5 : Int) != 0) (
                      K (.int .i64 n5) H8)
                     (
                      (∃ u, cellH H8 ⟨l, lo, none⟩ = some u) ∧
                      frozenH H8 ⟨l, lo, none⟩ = false ∧
                      letH (Heap.set H8 ⟨l, lo, none⟩ (.int .i64 term0)) fun H9 =>
                      (∃ u, cellH H9 ⟨l, lo + 1, none⟩ = some u) ∧
                      frozenH H9 ⟨l, lo + 1, none⟩ = false ∧
                      letH (Heap.set H9 ⟨l, lo + 1, none⟩ (.int .i64 vote)) fun H10 =>
                      K (.int .i64 0) H10)))
         (
          ∃ p2 : Option Addr,
          cellH H4 ⟨l, lo + 6, none⟩ = some (.pointer p2) ∧
          ∃ s5 : ByteArray,
          cellH H4 ⟨l, lo + 7, none⟩ = some (.string s5) ∧
          s5.size + (⟨#[46, 116, 101, 114, 109]⟩ : ByteArray).size < 9223372036854775808 ∧
          FnH Tryd.prog 31 #[.int .i64 term0] H4 fun r7 H11 =>
            ∃ s6 : ByteArray,
            r7 = .string s6 ∧
            Sub H4 H11 ∧
            FnH Tryd.prog 31 #[.int .i64 vote] H11 fun r8 H12 =>
              ∃ s7 : ByteArray,
              r8 = .string s7 ∧
              Sub H4 H12 ∧
              s6.size + s7.size < 9223372036854775808 ∧
              FnH Tryd.prog 30 #[.string (s6 ++ s7)] H12 fun r9 H13 =>
                ∃ s8 : ByteArray,
                r9 = .string s8 ∧
                Sub H4 H13 ∧
                FnH Tryd.prog 29 #[.pointer p2, .string (s5 ++ (⟨#[46, 116, 101, 114, 109]⟩ : ByteArray)), .string s8] H13 fun r10 H14 =>
                  ∃ n6 : Int,
                  r10 = .int .i64 n6 ∧
                  br ((n6 : Int) != 0) (
                    K (.int .i64 n6) H14)
                   (
                    (∃ u, cellH H14 ⟨l, lo, none⟩ = some u) ∧
                    frozenH H14 ⟨l, lo, none⟩ = false ∧
                    letH (Heap.set H14 ⟨l, lo, none⟩ (.int .i64 term0)) fun H15 =>
                    (∃ u, cellH H15 ⟨l, lo + 1, none⟩ = some u) ∧
                    frozenH H15 ⟨l, lo + 1, none⟩ = false ∧
                    letH (Heap.set H15 ⟨l, lo + 1, none⟩ (.int .i64 vote)) fun H16 =>
                    K (.int .i64 0) H16)))))
theorem raftlog_Log_Turn_eq (l : Nat) (lo : Nat) (term0 : Int) (vote : Int) (H : Heap) (K : Value → Heap → Prop) : raftlog_Log_Turn_vc l lo term0 vote H K = denFn Tryd.prog raftlog_Log_Turn_ann Tryd.f21 (bodyOf Tryd.f21) [.pointer (some ⟨l, lo, none⟩), .int .i64 term0, .int .i64 vote] H K := by kernel_rfl
theorem raftlog_Log_Turn_fn (l : Nat) (lo : Nat) (term0 : Int) (vote : Int) {H : Heap} {K : Value → Heap → Prop} (h : raftlog_Log_Turn_vc l lo term0 vote H K) : FnH Tryd.prog 21 #[.pointer (some ⟨l, lo, none⟩), .int .i64 term0, .int .i64 vote] H K :=
  denFn_fn Tryd.mixed raftlog_Log_Turn_ann Tryd.func21 (bodyOf_spec (by kernel_rfl)) (raftlog_Log_Turn_eq l lo term0 vote H K) h

/-! function 23: (*logboom/raftlog.Log).readTerm -/
def raftlog_Log_readTerm_ann : Anns := { hid := [], loops := [], joins := [], mix := [] }
def raftlog_Log_readTerm_vc (l : Nat) (lo : Nat) (s : ByteArray) (H : Heap) (K : Value → Heap → Prop) : Prop :=
  FnH Tryd.prog 42 #[.string s, .int .i64 0] H fun r1 H1 =>
    ∃ n1 : Int,
    ∃ n2 : Int,
    ∃ s1 : ByteArray,
    ∃ b1 : Bool,
    r1 = .tuple #[.int .i64 n1, .int .i64 n2, .string s1, .bool b1] ∧
    (∃ u, cellH H1 ⟨l, lo, none⟩ = some u) ∧
    frozenH H1 ⟨l, lo, none⟩ = false ∧
    letH (Heap.set H1 ⟨l, lo, none⟩ (.int .i64 n1)) fun H2 =>
    (∃ u, cellH H2 ⟨l, lo + 1, none⟩ = some u) ∧
    frozenH H2 ⟨l, lo + 1, none⟩ = false ∧
    letH (Heap.set H2 ⟨l, lo + 1, none⟩ (.int .i64 n2)) fun H3 =>
    br (b1) (
      K (.bool (s1.toList == (⟨#[]⟩ : ByteArray).toList)) H3)
     (
      K (.bool false) H3)
theorem raftlog_Log_readTerm_eq (l : Nat) (lo : Nat) (s : ByteArray) (H : Heap) (K : Value → Heap → Prop) : raftlog_Log_readTerm_vc l lo s H K = denFn Tryd.prog raftlog_Log_readTerm_ann Tryd.f23 (bodyOf Tryd.f23) [.pointer (some ⟨l, lo, none⟩), .string s] H K := by kernel_rfl
theorem raftlog_Log_readTerm_fn (l : Nat) (lo : Nat) (s : ByteArray) {H : Heap} {K : Value → Heap → Prop} (h : raftlog_Log_readTerm_vc l lo s H K) : FnH Tryd.prog 23 #[.pointer (some ⟨l, lo, none⟩), .string s] H K :=
  denFn_fn Tryd.mixed raftlog_Log_readTerm_ann Tryd.func23 (bodyOf_spec (by kernel_rfl)) (raftlog_Log_readTerm_eq l lo s H K) h

/-! function 24: (*logboom/raftlog.Log).readSnap -/
def raftlog_Log_readSnap_ann : Anns := { hid := [], loops := [], joins := [], mix := [] }
def raftlog_Log_readSnap_vc (l : Nat) (lo : Nat) (s : ByteArray) (H : Heap) (K : Value → Heap → Prop) : Prop :=
  FnH Tryd.prog 42 #[.string s, .int .i64 1] H fun r1 H1 =>
    ∃ n1 : Int,
    ∃ n2 : Int,
    ∃ s1 : ByteArray,
    ∃ b1 : Bool,
    r1 = .tuple #[.int .i64 n1, .int .i64 n2, .string s1, .bool b1] ∧
    (∃ u, cellH H1 ⟨l, lo + 2, none⟩ = some u) ∧
    frozenH H1 ⟨l, lo + 2, none⟩ = false ∧
    letH (Heap.set H1 ⟨l, lo + 2, none⟩ (.int .i64 n1)) fun H2 =>
    (∃ u, cellH H2 ⟨l, lo + 3, none⟩ = some u) ∧
    frozenH H2 ⟨l, lo + 3, none⟩ = false ∧
    letH (Heap.set H2 ⟨l, lo + 3, none⟩ (.int .i64 n2)) fun H3 =>
    FnH Tryd.prog 43 #[.string s1, .int .i64 60000] H3 fun r2 H4 =>
      ∃ s2 : ByteArray,
      ∃ b2 : Bool,
      r2 = .tuple #[.string s2, .bool b2] ∧
      (∃ u, cellH H4 ⟨l, lo + 4, none⟩ = some u) ∧
      frozenH H4 ⟨l, lo + 4, none⟩ = false ∧
      letH (Heap.set H4 ⟨l, lo + 4, none⟩ (.string s2)) fun H5 =>
      br (b1) (
        K (.bool b2) H5)
       (
        K (.bool false) H5)
theorem raftlog_Log_readSnap_eq (l : Nat) (lo : Nat) (s : ByteArray) (H : Heap) (K : Value → Heap → Prop) : raftlog_Log_readSnap_vc l lo s H K = denFn Tryd.prog raftlog_Log_readSnap_ann Tryd.f24 (bodyOf Tryd.f24) [.pointer (some ⟨l, lo, none⟩), .string s] H K := by kernel_rfl
theorem raftlog_Log_readSnap_fn (l : Nat) (lo : Nat) (s : ByteArray) {H : Heap} {K : Value → Heap → Prop} (h : raftlog_Log_readSnap_vc l lo s H K) : FnH Tryd.prog 24 #[.pointer (some ⟨l, lo, none⟩), .string s] H K :=
  denFn_fn Tryd.mixed raftlog_Log_readSnap_ann Tryd.func24 (bodyOf_spec (by kernel_rfl)) (raftlog_Log_readSnap_eq l lo s H K) h

end Go.Proofs.YtmneimfhcjkinaaDoor
