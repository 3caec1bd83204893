/- Formulas of functions, printed by this session's vc.py; each is tied to the program by the kernel. -/
import Derived.Test.YtmneimfhcjkinaaDoorProg
import Derived.KernelRfl
import Derived.Test.YtmneimfhcjkinaaDoorHlFn
import Derived.Test.YtmneimfhcjkinaaDoorV2
namespace Go.Proofs.YtmneimfhcjkinaaDoor
open Go.HL
set_option maxRecDepth 100000
/-! function 27: (*logboom/raftlog.Log).readEntries -/
def raftlog_Log_readEntries_ann : Anns := { hid := [5, 9], loops := [(0, { slots := [(6, .bool), (7, .int .i64), (8, .bool)], kept := [0, 3, 5], locs := [(0, [.int .i64, .int .i64, .str])], keptL := [] })], joins := [], mix := [(1, []), (11, [10]), (16, [8, 12]), (21, [15])] }
def raftlog_Log_readEntries_vc (l : Nat) (lo : Nat) (H : Heap) (K : Value → Heap → Prop) : Prop :=
  ∃ p1 : Option Addr,
  cellH H ⟨l, lo + 6, none⟩ = some (.pointer p1) ∧
  ∃ s1 : ByteArray,
  cellH H ⟨l, lo + 7, none⟩ = some (.string s1) ∧
  s1.size + (⟨#[46, 108, 111, 103]⟩ : ByteArray).size < 9223372036854775808 ∧
  FnH Tryd.prog 25 #[.pointer p1, .string (s1 ++ (⟨#[46, 108, 111, 103]⟩ : ByteArray))] H fun r1 H1 =>
    ∃ s2 : ByteArray,
    ∃ n1 : Int,
    r1 = .tuple #[.string s2, .int .i64 n1] ∧
    Sub H H1 ∧
    br ((n1 : Int) != 0) (
      K (.int .i64 0) H1)
     (
      ∃ I1 : Bool → Int → Bool → Int → Int → ByteArray → Heap → Prop,
      ∃ M1 : Bool → Int → Bool → Int → Int → ByteArray → Heap → Nat,
      I1 false 0 false 0 0 (⟨#[]⟩ : ByteArray) H1 ∧
      ∀ left_1 : Bool,
      ∀ at_1 : Int,
      ∀ torn_1 : Bool,
      ∀ n2 : Int,
      ∀ n3 : Int,
      ∀ s3 : ByteArray,
      ∀ H2 : Heap,
      I1 left_1 at_1 torn_1 n2 n3 s3 H2 →
      br (decide ((at_1 : Int) < (s2.size : Nat))) (
        br (!torn_1) (
          0 ≤ (at_1 : Int) ∧
          (at_1 : Int) ≤ (s2.size : Nat) ∧
          FnH Tryd.prog 46 #[.string (s2.extract (Int.toNat at_1) (Int.toNat (s2.size : Nat)))] H2 fun r2 H3 =>
            ∃ n4 : Int,
            ∃ n5 : Int,
            ∃ s4 : ByteArray,
            ∃ n6 : Int,
            ∃ n7 : Int,
            r2 = .tuple #[.agg #[.int .i64 n4, .int .i64 n5, .string s4], .int .i64 n6, .int .i64 n7] ∧
            br ((n7 : Int) != 0) (
              K (.int .i64 n7) H3)
             (
              br ((n6 : Int) == 0) (
                ∃ p2 : Option Addr,
                cellH H3 ⟨l, lo + 6, none⟩ = some (.pointer p2) ∧
                ∃ s5 : ByteArray,
                cellH H3 ⟨l, lo + 7, none⟩ = some (.string s5) ∧
                s5.size + (⟨#[46, 108, 111, 103]⟩ : ByteArray).size < 9223372036854775808 ∧
                FnH Tryd.prog 36 #[.pointer p2, .string (s5 ++ (⟨#[46, 108, 111, 103]⟩ : ByteArray)), .int .i64 at_1] H3 fun r3 H4 =>
                  ∃ n8 : Int,
                  r3 = .int .i64 n8 ∧
                  SelfEq ([.v (.pointer (some ⟨l, lo, none⟩)), .v (.string s2), .loc 0 0], [], [43]) ∧
                  I1 left_1 at_1 true n2 n3 s3 H4 ∧
                  M1 left_1 at_1 true n2 n3 s3 H4 < M1 left_1 at_1 torn_1 n2 n3 s3 H2)
               (
                br ((at_1 : Int) == 0) (
                  ∃ n9 : Int,
                  cellH H3 ⟨l, lo + 2, none⟩ = some (.int .i64 n9) ∧
                  br (decide ((n5 : Int) > (IntKind.wrap .i64 (n9 + 1)))) (
                    K (.int .i64 4) H3)
                   (
                    br (decide ((at_1 : Int) > 0)) (
                      br ((n5 : Int) != (IntKind.wrap .i64 (n3 + 1))) (
                        K (.int .i64 4) H3)
                       (
                        br (decide ((n4 : Int) < n2)) (
                          K (.int .i64 4) H3)
                         (
                          ∃ n10 : Int,
                          cellH H3 ⟨l, lo + 2, none⟩ = some (.int .i64 n10) ∧
                          br (decide ((n5 : Int) > n10)) (
                            ∃ l1 : Sl,
                            cellH H3 ⟨l, lo + 5, none⟩ = some (.slice l1.p l1.n l1.c) ∧
                            ∀ q1 : Nat,
                            H3 q1 = none →
                            letH (Heap.upd H3 q1 (.cells #[.int .i64 n4, .int .i64 n5, .string s4] 43 (0, 0))) fun H5 =>
                            Sub H3 H5 ∧
                            runH Tryd.prog (Builtin.append_ #[31, 31] 31 #[.slice l1.p l1.n l1.c, .slice (some ⟨q1, 0, none⟩) 1 1]) H5 fun r4 H6 =>
                              ∃ l2 : Sl,
                              r4 = .slice l2.p l2.n l2.c ∧
                              (∃ u, cellH H6 ⟨l, lo + 5, none⟩ = some u) ∧
                              frozenH H6 ⟨l, lo + 5, none⟩ = false ∧
                              letH (Heap.set H6 ⟨l, lo + 5, none⟩ (.slice l2.p l2.n l2.c)) fun H7 =>
                              SelfEq ([.v (.pointer (some ⟨l, lo, none⟩)), .v (.string s2), .loc 0 0], [], [43]) ∧
                              I1 left_1 (IntKind.wrap .i64 (at_1 + n6)) torn_1 n4 n5 s4 H7 ∧
                              M1 left_1 (IntKind.wrap .i64 (at_1 + n6)) torn_1 n4 n5 s4 H7 < M1 left_1 at_1 torn_1 n2 n3 s3 H2)
                           (
                            SelfEq ([.v (.pointer (some ⟨l, lo, none⟩)), .v (.string s2), .loc 0 0], [], [43]) ∧
                            I1 true (IntKind.wrap .i64 (at_1 + n6)) torn_1 n4 n5 s4 H3 ∧
                            M1 true (IntKind.wrap .i64 (at_1 + n6)) torn_1 n4 n5 s4 H3 < M1 left_1 at_1 torn_1 n2 n3 s3 H2))))
                     (
                      ∃ n11 : Int,
                      cellH H3 ⟨l, lo + 2, none⟩ = some (.int .i64 n11) ∧
                      br (decide ((n5 : Int) > n11)) (
                        ∃ l3 : Sl,
                        cellH H3 ⟨l, lo + 5, none⟩ = some (.slice l3.p l3.n l3.c) ∧
                        ∀ q2 : Nat,
                        H3 q2 = none →
                        letH (Heap.upd H3 q2 (.cells #[.int .i64 n4, .int .i64 n5, .string s4] 43 (0, 0))) fun H8 =>
                        Sub H3 H8 ∧
                        runH Tryd.prog (Builtin.append_ #[31, 31] 31 #[.slice l3.p l3.n l3.c, .slice (some ⟨q2, 0, none⟩) 1 1]) H8 fun r5 H9 =>
                          ∃ l4 : Sl,
                          r5 = .slice l4.p l4.n l4.c ∧
                          (∃ u, cellH H9 ⟨l, lo + 5, none⟩ = some u) ∧
                          frozenH H9 ⟨l, lo + 5, none⟩ = false ∧
                          letH (Heap.set H9 ⟨l, lo + 5, none⟩ (.slice l4.p l4.n l4.c)) fun H10 =>
                          SelfEq ([.v (.pointer (some ⟨l, lo, none⟩)), .v (.string s2), .loc 0 0], [], [43]) ∧
                          I1 left_1 (IntKind.wrap .i64 (at_1 + n6)) torn_1 n4 n5 s4 H10 ∧
                          M1 left_1 (IntKind.wrap .i64 (at_1 + n6)) torn_1 n4 n5 s4 H10 < M1 left_1 at_1 torn_1 n2 n3 s3 H2)
                       (
                        SelfEq ([.v (.pointer (some ⟨l, lo, none⟩)), .v (.string s2), .loc 0 0], [], [43]) ∧
                        I1 true (IntKind.wrap .i64 (at_1 + n6)) torn_1 n4 n5 s4 H3 ∧
                        M1 true (IntKind.wrap .i64 (at_1 + n6)) torn_1 n4 n5 s4 H3 < M1 left_1 at_1 torn_1 n2 n3 s3 H2))))
                 (
                  br (decide ((at_1 : Int) > 0)) (
                    br ((n5 : Int) != (IntKind.wrap .i64 (n3 + 1))) (
                      K (.int .i64 4) H3)
                     (
                      br (decide ((n4 : Int) < n2)) (
                        K (.int .i64 4) H3)
                       (
                        ∃ n12 : Int,
                        cellH H3 ⟨l, lo + 2, none⟩ = some (.int .i64 n12) ∧
                        br (decide ((n5 : Int) > n12)) (
                          ∃ l5 : Sl,
                          cellH H3 ⟨l, lo + 5, none⟩ = some (.slice l5.p l5.n l5.c) ∧
                          ∀ q3 : Nat,
                          H3 q3 = none →
                          letH (Heap.upd H3 q3 (.cells #[.int .i64 n4, .int .i64 n5, .string s4] 43 (0, 0))) fun H11 =>
                          Sub H3 H11 ∧
                          runH Tryd.prog (Builtin.append_ #[31, 31] 31 #[.slice l5.p l5.n l5.c, .slice (some ⟨q3, 0, none⟩) 1 1]) H11 fun r6 H12 =>
                            ∃ l6 : Sl,
                            r6 = .slice l6.p l6.n l6.c ∧
                            (∃ u, cellH H12 ⟨l, lo + 5, none⟩ = some u) ∧
                            frozenH H12 ⟨l, lo + 5, none⟩ = false ∧
                            letH (Heap.set H12 ⟨l, lo + 5, none⟩ (.slice l6.p l6.n l6.c)) fun H13 =>
                            SelfEq ([.v (.pointer (some ⟨l, lo, none⟩)), .v (.string s2), .loc 0 0], [], [43]) ∧
                            I1 left_1 (IntKind.wrap .i64 (at_1 + n6)) torn_1 n4 n5 s4 H13 ∧
                            M1 left_1 (IntKind.wrap .i64 (at_1 + n6)) torn_1 n4 n5 s4 H13 < M1 left_1 at_1 torn_1 n2 n3 s3 H2)
                         (
                          SelfEq ([.v (.pointer (some ⟨l, lo, none⟩)), .v (.string s2), .loc 0 0], [], [43]) ∧
                          I1 true (IntKind.wrap .i64 (at_1 + n6)) torn_1 n4 n5 s4 H3 ∧
                          M1 true (IntKind.wrap .i64 (at_1 + n6)) torn_1 n4 n5 s4 H3 < M1 left_1 at_1 torn_1 n2 n3 s3 H2))))
                   (
                    ∃ n13 : Int,
                    cellH H3 ⟨l, lo + 2, none⟩ = some (.int .i64 n13) ∧
                    br (decide ((n5 : Int) > n13)) (
                      ∃ l7 : Sl,
                      cellH H3 ⟨l, lo + 5, none⟩ = some (.slice l7.p l7.n l7.c) ∧
                      ∀ q4 : Nat,
                      H3 q4 = none →
                      letH (Heap.upd H3 q4 (.cells #[.int .i64 n4, .int .i64 n5, .string s4] 43 (0, 0))) fun H14 =>
                      Sub H3 H14 ∧
                      runH Tryd.prog (Builtin.append_ #[31, 31] 31 #[.slice l7.p l7.n l7.c, .slice (some ⟨q4, 0, none⟩) 1 1]) H14 fun r7 H15 =>
                        ∃ l8 : Sl,
                        r7 = .slice l8.p l8.n l8.c ∧
                        (∃ u, cellH H15 ⟨l, lo + 5, none⟩ = some u) ∧
                        frozenH H15 ⟨l, lo + 5, none⟩ = false ∧
                        letH (Heap.set H15 ⟨l, lo + 5, none⟩ (.slice l8.p l8.n l8.c)) fun H16 =>
                        SelfEq ([.v (.pointer (some ⟨l, lo, none⟩)), .v (.string s2), .loc 0 0], [], [43]) ∧
                        I1 left_1 (IntKind.wrap .i64 (at_1 + n6)) torn_1 n4 n5 s4 H16 ∧
                        M1 left_1 (IntKind.wrap .i64 (at_1 + n6)) torn_1 n4 n5 s4 H16 < M1 left_1 at_1 torn_1 n2 n3 s3 H2)
                     (
                      SelfEq ([.v (.pointer (some ⟨l, lo, none⟩)), .v (.string s2), .loc 0 0], [], [43]) ∧
                      I1 true (IntKind.wrap .i64 (at_1 + n6)) torn_1 n4 n5 s4 H3 ∧
                      M1 true (IntKind.wrap .i64 (at_1 + n6)) torn_1 n4 n5 s4 H3 < M1 left_1 at_1 torn_1 n2 n3 s3 H2))))))
         (
          br (left_1) (
            ∃ p3 : Option Addr,
            cellH H2 ⟨l, lo + 6, none⟩ = some (.pointer p3) ∧
            ∃ s6 : ByteArray,
            cellH H2 ⟨l, lo + 7, none⟩ = some (.string s6) ∧
            s6.size + (⟨#[46, 108, 111, 103]⟩ : ByteArray).size < 9223372036854775808 ∧
            ∃ l9 : Sl,
            cellH H2 ⟨l, lo + 5, none⟩ = some (.slice l9.p l9.n l9.c) ∧
            FnH Tryd.prog 33 #[.slice l9.p l9.n l9.c] H2 fun r8 H17 =>
              ∃ s7 : ByteArray,
              r8 = .string s7 ∧
              Sub H2 H17 ∧
              FnH Tryd.prog 29 #[.pointer p3, .string (s6 ++ (⟨#[46, 108, 111, 103]⟩ : ByteArray)), .string s7] H17 fun r9 H18 =>
                ∃ n14 : Int,
                r9 = .int .i64 n14 ∧
                K (.int .i64 0) H18)
           (
            K (.int .i64 0) H2)))
       (
        br (left_1) (
          ∃ p4 : Option Addr,
          cellH H2 ⟨l, lo + 6, none⟩ = some (.pointer p4) ∧
          ∃ s8 : ByteArray,
          cellH H2 ⟨l, lo + 7, none⟩ = some (.string s8) ∧
          s8.size + (⟨#[46, 108, 111, 103]⟩ : ByteArray).size < 9223372036854775808 ∧
          ∃ l10 : Sl,
          cellH H2 ⟨l, lo + 5, none⟩ = some (.slice l10.p l10.n l10.c) ∧
          FnH Tryd.prog 33 #[.slice l10.p l10.n l10.c] H2 fun r10 H19 =>
            ∃ s9 : ByteArray,
            r10 = .string s9 ∧
            Sub H2 H19 ∧
            FnH Tryd.prog 29 #[.pointer p4, .string (s8 ++ (⟨#[46, 108, 111, 103]⟩ : ByteArray)), .string s9] H19 fun r11 H20 =>
              ∃ n15 : Int,
              r11 = .int .i64 n15 ∧
              K (.int .i64 0) H20)
         (
          K (.int .i64 0) H2)))
theorem raftlog_Log_readEntries_eq (l : Nat) (lo : Nat) (H : Heap) (K : Value → Heap → Prop) : raftlog_Log_readEntries_vc l lo H K = denFn Tryd.prog raftlog_Log_readEntries_ann Tryd.f27 (bodyOf Tryd.f27) [.pointer (some ⟨l, lo, none⟩)] H K := by kernel_rfl
theorem raftlog_Log_readEntries_fn (l : Nat) (lo : Nat) {H : Heap} {K : Value → Heap → Prop} (h : raftlog_Log_readEntries_vc l lo H K) : FnH Tryd.prog 27 #[.pointer (some ⟨l, lo, none⟩)] H K :=
  denFn_fn Tryd.mixed raftlog_Log_readEntries_ann Tryd.func27 (bodyOf_spec (by kernel_rfl)) (raftlog_Log_readEntries_eq l lo H K) h

/-! function 11: (*logboom/raftlog.Log).Snap -/
def raftlog_Log_Snap_ann : Anns := { hid := [11], loops := [], joins := [((0, 1), { slots := [(15, .bool)], kept := [0, 1, 2, 3], locs := [], keptL := [] }), ((0, 14), { slots := [(83, .bool)], kept := [0, 1, 2, 3, 10], locs := [], keptL := [0] })], mix := [(9, [21]), (15, []), (17, []), (19, [11])] }
def raftlog_Log_Snap_vc (l : Nat) (lo : Nat) (index : Int) (term0 : Int) (data : ByteArray) (H : Heap) (K : Value → Heap → Prop) : Prop :=
  ∃ J1 : Bool → Heap → Prop,
  (FnH Tryd.prog 28 #[.int .i64 index, .int .i64 1] H fun r1 H1 =>
    ∃ b1 : Bool,
    r1 = .bool b1 ∧
    br (!b1) (
      SelfEq ([.v (.pointer (some ⟨l, lo, none⟩)), .v (.int .i64 index), .v (.int .i64 term0), .v (.string data)], [], []) ∧
      J1 true H1)
     (
      FnH Tryd.prog 28 #[.int .i64 term0, .int .i64 1] H1 fun r2 H2 =>
        ∃ b2 : Bool,
        r2 = .bool b2 ∧
        SelfEq ([.v (.pointer (some ⟨l, lo, none⟩)), .v (.int .i64 index), .v (.int .i64 term0), .v (.string data)], [], []) ∧
        J1 (!b2) H2)) ∧
  ∀ b_1 : Bool,
  ∀ H3 : Heap,
  J1 b_1 H3 →
  br (b_1) (
    K (.int .i64 1) H3)
   (
    br (decide (((data.size : Nat) : Int) > 60000)) (
      K (.int .i64 2) H3)
     (
      ∃ n1 : Int,
      cellH H3 ⟨l, lo + 2, none⟩ = some (.int .i64 n1) ∧
      br (decide ((index : Int) ≤ n1)) (
        K (.int .i64 10) H3)
       (
        ∃ n2 : Int,
        cellH H3 ⟨l, lo + 3, none⟩ = some (.int .i64 n2) ∧
        br (decide ((term0 : Int) < n2)) (
          K (.int .i64 1) H3)
         (
          ∃ p1 : Option Addr,
          cellH H3 ⟨l, lo + 6, none⟩ = some (.pointer p1) ∧
          ∃ s1 : ByteArray,
          cellH H3 ⟨l, lo + 7, none⟩ = some (.string s1) ∧
          s1.size + (⟨#[46, 115, 110, 97, 112]⟩ : ByteArray).size < 9223372036854775808 ∧
          FnH Tryd.prog 31 #[.int .i64 index] H3 fun r3 H4 =>
            ∃ s2 : ByteArray,
            r3 = .string s2 ∧
            Sub H3 H4 ∧
            FnH Tryd.prog 31 #[.int .i64 term0] H4 fun r4 H5 =>
              ∃ s3 : ByteArray,
              r4 = .string s3 ∧
              Sub H3 H5 ∧
              s2.size + s3.size < 9223372036854775808 ∧
              FnH Tryd.prog 31 #[.int .i64 (data.size : Nat)] H5 fun r5 H6 =>
                ∃ s4 : ByteArray,
                r5 = .string s4 ∧
                Sub H3 H6 ∧
                (s2 ++ s3).size + s4.size < 9223372036854775808 ∧
                ((s2 ++ s3) ++ s4).size + data.size < 9223372036854775808 ∧
                FnH Tryd.prog 30 #[.string (((s2 ++ s3) ++ s4) ++ data)] H6 fun r6 H7 =>
                  ∃ s5 : ByteArray,
                  r6 = .string s5 ∧
                  Sub H3 H7 ∧
                  FnH Tryd.prog 29 #[.pointer p1, .string (s1 ++ (⟨#[46, 115, 110, 97, 112]⟩ : ByteArray)), .string s5] H7 fun r7 H8 =>
                    ∃ n3 : Int,
                    r7 = .int .i64 n3 ∧
                    br ((n3 : Int) != 0) (
                      K (.int .i64 n3) H8)
                     (
                      FnH Tryd.prog 16 #[.pointer (some ⟨l, lo, none⟩), .int .i64 index] H8 fun r8 H9 =>
                        ∃ n4 : Int,
                        ∃ n5 : Int,
                        ∃ s6 : ByteArray,
                        ∃ b3 : Bool,
                        r8 = .tuple #[.agg #[.int .i64 n4, .int .i64 n5, .string s6], .bool b3] ∧
                        ∃ J2 : Bool → Heap → Prop,
                        (br (b3) (
                          SelfEq ([.v (.pointer (some ⟨l, lo, none⟩)), .v (.int .i64 index), .v (.int .i64 term0), .v (.string data), .v (.slice none 0 0)], [some (43, [.int .i64 n4, .int .i64 n5, .string s6])], []) ∧
                          J2 ((n4 : Int) == term0) H9)
                         (
                          SelfEq ([.v (.pointer (some ⟨l, lo, none⟩)), .v (.int .i64 index), .v (.int .i64 term0), .v (.string data), .v (.slice none 0 0)], [some (43, [.int .i64 n4, .int .i64 n5, .string s6])], []) ∧
                          J2 false H9)) ∧
                        ∀ b_2 : Bool,
                        ∀ H10 : Heap,
                        J2 b_2 H10 →
                        br (b_2) (
                          ∃ l1 : Sl,
                          cellH H10 ⟨l, lo + 5, none⟩ = some (.slice l1.p l1.n l1.c) ∧
                          ∃ n6 : Int,
                          cellH H10 ⟨l, lo + 2, none⟩ = some (.int .i64 n6) ∧
                          0 ≤ (IntKind.wrap .i64 (index - n6) : Int) ∧
                          (IntKind.wrap .i64 (index - n6) : Int) ≤ (l1.n : Nat) ∧
                          FnH Tryd.prog 32 #[.slice (slP l1.p l1.c (IntKind.wrap .i64 (index - n6)) 3) (Int.toNat ((l1.n : Nat) - (IntKind.wrap .i64 (index - n6)))) (Int.toNat ((l1.c : Nat) - (IntKind.wrap .i64 (index - n6))))] H10 fun r9 H11 =>
                            ∃ l2 : Sl,
                            r9 = .slice l2.p l2.n l2.c ∧
                            Sub H10 H11 ∧
                            (∃ u, cellH H11 ⟨l, lo + 2, none⟩ = some u) ∧
                            frozenH H11 ⟨l, lo + 2, none⟩ = false ∧
                            letH (Heap.set H11 ⟨l, lo + 2, none⟩ (.int .i64 index)) fun H12 =>
                            (∃ u, cellH H12 ⟨l, lo + 3, none⟩ = some u) ∧
                            frozenH H12 ⟨l, lo + 3, none⟩ = false ∧
                            letH (Heap.set H12 ⟨l, lo + 3, none⟩ (.int .i64 term0)) fun H13 =>
                            (∃ u, cellH H13 ⟨l, lo + 4, none⟩ = some u) ∧
                            frozenH H13 ⟨l, lo + 4, none⟩ = false ∧
                            letH (Heap.set H13 ⟨l, lo + 4, none⟩ (.string data)) fun H14 =>
                            (∃ u, cellH H14 ⟨l, lo + 5, none⟩ = some u) ∧
                            frozenH H14 ⟨l, lo + 5, none⟩ = false ∧
                            letH (Heap.set H14 ⟨l, lo + 5, none⟩ (.slice l2.p l2.n l2.c)) fun H15 =>
                            ∃ p2 : Option Addr,
                            cellH H15 ⟨l, lo + 6, none⟩ = some (.pointer p2) ∧
                            ∃ s7 : ByteArray,
                            cellH H15 ⟨l, lo + 7, none⟩ = some (.string s7) ∧
                            s7.size + (⟨#[46, 108, 111, 103]⟩ : ByteArray).size < 9223372036854775808 ∧
                            FnH Tryd.prog 25 #[.pointer p2, .string (s7 ++ (⟨#[46, 108, 111, 103]⟩ : ByteArray))] H15 fun r10 H16 =>
                              ∃ s8 : ByteArray,
                              ∃ n7 : Int,
                              r10 = .tuple #[.string s8, .int .i64 n7] ∧
                              Sub H15 H16 ∧
                              br ((n7 : Int) == 0) (
                                ∃ p3 : Option Addr,
                                cellH H16 ⟨l, lo + 6, none⟩ = some (.pointer p3) ∧
                                ∃ s9 : ByteArray,
                                cellH H16 ⟨l, lo + 7, none⟩ = some (.string s9) ∧
                                s9.size + (⟨#[46, 108, 111, 103]⟩ : ByteArray).size < 9223372036854775808 ∧
                                FnH Tryd.prog 33 #[.slice l2.p l2.n l2.c] H16 fun r11 H17 =>
                                  ∃ s10 : ByteArray,
                                  r11 = .string s10 ∧
                                  Sub H16 H17 ∧
                                  FnH Tryd.prog 29 #[.pointer p3, .string (s9 ++ (⟨#[46, 108, 111, 103]⟩ : ByteArray)), .string s10] H17 fun r12 H18 =>
                                    ∃ n8 : Int,
                                    r12 = .int .i64 n8 ∧
                                    K (.int .i64 0) H18)
                               (
                                K (.int .i64 0) H16))
                         (
                          (∃ u, cellH H10 ⟨l, lo + 2, none⟩ = some u) ∧
                          frozenH H10 ⟨l, lo + 2, none⟩ = false ∧
                          letH (Heap.set H10 ⟨l, lo + 2, none⟩ (.int .i64 index)) fun H19 =>
                          (∃ u, cellH H19 ⟨l, lo + 3, none⟩ = some u) ∧
                          frozenH H19 ⟨l, lo + 3, none⟩ = false ∧
                          letH (Heap.set H19 ⟨l, lo + 3, none⟩ (.int .i64 term0)) fun H20 =>
                          (∃ u, cellH H20 ⟨l, lo + 4, none⟩ = some u) ∧
                          frozenH H20 ⟨l, lo + 4, none⟩ = false ∧
                          letH (Heap.set H20 ⟨l, lo + 4, none⟩ (.string data)) fun H21 =>
                          (∃ u, cellH H21 ⟨l, lo + 5, none⟩ = some u) ∧
                          frozenH H21 ⟨l, lo + 5, none⟩ = false ∧
                          letH (Heap.set H21 ⟨l, lo + 5, none⟩ (.slice none 0 0)) fun H22 =>
                          ∃ p4 : Option Addr,
                          cellH H22 ⟨l, lo + 6, none⟩ = some (.pointer p4) ∧
                          ∃ s11 : ByteArray,
                          cellH H22 ⟨l, lo + 7, none⟩ = some (.string s11) ∧
                          s11.size + (⟨#[46, 108, 111, 103]⟩ : ByteArray).size < 9223372036854775808 ∧
                          FnH Tryd.prog 25 #[.pointer p4, .string (s11 ++ (⟨#[46, 108, 111, 103]⟩ : ByteArray))] H22 fun r13 H23 =>
                            ∃ s12 : ByteArray,
                            ∃ n9 : Int,
                            r13 = .tuple #[.string s12, .int .i64 n9] ∧
                            Sub H22 H23 ∧
                            br ((n9 : Int) == 0) (
                              ∃ p5 : Option Addr,
                              cellH H23 ⟨l, lo + 6, none⟩ = some (.pointer p5) ∧
                              ∃ s13 : ByteArray,
                              cellH H23 ⟨l, lo + 7, none⟩ = some (.string s13) ∧
                              s13.size + (⟨#[46, 108, 111, 103]⟩ : ByteArray).size < 9223372036854775808 ∧
                              FnH Tryd.prog 33 #[.slice none 0 0] H23 fun r14 H24 =>
                                ∃ s14 : ByteArray,
                                r14 = .string s14 ∧
                                Sub H23 H24 ∧
                                FnH Tryd.prog 29 #[.pointer p5, .string (s13 ++ (⟨#[46, 108, 111, 103]⟩ : ByteArray)), .string s14] H24 fun r15 H25 =>
                                  ∃ n10 : Int,
                                  r15 = .int .i64 n10 ∧
                                  K (.int .i64 0) H25)
                             (
                              K (.int .i64 0) H23)))))))
theorem raftlog_Log_Snap_eq (l : Nat) (lo : Nat) (index : Int) (term0 : Int) (data : ByteArray) (H : Heap) (K : Value → Heap → Prop) : raftlog_Log_Snap_vc l lo index term0 data H K = denFn Tryd.prog raftlog_Log_Snap_ann Tryd.f11 (bodyOf Tryd.f11) [.pointer (some ⟨l, lo, none⟩), .int .i64 index, .int .i64 term0, .string data] H K := by kernel_rfl
theorem raftlog_Log_Snap_fn (l : Nat) (lo : Nat) (index : Int) (term0 : Int) (data : ByteArray) {H : Heap} {K : Value → Heap → Prop} (h : raftlog_Log_Snap_vc l lo index term0 data H K) : FnH Tryd.prog 11 #[.pointer (some ⟨l, lo, none⟩), .int .i64 index, .int .i64 term0, .string data] H K :=
  denFn_fn Tryd.mixed raftlog_Log_Snap_ann Tryd.func11 (bodyOf_spec (by kernel_rfl)) (raftlog_Log_Snap_eq l lo index term0 data H K) h

end Go.Proofs.YtmneimfhcjkinaaDoor
