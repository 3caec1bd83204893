/- Formulas of functions, printed by this session's vc.py; each is tied to the program by the kernel. -/
import Derived.Test.YtmneimfhcjkinaaDoorProg
import Derived.KernelRfl
import Derived.Test.YtmneimfhcjkinaaDoorHlFn
import Derived.Test.YtmneimfhcjkinaaDoorV6
namespace Go.Proofs.YtmneimfhcjkinaaDoor
open Go.HL
set_option maxRecDepth 100000
/-! function 3: logboom/logboomlaw9.RaftlogOrder -/
def logboomlaw9_RaftlogOrder_ann : Anns := { hid := [8, 17], loops := [(0, { slots := [(7, .int .i64)], kept := [0, 6], locs := [], keptL := [] }), (2, { slots := [(11, .int .i64)], kept := [0, 6, 7, 8], locs := [], keptL := [0] }), (5, { slots := [(13, .int .i64), (16, .int .i64)], kept := [0, 6, 7, 12, 15], locs := [], keptL := [0] })], joins := [((11, 14), { slots := [], kept := [0, 6, 7, 8], locs := [(0, [.int .i64, .int .i64, .int .i64, .str, .slice, .bool, .slice])], keptL := [] }), ((12, 4), { slots := [], kept := [0, 6, 7], locs := [], keptL := [0] }), ((11, 34), { slots := [], kept := [0, 6, 7, 12, 15, 16], locs := [], keptL := [0, 1] })], mix := [(26, []), (32, [13])] }
def logboomlaw9_RaftlogOrder_vc (script : Sl) (H : Heap) (K : Value → Heap → Prop) : Prop :=
  FnH Tryd.prog 6 #[] H fun r1 H1 =>
    ∃ b1 : Bool,
    r1 = .bool b1 ∧
    FnH Tryd.prog 7 #[.int .i64 1000000] H1 fun r2 H2 =>
      ∃ p1 : Option Addr,
      ∃ n1 : Int,
      r2 = .tuple #[.pointer p1, .int .i64 n1] ∧
      br (!b1) (
        K (.bool false) H2)
       (
        br (Option.isNone p1) (
          K (.bool false) H2)
         (
          br ((n1 : Int) != 0) (
            K (.bool false) H2)
           (
            FnH Tryd.prog 8 #[.pointer p1, .string (⟨#[114]⟩ : ByteArray)] H2 fun r3 H3 =>
              ∃ p2 : Option Addr,
              ∃ n2 : Int,
              r3 = .tuple #[.pointer p2, .int .i64 n2] ∧
              br (Option.isNone p2) (
                K (.bool false) H3)
               (
                br ((n2 : Int) != 0) (
                  K (.bool false) H3)
                 (
                  ∃ I1 : Int → Heap → Prop,
                  ∃ M1 : Int → Heap → Nat,
                  I1 0 H3 ∧
                  ∀ i_1 : Int,
                  ∀ H4 : Heap,
                  I1 i_1 H4 →
                  br (decide ((i_1 : Int) < (script.n : Nat))) (
                    br (decide ((i_1 : Int) < 60)) (
                      ∃ q1 : Nat,
                      ∃ o1 : Nat,
                      (script.p : Option Addr) = some ⟨q1, o1, none⟩ ∧
                      0 ≤ (i_1 : Int) ∧
                      (i_1 : Int) < (script.n : Nat) ∧
                      ∃ n3 : Int,
                      cellH H4 ⟨q1, o1 + Int.toNat i_1 * 7, none⟩ = some (.int .i64 n3) ∧
                      ∃ n4 : Int,
                      cellH H4 ⟨q1, o1 + Int.toNat i_1 * 7 + 1, none⟩ = some (.int .i64 n4) ∧
                      ∃ n5 : Int,
                      cellH H4 ⟨q1, o1 + Int.toNat i_1 * 7 + 2, none⟩ = some (.int .i64 n5) ∧
                      ∃ s1 : ByteArray,
                      cellH H4 ⟨q1, o1 + Int.toNat i_1 * 7 + 3, none⟩ = some (.string s1) ∧
                      ∃ l1 : Sl,
                      cellH H4 ⟨q1, o1 + Int.toNat i_1 * 7 + 4, none⟩ = some (.slice l1.p l1.n l1.c) ∧
                      ∃ b2 : Bool,
                      cellH H4 ⟨q1, o1 + Int.toNat i_1 * 7 + 5, none⟩ = some (.bool b2) ∧
                      ∃ l2 : Sl,
                      cellH H4 ⟨q1, o1 + Int.toNat i_1 * 7 + 6, none⟩ = some (.slice l2.p l2.n l2.c) ∧
                      br (decide (((l1.n : Nat) : Int) > 20)) (
                        SelfEq ([.v (.slice script.p script.n script.c), .v (.pointer p2)], [], []) ∧
                        I1 (IntKind.wrap .i64 (i_1 + 1)) H4 ∧
                        M1 (IntKind.wrap .i64 (i_1 + 1)) H4 < M1 i_1 H4)
                       (
                        br (decide (((s1.size : Nat) : Int) > 1000)) (
                          SelfEq ([.v (.slice script.p script.n script.c), .v (.pointer p2)], [], []) ∧
                          I1 (IntKind.wrap .i64 (i_1 + 1)) H4 ∧
                          M1 (IntKind.wrap .i64 (i_1 + 1)) H4 < M1 i_1 H4)
                         (
                          ∃ J1 : Int → Int → Int → ByteArray → Sl → Bool → Sl → Heap → Prop,
                          (br (b2) (
                            ptrm p2 fun q2 o2 =>
                            FnH Tryd.prog 9 #[.pointer (some ⟨q2, o2, none⟩)] H4 fun r4 H5 =>
                              ∃ n6 : Int,
                              ∃ n7 : Int,
                              r4 = .tuple #[.int .i64 n6, .int .i64 n7] ∧
                              FnH Tryd.prog 10 #[.int .i64 n4, .int .i64 (IntKind.wrap .i64 (n6 + 1))] H5 fun r5 H6 =>
                                ∃ n8 : Int,
                                r5 = .int .i64 n8 ∧
                                ∀ q3 : Nat,
                                H6 q3 = none →
                                letH (Heap.upd H6 q3 (.cells #[] 43 (0, 0))) fun H7 =>
                                runH Tryd.prog (Builtin.append_ #[31, 31] 31 #[.slice (some ⟨q3, 0, none⟩) 0 0, .slice l1.p l1.n l1.c]) H7 fun r6 H8 =>
                                  ∃ l3 : Sl,
                                  r6 = .slice l3.p l3.n l3.c ∧
                                  ∃ I2 : Int → Heap → Prop,
                                  ∃ M2 : Int → Heap → Nat,
                                  I2 0 H8 ∧
                                  ∀ k_1 : Int,
                                  ∀ H9 : Heap,
                                  I2 k_1 H9 →
                                  br (decide ((k_1 : Int) < (l3.n : Nat))) (
                                    ∃ q4 : Nat,
                                    ∃ o3 : Nat,
                                    (l3.p : Option Addr) = some ⟨q4, o3, none⟩ ∧
                                    0 ≤ (k_1 : Int) ∧
                                    (k_1 : Int) < (l3.n : Nat) ∧
                                    (∃ u, cellH H9 ⟨q4, o3 + Int.toNat k_1 * 3 + 1, none⟩ = some u) ∧
                                    frozenH H9 ⟨q4, o3 + Int.toNat k_1 * 3 + 1, none⟩ = false ∧
                                    letH (Heap.set H9 ⟨q4, o3 + Int.toNat k_1 * 3 + 1, none⟩ (.int .i64 (IntKind.wrap .i64 ((IntKind.wrap .i64 (n8 + 1)) + k_1)))) fun H10 =>
                                    SelfEq ([.v (.slice script.p script.n script.c), .v (.pointer p2), .v (.int .i64 i_1), .loc 0 0], [some (34, [.int .i64 n3, .int .i64 n8, .int .i64 n5, .string s1, .slice l3.p l3.n l3.c, .bool b2, .slice l2.p l2.n l2.c])], []) ∧
                                    I2 (IntKind.wrap .i64 (k_1 + 1)) H10 ∧
                                    M2 (IntKind.wrap .i64 (k_1 + 1)) H10 < M2 k_1 H9)
                                   (
                                    SelfEq ([.v (.slice script.p script.n script.c), .v (.pointer p2), .v (.int .i64 i_1), .loc 0 0], [], [34]) ∧
                                    J1 n3 n8 n5 s1 l3 b2 l2 H9))
                           (
                            SelfEq ([.v (.slice script.p script.n script.c), .v (.pointer p2), .v (.int .i64 i_1), .loc 0 0], [], [34]) ∧
                            J1 n3 n4 n5 s1 l1 b2 l2 H4)) ∧
                          ∀ n9 : Int,
                          ∀ n10 : Int,
                          ∀ n11 : Int,
                          ∀ s2 : ByteArray,
                          ∀ l4 : Sl,
                          ∀ b3 : Bool,
                          ∀ l5 : Sl,
                          ∀ H11 : Heap,
                          J1 n9 n10 n11 s2 l4 b3 l5 H11 →
                          ∃ J2 : Heap → Prop,
                          (FnH Tryd.prog 10 #[.int .i64 n9, .int .i64 4] H11 fun r7 H12 =>
                            ∃ n12 : Int,
                            r7 = .int .i64 n12 ∧
                            br ((n12 : Int) == 3) (
                              FnH Tryd.prog 11 #[.pointer p2, .int .i64 n10, .int .i64 n11, .string s2] H12 fun r8 H13 =>
                                ∃ n13 : Int,
                                r8 = .int .i64 n13 ∧
                                SelfEq ([.v (.slice script.p script.n script.c), .v (.pointer p2), .v (.int .i64 i_1)], [some (34, [.int .i64 n9, .int .i64 n10, .int .i64 n11, .string s2, .slice l4.p l4.n l4.c, .bool b3, .slice l5.p l5.n l5.c])], []) ∧
                                J2 H13)
                             (
                              FnH Tryd.prog 12 #[.pointer p2, .int .i64 n10, .slice l4.p l4.n l4.c] H12 fun r9 H14 =>
                                ∃ n14 : Int,
                                r9 = .int .i64 n14 ∧
                                SelfEq ([.v (.slice script.p script.n script.c), .v (.pointer p2), .v (.int .i64 i_1)], [some (34, [.int .i64 n9, .int .i64 n10, .int .i64 n11, .string s2, .slice l4.p l4.n l4.c, .bool b3, .slice l5.p l5.n l5.c])], []) ∧
                                J2 H14)) ∧
                          ∀ H15 : Heap,
                          J2 H15 →
                          ptrm p2 fun q5 o4 =>
                          FnH Tryd.prog 13 #[.pointer (some ⟨q5, o4, none⟩)] H15 fun r10 H16 =>
                            ∃ n15 : Int,
                            ∃ n16 : Int,
                            ∃ s3 : ByteArray,
                            r10 = .tuple #[.int .i64 n15, .int .i64 n16, .string s3] ∧
                            ptrm p2 fun q6 o5 =>
                            ptrm p2 fun q7 o6 =>
                            FnH Tryd.prog 15 #[.pointer (some ⟨q7, o6, none⟩)] H16 fun r11 H17 =>
                              ∃ n17 : Int,
                              r11 = .int .i64 n17 ∧
                              Sub H16 H17 ∧
                              FnH Tryd.prog 14 #[.pointer (some ⟨q6, o5, none⟩), .int .i64 n17, .int .i64 1000000] H17 fun r12 H18 =>
                                ∃ l6 : Sl,
                                r12 = .slice l6.p l6.n l6.c ∧
                                Sub H16 H18 ∧
                                ptrm p2 fun q8 o7 =>
                                FnH Tryd.prog 15 #[.pointer (some ⟨q8, o7, none⟩)] H18 fun r13 H19 =>
                                  ∃ n18 : Int,
                                  r13 = .int .i64 n18 ∧
                                  br ((n18 : Int) != (IntKind.wrap .i64 (n15 + 1))) (
                                    K (.bool false) H19)
                                   (
                                    ∃ I3 : Int → Int → Heap → Prop,
                                    ∃ M3 : Int → Int → Heap → Nat,
                                    I3 n16 0 H19 ∧
                                    ∀ term_1 : Int,
                                    ∀ k_2 : Int,
                                    ∀ H20 : Heap,
                                    I3 term_1 k_2 H20 →
                                    br (decide ((k_2 : Int) < (l6.n : Nat))) (
                                      ptrm p2 fun q9 o8 =>
                                      ∃ q10 : Nat,
                                      ∃ o9 : Nat,
                                      (l6.p : Option Addr) = some ⟨q10, o9, none⟩ ∧
                                      0 ≤ (k_2 : Int) ∧
                                      (k_2 : Int) < (l6.n : Nat) ∧
                                      ∃ n19 : Int,
                                      cellH H20 ⟨q10, o9 + Int.toNat k_2 * 3 + 1, none⟩ = some (.int .i64 n19) ∧
                                      (FnH Tryd.prog 16 #[.pointer (some ⟨q9, o8, none⟩), .int .i64 n19] H20 fun r14 H21 =>
                                        ∃ n20 : Int,
                                        ∃ n21 : Int,
                                        ∃ s4 : ByteArray,
                                        ∃ b4 : Bool,
                                        r14 = .tuple #[.agg #[.int .i64 n20, .int .i64 n21, .string s4], .bool b4] ∧
                                        Sub H20 H21 ∧
                                        Sub H20 H21 ∧
                                        ∃ J3 : Heap → Prop,
                                        (∃ q11 : Nat,
                                        ∃ o10 : Nat,
                                        (l6.p : Option Addr) = some ⟨q11, o10, none⟩ ∧
                                        0 ≤ (k_2 : Int) ∧
                                        (k_2 : Int) < (l6.n : Nat) ∧
                                        ∃ n22 : Int,
                                        cellH H21 ⟨q11, o10 + Int.toNat k_2 * 3 + 1, none⟩ = some (.int .i64 n22) ∧
                                        br ((n22 : Int) != (IntKind.wrap .i64 ((IntKind.wrap .i64 (n15 + 1)) + k_2))) (
                                          K (.bool false) H21)
                                         (
                                          ∃ q12 : Nat,
                                          ∃ o11 : Nat,
                                          (l6.p : Option Addr) = some ⟨q12, o11, none⟩ ∧
                                          0 ≤ (k_2 : Int) ∧
                                          (k_2 : Int) < (l6.n : Nat) ∧
                                          ∃ n23 : Int,
                                          cellH H21 ⟨q12, o11 + Int.toNat k_2 * 3, none⟩ = some (.int .i64 n23) ∧
                                          br (decide ((n23 : Int) < term_1)) (
                                            K (.bool false) H21)
                                           (
                                            br (!b4) (
                                              K (.bool false) H21)
                                             (
                                              ∃ q13 : Nat,
                                              ∃ o12 : Nat,
                                              (l6.p : Option Addr) = some ⟨q13, o12, none⟩ ∧
                                              0 ≤ (k_2 : Int) ∧
                                              (k_2 : Int) < (l6.n : Nat) ∧
                                              ∃ n24 : Int,
                                              cellH H21 ⟨q13, o12 + Int.toNat k_2 * 3, none⟩ = some (.int .i64 n24) ∧
                                              ∃ n25 : Int,
                                              cellH H21 ⟨q13, o12 + Int.toNat k_2 * 3 + 1, none⟩ = some (.int .i64 n25) ∧
                                              ∃ s5 : ByteArray,
                                              cellH H21 ⟨q13, o12 + Int.toNat k_2 * 3 + 2, none⟩ = some (.string s5) ∧
                                              runR Tryd.prog (binOp .neq 43 (.agg #[.int .i64 n20, .int .i64 n21, .string s4]) (.agg #[.int .i64 n24, .int .i64 n25, .string s5])) H21 fun r15 =>
                                                ∃ b5 : Bool,
                                                r15 = .bool b5 ∧
                                                br (b5) (
                                                  K (.bool false) H21)
                                                 (
                                                  SelfEq ([.v (.slice script.p script.n script.c), .v (.pointer p2), .v (.int .i64 i_1), .v (.int .i64 n15), .v (.slice l6.p l6.n l6.c), .v (.int .i64 k_2)], [some (34, [.int .i64 n9, .int .i64 n10, .int .i64 n11, .string s2, .slice l4.p l4.n l4.c, .bool b3, .slice l5.p l5.n l5.c]), some (43, [.int .i64 n20, .int .i64 n21, .string s4])], []) ∧
                                                  J3 H21))))) ∧
                                        ∀ H22 : Heap,
                                        J3 H22 →
                                        ∃ q14 : Nat,
                                        ∃ o13 : Nat,
                                        (l6.p : Option Addr) = some ⟨q14, o13, none⟩ ∧
                                        0 ≤ (k_2 : Int) ∧
                                        (k_2 : Int) < (l6.n : Nat) ∧
                                        ∃ n26 : Int,
                                        cellH H22 ⟨q14, o13 + Int.toNat k_2 * 3, none⟩ = some (.int .i64 n26) ∧
                                        SelfEq ([.v (.slice script.p script.n script.c), .v (.pointer p2), .v (.int .i64 i_1), .v (.int .i64 n15), .v (.slice l6.p l6.n l6.c)], [some (34, [.int .i64 n9, .int .i64 n10, .int .i64 n11, .string s2, .slice l4.p l4.n l4.c, .bool b3, .slice l5.p l5.n l5.c])], []) ∧
                                        I3 n26 (IntKind.wrap .i64 (k_2 + 1)) H22 ∧
                                        M3 n26 (IntKind.wrap .i64 (k_2 + 1)) H22 < M3 term_1 k_2 H20) ∧
                                      Sub H20 H20 ∧
                                      FnH Tryd.prog 16 #[.pointer (some ⟨q9, o8, none⟩), .int .i64 n19] H20 fun r16 H23 =>
                                        ∃ n27 : Int,
                                        ∃ n28 : Int,
                                        ∃ s6 : ByteArray,
                                        ∃ b6 : Bool,
                                        r16 = .tuple #[.agg #[.int .i64 n27, .int .i64 n28, .string s6], .bool b6] ∧
                                        Sub H20 H23 ∧
                                        ∃ J4 : Heap → Prop,
                                        (∃ q15 : Nat,
                                        ∃ o14 : Nat,
                                        (l6.p : Option Addr) = some ⟨q15, o14, none⟩ ∧
                                        0 ≤ (k_2 : Int) ∧
                                        (k_2 : Int) < (l6.n : Nat) ∧
                                        ∃ n29 : Int,
                                        cellH H23 ⟨q15, o14 + Int.toNat k_2 * 3 + 1, none⟩ = some (.int .i64 n29) ∧
                                        br ((n29 : Int) != (IntKind.wrap .i64 ((IntKind.wrap .i64 (n15 + 1)) + k_2))) (
                                          K (.bool false) H23)
                                         (
                                          ∃ q16 : Nat,
                                          ∃ o15 : Nat,
                                          (l6.p : Option Addr) = some ⟨q16, o15, none⟩ ∧
                                          0 ≤ (k_2 : Int) ∧
                                          (k_2 : Int) < (l6.n : Nat) ∧
                                          ∃ n30 : Int,
                                          cellH H23 ⟨q16, o15 + Int.toNat k_2 * 3, none⟩ = some (.int .i64 n30) ∧
                                          br (decide ((n30 : Int) < term_1)) (
                                            K (.bool false) H23)
                                           (
                                            br (!b6) (
                                              K (.bool false) H23)
                                             (
                                              ∃ q17 : Nat,
                                              ∃ o16 : Nat,
                                              (l6.p : Option Addr) = some ⟨q17, o16, none⟩ ∧
                                              0 ≤ (k_2 : Int) ∧
                                              (k_2 : Int) < (l6.n : Nat) ∧
                                              ∃ n31 : Int,
                                              cellH H23 ⟨q17, o16 + Int.toNat k_2 * 3, none⟩ = some (.int .i64 n31) ∧
                                              ∃ n32 : Int,
                                              cellH H23 ⟨q17, o16 + Int.toNat k_2 * 3 + 1, none⟩ = some (.int .i64 n32) ∧
                                              ∃ s7 : ByteArray,
                                              cellH H23 ⟨q17, o16 + Int.toNat k_2 * 3 + 2, none⟩ = some (.string s7) ∧
                                              runR Tryd.prog (binOp .neq 43 (.agg #[.int .i64 n27, .int .i64 n28, .string s6]) (.agg #[.int .i64 n31, .int .i64 n32, .string s7])) H23 fun r17 =>
                                                ∃ b7 : Bool,
                                                r17 = .bool b7 ∧
                                                br (b7) (
                                                  K (.bool false) H23)
                                                 (
                                                  SelfEq ([.v (.slice script.p script.n script.c), .v (.pointer p2), .v (.int .i64 i_1), .v (.int .i64 n15), .v (.slice l6.p l6.n l6.c), .v (.int .i64 k_2)], [some (34, [.int .i64 n9, .int .i64 n10, .int .i64 n11, .string s2, .slice l4.p l4.n l4.c, .bool b3, .slice l5.p l5.n l5.c]), some (43, [.int .i64 n27, .int .i64 n28, .string s6])], []) ∧
                                                  J4 H23))))) ∧
                                        ∀ H24 : Heap,
                                        J4 H24 →
                                        ∃ q18 : Nat,
                                        ∃ o17 : Nat,
                                        (l6.p : Option Addr) = some ⟨q18, o17, none⟩ ∧
                                        0 ≤ (k_2 : Int) ∧
                                        (k_2 : Int) < (l6.n : Nat) ∧
                                        ∃ n33 : Int,
                                        cellH H24 ⟨q18, o17 + Int.toNat k_2 * 3, none⟩ = some (.int .i64 n33) ∧
                                        SelfEq ([.v (.slice script.p script.n script.c), .v (.pointer p2), .v (.int .i64 i_1), .v (.int .i64 n15), .v (.slice l6.p l6.n l6.c)], [some (34, [.int .i64 n9, .int .i64 n10, .int .i64 n11, .string s2, .slice l4.p l4.n l4.c, .bool b3, .slice l5.p l5.n l5.c])], []) ∧
                                        I3 n33 (IntKind.wrap .i64 (k_2 + 1)) H24 ∧
                                        M3 n33 (IntKind.wrap .i64 (k_2 + 1)) H24 < M3 term_1 k_2 H20)
                                     (
                                      ptrm p2 fun q19 o18 =>
                                      FnH Tryd.prog 9 #[.pointer (some ⟨q19, o18, none⟩)] H20 fun r18 H25 =>
                                        ∃ n34 : Int,
                                        ∃ n35 : Int,
                                        r18 = .tuple #[.int .i64 n34, .int .i64 n35] ∧
                                        br ((n34 : Int) != (IntKind.wrap .i64 (n15 + (l6.n : Nat)))) (
                                          K (.bool false) H25)
                                         (
                                          br ((n35 : Int) != term_1) (
                                            K (.bool false) H25)
                                           (
                                            SelfEq ([.v (.slice script.p script.n script.c), .v (.pointer p2)], [], []) ∧
                                            I1 (IntKind.wrap .i64 (i_1 + 1)) H25 ∧
                                            M1 (IntKind.wrap .i64 (i_1 + 1)) H25 < M1 i_1 H4)))))))
                     (
                      K (.bool true) H4))
                   (
                    K (.bool true) H4))))))
theorem logboomlaw9_RaftlogOrder_eq (script : Sl) (H : Heap) (K : Value → Heap → Prop) : logboomlaw9_RaftlogOrder_vc script H K = denFn Tryd.prog logboomlaw9_RaftlogOrder_ann Tryd.f3 (bodyOf Tryd.f3) [.slice script.p script.n script.c] H K := by kernel_rfl
theorem logboomlaw9_RaftlogOrder_fn (script : Sl) {H : Heap} {K : Value → Heap → Prop} (h : logboomlaw9_RaftlogOrder_vc script H K) : FnH Tryd.prog 3 #[.slice script.p script.n script.c] H K :=
  denFn_fn Tryd.mixed logboomlaw9_RaftlogOrder_ann Tryd.func3 (bodyOf_spec (by kernel_rfl)) (logboomlaw9_RaftlogOrder_eq script H K) h

end Go.Proofs.YtmneimfhcjkinaaDoor
