/- Formulas of functions, printed by this session's vc.py; each is tied to the program by the kernel. -/
import Derived.Test.YtcbobncipnjbjaaDoorProg
import Derived.KernelRfl
import Derived.Test.YtcbobncipnjbjaaDoorHlFn
import Derived.Test.YtcbobncipnjbjaaDoorV3
namespace Go.Proofs.YtcbobncipnjbjaaDoor
open Go.HL
set_option maxRecDepth 100000
/-! function 6: logboom/logboomlaw15.GroupOwners -/
def logboomlaw15_GroupOwners_ann : Anns := { hid := [13], loops := [(0, { slots := [(7, .slice), (8, .int .i64)], kept := [0, 1, 6], locs := [], keptL := [] }), (2, { slots := [(9, .int .i64)], kept := [0, 6, 7], locs := [], keptL := [] }), (4, { slots := [(11, .int .i64), (12, .int .i64)], kept := [0, 6, 7, 9, 10], locs := [], keptL := [] }), (6, { slots := [(14, .int .i64)], kept := [0, 6, 7, 9, 10, 11, 12, 13], locs := [], keptL := [0] })], joins := [((11, 15), { slots := [], kept := [0, 6, 7, 9], locs := [], keptL := [] }), ((0, 14), { slots := [(56, .bool)], kept := [0, 6, 7, 9, 10], locs := [], keptL := [] })], mix := [(22, [8, 10]), (29, [])] }
def logboomlaw15_GroupOwners_vc (joins : Sl) (parts : Int) (H : Heap) (K : Value → Heap → Prop) : Prop :=
  FnH Tryd.prog 9 #[] H fun r1 H1 =>
    ∃ b1 : Bool,
    r1 = .bool b1 ∧
    FnH Tryd.prog 13 #[] H1 fun r2 H2 =>
      ∃ p1 : Option Addr,
      r2 = .pointer p1 ∧
      br (!b1) (
        K (.bool false) H2)
       (
        br (Option.isNone p1) (
          K (.bool false) H2)
         (
          ∃ I1 : Sl → Int → Heap → Prop,
          ∃ M1 : Sl → Int → Heap → Nat,
          I1 ⟨none, 0, 0⟩ 1 H2 ∧
          ∀ l_1 : Sl,
          ∀ p_1 : Int,
          ∀ H3 : Heap,
          I1 l_1 p_1 H3 →
          FnH Tryd.prog 15 #[.int .i64 parts, .int .i64 16] H3 fun r3 H4 =>
            ∃ n1 : Int,
            r3 = .int .i64 n1 ∧
            br (decide ((p_1 : Int) ≤ (IntKind.wrap .i64 (1 + n1)))) (
              ∀ q1 : Nat,
              H4 q1 = none →
              letH (Heap.upd H4 q1 (.cells #[.int .i64 p_1] 3 (0, 0))) fun H5 =>
              runH Tryd.prog (Builtin.append_ #[22, 22] 22 #[.slice l_1.p l_1.n l_1.c, .slice (some ⟨q1, 0, none⟩) 1 1]) H5 fun r4 H6 =>
                ∃ l1 : Sl,
                r4 = .slice l1.p l1.n l1.c ∧
                SelfEq ([.v (.slice joins.p joins.n joins.c), .v (.int .i64 parts), .v (.pointer p1)], [], []) ∧
                I1 l1 (IntKind.wrap .i64 (p_1 + 1)) H6 ∧
                M1 l1 (IntKind.wrap .i64 (p_1 + 1)) H6 < M1 l_1 p_1 H3)
             (
              ∃ I2 : Int → Heap → Prop,
              ∃ M2 : Int → Heap → Nat,
              I2 0 H4 ∧
              ∀ i_1 : Int,
              ∀ H7 : Heap,
              I2 i_1 H7 →
              br (decide ((i_1 : Int) < (joins.n : Nat))) (
                br (decide ((i_1 : Int) < 40)) (
                  FnH Tryd.prog 17 #[.pointer p1, .string (⟨#[103]⟩ : ByteArray)] H7 fun r5 H8 =>
                    ∃ l2 : Sl,
                    r5 = .slice l2.p l2.n l2.c ∧
                    ∃ J1 : Heap → Prop,
                    (∃ J2 : Bool → Heap → Prop,
                    (br (decide (((l2.n : Nat) : Int) > 0)) (
                      ∃ q2 : Nat,
                      ∃ o1 : Nat,
                      (joins.p : Option Addr) = some ⟨q2, o1, none⟩ ∧
                      0 ≤ (i_1 : Int) ∧
                      (i_1 : Int) < (joins.n : Nat) ∧
                      ∃ n2 : Int,
                      cellH H8 ⟨q2, o1 + Int.toNat i_1, none⟩ = some (.int .i64 n2) ∧
                      (3 : Int) ≠ 0 ∧
                      SelfEq ([.v (.slice joins.p joins.n joins.c), .v (.pointer p1), .v (.slice l_1.p l_1.n l_1.c), .v (.int .i64 i_1), .v (.slice l2.p l2.n l2.c)], [], []) ∧
                      J2 (((Int.tmod n2 3) : Int) == 0) H8)
                     (
                      SelfEq ([.v (.slice joins.p joins.n joins.c), .v (.pointer p1), .v (.slice l_1.p l_1.n l_1.c), .v (.int .i64 i_1), .v (.slice l2.p l2.n l2.c)], [], []) ∧
                      J2 false H8)) ∧
                    ∀ b_1 : Bool,
                    ∀ H9 : Heap,
                    J2 b_1 H9 →
                    br (b_1) (
                      ∃ q3 : Nat,
                      ∃ o2 : Nat,
                      (joins.p : Option Addr) = some ⟨q3, o2, none⟩ ∧
                      0 ≤ (i_1 : Int) ∧
                      (i_1 : Int) < (joins.n : Nat) ∧
                      ∃ n3 : Int,
                      cellH H9 ⟨q3, o2 + Int.toNat i_1, none⟩ = some (.int .i64 n3) ∧
                      FnH Tryd.prog 15 #[.int .i64 n3, .int .i64 (l2.n : Nat)] H9 fun r6 H10 =>
                        ∃ n4 : Int,
                        r6 = .int .i64 n4 ∧
                        ∃ q4 : Nat,
                        ∃ o3 : Nat,
                        (l2.p : Option Addr) = some ⟨q4, o3, none⟩ ∧
                        0 ≤ (n4 : Int) ∧
                        (n4 : Int) < (l2.n : Nat) ∧
                        ∃ n5 : Int,
                        cellH H10 ⟨q4, o3 + Int.toNat n4, none⟩ = some (.int .i64 n5) ∧
                        FnH Tryd.prog 14 #[.pointer p1, .agg #[.int .i64 2, .int .i64 n5, .int .i64 0, .int .i64 0, .int .i64 0, .string (⟨#[103]⟩ : ByteArray), .string (⟨#[]⟩ : ByteArray), .slice none 0 0]] H10 fun r7 H11 =>
                          ∃ n6 : Int,
                          ∃ n7 : Int,
                          ∃ n8 : Int,
                          ∃ n9 : Int,
                          ∃ l3 : Sl,
                          r7 = .agg #[.int .i64 n6, .int .i64 n7, .int .i64 n8, .int .i64 n9, .slice l3.p l3.n l3.c] ∧
                          SelfEq ([.v (.slice joins.p joins.n joins.c), .v (.pointer p1), .v (.slice l_1.p l_1.n l_1.c), .v (.int .i64 i_1)], [], []) ∧
                          J1 H11)
                     (
                      FnH Tryd.prog 14 #[.pointer p1, .agg #[.int .i64 1, .int .i64 0, .int .i64 0, .int .i64 0, .int .i64 0, .string (⟨#[103]⟩ : ByteArray), .string (⟨#[]⟩ : ByteArray), .slice l_1.p l_1.n l_1.c]] H9 fun r8 H12 =>
                        ∃ n10 : Int,
                        ∃ n11 : Int,
                        ∃ n12 : Int,
                        ∃ n13 : Int,
                        ∃ l4 : Sl,
                        r8 = .agg #[.int .i64 n10, .int .i64 n11, .int .i64 n12, .int .i64 n13, .slice l4.p l4.n l4.c] ∧
                        SelfEq ([.v (.slice joins.p joins.n joins.c), .v (.pointer p1), .v (.slice l_1.p l_1.n l_1.c), .v (.int .i64 i_1)], [], []) ∧
                        J1 H12)) ∧
                    ∀ H13 : Heap,
                    J1 H13 →
                    FnH Tryd.prog 17 #[.pointer p1, .string (⟨#[103]⟩ : ByteArray)] H13 fun r9 H14 =>
                      ∃ l5 : Sl,
                      r9 = .slice l5.p l5.n l5.c ∧
                      ∃ I3 : Int → Int → Heap → Prop,
                      ∃ M3 : Int → Int → Heap → Nat,
                      I3 0 0 H14 ∧
                      ∀ sum_1 : Int,
                      ∀ k_1 : Int,
                      ∀ H15 : Heap,
                      I3 sum_1 k_1 H15 →
                      br (decide ((k_1 : Int) < (l5.n : Nat))) (
                        ∃ q5 : Nat,
                        ∃ o4 : Nat,
                        (l5.p : Option Addr) = some ⟨q5, o4, none⟩ ∧
                        0 ≤ (k_1 : Int) ∧
                        (k_1 : Int) < (l5.n : Nat) ∧
                        ∃ n14 : Int,
                        cellH H15 ⟨q5, o4 + Int.toNat k_1, none⟩ = some (.int .i64 n14) ∧
                        (FnH Tryd.prog 18 #[.pointer p1, .string (⟨#[103]⟩ : ByteArray)] H15 fun r10 H16 =>
                          ∃ n15 : Int,
                          r10 = .int .i64 n15 ∧
                          Sub H15 H16 ∧
                          (FnH Tryd.prog 14 #[.pointer p1, .agg #[.int .i64 6, .int .i64 n14, .int .i64 n15, .int .i64 0, .int .i64 0, .string (⟨#[103]⟩ : ByteArray), .string (⟨#[]⟩ : ByteArray), .slice none 0 0]] H16 fun r11 H17 =>
                            ∃ n16 : Int,
                            ∃ n17 : Int,
                            ∃ n18 : Int,
                            ∃ n19 : Int,
                            ∃ l6 : Sl,
                            r11 = .agg #[.int .i64 n16, .int .i64 n17, .int .i64 n18, .int .i64 n19, .slice l6.p l6.n l6.c] ∧
                            br ((n16 : Int) != 0) (
                              K (.bool false) H17)
                             (
                              ∃ I4 : Int → Heap → Prop,
                              ∃ M4 : Int → Heap → Nat,
                              I4 0 H17 ∧
                              ∀ j_1 : Int,
                              ∀ H18 : Heap,
                              I4 j_1 H18 →
                              br (decide ((j_1 : Int) < (l6.n : Nat))) (
                                ∃ q6 : Nat,
                                ∃ o5 : Nat,
                                (l6.p : Option Addr) = some ⟨q6, o5, none⟩ ∧
                                0 ≤ (j_1 : Int) ∧
                                (j_1 : Int) < (l6.n : Nat) ∧
                                ∃ n20 : Int,
                                cellH H18 ⟨q6, o5 + Int.toNat j_1, none⟩ = some (.int .i64 n20) ∧
                                ∃ q7 : Nat,
                                ∃ o6 : Nat,
                                (l5.p : Option Addr) = some ⟨q7, o6, none⟩ ∧
                                0 ≤ (k_1 : Int) ∧
                                (k_1 : Int) < (l5.n : Nat) ∧
                                ∃ n21 : Int,
                                cellH H18 ⟨q7, o6 + Int.toNat k_1, none⟩ = some (.int .i64 n21) ∧
                                FnH Tryd.prog 19 #[.pointer p1, .string (⟨#[103]⟩ : ByteArray), .int .i64 n20] H18 fun r12 H19 =>
                                  ∃ n22 : Int,
                                  r12 = .int .i64 n22 ∧
                                  Sub H18 H19 ∧
                                  br ((n22 : Int) != n21) (
                                    K (.bool false) H19)
                                   (
                                    SelfEq ([.v (.slice joins.p joins.n joins.c), .v (.pointer p1), .v (.slice l_1.p l_1.n l_1.c), .v (.int .i64 i_1), .v (.slice l5.p l5.n l5.c), .v (.int .i64 (IntKind.wrap .i64 (sum_1 + (l6.n : Nat)))), .v (.int .i64 k_1), .loc 0 0], [some (31, [.int .i64 n16, .int .i64 n17, .int .i64 n18, .int .i64 n19, .slice l6.p l6.n l6.c])], []) ∧
                                    I4 (IntKind.wrap .i64 (j_1 + 1)) H19 ∧
                                    M4 (IntKind.wrap .i64 (j_1 + 1)) H19 < M4 j_1 H18))
                               (
                                SelfEq ([.v (.slice joins.p joins.n joins.c), .v (.pointer p1), .v (.slice l_1.p l_1.n l_1.c), .v (.int .i64 i_1), .v (.slice l5.p l5.n l5.c)], [], []) ∧
                                I3 (IntKind.wrap .i64 (sum_1 + (l6.n : Nat))) (IntKind.wrap .i64 (k_1 + 1)) H18 ∧
                                M3 (IntKind.wrap .i64 (sum_1 + (l6.n : Nat))) (IntKind.wrap .i64 (k_1 + 1)) H18 < M3 sum_1 k_1 H15))) ∧
                          Sub H15 H16 ∧
                          FnH Tryd.prog 14 #[.pointer p1, .agg #[.int .i64 6, .int .i64 n14, .int .i64 n15, .int .i64 0, .int .i64 0, .string (⟨#[103]⟩ : ByteArray), .string (⟨#[]⟩ : ByteArray), .slice none 0 0]] H16 fun r13 H20 =>
                            ∃ n23 : Int,
                            ∃ n24 : Int,
                            ∃ n25 : Int,
                            ∃ n26 : Int,
                            ∃ l7 : Sl,
                            r13 = .agg #[.int .i64 n23, .int .i64 n24, .int .i64 n25, .int .i64 n26, .slice l7.p l7.n l7.c] ∧
                            br ((n23 : Int) != 0) (
                              K (.bool false) H20)
                             (
                              ∃ I5 : Int → Heap → Prop,
                              ∃ M5 : Int → Heap → Nat,
                              I5 0 H20 ∧
                              ∀ j_2 : Int,
                              ∀ H21 : Heap,
                              I5 j_2 H21 →
                              br (decide ((j_2 : Int) < (l7.n : Nat))) (
                                ∃ q8 : Nat,
                                ∃ o7 : Nat,
                                (l7.p : Option Addr) = some ⟨q8, o7, none⟩ ∧
                                0 ≤ (j_2 : Int) ∧
                                (j_2 : Int) < (l7.n : Nat) ∧
                                ∃ n27 : Int,
                                cellH H21 ⟨q8, o7 + Int.toNat j_2, none⟩ = some (.int .i64 n27) ∧
                                ∃ q9 : Nat,
                                ∃ o8 : Nat,
                                (l5.p : Option Addr) = some ⟨q9, o8, none⟩ ∧
                                0 ≤ (k_1 : Int) ∧
                                (k_1 : Int) < (l5.n : Nat) ∧
                                ∃ n28 : Int,
                                cellH H21 ⟨q9, o8 + Int.toNat k_1, none⟩ = some (.int .i64 n28) ∧
                                FnH Tryd.prog 19 #[.pointer p1, .string (⟨#[103]⟩ : ByteArray), .int .i64 n27] H21 fun r14 H22 =>
                                  ∃ n29 : Int,
                                  r14 = .int .i64 n29 ∧
                                  Sub H21 H22 ∧
                                  br ((n29 : Int) != n28) (
                                    K (.bool false) H22)
                                   (
                                    SelfEq ([.v (.slice joins.p joins.n joins.c), .v (.pointer p1), .v (.slice l_1.p l_1.n l_1.c), .v (.int .i64 i_1), .v (.slice l5.p l5.n l5.c), .v (.int .i64 (IntKind.wrap .i64 (sum_1 + (l7.n : Nat)))), .v (.int .i64 k_1), .loc 0 0], [some (31, [.int .i64 n23, .int .i64 n24, .int .i64 n25, .int .i64 n26, .slice l7.p l7.n l7.c])], []) ∧
                                    I5 (IntKind.wrap .i64 (j_2 + 1)) H22 ∧
                                    M5 (IntKind.wrap .i64 (j_2 + 1)) H22 < M5 j_2 H21))
                               (
                                SelfEq ([.v (.slice joins.p joins.n joins.c), .v (.pointer p1), .v (.slice l_1.p l_1.n l_1.c), .v (.int .i64 i_1), .v (.slice l5.p l5.n l5.c)], [], []) ∧
                                I3 (IntKind.wrap .i64 (sum_1 + (l7.n : Nat))) (IntKind.wrap .i64 (k_1 + 1)) H21 ∧
                                M3 (IntKind.wrap .i64 (sum_1 + (l7.n : Nat))) (IntKind.wrap .i64 (k_1 + 1)) H21 < M3 sum_1 k_1 H15))) ∧
                        Sub H15 H15 ∧
                        FnH Tryd.prog 18 #[.pointer p1, .string (⟨#[103]⟩ : ByteArray)] H15 fun r15 H23 =>
                          ∃ n30 : Int,
                          r15 = .int .i64 n30 ∧
                          Sub H15 H23 ∧
                          FnH Tryd.prog 14 #[.pointer p1, .agg #[.int .i64 6, .int .i64 n14, .int .i64 n30, .int .i64 0, .int .i64 0, .string (⟨#[103]⟩ : ByteArray), .string (⟨#[]⟩ : ByteArray), .slice none 0 0]] H23 fun r16 H24 =>
                            ∃ n31 : Int,
                            ∃ n32 : Int,
                            ∃ n33 : Int,
                            ∃ n34 : Int,
                            ∃ l8 : Sl,
                            r16 = .agg #[.int .i64 n31, .int .i64 n32, .int .i64 n33, .int .i64 n34, .slice l8.p l8.n l8.c] ∧
                            br ((n31 : Int) != 0) (
                              K (.bool false) H24)
                             (
                              ∃ I6 : Int → Heap → Prop,
                              ∃ M6 : Int → Heap → Nat,
                              I6 0 H24 ∧
                              ∀ j_3 : Int,
                              ∀ H25 : Heap,
                              I6 j_3 H25 →
                              br (decide ((j_3 : Int) < (l8.n : Nat))) (
                                ∃ q10 : Nat,
                                ∃ o9 : Nat,
                                (l8.p : Option Addr) = some ⟨q10, o9, none⟩ ∧
                                0 ≤ (j_3 : Int) ∧
                                (j_3 : Int) < (l8.n : Nat) ∧
                                ∃ n35 : Int,
                                cellH H25 ⟨q10, o9 + Int.toNat j_3, none⟩ = some (.int .i64 n35) ∧
                                ∃ q11 : Nat,
                                ∃ o10 : Nat,
                                (l5.p : Option Addr) = some ⟨q11, o10, none⟩ ∧
                                0 ≤ (k_1 : Int) ∧
                                (k_1 : Int) < (l5.n : Nat) ∧
                                ∃ n36 : Int,
                                cellH H25 ⟨q11, o10 + Int.toNat k_1, none⟩ = some (.int .i64 n36) ∧
                                FnH Tryd.prog 19 #[.pointer p1, .string (⟨#[103]⟩ : ByteArray), .int .i64 n35] H25 fun r17 H26 =>
                                  ∃ n37 : Int,
                                  r17 = .int .i64 n37 ∧
                                  Sub H25 H26 ∧
                                  br ((n37 : Int) != n36) (
                                    K (.bool false) H26)
                                   (
                                    SelfEq ([.v (.slice joins.p joins.n joins.c), .v (.pointer p1), .v (.slice l_1.p l_1.n l_1.c), .v (.int .i64 i_1), .v (.slice l5.p l5.n l5.c), .v (.int .i64 (IntKind.wrap .i64 (sum_1 + (l8.n : Nat)))), .v (.int .i64 k_1), .loc 0 0], [some (31, [.int .i64 n31, .int .i64 n32, .int .i64 n33, .int .i64 n34, .slice l8.p l8.n l8.c])], []) ∧
                                    I6 (IntKind.wrap .i64 (j_3 + 1)) H26 ∧
                                    M6 (IntKind.wrap .i64 (j_3 + 1)) H26 < M6 j_3 H25))
                               (
                                SelfEq ([.v (.slice joins.p joins.n joins.c), .v (.pointer p1), .v (.slice l_1.p l_1.n l_1.c), .v (.int .i64 i_1), .v (.slice l5.p l5.n l5.c)], [], []) ∧
                                I3 (IntKind.wrap .i64 (sum_1 + (l8.n : Nat))) (IntKind.wrap .i64 (k_1 + 1)) H25 ∧
                                M3 (IntKind.wrap .i64 (sum_1 + (l8.n : Nat))) (IntKind.wrap .i64 (k_1 + 1)) H25 < M3 sum_1 k_1 H15)))
                       (
                        br (decide (((l5.n : Nat) : Int) > 0)) (
                          br ((sum_1 : Int) != (l_1.n : Nat)) (
                            K (.bool false) H15)
                           (
                            br (((l5.n : Nat) : Int) == 0) (
                              FnH Tryd.prog 19 #[.pointer p1, .string (⟨#[103]⟩ : ByteArray), .int .i64 1] H15 fun r18 H27 =>
                                ∃ n38 : Int,
                                r18 = .int .i64 n38 ∧
                                br ((n38 : Int) != 0) (
                                  K (.bool false) H27)
                                 (
                                  SelfEq ([.v (.slice joins.p joins.n joins.c), .v (.pointer p1), .v (.slice l_1.p l_1.n l_1.c)], [], []) ∧
                                  I2 (IntKind.wrap .i64 (i_1 + 1)) H27 ∧
                                  M2 (IntKind.wrap .i64 (i_1 + 1)) H27 < M2 i_1 H7))
                             (
                              SelfEq ([.v (.slice joins.p joins.n joins.c), .v (.pointer p1), .v (.slice l_1.p l_1.n l_1.c)], [], []) ∧
                              I2 (IntKind.wrap .i64 (i_1 + 1)) H15 ∧
                              M2 (IntKind.wrap .i64 (i_1 + 1)) H15 < M2 i_1 H7)))
                         (
                          br (((l5.n : Nat) : Int) == 0) (
                            FnH Tryd.prog 19 #[.pointer p1, .string (⟨#[103]⟩ : ByteArray), .int .i64 1] H15 fun r19 H28 =>
                              ∃ n39 : Int,
                              r19 = .int .i64 n39 ∧
                              br ((n39 : Int) != 0) (
                                K (.bool false) H28)
                               (
                                SelfEq ([.v (.slice joins.p joins.n joins.c), .v (.pointer p1), .v (.slice l_1.p l_1.n l_1.c)], [], []) ∧
                                I2 (IntKind.wrap .i64 (i_1 + 1)) H28 ∧
                                M2 (IntKind.wrap .i64 (i_1 + 1)) H28 < M2 i_1 H7))
                           (
                            SelfEq ([.v (.slice joins.p joins.n joins.c), .v (.pointer p1), .v (.slice l_1.p l_1.n l_1.c)], [], []) ∧
                            I2 (IntKind.wrap .i64 (i_1 + 1)) H15 ∧
                            M2 (IntKind.wrap .i64 (i_1 + 1)) H15 < M2 i_1 H7))))
                 (
                  K (.bool true) H7))
               (
                K (.bool true) H7))))
theorem logboomlaw15_GroupOwners_eq (joins : Sl) (parts : Int) (H : Heap) (K : Value → Heap → Prop) : logboomlaw15_GroupOwners_vc joins parts H K = denFn Tryd.prog logboomlaw15_GroupOwners_ann Tryd.f6 (bodyOf Tryd.f6) [.slice joins.p joins.n joins.c, .int .i64 parts] H K := by kernel_rfl
theorem logboomlaw15_GroupOwners_fn (joins : Sl) (parts : Int) {H : Heap} {K : Value → Heap → Prop} (h : logboomlaw15_GroupOwners_vc joins parts H K) : FnH Tryd.prog 6 #[.slice joins.p joins.n joins.c, .int .i64 parts] H K :=
  denFn_sound Tryd.mixed logboomlaw15_GroupOwners_ann Tryd.func6 (bodyOf_spec (by kernel_rfl)) ((logboomlaw15_GroupOwners_eq joins parts H K) ▸ h)

end Go.Proofs.YtcbobncipnjbjaaDoor
