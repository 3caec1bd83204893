/- Formulas of functions, printed by this session's vc.py; each is tied to the program by the kernel. -/
import Derived.Test.YtahempkggcbegaaProg
import Derived.KernelRfl
import Derived.Test.YtahempkggcbegaaHlFn
import Derived.Test.YtahempkggcbegaaV3
namespace Go.Proofs.Ytahempkggcbegaa
open Go.HL
set_option maxRecDepth 100000
/-! function 4: logboom/logboomlaw11.MoveFences -/
def logboomlaw11_MoveFences_ann : Anns := { hid := [2, 14], loops := [(0, { slots := [(7, .slice), (9, .int .i64)], kept := [1, 2], locs := [(0, [.int .i64, .int .i64, .int .i64, .int .i64, .slice, .slice, .slice, .slice, .int .i64])], keptL := [] }), (2, { slots := [(7, .slice)], kept := [2], locs := [(0, [.int .i64, .int .i64, .int .i64, .int .i64, .slice, .slice, .slice, .slice, .int .i64])], keptL := [] })], joins := [], mix := [(13, [4, 9]), (28, [10])] }
def logboomlaw11_MoveFences_vc (p_0 : Int) (p_1 : Int) (p_2 : Int) (p_3 : Int) (p_4 : Sl) (p_5 : Sl) (p_6 : Sl) (p_7 : Sl) (p_8 : Int) (order : Sl) (H : Heap) (K : Value → Heap → Prop) : Prop :=
  FnH Try.prog 7 #[] H fun r1 H1 =>
    ∃ b1 : Bool,
    r1 = .bool b1 ∧
    FnH Try.prog 8 #[.agg #[.int .i64 p_0, .int .i64 p_1, .int .i64 p_2, .int .i64 p_3, .slice p_4.p p_4.n p_4.c, .slice p_5.p p_5.n p_5.c, .slice p_6.p p_6.n p_6.c, .slice p_7.p p_7.n p_7.c, .int .i64 p_8]] H1 fun r2 H2 =>
      ∃ b2 : Bool,
      r2 = .bool b2 ∧
      br (!b1) (
        K (.bool b1) H2)
       (
        br (!b2) (
          K (.bool b1) H2)
         (
          br (decide ((p_3 : Int) > 999999900)) (
            K (.bool b1) H2)
           (
            br (decide ((p_2 : Int) > 999999900)) (
              K (.bool b1) H2)
             (
              ∀ q1 : Nat,
              H2 q1 = none →
              letH (Heap.upd H2 q1 (.cells #[.int .i64 1, .int .i64 2, .int .i64 3, .int .i64 4, .int .i64 5, .int .i64 6, .int .i64 7] 3 (0, 0))) fun H3 =>
              ∃ I1 : Sl → Int → Int → Int → Int → Int → Sl → Sl → Sl → Sl → Int → Heap → Prop,
              ∃ M1 : Sl → Int → Int → Int → Int → Int → Sl → Sl → Sl → Sl → Int → Heap → Nat,
              I1 ⟨(some ⟨q1, 0, none⟩), 7, 7⟩ 0 p_0 p_1 p_2 p_3 p_4 p_5 p_6 p_7 p_8 H3 ∧
              ∀ up_1 : Sl,
              ∀ i_1 : Int,
              ∀ n1 : Int,
              ∀ n2 : Int,
              ∀ n3 : Int,
              ∀ n4 : Int,
              ∀ l1 : Sl,
              ∀ l2 : Sl,
              ∀ l3 : Sl,
              ∀ l4 : Sl,
              ∀ n5 : Int,
              ∀ H4 : Heap,
              I1 up_1 i_1 n1 n2 n3 n4 l1 l2 l3 l4 n5 H4 →
              br (decide ((i_1 : Int) < (order.n : Nat))) (
                br (decide ((i_1 : Int) < 20)) (
                  ∃ q2 : Nat,
                  ∃ o1 : Nat,
                  (order.p : Option Addr) = some ⟨q2, o1, none⟩ ∧
                  0 ≤ (i_1 : Int) ∧
                  (i_1 : Int) < (order.n : Nat) ∧
                  ∃ n6 : Int,
                  cellH H4 ⟨q2, o1 + Int.toNat i_1, none⟩ = some (.int .i64 n6) ∧
                  FnH Try.prog 14 #[.int .i64 n6, .int .i64 (IntKind.wrap .i64 ((up_1.n : Nat) + 1))] H4 fun r3 H5 =>
                    ∃ n7 : Int,
                    r3 = .int .i64 n7 ∧
                    br ((n7 : Int) == (up_1.n : Nat)) (
                      SelfEq ([.v (.slice order.p order.n order.c), .loc 0 0], [], [24]) ∧
                      I1 up_1 (IntKind.wrap .i64 (i_1 + 1)) n1 n2 n3 n4 l1 l2 l3 l4 n5 H5 ∧
                      M1 up_1 (IntKind.wrap .i64 (i_1 + 1)) n1 n2 n3 n4 l1 l2 l3 l4 n5 H5 < M1 up_1 i_1 n1 n2 n3 n4 l1 l2 l3 l4 n5 H4)
                     (
                      ∃ q3 : Nat,
                      ∃ o2 : Nat,
                      (up_1.p : Option Addr) = some ⟨q3, o2, none⟩ ∧
                      0 ≤ (n7 : Int) ∧
                      (n7 : Int) < (up_1.n : Nat) ∧
                      ∃ n8 : Int,
                      cellH H5 ⟨q3, o2 + Int.toNat n7, none⟩ = some (.int .i64 n8) ∧
                      0 ≤ (n7 : Int) ∧
                      (n7 : Int) ≤ (up_1.c : Nat) ∧
                      0 ≤ (IntKind.wrap .i64 (n7 + 1) : Int) ∧
                      (IntKind.wrap .i64 (n7 + 1) : Int) ≤ (up_1.n : Nat) ∧
                      ∀ q4 : Nat,
                      H5 q4 = none →
                      letH (Heap.upd H5 q4 (.cells #[] 3 (0, 0))) fun H6 =>
                      Sub H5 H6 ∧
                      runH Try.prog (Builtin.append_ #[22, 22] 22 #[.slice (some ⟨q4, 0, none⟩) 0 0, .slice (slP up_1.p up_1.c (0 : Int) 1) (Int.toNat (n7 - (0 : Int))) (Int.toNat ((up_1.c : Nat) - (0 : Int)))]) H6 fun r4 H7 =>
                        ∃ l5 : Sl,
                        r4 = .slice l5.p l5.n l5.c ∧
                        runH Try.prog (Builtin.append_ #[22, 22] 22 #[.slice l5.p l5.n l5.c, .slice (slP up_1.p up_1.c (IntKind.wrap .i64 (n7 + 1)) 1) (Int.toNat ((up_1.n : Nat) - (IntKind.wrap .i64 (n7 + 1)))) (Int.toNat ((up_1.c : Nat) - (IntKind.wrap .i64 (n7 + 1))))]) H7 fun r5 H8 =>
                          ∃ l6 : Sl,
                          r5 = .slice l6.p l6.n l6.c ∧
                          FnH Try.prog 15 #[.agg #[.int .i64 n1, .int .i64 n2, .int .i64 n3, .int .i64 n4, .slice l1.p l1.n l1.c, .slice l2.p l2.n l2.c, .slice l3.p l3.n l3.c, .slice l4.p l4.n l4.c, .int .i64 n5], .int .i64 n8, .slice l6.p l6.n l6.c] H8 fun r6 H9 =>
                            ∃ n9 : Int,
                            ∃ n10 : Int,
                            ∃ n11 : Int,
                            ∃ n12 : Int,
                            ∃ l7 : Sl,
                            ∃ l8 : Sl,
                            ∃ l9 : Sl,
                            ∃ l10 : Sl,
                            ∃ n13 : Int,
                            ∃ n14 : Int,
                            r6 = .tuple #[.agg #[.int .i64 n9, .int .i64 n10, .int .i64 n11, .int .i64 n12, .slice l7.p l7.n l7.c, .slice l8.p l8.n l8.c, .slice l9.p l9.n l9.c, .slice l10.p l10.n l10.c, .int .i64 n13], .int .i64 n14] ∧
                            br ((n14 : Int) != 0) (
                              K (.bool false) H9)
                             (
                              FnH Try.prog 13 #[.slice l7.p l7.n l7.c, .int .i64 n8] H9 fun r7 H10 =>
                                ∃ b3 : Bool,
                                r7 = .bool b3 ∧
                                br ((n10 : Int) == n8) (
                                  K (.bool false) H10)
                                 (
                                  br (b3) (
                                    br (decide (((l7.n : Nat) : Int) > 1)) (
                                      K (.bool false) H10)
                                     (
                                      SelfEq ([.v (.slice order.p order.n order.c), .loc 0 0], [], [24]) ∧
                                      I1 l6 (IntKind.wrap .i64 (i_1 + 1)) n9 n10 n11 n12 l7 l8 l9 l10 n13 H10 ∧
                                      M1 l6 (IntKind.wrap .i64 (i_1 + 1)) n9 n10 n11 n12 l7 l8 l9 l10 n13 H10 < M1 up_1 i_1 n1 n2 n3 n4 l1 l2 l3 l4 n5 H4))
                                   (
                                    SelfEq ([.v (.slice order.p order.n order.c), .loc 0 0], [], [24]) ∧
                                    I1 l6 (IntKind.wrap .i64 (i_1 + 1)) n9 n10 n11 n12 l7 l8 l9 l10 n13 H10 ∧
                                    M1 l6 (IntKind.wrap .i64 (i_1 + 1)) n9 n10 n11 n12 l7 l8 l9 l10 n13 H10 < M1 up_1 i_1 n1 n2 n3 n4 l1 l2 l3 l4 n5 H4)))))
                 (
                  ∃ I2 : Sl → Int → Int → Int → Int → Sl → Sl → Sl → Sl → Int → Heap → Prop,
                  ∃ M2 : Sl → Int → Int → Int → Int → Sl → Sl → Sl → Sl → Int → Heap → Nat,
                  I2 up_1 n1 n2 n3 n4 l1 l2 l3 l4 n5 H4 ∧
                  ∀ up_2 : Sl,
                  ∀ n15 : Int,
                  ∀ n16 : Int,
                  ∀ n17 : Int,
                  ∀ n18 : Int,
                  ∀ l11 : Sl,
                  ∀ l12 : Sl,
                  ∀ l13 : Sl,
                  ∀ l14 : Sl,
                  ∀ n19 : Int,
                  ∀ H11 : Heap,
                  I2 up_2 n15 n16 n17 n18 l11 l12 l13 l14 n19 H11 →
                  br (decide (((up_2.n : Nat) : Int) > 0)) (
                    ∃ q5 : Nat,
                    ∃ o3 : Nat,
                    (up_2.p : Option Addr) = some ⟨q5, o3, none⟩ ∧
                    0 ≤ (0 : Int) ∧
                    (0 : Int) < (up_2.n : Nat) ∧
                    ∃ n20 : Int,
                    cellH H11 ⟨q5, o3 + Int.toNat 0, none⟩ = some (.int .i64 n20) ∧
                    0 ≤ (1 : Int) ∧
                    (1 : Int) ≤ (up_2.n : Nat) ∧
                    FnH Try.prog 15 #[.agg #[.int .i64 n15, .int .i64 n16, .int .i64 n17, .int .i64 n18, .slice l11.p l11.n l11.c, .slice l12.p l12.n l12.c, .slice l13.p l13.n l13.c, .slice l14.p l14.n l14.c, .int .i64 n19], .int .i64 n20, .slice (slP up_2.p up_2.c 1 1) (Int.toNat ((up_2.n : Nat) - 1)) (Int.toNat ((up_2.c : Nat) - 1))] H11 fun r8 H12 =>
                      ∃ n21 : Int,
                      ∃ n22 : Int,
                      ∃ n23 : Int,
                      ∃ n24 : Int,
                      ∃ l15 : Sl,
                      ∃ l16 : Sl,
                      ∃ l17 : Sl,
                      ∃ l18 : Sl,
                      ∃ n25 : Int,
                      ∃ n26 : Int,
                      r8 = .tuple #[.agg #[.int .i64 n21, .int .i64 n22, .int .i64 n23, .int .i64 n24, .slice l15.p l15.n l15.c, .slice l16.p l16.n l16.c, .slice l17.p l17.n l17.c, .slice l18.p l18.n l18.c, .int .i64 n25], .int .i64 n26] ∧
                      br ((n26 : Int) != 0) (
                        K (.bool false) H12)
                       (
                        SelfEq ([.loc 0 0], [], [24]) ∧
                        I2 ⟨(slP up_2.p up_2.c 1 1), Int.toNat ((up_2.n : Nat) - 1), Int.toNat ((up_2.c : Nat) - 1)⟩ n21 n22 n23 n24 l15 l16 l17 l18 n25 H12 ∧
                        M2 ⟨(slP up_2.p up_2.c 1 1), Int.toNat ((up_2.n : Nat) - 1), Int.toNat ((up_2.c : Nat) - 1)⟩ n21 n22 n23 n24 l15 l16 l17 l18 n25 H12 < M2 up_2 n15 n16 n17 n18 l11 l12 l13 l14 n19 H11))
                   (
                    br (((l11.n : Nat) : Int) != 1) (
                      K (.bool false) H11)
                     (
                      br ((n16 : Int) != 0) (
                        K (.bool false) H11)
                       (
                        ∃ q6 : Nat,
                        ∃ o4 : Nat,
                        (l11.p : Option Addr) = some ⟨q6, o4, none⟩ ∧
                        0 ≤ (0 : Int) ∧
                        (0 : Int) < (l11.n : Nat) ∧
                        ∃ n27 : Int,
                        cellH H11 ⟨q6, o4 + Int.toNat 0, none⟩ = some (.int .i64 n27) ∧
                        (FnH Try.prog 16 #[.agg #[.int .i64 n15, .int .i64 n16, .int .i64 n17, .int .i64 n18, .slice l11.p l11.n l11.c, .slice l12.p l12.n l12.c, .slice l13.p l13.n l13.c, .slice l14.p l14.n l14.c, .int .i64 n19], .int .i64 n27] H11 fun r9 H13 =>
                          ∃ n28 : Int,
                          ∃ n29 : Int,
                          ∃ n30 : Int,
                          ∃ n31 : Int,
                          ∃ l19 : Sl,
                          ∃ l20 : Sl,
                          ∃ l21 : Sl,
                          ∃ l22 : Sl,
                          ∃ n32 : Int,
                          ∃ n33 : Int,
                          r9 = .tuple #[.agg #[.int .i64 n28, .int .i64 n29, .int .i64 n30, .int .i64 n31, .slice l19.p l19.n l19.c, .slice l20.p l20.n l20.c, .slice l21.p l21.n l21.c, .slice l22.p l22.n l22.c, .int .i64 n32], .int .i64 n33] ∧
                          Sub H11 H13 ∧
                          Sub H11 H13 ∧
                          br ((n33 : Int) == 0) (
                            ∃ q7 : Nat,
                            ∃ o5 : Nat,
                            (l11.p : Option Addr) = some ⟨q7, o5, none⟩ ∧
                            0 ≤ (0 : Int) ∧
                            (0 : Int) < (l11.n : Nat) ∧
                            ∃ n34 : Int,
                            cellH H13 ⟨q7, o5 + Int.toNat 0, none⟩ = some (.int .i64 n34) ∧
                            br ((n29 : Int) == n34) (
                              K (.bool ((n30 : Int) == (IntKind.wrap .i64 (n17 + 1)))) H13)
                             (
                              K (.bool false) H13))
                           (
                            K (.bool false) H13)) ∧
                        Sub H11 H11 ∧
                        FnH Try.prog 16 #[.agg #[.int .i64 n15, .int .i64 n16, .int .i64 n17, .int .i64 n18, .slice l11.p l11.n l11.c, .slice l12.p l12.n l12.c, .slice l13.p l13.n l13.c, .slice l14.p l14.n l14.c, .int .i64 n19], .int .i64 n27] H11 fun r10 H14 =>
                          ∃ n35 : Int,
                          ∃ n36 : Int,
                          ∃ n37 : Int,
                          ∃ n38 : Int,
                          ∃ l23 : Sl,
                          ∃ l24 : Sl,
                          ∃ l25 : Sl,
                          ∃ l26 : Sl,
                          ∃ n39 : Int,
                          ∃ n40 : Int,
                          r10 = .tuple #[.agg #[.int .i64 n35, .int .i64 n36, .int .i64 n37, .int .i64 n38, .slice l23.p l23.n l23.c, .slice l24.p l24.n l24.c, .slice l25.p l25.n l25.c, .slice l26.p l26.n l26.c, .int .i64 n39], .int .i64 n40] ∧
                          Sub H11 H14 ∧
                          br ((n40 : Int) == 0) (
                            ∃ q8 : Nat,
                            ∃ o6 : Nat,
                            (l11.p : Option Addr) = some ⟨q8, o6, none⟩ ∧
                            0 ≤ (0 : Int) ∧
                            (0 : Int) < (l11.n : Nat) ∧
                            ∃ n41 : Int,
                            cellH H14 ⟨q8, o6 + Int.toNat 0, none⟩ = some (.int .i64 n41) ∧
                            br ((n36 : Int) == n41) (
                              K (.bool ((n37 : Int) == (IntKind.wrap .i64 (n17 + 1)))) H14)
                             (
                              K (.bool false) H14))
                           (
                            K (.bool false) H14))))))
               (
                ∃ I3 : Sl → Int → Int → Int → Int → Sl → Sl → Sl → Sl → Int → Heap → Prop,
                ∃ M3 : Sl → Int → Int → Int → Int → Sl → Sl → Sl → Sl → Int → Heap → Nat,
                I3 up_1 n1 n2 n3 n4 l1 l2 l3 l4 n5 H4 ∧
                ∀ up_3 : Sl,
                ∀ n42 : Int,
                ∀ n43 : Int,
                ∀ n44 : Int,
                ∀ n45 : Int,
                ∀ l27 : Sl,
                ∀ l28 : Sl,
                ∀ l29 : Sl,
                ∀ l30 : Sl,
                ∀ n46 : Int,
                ∀ H15 : Heap,
                I3 up_3 n42 n43 n44 n45 l27 l28 l29 l30 n46 H15 →
                br (decide (((up_3.n : Nat) : Int) > 0)) (
                  ∃ q9 : Nat,
                  ∃ o7 : Nat,
                  (up_3.p : Option Addr) = some ⟨q9, o7, none⟩ ∧
                  0 ≤ (0 : Int) ∧
                  (0 : Int) < (up_3.n : Nat) ∧
                  ∃ n47 : Int,
                  cellH H15 ⟨q9, o7 + Int.toNat 0, none⟩ = some (.int .i64 n47) ∧
                  0 ≤ (1 : Int) ∧
                  (1 : Int) ≤ (up_3.n : Nat) ∧
                  FnH Try.prog 15 #[.agg #[.int .i64 n42, .int .i64 n43, .int .i64 n44, .int .i64 n45, .slice l27.p l27.n l27.c, .slice l28.p l28.n l28.c, .slice l29.p l29.n l29.c, .slice l30.p l30.n l30.c, .int .i64 n46], .int .i64 n47, .slice (slP up_3.p up_3.c 1 1) (Int.toNat ((up_3.n : Nat) - 1)) (Int.toNat ((up_3.c : Nat) - 1))] H15 fun r11 H16 =>
                    ∃ n48 : Int,
                    ∃ n49 : Int,
                    ∃ n50 : Int,
                    ∃ n51 : Int,
                    ∃ l31 : Sl,
                    ∃ l32 : Sl,
                    ∃ l33 : Sl,
                    ∃ l34 : Sl,
                    ∃ n52 : Int,
                    ∃ n53 : Int,
                    r11 = .tuple #[.agg #[.int .i64 n48, .int .i64 n49, .int .i64 n50, .int .i64 n51, .slice l31.p l31.n l31.c, .slice l32.p l32.n l32.c, .slice l33.p l33.n l33.c, .slice l34.p l34.n l34.c, .int .i64 n52], .int .i64 n53] ∧
                    br ((n53 : Int) != 0) (
                      K (.bool false) H16)
                     (
                      SelfEq ([.loc 0 0], [], [24]) ∧
                      I3 ⟨(slP up_3.p up_3.c 1 1), Int.toNat ((up_3.n : Nat) - 1), Int.toNat ((up_3.c : Nat) - 1)⟩ n48 n49 n50 n51 l31 l32 l33 l34 n52 H16 ∧
                      M3 ⟨(slP up_3.p up_3.c 1 1), Int.toNat ((up_3.n : Nat) - 1), Int.toNat ((up_3.c : Nat) - 1)⟩ n48 n49 n50 n51 l31 l32 l33 l34 n52 H16 < M3 up_3 n42 n43 n44 n45 l27 l28 l29 l30 n46 H15))
                 (
                  br (((l27.n : Nat) : Int) != 1) (
                    K (.bool false) H15)
                   (
                    br ((n43 : Int) != 0) (
                      K (.bool false) H15)
                     (
                      ∃ q10 : Nat,
                      ∃ o8 : Nat,
                      (l27.p : Option Addr) = some ⟨q10, o8, none⟩ ∧
                      0 ≤ (0 : Int) ∧
                      (0 : Int) < (l27.n : Nat) ∧
                      ∃ n54 : Int,
                      cellH H15 ⟨q10, o8 + Int.toNat 0, none⟩ = some (.int .i64 n54) ∧
                      (FnH Try.prog 16 #[.agg #[.int .i64 n42, .int .i64 n43, .int .i64 n44, .int .i64 n45, .slice l27.p l27.n l27.c, .slice l28.p l28.n l28.c, .slice l29.p l29.n l29.c, .slice l30.p l30.n l30.c, .int .i64 n46], .int .i64 n54] H15 fun r12 H17 =>
                        ∃ n55 : Int,
                        ∃ n56 : Int,
                        ∃ n57 : Int,
                        ∃ n58 : Int,
                        ∃ l35 : Sl,
                        ∃ l36 : Sl,
                        ∃ l37 : Sl,
                        ∃ l38 : Sl,
                        ∃ n59 : Int,
                        ∃ n60 : Int,
                        r12 = .tuple #[.agg #[.int .i64 n55, .int .i64 n56, .int .i64 n57, .int .i64 n58, .slice l35.p l35.n l35.c, .slice l36.p l36.n l36.c, .slice l37.p l37.n l37.c, .slice l38.p l38.n l38.c, .int .i64 n59], .int .i64 n60] ∧
                        Sub H15 H17 ∧
                        Sub H15 H17 ∧
                        br ((n60 : Int) == 0) (
                          ∃ q11 : Nat,
                          ∃ o9 : Nat,
                          (l27.p : Option Addr) = some ⟨q11, o9, none⟩ ∧
                          0 ≤ (0 : Int) ∧
                          (0 : Int) < (l27.n : Nat) ∧
                          ∃ n61 : Int,
                          cellH H17 ⟨q11, o9 + Int.toNat 0, none⟩ = some (.int .i64 n61) ∧
                          br ((n56 : Int) == n61) (
                            K (.bool ((n57 : Int) == (IntKind.wrap .i64 (n44 + 1)))) H17)
                           (
                            K (.bool false) H17))
                         (
                          K (.bool false) H17)) ∧
                      Sub H15 H15 ∧
                      FnH Try.prog 16 #[.agg #[.int .i64 n42, .int .i64 n43, .int .i64 n44, .int .i64 n45, .slice l27.p l27.n l27.c, .slice l28.p l28.n l28.c, .slice l29.p l29.n l29.c, .slice l30.p l30.n l30.c, .int .i64 n46], .int .i64 n54] H15 fun r13 H18 =>
                        ∃ n62 : Int,
                        ∃ n63 : Int,
                        ∃ n64 : Int,
                        ∃ n65 : Int,
                        ∃ l39 : Sl,
                        ∃ l40 : Sl,
                        ∃ l41 : Sl,
                        ∃ l42 : Sl,
                        ∃ n66 : Int,
                        ∃ n67 : Int,
                        r13 = .tuple #[.agg #[.int .i64 n62, .int .i64 n63, .int .i64 n64, .int .i64 n65, .slice l39.p l39.n l39.c, .slice l40.p l40.n l40.c, .slice l41.p l41.n l41.c, .slice l42.p l42.n l42.c, .int .i64 n66], .int .i64 n67] ∧
                        Sub H15 H18 ∧
                        br ((n67 : Int) == 0) (
                          ∃ q12 : Nat,
                          ∃ o10 : Nat,
                          (l27.p : Option Addr) = some ⟨q12, o10, none⟩ ∧
                          0 ≤ (0 : Int) ∧
                          (0 : Int) < (l27.n : Nat) ∧
                          ∃ n68 : Int,
                          cellH H18 ⟨q12, o10 + Int.toNat 0, none⟩ = some (.int .i64 n68) ∧
                          br ((n63 : Int) == n68) (
                            K (.bool ((n64 : Int) == (IntKind.wrap .i64 (n44 + 1)))) H18)
                           (
                            K (.bool false) H18))
                         (
                          K (.bool false) H18)))))))))
theorem logboomlaw11_MoveFences_eq (p_0 : Int) (p_1 : Int) (p_2 : Int) (p_3 : Int) (p_4 : Sl) (p_5 : Sl) (p_6 : Sl) (p_7 : Sl) (p_8 : Int) (order : Sl) (H : Heap) (K : Value → Heap → Prop) : logboomlaw11_MoveFences_vc p_0 p_1 p_2 p_3 p_4 p_5 p_6 p_7 p_8 order H K = denFn Try.prog logboomlaw11_MoveFences_ann Try.f4 (bodyOf Try.f4) [.agg #[.int .i64 p_0, .int .i64 p_1, .int .i64 p_2, .int .i64 p_3, .slice p_4.p p_4.n p_4.c, .slice p_5.p p_5.n p_5.c, .slice p_6.p p_6.n p_6.c, .slice p_7.p p_7.n p_7.c, .int .i64 p_8], .slice order.p order.n order.c] H K := by kernel_rfl
theorem logboomlaw11_MoveFences_fn (p_0 : Int) (p_1 : Int) (p_2 : Int) (p_3 : Int) (p_4 : Sl) (p_5 : Sl) (p_6 : Sl) (p_7 : Sl) (p_8 : Int) (order : Sl) {H : Heap} {K : Value → Heap → Prop} (h : logboomlaw11_MoveFences_vc p_0 p_1 p_2 p_3 p_4 p_5 p_6 p_7 p_8 order H K) : FnH Try.prog 4 #[.agg #[.int .i64 p_0, .int .i64 p_1, .int .i64 p_2, .int .i64 p_3, .slice p_4.p p_4.n p_4.c, .slice p_5.p p_5.n p_5.c, .slice p_6.p p_6.n p_6.c, .slice p_7.p p_7.n p_7.c, .int .i64 p_8], .slice order.p order.n order.c] H K :=
  denFn_sound Try.mixed logboomlaw11_MoveFences_ann Try.func4 (bodyOf_spec (by kernel_rfl)) ((logboomlaw11_MoveFences_eq p_0 p_1 p_2 p_3 p_4 p_5 p_6 p_7 p_8 order H K) ▸ h)

/-! function 6: logboom/logboomlaw11.MoveRules -/
def logboomlaw11_MoveRules_ann : Anns := { hid := [2, 8, 9], loops := [(0, { slots := [(7, .int .i64)], kept := [1, 2], locs := [(0, [.int .i64, .int .i64, .int .i64, .int .i64, .slice, .slice, .slice, .slice, .int .i64])], keptL := [] })], joins := [((0, 9), { slots := [(46, .bool)], kept := [1, 2, 7, 8], locs := [], keptL := [0, 1] })], mix := [(18, [])] }
def logboomlaw11_MoveRules_vc (p_0 : Int) (p_1 : Int) (p_2 : Int) (p_3 : Int) (p_4 : Sl) (p_5 : Sl) (p_6 : Sl) (p_7 : Sl) (p_8 : Int) (script : Sl) (H : Heap) (K : Value → Heap → Prop) : Prop :=
  FnH Try.prog 7 #[] H fun r1 H1 =>
    ∃ b1 : Bool,
    r1 = .bool b1 ∧
    FnH Try.prog 8 #[.agg #[.int .i64 p_0, .int .i64 p_1, .int .i64 p_2, .int .i64 p_3, .slice p_4.p p_4.n p_4.c, .slice p_5.p p_5.n p_5.c, .slice p_6.p p_6.n p_6.c, .slice p_7.p p_7.n p_7.c, .int .i64 p_8]] H1 fun r2 H2 =>
      ∃ b2 : Bool,
      r2 = .bool b2 ∧
      br (!b1) (
        K (.bool b1) H2)
       (
        br (!b2) (
          K (.bool b1) H2)
         (
          ∃ I1 : Int → Int → Int → Int → Int → Sl → Sl → Sl → Sl → Int → Heap → Prop,
          ∃ M1 : Int → Int → Int → Int → Int → Sl → Sl → Sl → Sl → Int → Heap → Nat,
          I1 0 p_0 p_1 p_2 p_3 p_4 p_5 p_6 p_7 p_8 H2 ∧
          ∀ i_1 : Int,
          ∀ n1 : Int,
          ∀ n2 : Int,
          ∀ n3 : Int,
          ∀ n4 : Int,
          ∀ l1 : Sl,
          ∀ l2 : Sl,
          ∀ l3 : Sl,
          ∀ l4 : Sl,
          ∀ n5 : Int,
          ∀ H3 : Heap,
          I1 i_1 n1 n2 n3 n4 l1 l2 l3 l4 n5 H3 →
          br (decide ((i_1 : Int) < (script.n : Nat))) (
            br (decide ((i_1 : Int) < 100)) (
              ∃ q1 : Nat,
              ∃ o1 : Nat,
              (script.p : Option Addr) = some ⟨q1, o1, none⟩ ∧
              0 ≤ (i_1 : Int) ∧
              (i_1 : Int) < (script.n : Nat) ∧
              ∃ n6 : Int,
              cellH H3 ⟨q1, o1 + Int.toNat i_1 * 6, none⟩ = some (.int .i64 n6) ∧
              ∃ n7 : Int,
              cellH H3 ⟨q1, o1 + Int.toNat i_1 * 6 + 1, none⟩ = some (.int .i64 n7) ∧
              ∃ n8 : Int,
              cellH H3 ⟨q1, o1 + Int.toNat i_1 * 6 + 2, none⟩ = some (.int .i64 n8) ∧
              ∃ n9 : Int,
              cellH H3 ⟨q1, o1 + Int.toNat i_1 * 6 + 3, none⟩ = some (.int .i64 n9) ∧
              ∃ l5 : Sl,
              cellH H3 ⟨q1, o1 + Int.toNat i_1 * 6 + 4, none⟩ = some (.slice l5.p l5.n l5.c) ∧
              ∃ l6 : Sl,
              cellH H3 ⟨q1, o1 + Int.toNat i_1 * 6 + 5, none⟩ = some (.slice l6.p l6.n l6.c) ∧
              ∃ J1 : Bool → Heap → Prop,
              (FnH Try.prog 14 #[.int .i64 n6, .int .i64 7] H3 fun r3 H4 =>
                ∃ n10 : Int,
                r3 = .int .i64 n10 ∧
                br ((n10 : Int) == 3) (
                  (2 : Int) ≠ 0 ∧
                  SelfEq ([.v (.slice script.p script.n script.c), .loc 0 0, .v (.int .i64 i_1), .loc 1 0], [some (24, [.int .i64 n1, .int .i64 n2, .int .i64 n3, .int .i64 n4, .slice l1.p l1.n l1.c, .slice l2.p l2.n l2.c, .slice l3.p l3.n l3.c, .slice l4.p l4.n l4.c, .int .i64 n5]), some (42, [.int .i64 n6, .int .i64 n7, .int .i64 n8, .int .i64 n9, .slice l5.p l5.n l5.c, .slice l6.p l6.n l6.c])], []) ∧
                  J1 (((Int.tmod n9 2) : Int) == 0) H4)
                 (
                  SelfEq ([.v (.slice script.p script.n script.c), .loc 0 0, .v (.int .i64 i_1), .loc 1 0], [some (24, [.int .i64 n1, .int .i64 n2, .int .i64 n3, .int .i64 n4, .slice l1.p l1.n l1.c, .slice l2.p l2.n l2.c, .slice l3.p l3.n l3.c, .slice l4.p l4.n l4.c, .int .i64 n5]), some (42, [.int .i64 n6, .int .i64 n7, .int .i64 n8, .int .i64 n9, .slice l5.p l5.n l5.c, .slice l6.p l6.n l6.c])], []) ∧
                  J1 false H4)) ∧
              ∀ b_1 : Bool,
              ∀ H5 : Heap,
              J1 b_1 H5 →
              br (b_1) (
                FnH Try.prog 19 #[.agg #[.int .i64 n1, .int .i64 n2, .int .i64 n3, .int .i64 n4, .slice l1.p l1.n l1.c, .slice l2.p l2.n l2.c, .slice l3.p l3.n l3.c, .slice l4.p l4.n l4.c, .int .i64 n5], .agg #[.int .i64 n6, .int .i64 n2, .int .i64 n3, .int .i64 n4, .slice l5.p l5.n l5.c, .slice l6.p l6.n l6.c]] H5 fun r4 H6 =>
                  ∃ n11 : Int,
                  ∃ n12 : Int,
                  ∃ n13 : Int,
                  ∃ n14 : Int,
                  ∃ l7 : Sl,
                  ∃ l8 : Sl,
                  ∃ l9 : Sl,
                  ∃ l10 : Sl,
                  ∃ n15 : Int,
                  ∃ n16 : Int,
                  r4 = .tuple #[.agg #[.int .i64 n11, .int .i64 n12, .int .i64 n13, .int .i64 n14, .slice l7.p l7.n l7.c, .slice l8.p l8.n l8.c, .slice l9.p l9.n l9.c, .slice l10.p l10.n l10.c, .int .i64 n15], .int .i64 n16] ∧
                  br ((n16 : Int) != 0) (
                    FnH Try.prog 17 #[.agg #[.int .i64 n11, .int .i64 n12, .int .i64 n13, .int .i64 n14, .slice l7.p l7.n l7.c, .slice l8.p l8.n l8.c, .slice l9.p l9.n l9.c, .slice l10.p l10.n l10.c, .int .i64 n15], .agg #[.int .i64 0, .int .i64 0, .int .i64 0, .int .i64 0, .slice none 0 0, .slice none 0 0, .slice none 0 0, .slice none 0 0, .int .i64 0]] H6 fun r5 H7 =>
                      ∃ b3 : Bool,
                      r5 = .bool b3 ∧
                      br (!b3) (
                        K (.bool false) H7)
                       (
                        SelfEq ([.v (.slice script.p script.n script.c), .loc 0 0], [], [24]) ∧
                        I1 (IntKind.wrap .i64 (i_1 + 1)) n1 n2 n3 n4 l1 l2 l3 l4 n5 H7 ∧
                        M1 (IntKind.wrap .i64 (i_1 + 1)) n1 n2 n3 n4 l1 l2 l3 l4 n5 H7 < M1 i_1 n1 n2 n3 n4 l1 l2 l3 l4 n5 H3))
                   (
                    FnH Try.prog 14 #[.int .i64 n6, .int .i64 7] H6 fun r6 H8 =>
                      ∃ n17 : Int,
                      r6 = .int .i64 n17 ∧
                      Sub H6 H8 ∧
                      FnH Try.prog 20 #[.agg #[.int .i64 n1, .int .i64 n2, .int .i64 n3, .int .i64 n4, .slice l1.p l1.n l1.c, .slice l2.p l2.n l2.c, .slice l3.p l3.n l3.c, .slice l4.p l4.n l4.c, .int .i64 n5], .agg #[.int .i64 n11, .int .i64 n12, .int .i64 n13, .int .i64 n14, .slice l7.p l7.n l7.c, .slice l8.p l8.n l8.c, .slice l9.p l9.n l9.c, .slice l10.p l10.n l10.c, .int .i64 n15], .int .i64 n17] H8 fun r7 H9 =>
                        ∃ b4 : Bool,
                        r7 = .bool b4 ∧
                        Sub H6 H9 ∧
                        br (!b4) (
                          K (.bool false) H9)
                         (
                          SelfEq ([.v (.slice script.p script.n script.c), .loc 0 0], [], [24]) ∧
                          I1 (IntKind.wrap .i64 (i_1 + 1)) n11 n12 n13 n14 l7 l8 l9 l10 n15 H9 ∧
                          M1 (IntKind.wrap .i64 (i_1 + 1)) n11 n12 n13 n14 l7 l8 l9 l10 n15 H9 < M1 i_1 n1 n2 n3 n4 l1 l2 l3 l4 n5 H3)))
               (
                FnH Try.prog 19 #[.agg #[.int .i64 n1, .int .i64 n2, .int .i64 n3, .int .i64 n4, .slice l1.p l1.n l1.c, .slice l2.p l2.n l2.c, .slice l3.p l3.n l3.c, .slice l4.p l4.n l4.c, .int .i64 n5], .agg #[.int .i64 n6, .int .i64 n7, .int .i64 n8, .int .i64 n9, .slice l5.p l5.n l5.c, .slice l6.p l6.n l6.c]] H5 fun r8 H10 =>
                  ∃ n18 : Int,
                  ∃ n19 : Int,
                  ∃ n20 : Int,
                  ∃ n21 : Int,
                  ∃ l11 : Sl,
                  ∃ l12 : Sl,
                  ∃ l13 : Sl,
                  ∃ l14 : Sl,
                  ∃ n22 : Int,
                  ∃ n23 : Int,
                  r8 = .tuple #[.agg #[.int .i64 n18, .int .i64 n19, .int .i64 n20, .int .i64 n21, .slice l11.p l11.n l11.c, .slice l12.p l12.n l12.c, .slice l13.p l13.n l13.c, .slice l14.p l14.n l14.c, .int .i64 n22], .int .i64 n23] ∧
                  br ((n23 : Int) != 0) (
                    FnH Try.prog 17 #[.agg #[.int .i64 n18, .int .i64 n19, .int .i64 n20, .int .i64 n21, .slice l11.p l11.n l11.c, .slice l12.p l12.n l12.c, .slice l13.p l13.n l13.c, .slice l14.p l14.n l14.c, .int .i64 n22], .agg #[.int .i64 0, .int .i64 0, .int .i64 0, .int .i64 0, .slice none 0 0, .slice none 0 0, .slice none 0 0, .slice none 0 0, .int .i64 0]] H10 fun r9 H11 =>
                      ∃ b5 : Bool,
                      r9 = .bool b5 ∧
                      br (!b5) (
                        K (.bool false) H11)
                       (
                        SelfEq ([.v (.slice script.p script.n script.c), .loc 0 0], [], [24]) ∧
                        I1 (IntKind.wrap .i64 (i_1 + 1)) n1 n2 n3 n4 l1 l2 l3 l4 n5 H11 ∧
                        M1 (IntKind.wrap .i64 (i_1 + 1)) n1 n2 n3 n4 l1 l2 l3 l4 n5 H11 < M1 i_1 n1 n2 n3 n4 l1 l2 l3 l4 n5 H3))
                   (
                    FnH Try.prog 14 #[.int .i64 n6, .int .i64 7] H10 fun r10 H12 =>
                      ∃ n24 : Int,
                      r10 = .int .i64 n24 ∧
                      Sub H10 H12 ∧
                      FnH Try.prog 20 #[.agg #[.int .i64 n1, .int .i64 n2, .int .i64 n3, .int .i64 n4, .slice l1.p l1.n l1.c, .slice l2.p l2.n l2.c, .slice l3.p l3.n l3.c, .slice l4.p l4.n l4.c, .int .i64 n5], .agg #[.int .i64 n18, .int .i64 n19, .int .i64 n20, .int .i64 n21, .slice l11.p l11.n l11.c, .slice l12.p l12.n l12.c, .slice l13.p l13.n l13.c, .slice l14.p l14.n l14.c, .int .i64 n22], .int .i64 n24] H12 fun r11 H13 =>
                        ∃ b6 : Bool,
                        r11 = .bool b6 ∧
                        Sub H10 H13 ∧
                        br (!b6) (
                          K (.bool false) H13)
                         (
                          SelfEq ([.v (.slice script.p script.n script.c), .loc 0 0], [], [24]) ∧
                          I1 (IntKind.wrap .i64 (i_1 + 1)) n18 n19 n20 n21 l11 l12 l13 l14 n22 H13 ∧
                          M1 (IntKind.wrap .i64 (i_1 + 1)) n18 n19 n20 n21 l11 l12 l13 l14 n22 H13 < M1 i_1 n1 n2 n3 n4 l1 l2 l3 l4 n5 H3))))
             (
              K (.bool true) H3))
           (
            K (.bool true) H3)))
theorem logboomlaw11_MoveRules_eq (p_0 : Int) (p_1 : Int) (p_2 : Int) (p_3 : Int) (p_4 : Sl) (p_5 : Sl) (p_6 : Sl) (p_7 : Sl) (p_8 : Int) (script : Sl) (H : Heap) (K : Value → Heap → Prop) : logboomlaw11_MoveRules_vc p_0 p_1 p_2 p_3 p_4 p_5 p_6 p_7 p_8 script H K = denFn Try.prog logboomlaw11_MoveRules_ann Try.f6 (bodyOf Try.f6) [.agg #[.int .i64 p_0, .int .i64 p_1, .int .i64 p_2, .int .i64 p_3, .slice p_4.p p_4.n p_4.c, .slice p_5.p p_5.n p_5.c, .slice p_6.p p_6.n p_6.c, .slice p_7.p p_7.n p_7.c, .int .i64 p_8], .slice script.p script.n script.c] H K := by kernel_rfl
theorem logboomlaw11_MoveRules_fn (p_0 : Int) (p_1 : Int) (p_2 : Int) (p_3 : Int) (p_4 : Sl) (p_5 : Sl) (p_6 : Sl) (p_7 : Sl) (p_8 : Int) (script : Sl) {H : Heap} {K : Value → Heap → Prop} (h : logboomlaw11_MoveRules_vc p_0 p_1 p_2 p_3 p_4 p_5 p_6 p_7 p_8 script H K) : FnH Try.prog 6 #[.agg #[.int .i64 p_0, .int .i64 p_1, .int .i64 p_2, .int .i64 p_3, .slice p_4.p p_4.n p_4.c, .slice p_5.p p_5.n p_5.c, .slice p_6.p p_6.n p_6.c, .slice p_7.p p_7.n p_7.c, .int .i64 p_8], .slice script.p script.n script.c] H K :=
  denFn_sound Try.mixed logboomlaw11_MoveRules_ann Try.func6 (bodyOf_spec (by kernel_rfl)) ((logboomlaw11_MoveRules_eq p_0 p_1 p_2 p_3 p_4 p_5 p_6 p_7 p_8 script H K) ▸ h)

/-! function 19: logboom/logboomlaw11.did -/
def logboomlaw11_did_ann : Anns := { hid := [2, 3, 4], loops := [], joins := [], mix := [] }
def logboomlaw11_did_vc (p_0 : Int) (p_1 : Int) (p_2 : Int) (p_3 : Int) (p_4 : Sl) (p_5 : Sl) (p_6 : Sl) (p_7 : Sl) (p_8 : Int) (o_0 : Int) (o_1 : Int) (o_2 : Int) (o_3 : Int) (o_4 : Sl) (o_5 : Sl) (H : Heap) (K : Value → Heap → Prop) : Prop :=
  FnH Try.prog 14 #[.int .i64 o_0, .int .i64 7] H fun r1 H1 =>
    ∃ n1 : Int,
    r1 = .int .i64 n1 ∧
    br ((n1 : Int) == 0) (
      FnH Try.prog 22 #[.agg #[.int .i64 p_0, .int .i64 p_1, .int .i64 p_2, .int .i64 p_3, .slice p_4.p p_4.n p_4.c, .slice p_5.p p_5.n p_5.c, .slice p_6.p p_6.n p_6.c, .slice p_7.p p_7.n p_7.c, .int .i64 p_8], .int .i64 o_1] H1 fun r2 H2 =>
        ∃ n2 : Int,
        ∃ n3 : Int,
        ∃ n4 : Int,
        ∃ n5 : Int,
        ∃ l1 : Sl,
        ∃ l2 : Sl,
        ∃ l3 : Sl,
        ∃ l4 : Sl,
        ∃ n6 : Int,
        ∃ n7 : Int,
        r2 = .tuple #[.agg #[.int .i64 n2, .int .i64 n3, .int .i64 n4, .int .i64 n5, .slice l1.p l1.n l1.c, .slice l2.p l2.n l2.c, .slice l3.p l3.n l3.c, .slice l4.p l4.n l4.c, .int .i64 n6], .int .i64 n7] ∧
        K (.tuple #[.agg #[.int .i64 n2, .int .i64 n3, .int .i64 n4, .int .i64 n5, .slice l1.p l1.n l1.c, .slice l2.p l2.n l2.c, .slice l3.p l3.n l3.c, .slice l4.p l4.n l4.c, .int .i64 n6], .int .i64 n7]) H2)
     (
      br ((n1 : Int) == 1) (
        FnH Try.prog 15 #[.agg #[.int .i64 p_0, .int .i64 p_1, .int .i64 p_2, .int .i64 p_3, .slice p_4.p p_4.n p_4.c, .slice p_5.p p_5.n p_5.c, .slice p_6.p p_6.n p_6.c, .slice p_7.p p_7.n p_7.c, .int .i64 p_8], .int .i64 o_1, .slice o_5.p o_5.n o_5.c] H1 fun r3 H3 =>
          ∃ n8 : Int,
          ∃ n9 : Int,
          ∃ n10 : Int,
          ∃ n11 : Int,
          ∃ l5 : Sl,
          ∃ l6 : Sl,
          ∃ l7 : Sl,
          ∃ l8 : Sl,
          ∃ n12 : Int,
          ∃ n13 : Int,
          r3 = .tuple #[.agg #[.int .i64 n8, .int .i64 n9, .int .i64 n10, .int .i64 n11, .slice l5.p l5.n l5.c, .slice l6.p l6.n l6.c, .slice l7.p l7.n l7.c, .slice l8.p l8.n l8.c, .int .i64 n12], .int .i64 n13] ∧
          K (.tuple #[.agg #[.int .i64 n8, .int .i64 n9, .int .i64 n10, .int .i64 n11, .slice l5.p l5.n l5.c, .slice l6.p l6.n l6.c, .slice l7.p l7.n l7.c, .slice l8.p l8.n l8.c, .int .i64 n12], .int .i64 n13]) H3)
       (
        br ((n1 : Int) == 2) (
          FnH Try.prog 16 #[.agg #[.int .i64 p_0, .int .i64 p_1, .int .i64 p_2, .int .i64 p_3, .slice p_4.p p_4.n p_4.c, .slice p_5.p p_5.n p_5.c, .slice p_6.p p_6.n p_6.c, .slice p_7.p p_7.n p_7.c, .int .i64 p_8], .int .i64 o_1] H1 fun r4 H4 =>
            ∃ n14 : Int,
            ∃ n15 : Int,
            ∃ n16 : Int,
            ∃ n17 : Int,
            ∃ l9 : Sl,
            ∃ l10 : Sl,
            ∃ l11 : Sl,
            ∃ l12 : Sl,
            ∃ n18 : Int,
            ∃ n19 : Int,
            r4 = .tuple #[.agg #[.int .i64 n14, .int .i64 n15, .int .i64 n16, .int .i64 n17, .slice l9.p l9.n l9.c, .slice l10.p l10.n l10.c, .slice l11.p l11.n l11.c, .slice l12.p l12.n l12.c, .int .i64 n18], .int .i64 n19] ∧
            K (.tuple #[.agg #[.int .i64 n14, .int .i64 n15, .int .i64 n16, .int .i64 n17, .slice l9.p l9.n l9.c, .slice l10.p l10.n l10.c, .slice l11.p l11.n l11.c, .slice l12.p l12.n l12.c, .int .i64 n18], .int .i64 n19]) H4)
         (
          br ((n1 : Int) == 3) (
            FnH Try.prog 11 #[.agg #[.int .i64 p_0, .int .i64 p_1, .int .i64 p_2, .int .i64 p_3, .slice p_4.p p_4.n p_4.c, .slice p_5.p p_5.n p_5.c, .slice p_6.p p_6.n p_6.c, .slice p_7.p p_7.n p_7.c, .int .i64 p_8], .int .i64 o_1, .int .i64 o_2, .int .i64 o_3, .slice o_4.p o_4.n o_4.c, .slice o_5.p o_5.n o_5.c] H1 fun r5 H5 =>
              ∃ n20 : Int,
              ∃ n21 : Int,
              ∃ n22 : Int,
              ∃ n23 : Int,
              ∃ l13 : Sl,
              ∃ l14 : Sl,
              ∃ l15 : Sl,
              ∃ l16 : Sl,
              ∃ n24 : Int,
              ∃ n25 : Int,
              r5 = .tuple #[.agg #[.int .i64 n20, .int .i64 n21, .int .i64 n22, .int .i64 n23, .slice l13.p l13.n l13.c, .slice l14.p l14.n l14.c, .slice l15.p l15.n l15.c, .slice l16.p l16.n l16.c, .int .i64 n24], .int .i64 n25] ∧
              K (.tuple #[.agg #[.int .i64 n20, .int .i64 n21, .int .i64 n22, .int .i64 n23, .slice l13.p l13.n l13.c, .slice l14.p l14.n l14.c, .slice l15.p l15.n l15.c, .slice l16.p l16.n l16.c, .int .i64 n24], .int .i64 n25]) H5)
           (
            br ((n1 : Int) == 4) (
              FnH Try.prog 9 #[.agg #[.int .i64 p_0, .int .i64 p_1, .int .i64 p_2, .int .i64 p_3, .slice p_4.p p_4.n p_4.c, .slice p_5.p p_5.n p_5.c, .slice p_6.p p_6.n p_6.c, .slice p_7.p p_7.n p_7.c, .int .i64 p_8], .slice o_4.p o_4.n o_4.c, .slice o_5.p o_5.n o_5.c] H1 fun r6 H6 =>
                ∃ n26 : Int,
                ∃ n27 : Int,
                ∃ n28 : Int,
                ∃ n29 : Int,
                ∃ l17 : Sl,
                ∃ l18 : Sl,
                ∃ l19 : Sl,
                ∃ l20 : Sl,
                ∃ n30 : Int,
                ∃ n31 : Int,
                r6 = .tuple #[.agg #[.int .i64 n26, .int .i64 n27, .int .i64 n28, .int .i64 n29, .slice l17.p l17.n l17.c, .slice l18.p l18.n l18.c, .slice l19.p l19.n l19.c, .slice l20.p l20.n l20.c, .int .i64 n30], .int .i64 n31] ∧
                K (.tuple #[.agg #[.int .i64 n26, .int .i64 n27, .int .i64 n28, .int .i64 n29, .slice l17.p l17.n l17.c, .slice l18.p l18.n l18.c, .slice l19.p l19.n l19.c, .slice l20.p l20.n l20.c, .int .i64 n30], .int .i64 n31]) H6)
             (
              FnH Try.prog 14 #[.int .i64 o_0, .int .i64 7] H1 fun r7 H7 =>
                ∃ n32 : Int,
                r7 = .int .i64 n32 ∧
                br ((n32 : Int) == 6) (
                  FnH Try.prog 12 #[.agg #[.int .i64 p_0, .int .i64 p_1, .int .i64 p_2, .int .i64 p_3, .slice p_4.p p_4.n p_4.c, .slice p_5.p p_5.n p_5.c, .slice p_6.p p_6.n p_6.c, .slice p_7.p p_7.n p_7.c, .int .i64 p_8], .slice o_5.p o_5.n o_5.c] H7 fun r8 H8 =>
                    ∃ n33 : Int,
                    ∃ n34 : Int,
                    ∃ n35 : Int,
                    ∃ n36 : Int,
                    ∃ l21 : Sl,
                    ∃ l22 : Sl,
                    ∃ l23 : Sl,
                    ∃ l24 : Sl,
                    ∃ n37 : Int,
                    ∃ n38 : Int,
                    r8 = .tuple #[.agg #[.int .i64 n33, .int .i64 n34, .int .i64 n35, .int .i64 n36, .slice l21.p l21.n l21.c, .slice l22.p l22.n l22.c, .slice l23.p l23.n l23.c, .slice l24.p l24.n l24.c, .int .i64 n37], .int .i64 n38] ∧
                    K (.tuple #[.agg #[.int .i64 n33, .int .i64 n34, .int .i64 n35, .int .i64 n36, .slice l21.p l21.n l21.c, .slice l22.p l22.n l22.c, .slice l23.p l23.n l23.c, .slice l24.p l24.n l24.c, .int .i64 n37], .int .i64 n38]) H8)
                 (
                  FnH Try.prog 18 #[.agg #[.int .i64 p_0, .int .i64 p_1, .int .i64 p_2, .int .i64 p_3, .slice p_4.p p_4.n p_4.c, .slice p_5.p p_5.n p_5.c, .slice p_6.p p_6.n p_6.c, .slice p_7.p p_7.n p_7.c, .int .i64 p_8], .slice o_5.p o_5.n o_5.c] H7 fun r9 H9 =>
                    ∃ n39 : Int,
                    ∃ n40 : Int,
                    ∃ n41 : Int,
                    ∃ n42 : Int,
                    ∃ l25 : Sl,
                    ∃ l26 : Sl,
                    ∃ l27 : Sl,
                    ∃ l28 : Sl,
                    ∃ n43 : Int,
                    ∃ n44 : Int,
                    r9 = .tuple #[.agg #[.int .i64 n39, .int .i64 n40, .int .i64 n41, .int .i64 n42, .slice l25.p l25.n l25.c, .slice l26.p l26.n l26.c, .slice l27.p l27.n l27.c, .slice l28.p l28.n l28.c, .int .i64 n43], .int .i64 n44] ∧
                    K (.tuple #[.agg #[.int .i64 n39, .int .i64 n40, .int .i64 n41, .int .i64 n42, .slice l25.p l25.n l25.c, .slice l26.p l26.n l26.c, .slice l27.p l27.n l27.c, .slice l28.p l28.n l28.c, .int .i64 n43], .int .i64 n44]) H9))))))
theorem logboomlaw11_did_eq (p_0 : Int) (p_1 : Int) (p_2 : Int) (p_3 : Int) (p_4 : Sl) (p_5 : Sl) (p_6 : Sl) (p_7 : Sl) (p_8 : Int) (o_0 : Int) (o_1 : Int) (o_2 : Int) (o_3 : Int) (o_4 : Sl) (o_5 : Sl) (H : Heap) (K : Value → Heap → Prop) : logboomlaw11_did_vc p_0 p_1 p_2 p_3 p_4 p_5 p_6 p_7 p_8 o_0 o_1 o_2 o_3 o_4 o_5 H K = denFn Try.prog logboomlaw11_did_ann Try.f19 (bodyOf Try.f19) [.agg #[.int .i64 p_0, .int .i64 p_1, .int .i64 p_2, .int .i64 p_3, .slice p_4.p p_4.n p_4.c, .slice p_5.p p_5.n p_5.c, .slice p_6.p p_6.n p_6.c, .slice p_7.p p_7.n p_7.c, .int .i64 p_8], .agg #[.int .i64 o_0, .int .i64 o_1, .int .i64 o_2, .int .i64 o_3, .slice o_4.p o_4.n o_4.c, .slice o_5.p o_5.n o_5.c]] H K := by kernel_rfl
theorem logboomlaw11_did_fn (p_0 : Int) (p_1 : Int) (p_2 : Int) (p_3 : Int) (p_4 : Sl) (p_5 : Sl) (p_6 : Sl) (p_7 : Sl) (p_8 : Int) (o_0 : Int) (o_1 : Int) (o_2 : Int) (o_3 : Int) (o_4 : Sl) (o_5 : Sl) {H : Heap} {K : Value → Heap → Prop} (h : logboomlaw11_did_vc p_0 p_1 p_2 p_3 p_4 p_5 p_6 p_7 p_8 o_0 o_1 o_2 o_3 o_4 o_5 H K) : FnH Try.prog 19 #[.agg #[.int .i64 p_0, .int .i64 p_1, .int .i64 p_2, .int .i64 p_3, .slice p_4.p p_4.n p_4.c, .slice p_5.p p_5.n p_5.c, .slice p_6.p p_6.n p_6.c, .slice p_7.p p_7.n p_7.c, .int .i64 p_8], .agg #[.int .i64 o_0, .int .i64 o_1, .int .i64 o_2, .int .i64 o_3, .slice o_4.p o_4.n o_4.c, .slice o_5.p o_5.n o_5.c]] H K :=
  denFn_sound Try.mixed logboomlaw11_did_ann Try.func19 (bodyOf_spec (by kernel_rfl)) ((logboomlaw11_did_eq p_0 p_1 p_2 p_3 p_4 p_5 p_6 p_7 p_8 o_0 o_1 o_2 o_3 o_4 o_5 H K) ▸ h)

/-! function 20: logboom/logboomlaw11.rules -/
def logboomlaw11_rules_ann : Anns := { hid := [3, 4], loops := [(0, { slots := [(11, .int .i64)], kept := [2, 3, 4], locs := [], keptL := [0, 1] }), (2, { slots := [(15, .int .i64)], kept := [2, 3, 4, 11], locs := [], keptL := [0, 1] })], joins := [((0, 7), { slots := [(86, .bool)], kept := [2, 3, 4], locs := [], keptL := [0, 1] })], mix := [(27, [])] }
def logboomlaw11_rules_vc (p_0 : Int) (p_1 : Int) (p_2 : Int) (p_3 : Int) (p_4 : Sl) (p_5 : Sl) (p_6 : Sl) (p_7 : Sl) (p_8 : Int) (q_0 : Int) (q_1 : Int) (q_2 : Int) (q_3 : Int) (q_4 : Sl) (q_5 : Sl) (q_6 : Sl) (q_7 : Sl) (q_8 : Int) (kind : Int) (H : Heap) (K : Value → Heap → Prop) : Prop :=
  FnH Try.prog 8 #[.agg #[.int .i64 q_0, .int .i64 q_1, .int .i64 q_2, .int .i64 q_3, .slice q_4.p q_4.n q_4.c, .slice q_5.p q_5.n q_5.c, .slice q_6.p q_6.n q_6.c, .slice q_7.p q_7.n q_7.c, .int .i64 q_8]] H fun r1 H1 =>
    ∃ b1 : Bool,
    r1 = .bool b1 ∧
    FnH Try.prog 17 #[.agg #[.int .i64 p_0, .int .i64 p_1, .int .i64 p_2, .int .i64 p_3, .slice p_4.p p_4.n p_4.c, .slice p_5.p p_5.n p_5.c, .slice p_6.p p_6.n p_6.c, .slice p_7.p p_7.n p_7.c, .int .i64 p_8], .agg #[.int .i64 q_0, .int .i64 q_1, .int .i64 q_2, .int .i64 q_3, .slice q_4.p q_4.n q_4.c, .slice q_5.p q_5.n q_5.c, .slice q_6.p q_6.n q_6.c, .slice q_7.p q_7.n q_7.c, .int .i64 q_8]] H1 fun r2 H2 =>
      ∃ b2 : Bool,
      r2 = .bool b2 ∧
      br (b2) (
        K (.bool b1) H2)
       (
        br (!b1) (
          K (.bool false) H2)
         (
          br ((q_0 : Int) != p_0) (
            K (.bool false) H2)
           (
            br ((q_8 : Int) != p_8) (
              K (.bool false) H2)
             (
              br ((q_3 : Int) != (IntKind.wrap .i64 (p_3 + 1))) (
                K (.bool false) H2)
               (
                br (decide ((q_2 : Int) < p_2)) (
                  K (.bool false) H2)
                 (
                  br (decide ((q_2 : Int) > (IntKind.wrap .i64 (p_2 + 1)))) (
                    K (.bool false) H2)
                   (
                    br (!(((q_1 : Int) != p_1) == ((q_2 : Int) == (IntKind.wrap .i64 (p_2 + 1))))) (
                      K (.bool false) H2)
                     (
                      ∃ J1 : Bool → Heap → Prop,
                      (br ((q_1 : Int) != p_1) (
                        SelfEq ([.v (.int .i64 kind), .loc 0 0, .loc 1 0], [some (24, [.int .i64 p_0, .int .i64 p_1, .int .i64 p_2, .int .i64 p_3, .slice p_4.p p_4.n p_4.c, .slice p_5.p p_5.n p_5.c, .slice p_6.p p_6.n p_6.c, .slice p_7.p p_7.n p_7.c, .int .i64 p_8]), some (24, [.int .i64 q_0, .int .i64 q_1, .int .i64 q_2, .int .i64 q_3, .slice q_4.p q_4.n q_4.c, .slice q_5.p q_5.n q_5.c, .slice q_6.p q_6.n q_6.c, .slice q_7.p q_7.n q_7.c, .int .i64 q_8])], []) ∧
                        J1 ((q_1 : Int) != 0) H2)
                       (
                        SelfEq ([.v (.int .i64 kind), .loc 0 0, .loc 1 0], [some (24, [.int .i64 p_0, .int .i64 p_1, .int .i64 p_2, .int .i64 p_3, .slice p_4.p p_4.n p_4.c, .slice p_5.p p_5.n p_5.c, .slice p_6.p p_6.n p_6.c, .slice p_7.p p_7.n p_7.c, .int .i64 p_8]), some (24, [.int .i64 q_0, .int .i64 q_1, .int .i64 q_2, .int .i64 q_3, .slice q_4.p q_4.n q_4.c, .slice q_5.p q_5.n q_5.c, .slice q_6.p q_6.n q_6.c, .slice q_7.p q_7.n q_7.c, .int .i64 q_8])], []) ∧
                        J1 false H2)) ∧
                      ∀ b_1 : Bool,
                      ∀ H3 : Heap,
                      J1 b_1 H3 →
                      br (b_1) (
                        FnH Try.prog 13 #[.slice p_4.p p_4.n p_4.c, .int .i64 q_1] H3 fun r3 H4 =>
                          ∃ b3 : Bool,
                          r3 = .bool b3 ∧
                          FnH Try.prog 13 #[.slice q_4.p q_4.n q_4.c, .int .i64 q_1] H4 fun r4 H5 =>
                            ∃ b4 : Bool,
                            r4 = .bool b4 ∧
                            br (!b4) (
                              K (.bool false) H5)
                             (
                              br (!b3) (
                                K (.bool false) H5)
                               (
                                ∃ I1 : Int → Heap → Prop,
                                ∃ M1 : Int → Heap → Nat,
                                I1 0 H5 ∧
                                ∀ i_1 : Int,
                                ∀ H6 : Heap,
                                I1 i_1 H6 →
                                br (decide ((i_1 : Int) < (p_5.n : Nat))) (
                                  ∃ q1 : Nat,
                                  ∃ o1 : Nat,
                                  (p_5.p : Option Addr) = some ⟨q1, o1, none⟩ ∧
                                  0 ≤ (i_1 : Int) ∧
                                  (i_1 : Int) < (p_5.n : Nat) ∧
                                  ∃ n1 : Int,
                                  cellH H6 ⟨q1, o1 + Int.toNat i_1, none⟩ = some (.int .i64 n1) ∧
                                  FnH Try.prog 13 #[.slice q_5.p q_5.n q_5.c, .int .i64 n1] H6 fun r5 H7 =>
                                    ∃ b5 : Bool,
                                    r5 = .bool b5 ∧
                                    FnH Try.prog 13 #[.slice p_6.p p_6.n p_6.c, .int .i64 n1] H7 fun r6 H8 =>
                                      ∃ b6 : Bool,
                                      r6 = .bool b6 ∧
                                      br (b5) (
                                        SelfEq ([.v (.int .i64 kind), .loc 0 0, .loc 1 0], [some (24, [.int .i64 p_0, .int .i64 p_1, .int .i64 p_2, .int .i64 p_3, .slice p_4.p p_4.n p_4.c, .slice p_5.p p_5.n p_5.c, .slice p_6.p p_6.n p_6.c, .slice p_7.p p_7.n p_7.c, .int .i64 p_8]), some (24, [.int .i64 q_0, .int .i64 q_1, .int .i64 q_2, .int .i64 q_3, .slice q_4.p q_4.n q_4.c, .slice q_5.p q_5.n q_5.c, .slice q_6.p q_6.n q_6.c, .slice q_7.p q_7.n q_7.c, .int .i64 q_8])], []) ∧
                                        I1 (IntKind.wrap .i64 (i_1 + 1)) H8 ∧
                                        M1 (IntKind.wrap .i64 (i_1 + 1)) H8 < M1 i_1 H6)
                                       (
                                        br ((kind : Int) == 5) (
                                          br (!b6) (
                                            K (.bool false) H8)
                                           (
                                            SelfEq ([.v (.int .i64 kind), .loc 0 0, .loc 1 0], [some (24, [.int .i64 p_0, .int .i64 p_1, .int .i64 p_2, .int .i64 p_3, .slice p_4.p p_4.n p_4.c, .slice p_5.p p_5.n p_5.c, .slice p_6.p p_6.n p_6.c, .slice p_7.p p_7.n p_7.c, .int .i64 p_8]), some (24, [.int .i64 q_0, .int .i64 q_1, .int .i64 q_2, .int .i64 q_3, .slice q_4.p q_4.n q_4.c, .slice q_5.p q_5.n q_5.c, .slice q_6.p q_6.n q_6.c, .slice q_7.p q_7.n q_7.c, .int .i64 q_8])], []) ∧
                                            I1 (IntKind.wrap .i64 (i_1 + 1)) H8 ∧
                                            M1 (IntKind.wrap .i64 (i_1 + 1)) H8 < M1 i_1 H6))
                                         (
                                          br ((kind : Int) != 6) (
                                            K (.bool false) H8)
                                           (
                                            ∃ I2 : Int → Heap → Prop,
                                            ∃ M2 : Int → Heap → Nat,
                                            I2 0 H8 ∧
                                            ∀ k_1 : Int,
                                            ∀ H9 : Heap,
                                            I2 k_1 H9 →
                                            br (decide ((k_1 : Int) < (q_5.n : Nat))) (
                                              ∃ q2 : Nat,
                                              ∃ o2 : Nat,
                                              (q_5.p : Option Addr) = some ⟨q2, o2, none⟩ ∧
                                              0 ≤ (k_1 : Int) ∧
                                              (k_1 : Int) < (q_5.n : Nat) ∧
                                              ∃ n2 : Int,
                                              cellH H9 ⟨q2, o2 + Int.toNat k_1, none⟩ = some (.int .i64 n2) ∧
                                              FnH Try.prog 13 #[.slice q_4.p q_4.n q_4.c, .int .i64 n2] H9 fun r7 H10 =>
                                                ∃ b7 : Bool,
                                                r7 = .bool b7 ∧
                                                Sub H9 H10 ∧
                                                br (!b7) (
                                                  K (.bool false) H10)
                                                 (
                                                  SelfEq ([.v (.int .i64 kind), .loc 0 0, .loc 1 0, .v (.int .i64 i_1)], [some (24, [.int .i64 p_0, .int .i64 p_1, .int .i64 p_2, .int .i64 p_3, .slice p_4.p p_4.n p_4.c, .slice p_5.p p_5.n p_5.c, .slice p_6.p p_6.n p_6.c, .slice p_7.p p_7.n p_7.c, .int .i64 p_8]), some (24, [.int .i64 q_0, .int .i64 q_1, .int .i64 q_2, .int .i64 q_3, .slice q_4.p q_4.n q_4.c, .slice q_5.p q_5.n q_5.c, .slice q_6.p q_6.n q_6.c, .slice q_7.p q_7.n q_7.c, .int .i64 q_8])], []) ∧
                                                  I2 (IntKind.wrap .i64 (k_1 + 1)) H10 ∧
                                                  M2 (IntKind.wrap .i64 (k_1 + 1)) H10 < M2 k_1 H9))
                                             (
                                              SelfEq ([.v (.int .i64 kind), .loc 0 0, .loc 1 0], [some (24, [.int .i64 p_0, .int .i64 p_1, .int .i64 p_2, .int .i64 p_3, .slice p_4.p p_4.n p_4.c, .slice p_5.p p_5.n p_5.c, .slice p_6.p p_6.n p_6.c, .slice p_7.p p_7.n p_7.c, .int .i64 p_8]), some (24, [.int .i64 q_0, .int .i64 q_1, .int .i64 q_2, .int .i64 q_3, .slice q_4.p q_4.n q_4.c, .slice q_5.p q_5.n q_5.c, .slice q_6.p q_6.n q_6.c, .slice q_7.p q_7.n q_7.c, .int .i64 q_8])], []) ∧
                                              I1 (IntKind.wrap .i64 (i_1 + 1)) H9 ∧
                                              M1 (IntKind.wrap .i64 (i_1 + 1)) H9 < M1 i_1 H6)))))
                                 (
                                  K (.bool true) H6))))
                       (
                        ∃ I3 : Int → Heap → Prop,
                        ∃ M3 : Int → Heap → Nat,
                        I3 0 H3 ∧
                        ∀ i_2 : Int,
                        ∀ H11 : Heap,
                        I3 i_2 H11 →
                        br (decide ((i_2 : Int) < (p_5.n : Nat))) (
                          ∃ q3 : Nat,
                          ∃ o3 : Nat,
                          (p_5.p : Option Addr) = some ⟨q3, o3, none⟩ ∧
                          0 ≤ (i_2 : Int) ∧
                          (i_2 : Int) < (p_5.n : Nat) ∧
                          ∃ n3 : Int,
                          cellH H11 ⟨q3, o3 + Int.toNat i_2, none⟩ = some (.int .i64 n3) ∧
                          FnH Try.prog 13 #[.slice q_5.p q_5.n q_5.c, .int .i64 n3] H11 fun r8 H12 =>
                            ∃ b8 : Bool,
                            r8 = .bool b8 ∧
                            FnH Try.prog 13 #[.slice p_6.p p_6.n p_6.c, .int .i64 n3] H12 fun r9 H13 =>
                              ∃ b9 : Bool,
                              r9 = .bool b9 ∧
                              br (b8) (
                                SelfEq ([.v (.int .i64 kind), .loc 0 0, .loc 1 0], [some (24, [.int .i64 p_0, .int .i64 p_1, .int .i64 p_2, .int .i64 p_3, .slice p_4.p p_4.n p_4.c, .slice p_5.p p_5.n p_5.c, .slice p_6.p p_6.n p_6.c, .slice p_7.p p_7.n p_7.c, .int .i64 p_8]), some (24, [.int .i64 q_0, .int .i64 q_1, .int .i64 q_2, .int .i64 q_3, .slice q_4.p q_4.n q_4.c, .slice q_5.p q_5.n q_5.c, .slice q_6.p q_6.n q_6.c, .slice q_7.p q_7.n q_7.c, .int .i64 q_8])], []) ∧
                                I3 (IntKind.wrap .i64 (i_2 + 1)) H13 ∧
                                M3 (IntKind.wrap .i64 (i_2 + 1)) H13 < M3 i_2 H11)
                               (
                                br ((kind : Int) == 5) (
                                  br (!b9) (
                                    K (.bool false) H13)
                                   (
                                    SelfEq ([.v (.int .i64 kind), .loc 0 0, .loc 1 0], [some (24, [.int .i64 p_0, .int .i64 p_1, .int .i64 p_2, .int .i64 p_3, .slice p_4.p p_4.n p_4.c, .slice p_5.p p_5.n p_5.c, .slice p_6.p p_6.n p_6.c, .slice p_7.p p_7.n p_7.c, .int .i64 p_8]), some (24, [.int .i64 q_0, .int .i64 q_1, .int .i64 q_2, .int .i64 q_3, .slice q_4.p q_4.n q_4.c, .slice q_5.p q_5.n q_5.c, .slice q_6.p q_6.n q_6.c, .slice q_7.p q_7.n q_7.c, .int .i64 q_8])], []) ∧
                                    I3 (IntKind.wrap .i64 (i_2 + 1)) H13 ∧
                                    M3 (IntKind.wrap .i64 (i_2 + 1)) H13 < M3 i_2 H11))
                                 (
                                  br ((kind : Int) != 6) (
                                    K (.bool false) H13)
                                   (
                                    ∃ I4 : Int → Heap → Prop,
                                    ∃ M4 : Int → Heap → Nat,
                                    I4 0 H13 ∧
                                    ∀ k_2 : Int,
                                    ∀ H14 : Heap,
                                    I4 k_2 H14 →
                                    br (decide ((k_2 : Int) < (q_5.n : Nat))) (
                                      ∃ q4 : Nat,
                                      ∃ o4 : Nat,
                                      (q_5.p : Option Addr) = some ⟨q4, o4, none⟩ ∧
                                      0 ≤ (k_2 : Int) ∧
                                      (k_2 : Int) < (q_5.n : Nat) ∧
                                      ∃ n4 : Int,
                                      cellH H14 ⟨q4, o4 + Int.toNat k_2, none⟩ = some (.int .i64 n4) ∧
                                      FnH Try.prog 13 #[.slice q_4.p q_4.n q_4.c, .int .i64 n4] H14 fun r10 H15 =>
                                        ∃ b10 : Bool,
                                        r10 = .bool b10 ∧
                                        Sub H14 H15 ∧
                                        br (!b10) (
                                          K (.bool false) H15)
                                         (
                                          SelfEq ([.v (.int .i64 kind), .loc 0 0, .loc 1 0, .v (.int .i64 i_2)], [some (24, [.int .i64 p_0, .int .i64 p_1, .int .i64 p_2, .int .i64 p_3, .slice p_4.p p_4.n p_4.c, .slice p_5.p p_5.n p_5.c, .slice p_6.p p_6.n p_6.c, .slice p_7.p p_7.n p_7.c, .int .i64 p_8]), some (24, [.int .i64 q_0, .int .i64 q_1, .int .i64 q_2, .int .i64 q_3, .slice q_4.p q_4.n q_4.c, .slice q_5.p q_5.n q_5.c, .slice q_6.p q_6.n q_6.c, .slice q_7.p q_7.n q_7.c, .int .i64 q_8])], []) ∧
                                          I4 (IntKind.wrap .i64 (k_2 + 1)) H15 ∧
                                          M4 (IntKind.wrap .i64 (k_2 + 1)) H15 < M4 k_2 H14))
                                     (
                                      SelfEq ([.v (.int .i64 kind), .loc 0 0, .loc 1 0], [some (24, [.int .i64 p_0, .int .i64 p_1, .int .i64 p_2, .int .i64 p_3, .slice p_4.p p_4.n p_4.c, .slice p_5.p p_5.n p_5.c, .slice p_6.p p_6.n p_6.c, .slice p_7.p p_7.n p_7.c, .int .i64 p_8]), some (24, [.int .i64 q_0, .int .i64 q_1, .int .i64 q_2, .int .i64 q_3, .slice q_4.p q_4.n q_4.c, .slice q_5.p q_5.n q_5.c, .slice q_6.p q_6.n q_6.c, .slice q_7.p q_7.n q_7.c, .int .i64 q_8])], []) ∧
                                      I3 (IntKind.wrap .i64 (i_2 + 1)) H14 ∧
                                      M3 (IntKind.wrap .i64 (i_2 + 1)) H14 < M3 i_2 H11)))))
                         (
                          K (.bool true) H11))))))))))
theorem logboomlaw11_rules_eq (p_0 : Int) (p_1 : Int) (p_2 : Int) (p_3 : Int) (p_4 : Sl) (p_5 : Sl) (p_6 : Sl) (p_7 : Sl) (p_8 : Int) (q_0 : Int) (q_1 : Int) (q_2 : Int) (q_3 : Int) (q_4 : Sl) (q_5 : Sl) (q_6 : Sl) (q_7 : Sl) (q_8 : Int) (kind : Int) (H : Heap) (K : Value → Heap → Prop) : logboomlaw11_rules_vc p_0 p_1 p_2 p_3 p_4 p_5 p_6 p_7 p_8 q_0 q_1 q_2 q_3 q_4 q_5 q_6 q_7 q_8 kind H K = denFn Try.prog logboomlaw11_rules_ann Try.f20 (bodyOf Try.f20) [.agg #[.int .i64 p_0, .int .i64 p_1, .int .i64 p_2, .int .i64 p_3, .slice p_4.p p_4.n p_4.c, .slice p_5.p p_5.n p_5.c, .slice p_6.p p_6.n p_6.c, .slice p_7.p p_7.n p_7.c, .int .i64 p_8], .agg #[.int .i64 q_0, .int .i64 q_1, .int .i64 q_2, .int .i64 q_3, .slice q_4.p q_4.n q_4.c, .slice q_5.p q_5.n q_5.c, .slice q_6.p q_6.n q_6.c, .slice q_7.p q_7.n q_7.c, .int .i64 q_8], .int .i64 kind] H K := by kernel_rfl
theorem logboomlaw11_rules_fn (p_0 : Int) (p_1 : Int) (p_2 : Int) (p_3 : Int) (p_4 : Sl) (p_5 : Sl) (p_6 : Sl) (p_7 : Sl) (p_8 : Int) (q_0 : Int) (q_1 : Int) (q_2 : Int) (q_3 : Int) (q_4 : Sl) (q_5 : Sl) (q_6 : Sl) (q_7 : Sl) (q_8 : Int) (kind : Int) {H : Heap} {K : Value → Heap → Prop} (h : logboomlaw11_rules_vc p_0 p_1 p_2 p_3 p_4 p_5 p_6 p_7 p_8 q_0 q_1 q_2 q_3 q_4 q_5 q_6 q_7 q_8 kind H K) : FnH Try.prog 20 #[.agg #[.int .i64 p_0, .int .i64 p_1, .int .i64 p_2, .int .i64 p_3, .slice p_4.p p_4.n p_4.c, .slice p_5.p p_5.n p_5.c, .slice p_6.p p_6.n p_6.c, .slice p_7.p p_7.n p_7.c, .int .i64 p_8], .agg #[.int .i64 q_0, .int .i64 q_1, .int .i64 q_2, .int .i64 q_3, .slice q_4.p q_4.n q_4.c, .slice q_5.p q_5.n q_5.c, .slice q_6.p q_6.n q_6.c, .slice q_7.p q_7.n q_7.c, .int .i64 q_8], .int .i64 kind] H K :=
  denFn_sound Try.mixed logboomlaw11_rules_ann Try.func20 (bodyOf_spec (by kernel_rfl)) ((logboomlaw11_rules_eq p_0 p_1 p_2 p_3 p_4 p_5 p_6 p_7 p_8 q_0 q_1 q_2 q_3 q_4 q_5 q_6 q_7 q_8 kind H K) ▸ h)

end Go.Proofs.Ytahempkggcbegaa
