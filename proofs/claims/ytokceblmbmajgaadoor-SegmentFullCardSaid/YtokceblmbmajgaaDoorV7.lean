/- Formulas of functions, printed by this session's vc.py; each is tied to the program by the kernel. -/
import Derived.Test.YtokceblmbmajgaaDoorProg
import Derived.KernelRfl
import Derived.Test.YtokceblmbmajgaaDoorHlFn
import Derived.Test.YtokceblmbmajgaaDoorV6
namespace Go.Proofs.YtokceblmbmajgaaDoor
open Go.HL
set_option maxRecDepth 100000
/-! function 6: logboom/logboomlaw5.SegmentFull -/
def logboomlaw5_SegmentFull_ann : Anns := { hid := [12], loops := [(0, { slots := [(10, .int .i64)], kept := [1, 6, 8], locs := [], keptL := [] })], joins := [((11, 17), { slots := [(11, .slice)], kept := [1, 6, 8, 10, 14], locs := [], keptL := [0] }), ((11, 22), { slots := [], kept := [1, 6, 8, 10, 11], locs := [], keptL := [0] })], mix := [(13, [10])] }
def logboomlaw5_SegmentFull_vc (size : Int) (sizes : Sl) (H : Heap) (K : Value → Heap → Prop) : Prop :=
  FnH Tryd.prog 8 #[] H fun r1 H1 =>
    ∃ b1 : Bool,
    r1 = .bool b1 ∧
    FnH Tryd.prog 13 #[.int .i64 size, .int .i64 2000] H1 fun r2 H2 =>
      ∃ n1 : Int,
      r2 = .int .i64 n1 ∧
      FnH Tryd.prog 9 #[.int .i64 (IntKind.wrap .i64 (1 + n1))] H2 fun r3 H3 =>
        ∃ p1 : Option Addr,
        ∃ n2 : Int,
        r3 = .tuple #[.pointer p1, .int .i64 n2] ∧
        br (!b1) (
          K (.bool false) H3)
         (
          br (Option.isNone p1) (
            K (.bool false) H3)
           (
            br ((n2 : Int) != 0) (
              K (.bool false) H3)
             (
              FnH Tryd.prog 10 #[.pointer p1, .string (⟨#[115]⟩ : ByteArray), .int .i64 7] H3 fun r4 H4 =>
                ∃ p2 : Option Addr,
                ∃ n3 : Int,
                ∃ n4 : Int,
                r4 = .tuple #[.pointer p2, .int .i64 n3, .int .i64 n4] ∧
                br (Option.isNone p2) (
                  K (.bool false) H4)
                 (
                  br ((n4 : Int) != 0) (
                    K (.bool false) H4)
                   (
                    ∃ I1 : Int → Heap → Prop,
                    ∃ M1 : Int → Heap → Nat,
                    I1 0 H4 ∧
                    ∀ i_1 : Int,
                    ∀ H5 : Heap,
                    I1 i_1 H5 →
                    br (decide ((i_1 : Int) < (sizes.n : Nat))) (
                      br (decide ((i_1 : Int) < 60)) (
                        FnH Tryd.prog 18 #[.pointer p2, .int .i64 7, .int .i64 100000] H5 fun r5 H6 =>
                          ∃ l1 : Sl,
                          r5 = .slice l1.p l1.n l1.c ∧
                          ∃ q1 : Nat,
                          ∃ o1 : Nat,
                          (sizes.p : Option Addr) = some ⟨q1, o1, none⟩ ∧
                          0 ≤ (i_1 : Int) ∧
                          (i_1 : Int) < (sizes.n : Nat) ∧
                          ∃ n5 : Int,
                          cellH H6 ⟨q1, o1 + Int.toNat i_1, none⟩ = some (.int .i64 n5) ∧
                          (FnH Tryd.prog 12 #[.pointer p2] H6 fun r6 H7 =>
                            ∃ n6 : Int,
                            r6 = .int .i64 n6 ∧
                            Sub H6 H7 ∧
                            (FnH Tryd.prog 13 #[.int .i64 n5, .int .i64 30] H7 fun r7 H8 =>
                              ∃ n7 : Int,
                              r7 = .int .i64 n7 ∧
                              Sub H6 H8 ∧
                              (FnH Tryd.prog 11 #[.int .i64 n6, .int .i64 (IntKind.wrap .i64 (1 + n7))] H8 fun r8 H9 =>
                                ∃ n8 : Int,
                                ∃ n9 : Int,
                                ∃ n10 : Int,
                                ∃ n11 : Int,
                                ∃ n12 : Int,
                                ∃ l2 : Sl,
                                r8 = .agg #[.int .i64 n8, .int .i64 n9, .int .i64 n10, .int .i64 n11, .int .i64 n12, .slice l2.p l2.n l2.c] ∧
                                Sub H6 H9 ∧
                                Sub H6 H9 ∧
                                FnH Tryd.prog 14 #[.pointer p2, .agg #[.int .i64 n8, .int .i64 n9, .int .i64 n10, .int .i64 n11, .int .i64 n12, .slice l2.p l2.n l2.c]] H9 fun r9 H10 =>
                                  ∃ n13 : Int,
                                  r9 = .int .i64 n13 ∧
                                  FnH Tryd.prog 18 #[.pointer p2, .int .i64 7, .int .i64 100000] H10 fun r10 H11 =>
                                    ∃ l3 : Sl,
                                    r10 = .slice l3.p l3.n l3.c ∧
                                    ∃ J1 : Sl → Heap → Prop,
                                    (br ((n13 : Int) == 0) (
                                      ∀ q2 : Nat,
                                      H11 q2 = none →
                                      letH (Heap.upd H11 q2 (.cells #[.int .i64 n8, .int .i64 n9, .int .i64 n10, .int .i64 n11, .int .i64 n12, .slice l2.p l2.n l2.c] 34 (0, 0))) fun H12 =>
                                      runH Tryd.prog (Builtin.append_ #[31, 31] 31 #[.slice l1.p l1.n l1.c, .slice (some ⟨q2, 0, none⟩) 1 1]) H12 fun r11 H13 =>
                                        ∃ l4 : Sl,
                                        r11 = .slice l4.p l4.n l4.c ∧
                                        SelfEq ([.v (.slice sizes.p sizes.n sizes.c), .v (.pointer p1), .v (.pointer p2), .v (.int .i64 i_1), .v (.slice l3.p l3.n l3.c)], [some (34, [.int .i64 n8, .int .i64 n9, .int .i64 n10, .int .i64 n11, .int .i64 n12, .slice l2.p l2.n l2.c])], []) ∧
                                        J1 l4 H13)
                                     (
                                      br ((n13 : Int) != 7) (
                                        K (.bool false) H11)
                                       (
                                        SelfEq ([.v (.slice sizes.p sizes.n sizes.c), .v (.pointer p1), .v (.pointer p2), .v (.int .i64 i_1), .v (.slice l3.p l3.n l3.c)], [some (34, [.int .i64 n8, .int .i64 n9, .int .i64 n10, .int .i64 n11, .int .i64 n12, .slice l2.p l2.n l2.c])], []) ∧
                                        J1 l1 H11))) ∧
                                    ∀ was_1 : Sl,
                                    ∀ H14 : Heap,
                                    J1 was_1 H14 →
                                    FnH Tryd.prog 19 #[.slice l3.p l3.n l3.c, .slice was_1.p was_1.n was_1.c] H14 fun r12 H15 =>
                                      ∃ b2 : Bool,
                                      r12 = .bool b2 ∧
                                      ∃ J2 : Heap → Prop,
                                      (br (!b2) (
                                        K (.bool false) H15)
                                       (
                                        FnH Tryd.prog 15 #[.pointer p2] H15 fun r13 H16 =>
                                          ∃ n14 : Int,
                                          r13 = .int .i64 n14 ∧
                                          br ((n14 : Int) != 0) (
                                            K (.bool false) H16)
                                           (
                                            SelfEq ([.v (.slice sizes.p sizes.n sizes.c), .v (.pointer p1), .v (.pointer p2), .v (.int .i64 i_1), .v (.slice was_1.p was_1.n was_1.c)], [some (34, [.int .i64 n8, .int .i64 n9, .int .i64 n10, .int .i64 n11, .int .i64 n12, .slice l2.p l2.n l2.c])], []) ∧
                                            J2 H16))) ∧
                                      ∀ H17 : Heap,
                                      J2 H17 →
                                      FnH Tryd.prog 23 #[.pointer p1] H17 fun r14 H18 =>
                                        ∃ p3 : Option Addr,
                                        r14 = .pointer p3 ∧
                                        br (Option.isNone p3) (
                                          K (.bool false) H18)
                                         (
                                          FnH Tryd.prog 16 #[.pointer p3, .slice none 0 0] H18 fun r15 H19 =>
                                            r15 = .tuple #[] ∧
                                            FnH Tryd.prog 10 #[.pointer p3, .string (⟨#[115]⟩ : ByteArray), .int .i64 7] H19 fun r16 H20 =>
                                              ∃ p4 : Option Addr,
                                              ∃ n15 : Int,
                                              ∃ n16 : Int,
                                              r16 = .tuple #[.pointer p4, .int .i64 n15, .int .i64 n16] ∧
                                              br (Option.isNone p4) (
                                                K (.bool false) H20)
                                               (
                                                br ((n16 : Int) != 0) (
                                                  K (.bool false) H20)
                                                 (
                                                  FnH Tryd.prog 18 #[.pointer p4, .int .i64 7, .int .i64 100000] H20 fun r17 H21 =>
                                                    ∃ l5 : Sl,
                                                    r17 = .slice l5.p l5.n l5.c ∧
                                                    FnH Tryd.prog 19 #[.slice l5.p l5.n l5.c, .slice was_1.p was_1.n was_1.c] H21 fun r18 H22 =>
                                                      ∃ b3 : Bool,
                                                      r18 = .bool b3 ∧
                                                      br (!b3) (
                                                        K (.bool false) H22)
                                                       (
                                                        SelfEq ([.v (.slice sizes.p sizes.n sizes.c), .v (.pointer p1), .v (.pointer p2)], [], []) ∧
                                                        I1 (IntKind.wrap .i64 (i_1 + 1)) H22 ∧
                                                        M1 (IntKind.wrap .i64 (i_1 + 1)) H22 < M1 i_1 H5))))) ∧
                              Sub H6 H8 ∧
                              FnH Tryd.prog 11 #[.int .i64 n6, .int .i64 (IntKind.wrap .i64 (1 + n7))] H8 fun r19 H23 =>
                                ∃ n17 : Int,
                                ∃ n18 : Int,
                                ∃ n19 : Int,
                                ∃ n20 : Int,
                                ∃ n21 : Int,
                                ∃ l6 : Sl,
                                r19 = .agg #[.int .i64 n17, .int .i64 n18, .int .i64 n19, .int .i64 n20, .int .i64 n21, .slice l6.p l6.n l6.c] ∧
                                Sub H6 H23 ∧
                                FnH Tryd.prog 14 #[.pointer p2, .agg #[.int .i64 n17, .int .i64 n18, .int .i64 n19, .int .i64 n20, .int .i64 n21, .slice l6.p l6.n l6.c]] H23 fun r20 H24 =>
                                  ∃ n22 : Int,
                                  r20 = .int .i64 n22 ∧
                                  FnH Tryd.prog 18 #[.pointer p2, .int .i64 7, .int .i64 100000] H24 fun r21 H25 =>
                                    ∃ l7 : Sl,
                                    r21 = .slice l7.p l7.n l7.c ∧
                                    ∃ J3 : Sl → Heap → Prop,
                                    (br ((n22 : Int) == 0) (
                                      ∀ q3 : Nat,
                                      H25 q3 = none →
                                      letH (Heap.upd H25 q3 (.cells #[.int .i64 n17, .int .i64 n18, .int .i64 n19, .int .i64 n20, .int .i64 n21, .slice l6.p l6.n l6.c] 34 (0, 0))) fun H26 =>
                                      runH Tryd.prog (Builtin.append_ #[31, 31] 31 #[.slice l1.p l1.n l1.c, .slice (some ⟨q3, 0, none⟩) 1 1]) H26 fun r22 H27 =>
                                        ∃ l8 : Sl,
                                        r22 = .slice l8.p l8.n l8.c ∧
                                        SelfEq ([.v (.slice sizes.p sizes.n sizes.c), .v (.pointer p1), .v (.pointer p2), .v (.int .i64 i_1), .v (.slice l7.p l7.n l7.c)], [some (34, [.int .i64 n17, .int .i64 n18, .int .i64 n19, .int .i64 n20, .int .i64 n21, .slice l6.p l6.n l6.c])], []) ∧
                                        J3 l8 H27)
                                     (
                                      br ((n22 : Int) != 7) (
                                        K (.bool false) H25)
                                       (
                                        SelfEq ([.v (.slice sizes.p sizes.n sizes.c), .v (.pointer p1), .v (.pointer p2), .v (.int .i64 i_1), .v (.slice l7.p l7.n l7.c)], [some (34, [.int .i64 n17, .int .i64 n18, .int .i64 n19, .int .i64 n20, .int .i64 n21, .slice l6.p l6.n l6.c])], []) ∧
                                        J3 l1 H25))) ∧
                                    ∀ was_2 : Sl,
                                    ∀ H28 : Heap,
                                    J3 was_2 H28 →
                                    FnH Tryd.prog 19 #[.slice l7.p l7.n l7.c, .slice was_2.p was_2.n was_2.c] H28 fun r23 H29 =>
                                      ∃ b4 : Bool,
                                      r23 = .bool b4 ∧
                                      ∃ J4 : Heap → Prop,
                                      (br (!b4) (
                                        K (.bool false) H29)
                                       (
                                        FnH Tryd.prog 15 #[.pointer p2] H29 fun r24 H30 =>
                                          ∃ n23 : Int,
                                          r24 = .int .i64 n23 ∧
                                          br ((n23 : Int) != 0) (
                                            K (.bool false) H30)
                                           (
                                            SelfEq ([.v (.slice sizes.p sizes.n sizes.c), .v (.pointer p1), .v (.pointer p2), .v (.int .i64 i_1), .v (.slice was_2.p was_2.n was_2.c)], [some (34, [.int .i64 n17, .int .i64 n18, .int .i64 n19, .int .i64 n20, .int .i64 n21, .slice l6.p l6.n l6.c])], []) ∧
                                            J4 H30))) ∧
                                      ∀ H31 : Heap,
                                      J4 H31 →
                                      FnH Tryd.prog 23 #[.pointer p1] H31 fun r25 H32 =>
                                        ∃ p5 : Option Addr,
                                        r25 = .pointer p5 ∧
                                        br (Option.isNone p5) (
                                          K (.bool false) H32)
                                         (
                                          FnH Tryd.prog 16 #[.pointer p5, .slice none 0 0] H32 fun r26 H33 =>
                                            r26 = .tuple #[] ∧
                                            FnH Tryd.prog 10 #[.pointer p5, .string (⟨#[115]⟩ : ByteArray), .int .i64 7] H33 fun r27 H34 =>
                                              ∃ p6 : Option Addr,
                                              ∃ n24 : Int,
                                              ∃ n25 : Int,
                                              r27 = .tuple #[.pointer p6, .int .i64 n24, .int .i64 n25] ∧
                                              br (Option.isNone p6) (
                                                K (.bool false) H34)
                                               (
                                                br ((n25 : Int) != 0) (
                                                  K (.bool false) H34)
                                                 (
                                                  FnH Tryd.prog 18 #[.pointer p6, .int .i64 7, .int .i64 100000] H34 fun r28 H35 =>
                                                    ∃ l9 : Sl,
                                                    r28 = .slice l9.p l9.n l9.c ∧
                                                    FnH Tryd.prog 19 #[.slice l9.p l9.n l9.c, .slice was_2.p was_2.n was_2.c] H35 fun r29 H36 =>
                                                      ∃ b5 : Bool,
                                                      r29 = .bool b5 ∧
                                                      br (!b5) (
                                                        K (.bool false) H36)
                                                       (
                                                        SelfEq ([.v (.slice sizes.p sizes.n sizes.c), .v (.pointer p1), .v (.pointer p2)], [], []) ∧
                                                        I1 (IntKind.wrap .i64 (i_1 + 1)) H36 ∧
                                                        M1 (IntKind.wrap .i64 (i_1 + 1)) H36 < M1 i_1 H5))))) ∧
                            Sub H6 H7 ∧
                            FnH Tryd.prog 13 #[.int .i64 n5, .int .i64 30] H7 fun r30 H37 =>
                              ∃ n26 : Int,
                              r30 = .int .i64 n26 ∧
                              Sub H6 H37 ∧
                              FnH Tryd.prog 11 #[.int .i64 n6, .int .i64 (IntKind.wrap .i64 (1 + n26))] H37 fun r31 H38 =>
                                ∃ n27 : Int,
                                ∃ n28 : Int,
                                ∃ n29 : Int,
                                ∃ n30 : Int,
                                ∃ n31 : Int,
                                ∃ l10 : Sl,
                                r31 = .agg #[.int .i64 n27, .int .i64 n28, .int .i64 n29, .int .i64 n30, .int .i64 n31, .slice l10.p l10.n l10.c] ∧
                                Sub H6 H38 ∧
                                FnH Tryd.prog 14 #[.pointer p2, .agg #[.int .i64 n27, .int .i64 n28, .int .i64 n29, .int .i64 n30, .int .i64 n31, .slice l10.p l10.n l10.c]] H38 fun r32 H39 =>
                                  ∃ n32 : Int,
                                  r32 = .int .i64 n32 ∧
                                  FnH Tryd.prog 18 #[.pointer p2, .int .i64 7, .int .i64 100000] H39 fun r33 H40 =>
                                    ∃ l11 : Sl,
                                    r33 = .slice l11.p l11.n l11.c ∧
                                    ∃ J5 : Sl → Heap → Prop,
                                    (br ((n32 : Int) == 0) (
                                      ∀ q4 : Nat,
                                      H40 q4 = none →
                                      letH (Heap.upd H40 q4 (.cells #[.int .i64 n27, .int .i64 n28, .int .i64 n29, .int .i64 n30, .int .i64 n31, .slice l10.p l10.n l10.c] 34 (0, 0))) fun H41 =>
                                      runH Tryd.prog (Builtin.append_ #[31, 31] 31 #[.slice l1.p l1.n l1.c, .slice (some ⟨q4, 0, none⟩) 1 1]) H41 fun r34 H42 =>
                                        ∃ l12 : Sl,
                                        r34 = .slice l12.p l12.n l12.c ∧
                                        SelfEq ([.v (.slice sizes.p sizes.n sizes.c), .v (.pointer p1), .v (.pointer p2), .v (.int .i64 i_1), .v (.slice l11.p l11.n l11.c)], [some (34, [.int .i64 n27, .int .i64 n28, .int .i64 n29, .int .i64 n30, .int .i64 n31, .slice l10.p l10.n l10.c])], []) ∧
                                        J5 l12 H42)
                                     (
                                      br ((n32 : Int) != 7) (
                                        K (.bool false) H40)
                                       (
                                        SelfEq ([.v (.slice sizes.p sizes.n sizes.c), .v (.pointer p1), .v (.pointer p2), .v (.int .i64 i_1), .v (.slice l11.p l11.n l11.c)], [some (34, [.int .i64 n27, .int .i64 n28, .int .i64 n29, .int .i64 n30, .int .i64 n31, .slice l10.p l10.n l10.c])], []) ∧
                                        J5 l1 H40))) ∧
                                    ∀ was_3 : Sl,
                                    ∀ H43 : Heap,
                                    J5 was_3 H43 →
                                    FnH Tryd.prog 19 #[.slice l11.p l11.n l11.c, .slice was_3.p was_3.n was_3.c] H43 fun r35 H44 =>
                                      ∃ b6 : Bool,
                                      r35 = .bool b6 ∧
                                      ∃ J6 : Heap → Prop,
                                      (br (!b6) (
                                        K (.bool false) H44)
                                       (
                                        FnH Tryd.prog 15 #[.pointer p2] H44 fun r36 H45 =>
                                          ∃ n33 : Int,
                                          r36 = .int .i64 n33 ∧
                                          br ((n33 : Int) != 0) (
                                            K (.bool false) H45)
                                           (
                                            SelfEq ([.v (.slice sizes.p sizes.n sizes.c), .v (.pointer p1), .v (.pointer p2), .v (.int .i64 i_1), .v (.slice was_3.p was_3.n was_3.c)], [some (34, [.int .i64 n27, .int .i64 n28, .int .i64 n29, .int .i64 n30, .int .i64 n31, .slice l10.p l10.n l10.c])], []) ∧
                                            J6 H45))) ∧
                                      ∀ H46 : Heap,
                                      J6 H46 →
                                      FnH Tryd.prog 23 #[.pointer p1] H46 fun r37 H47 =>
                                        ∃ p7 : Option Addr,
                                        r37 = .pointer p7 ∧
                                        br (Option.isNone p7) (
                                          K (.bool false) H47)
                                         (
                                          FnH Tryd.prog 16 #[.pointer p7, .slice none 0 0] H47 fun r38 H48 =>
                                            r38 = .tuple #[] ∧
                                            FnH Tryd.prog 10 #[.pointer p7, .string (⟨#[115]⟩ : ByteArray), .int .i64 7] H48 fun r39 H49 =>
                                              ∃ p8 : Option Addr,
                                              ∃ n34 : Int,
                                              ∃ n35 : Int,
                                              r39 = .tuple #[.pointer p8, .int .i64 n34, .int .i64 n35] ∧
                                              br (Option.isNone p8) (
                                                K (.bool false) H49)
                                               (
                                                br ((n35 : Int) != 0) (
                                                  K (.bool false) H49)
                                                 (
                                                  FnH Tryd.prog 18 #[.pointer p8, .int .i64 7, .int .i64 100000] H49 fun r40 H50 =>
                                                    ∃ l13 : Sl,
                                                    r40 = .slice l13.p l13.n l13.c ∧
                                                    FnH Tryd.prog 19 #[.slice l13.p l13.n l13.c, .slice was_3.p was_3.n was_3.c] H50 fun r41 H51 =>
                                                      ∃ b7 : Bool,
                                                      r41 = .bool b7 ∧
                                                      br (!b7) (
                                                        K (.bool false) H51)
                                                       (
                                                        SelfEq ([.v (.slice sizes.p sizes.n sizes.c), .v (.pointer p1), .v (.pointer p2)], [], []) ∧
                                                        I1 (IntKind.wrap .i64 (i_1 + 1)) H51 ∧
                                                        M1 (IntKind.wrap .i64 (i_1 + 1)) H51 < M1 i_1 H5))))) ∧
                          Sub H6 H6 ∧
                          FnH Tryd.prog 12 #[.pointer p2] H6 fun r42 H52 =>
                            ∃ n36 : Int,
                            r42 = .int .i64 n36 ∧
                            Sub H6 H52 ∧
                            FnH Tryd.prog 13 #[.int .i64 n5, .int .i64 30] H52 fun r43 H53 =>
                              ∃ n37 : Int,
                              r43 = .int .i64 n37 ∧
                              Sub H6 H53 ∧
                              FnH Tryd.prog 11 #[.int .i64 n36, .int .i64 (IntKind.wrap .i64 (1 + n37))] H53 fun r44 H54 =>
                                ∃ n38 : Int,
                                ∃ n39 : Int,
                                ∃ n40 : Int,
                                ∃ n41 : Int,
                                ∃ n42 : Int,
                                ∃ l14 : Sl,
                                r44 = .agg #[.int .i64 n38, .int .i64 n39, .int .i64 n40, .int .i64 n41, .int .i64 n42, .slice l14.p l14.n l14.c] ∧
                                Sub H6 H54 ∧
                                FnH Tryd.prog 14 #[.pointer p2, .agg #[.int .i64 n38, .int .i64 n39, .int .i64 n40, .int .i64 n41, .int .i64 n42, .slice l14.p l14.n l14.c]] H54 fun r45 H55 =>
                                  ∃ n43 : Int,
                                  r45 = .int .i64 n43 ∧
                                  FnH Tryd.prog 18 #[.pointer p2, .int .i64 7, .int .i64 100000] H55 fun r46 H56 =>
                                    ∃ l15 : Sl,
                                    r46 = .slice l15.p l15.n l15.c ∧
                                    ∃ J7 : Sl → Heap → Prop,
                                    (br ((n43 : Int) == 0) (
                                      ∀ q5 : Nat,
                                      H56 q5 = none →
                                      letH (Heap.upd H56 q5 (.cells #[.int .i64 n38, .int .i64 n39, .int .i64 n40, .int .i64 n41, .int .i64 n42, .slice l14.p l14.n l14.c] 34 (0, 0))) fun H57 =>
                                      runH Tryd.prog (Builtin.append_ #[31, 31] 31 #[.slice l1.p l1.n l1.c, .slice (some ⟨q5, 0, none⟩) 1 1]) H57 fun r47 H58 =>
                                        ∃ l16 : Sl,
                                        r47 = .slice l16.p l16.n l16.c ∧
                                        SelfEq ([.v (.slice sizes.p sizes.n sizes.c), .v (.pointer p1), .v (.pointer p2), .v (.int .i64 i_1), .v (.slice l15.p l15.n l15.c)], [some (34, [.int .i64 n38, .int .i64 n39, .int .i64 n40, .int .i64 n41, .int .i64 n42, .slice l14.p l14.n l14.c])], []) ∧
                                        J7 l16 H58)
                                     (
                                      br ((n43 : Int) != 7) (
                                        K (.bool false) H56)
                                       (
                                        SelfEq ([.v (.slice sizes.p sizes.n sizes.c), .v (.pointer p1), .v (.pointer p2), .v (.int .i64 i_1), .v (.slice l15.p l15.n l15.c)], [some (34, [.int .i64 n38, .int .i64 n39, .int .i64 n40, .int .i64 n41, .int .i64 n42, .slice l14.p l14.n l14.c])], []) ∧
                                        J7 l1 H56))) ∧
                                    ∀ was_4 : Sl,
                                    ∀ H59 : Heap,
                                    J7 was_4 H59 →
                                    FnH Tryd.prog 19 #[.slice l15.p l15.n l15.c, .slice was_4.p was_4.n was_4.c] H59 fun r48 H60 =>
                                      ∃ b8 : Bool,
                                      r48 = .bool b8 ∧
                                      ∃ J8 : Heap → Prop,
                                      (br (!b8) (
                                        K (.bool false) H60)
                                       (
                                        FnH Tryd.prog 15 #[.pointer p2] H60 fun r49 H61 =>
                                          ∃ n44 : Int,
                                          r49 = .int .i64 n44 ∧
                                          br ((n44 : Int) != 0) (
                                            K (.bool false) H61)
                                           (
                                            SelfEq ([.v (.slice sizes.p sizes.n sizes.c), .v (.pointer p1), .v (.pointer p2), .v (.int .i64 i_1), .v (.slice was_4.p was_4.n was_4.c)], [some (34, [.int .i64 n38, .int .i64 n39, .int .i64 n40, .int .i64 n41, .int .i64 n42, .slice l14.p l14.n l14.c])], []) ∧
                                            J8 H61))) ∧
                                      ∀ H62 : Heap,
                                      J8 H62 →
                                      FnH Tryd.prog 23 #[.pointer p1] H62 fun r50 H63 =>
                                        ∃ p9 : Option Addr,
                                        r50 = .pointer p9 ∧
                                        br (Option.isNone p9) (
                                          K (.bool false) H63)
                                         (
                                          FnH Tryd.prog 16 #[.pointer p9, .slice none 0 0] H63 fun r51 H64 =>
                                            r51 = .tuple #[] ∧
                                            FnH Tryd.prog 10 #[.pointer p9, .string (⟨#[115]⟩ : ByteArray), .int .i64 7] H64 fun r52 H65 =>
                                              ∃ p10 : Option Addr,
                                              ∃ n45 : Int,
                                              ∃ n46 : Int,
                                              r52 = .tuple #[.pointer p10, .int .i64 n45, .int .i64 n46] ∧
                                              br (Option.isNone p10) (
                                                K (.bool false) H65)
                                               (
                                                br ((n46 : Int) != 0) (
                                                  K (.bool false) H65)
                                                 (
                                                  FnH Tryd.prog 18 #[.pointer p10, .int .i64 7, .int .i64 100000] H65 fun r53 H66 =>
                                                    ∃ l17 : Sl,
                                                    r53 = .slice l17.p l17.n l17.c ∧
                                                    FnH Tryd.prog 19 #[.slice l17.p l17.n l17.c, .slice was_4.p was_4.n was_4.c] H66 fun r54 H67 =>
                                                      ∃ b9 : Bool,
                                                      r54 = .bool b9 ∧
                                                      br (!b9) (
                                                        K (.bool false) H67)
                                                       (
                                                        SelfEq ([.v (.slice sizes.p sizes.n sizes.c), .v (.pointer p1), .v (.pointer p2)], [], []) ∧
                                                        I1 (IntKind.wrap .i64 (i_1 + 1)) H67 ∧
                                                        M1 (IntKind.wrap .i64 (i_1 + 1)) H67 < M1 i_1 H5)))))
                       (
                        K (.bool true) H5))
                     (
                      K (.bool true) H5))))))
theorem logboomlaw5_SegmentFull_eq (size : Int) (sizes : Sl) (H : Heap) (K : Value → Heap → Prop) : logboomlaw5_SegmentFull_vc size sizes H K = denFn Tryd.prog logboomlaw5_SegmentFull_ann Tryd.f6 (bodyOf Tryd.f6) [.int .i64 size, .slice sizes.p sizes.n sizes.c] H K := by kernel_rfl
theorem logboomlaw5_SegmentFull_fn (size : Int) (sizes : Sl) {H : Heap} {K : Value → Heap → Prop} (h : logboomlaw5_SegmentFull_vc size sizes H K) : FnH Tryd.prog 6 #[.int .i64 size, .slice sizes.p sizes.n sizes.c] H K :=
  denFn_fn Tryd.mixed logboomlaw5_SegmentFull_ann Tryd.func6 (bodyOf_spec (by kernel_rfl)) (logboomlaw5_SegmentFull_eq size sizes H K) h

end Go.Proofs.YtokceblmbmajgaaDoor
