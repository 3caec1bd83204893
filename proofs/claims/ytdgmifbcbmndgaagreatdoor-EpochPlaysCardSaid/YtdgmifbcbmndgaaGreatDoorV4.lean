/- Formulas of functions, printed by this session's vc.py; each is tied to the program by the kernel. -/
import Derived.Test.YtdgmifbcbmndgaaGreatDoorProg
import Derived.KernelRfl
import Derived.Test.YtdgmifbcbmndgaaGreatDoorHlFn
import Derived.Test.YtdgmifbcbmndgaaGreatDoorV3
namespace Go.Proofs.YtdgmifbcbmndgaaGreatDoor
open Go.HL
set_option maxRecDepth 100000
/-! function 3: logboom/logboomlaw7.EpochPlays -/
def logboomlaw7_EpochPlays_ann : Anns := { hid := [12], loops := [(0, { slots := [(6, .ptr), (9, .ptr), (11, .int .i64)], kept := [1, 7, 8], locs := [], keptL := [] }), (3, { slots := [(28, .int .i64)], kept := [1, 6, 7, 8, 9, 11, 22], locs := [], keptL := [0] })], joins := [((12, 0), { slots := [], kept := [], locs := [], keptL := [] }), ((12, 2), { slots := [(6, .ptr), (9, .ptr), (13, .bool)], kept := [1, 7, 8, 11], locs := [], keptL := [0] })], mix := [(17, [5, 11]), (19, [3, 7]), (21, [3, 7])] }
def logboomlaw7_EpochPlays_vc (size : Int) (script : Sl) (H : Heap) (K : Value → Heap → Prop) : Prop :=
  FnH Tryz.prog 4 #[] H fun r1 H1 =>
    ∃ b1 : Bool,
    r1 = .bool b1 ∧
    FnH Tryz.prog 5 #[.int .i64 size, .int .i64 400] H1 fun r2 H2 =>
      ∃ n1 : Int,
      r2 = .int .i64 n1 ∧
      FnH Tryz.prog 6 #[.int .i64 (IntKind.wrap .i64 (20 + n1))] H2 fun r3 H3 =>
        ∃ p1 : Option Addr,
        ∃ p2 : Option Addr,
        r3 = .tuple #[.pointer p1, .pointer p2] ∧
        FnH Tryz.prog 7 #[.int .i64 (IntKind.wrap .i64 (20 + n1))] H3 fun r4 H4 =>
          ∃ p3 : Option Addr,
          r4 = .pointer p3 ∧
          br (!b1) (
            K (.bool false) H4)
           (
            br (Option.isNone p1) (
              K (.bool false) H4)
             (
              br (Option.isNone p3) (
                K (.bool false) H4)
               (
                FnH Tryz.prog 8 #[.pointer p3, .string (⟨#[101, 112, 111, 99, 104, 115]⟩ : ByteArray)] H4 fun r5 H5 =>
                  ∃ p4 : Option Addr,
                  ∃ n2 : Int,
                  r5 = .tuple #[.pointer p4, .int .i64 n2] ∧
                  ∃ J1 : Heap → Prop,
                  (∃ I1 : Option Addr → Option Addr → Int → Heap → Prop,
                  ∃ M1 : Option Addr → Option Addr → Int → Heap → Nat,
                  I1 p1 p4 0 H5 ∧
                  ∀ c_1 : Option Addr,
                  ∀ x_1 : Option Addr,
                  ∀ i_1 : Int,
                  ∀ H6 : Heap,
                  I1 c_1 x_1 i_1 H6 →
                  br (decide ((i_1 : Int) < (script.n : Nat))) (
                    br (decide ((i_1 : Int) < 200)) (
                      ∃ q1 : Nat,
                      ∃ o1 : Nat,
                      (script.p : Option Addr) = some ⟨q1, o1, none⟩ ∧
                      0 ≤ (i_1 : Int) ∧
                      (i_1 : Int) < (script.n : Nat) ∧
                      ∃ n3 : Int,
                      cellH H6 ⟨q1, o1 + Int.toNat i_1 * 3, none⟩ = some (.int .i64 n3) ∧
                      ∃ n4 : Int,
                      cellH H6 ⟨q1, o1 + Int.toNat i_1 * 3 + 1, none⟩ = some (.int .i64 n4) ∧
                      ∃ n5 : Int,
                      cellH H6 ⟨q1, o1 + Int.toNat i_1 * 3 + 2, none⟩ = some (.int .i64 n5) ∧
                      ∃ J2 : Option Addr → Option Addr → Bool → Heap → Prop,
                      (FnH Tryz.prog 5 #[.int .i64 n3, .int .i64 8] H6 fun r6 H7 =>
                        ∃ n6 : Int,
                        r6 = .int .i64 n6 ∧
                        br ((n6 : Int) == 0) (
                          br ((n6 : Int) == 0) (
                            (FnH Tryz.prog 9 #[.pointer c_1, .int .i64 n4, .int .i64 n5] H7 fun r7 H8 =>
                              ∃ n7 : Int,
                              r7 = .int .i64 n7 ∧
                              (FnH Tryz.prog 10 #[.pointer x_1, .int .i64 n4, .int .i64 n5] H8 fun r8 H9 =>
                                ∃ n8 : Int,
                                r8 = .int .i64 n8 ∧
                                SelfEq ([.v (.slice script.p script.n script.c), .v (.pointer p2), .v (.pointer p3), .v (.int .i64 i_1)], [some (36, [.int .i64 n3, .int .i64 n4, .int .i64 n5])], []) ∧
                                J2 c_1 x_1 ((n7 : Int) == n8) H9) ∧
                              FnH Tryz.prog 10 #[.pointer x_1, .int .i64 n4, .int .i64 n5] H8 fun r9 H10 =>
                                ∃ n9 : Int,
                                r9 = .int .i64 n9 ∧
                                SelfEq ([.v (.slice script.p script.n script.c), .v (.pointer p2), .v (.pointer p3), .v (.int .i64 i_1)], [some (36, [.int .i64 n3, .int .i64 n4, .int .i64 n5])], []) ∧
                                J2 c_1 x_1 ((n7 : Int) == n9) H10) ∧
                            (Sub H7 H7 ∧
                            (FnH Tryz.prog 9 #[.pointer c_1, .int .i64 n4, .int .i64 n5] H7 fun r10 H11 =>
                              ∃ n10 : Int,
                              r10 = .int .i64 n10 ∧
                              FnH Tryz.prog 10 #[.pointer x_1, .int .i64 n4, .int .i64 n5] H11 fun r11 H12 =>
                                ∃ n11 : Int,
                                r11 = .int .i64 n11 ∧
                                SelfEq ([.v (.slice script.p script.n script.c), .v (.pointer p2), .v (.pointer p3), .v (.int .i64 i_1)], [some (36, [.int .i64 n3, .int .i64 n4, .int .i64 n5])], []) ∧
                                J2 c_1 x_1 ((n10 : Int) == n11) H12) ∧
                            Sub H7 H7 ∧
                            FnH Tryz.prog 9 #[.pointer c_1, .int .i64 n4, .int .i64 n5] H7 fun r12 H13 =>
                              ∃ n12 : Int,
                              r12 = .int .i64 n12 ∧
                              FnH Tryz.prog 10 #[.pointer x_1, .int .i64 n4, .int .i64 n5] H13 fun r13 H14 =>
                                ∃ n13 : Int,
                                r13 = .int .i64 n13 ∧
                                SelfEq ([.v (.slice script.p script.n script.c), .v (.pointer p2), .v (.pointer p3), .v (.int .i64 i_1)], [some (36, [.int .i64 n3, .int .i64 n4, .int .i64 n5])], []) ∧
                                J2 c_1 x_1 ((n12 : Int) == n13) H14) ∧
                            Sub H7 H7 ∧
                            (FnH Tryz.prog 9 #[.pointer c_1, .int .i64 n4, .int .i64 n5] H7 fun r14 H15 =>
                              ∃ n14 : Int,
                              r14 = .int .i64 n14 ∧
                              FnH Tryz.prog 10 #[.pointer x_1, .int .i64 n4, .int .i64 n5] H15 fun r15 H16 =>
                                ∃ n15 : Int,
                                r15 = .int .i64 n15 ∧
                                SelfEq ([.v (.slice script.p script.n script.c), .v (.pointer p2), .v (.pointer p3), .v (.int .i64 i_1)], [some (36, [.int .i64 n3, .int .i64 n4, .int .i64 n5])], []) ∧
                                J2 c_1 x_1 ((n14 : Int) == n15) H16) ∧
                            Sub H7 H7 ∧
                            FnH Tryz.prog 9 #[.pointer c_1, .int .i64 n4, .int .i64 n5] H7 fun r16 H17 =>
                              ∃ n16 : Int,
                              r16 = .int .i64 n16 ∧
                              FnH Tryz.prog 10 #[.pointer x_1, .int .i64 n4, .int .i64 n5] H17 fun r17 H18 =>
                                ∃ n17 : Int,
                                r17 = .int .i64 n17 ∧
                                SelfEq ([.v (.slice script.p script.n script.c), .v (.pointer p2), .v (.pointer p3), .v (.int .i64 i_1)], [some (36, [.int .i64 n3, .int .i64 n4, .int .i64 n5])], []) ∧
                                J2 c_1 x_1 ((n16 : Int) == n17) H18)
                           (
                            br ((n6 : Int) == 3) (
                              (FnH Tryz.prog 11 #[.pointer c_1, .int .i64 n5] H7 fun r18 H19 =>
                                ∃ n18 : Int,
                                r18 = .int .i64 n18 ∧
                                FnH Tryz.prog 12 #[.pointer x_1, .int .i64 n5] H19 fun r19 H20 =>
                                  ∃ n19 : Int,
                                  r19 = .int .i64 n19 ∧
                                  SelfEq ([.v (.slice script.p script.n script.c), .v (.pointer p2), .v (.pointer p3), .v (.int .i64 i_1)], [some (36, [.int .i64 n3, .int .i64 n4, .int .i64 n5])], []) ∧
                                  J2 c_1 x_1 ((n18 : Int) == n19) H20) ∧
                              Sub H7 H7 ∧
                              FnH Tryz.prog 11 #[.pointer c_1, .int .i64 n5] H7 fun r20 H21 =>
                                ∃ n20 : Int,
                                r20 = .int .i64 n20 ∧
                                FnH Tryz.prog 12 #[.pointer x_1, .int .i64 n5] H21 fun r21 H22 =>
                                  ∃ n21 : Int,
                                  r21 = .int .i64 n21 ∧
                                  SelfEq ([.v (.slice script.p script.n script.c), .v (.pointer p2), .v (.pointer p3), .v (.int .i64 i_1)], [some (36, [.int .i64 n3, .int .i64 n4, .int .i64 n5])], []) ∧
                                  J2 c_1 x_1 ((n20 : Int) == n21) H22)
                             (
                              br ((n6 : Int) == 4) (
                                (FnH Tryz.prog 13 #[.pointer c_1, .int .i64 n5] H7 fun r22 H23 =>
                                  ∃ n22 : Int,
                                  r22 = .int .i64 n22 ∧
                                  FnH Tryz.prog 14 #[.pointer x_1, .int .i64 n5] H23 fun r23 H24 =>
                                    ∃ n23 : Int,
                                    r23 = .int .i64 n23 ∧
                                    SelfEq ([.v (.slice script.p script.n script.c), .v (.pointer p2), .v (.pointer p3), .v (.int .i64 i_1)], [some (36, [.int .i64 n3, .int .i64 n4, .int .i64 n5])], []) ∧
                                    J2 c_1 x_1 ((n22 : Int) == n23) H24) ∧
                                Sub H7 H7 ∧
                                FnH Tryz.prog 13 #[.pointer c_1, .int .i64 n5] H7 fun r24 H25 =>
                                  ∃ n24 : Int,
                                  r24 = .int .i64 n24 ∧
                                  FnH Tryz.prog 14 #[.pointer x_1, .int .i64 n5] H25 fun r25 H26 =>
                                    ∃ n25 : Int,
                                    r25 = .int .i64 n25 ∧
                                    SelfEq ([.v (.slice script.p script.n script.c), .v (.pointer p2), .v (.pointer p3), .v (.int .i64 i_1)], [some (36, [.int .i64 n3, .int .i64 n4, .int .i64 n5])], []) ∧
                                    J2 c_1 x_1 ((n24 : Int) == n25) H26)
                               (
                                br ((n6 : Int) == 5) (
                                  br ((n6 : Int) == 5) (
                                    FnH Tryz.prog 15 #[.pointer c_1, .int .i64 n4, .int .i64 n5] H7 fun r26 H27 =>
                                      ∃ n26 : Int,
                                      ∃ n27 : Int,
                                      r26 = .tuple #[.int .i64 n26, .int .i64 n27] ∧
                                      FnH Tryz.prog 16 #[.pointer x_1, .int .i64 n4, .int .i64 n5] H27 fun r27 H28 =>
                                        ∃ n28 : Int,
                                        ∃ n29 : Int,
                                        r27 = .tuple #[.int .i64 n28, .int .i64 n29] ∧
                                        br ((n26 : Int) == n28) (
                                          SelfEq ([.v (.slice script.p script.n script.c), .v (.pointer p2), .v (.pointer p3), .v (.int .i64 i_1)], [some (36, [.int .i64 n3, .int .i64 n4, .int .i64 n5])], []) ∧
                                          J2 c_1 x_1 ((n27 : Int) == n29) H28)
                                         (
                                          SelfEq ([.v (.slice script.p script.n script.c), .v (.pointer p2), .v (.pointer p3), .v (.int .i64 i_1)], [some (36, [.int .i64 n3, .int .i64 n4, .int .i64 n5])], []) ∧
                                          J2 c_1 x_1 false H28))
                                   (
                                    br ((n6 : Int) == 7) (
                                      FnH Tryz.prog 17 #[.pointer p2, .slice none 0 0] H7 fun r28 H29 =>
                                        r28 = .tuple #[] ∧
                                        FnH Tryz.prog 18 #[.pointer p3, .slice none 0 0] H29 fun r29 H30 =>
                                          r29 = .tuple #[] ∧
                                          FnH Tryz.prog 19 #[.pointer p2, .string (⟨#[101, 112, 111, 99, 104, 115]⟩ : ByteArray)] H30 fun r30 H31 =>
                                            ∃ p5 : Option Addr,
                                            ∃ n30 : Int,
                                            r30 = .tuple #[.pointer p5, .int .i64 n30] ∧
                                            FnH Tryz.prog 8 #[.pointer p3, .string (⟨#[101, 112, 111, 99, 104, 115]⟩ : ByteArray)] H31 fun r31 H32 =>
                                              ∃ p6 : Option Addr,
                                              ∃ n31 : Int,
                                              r31 = .tuple #[.pointer p6, .int .i64 n31] ∧
                                              br (Option.isNone p5) (
                                                K (.bool false) H32)
                                               (
                                                br ((n30 : Int) != 0) (
                                                  K (.bool false) H32)
                                                 (
                                                  br ((n31 : Int) != 0) (
                                                    K (.bool false) H32)
                                                   (
                                                    SelfEq ([.v (.slice script.p script.n script.c), .v (.pointer p2), .v (.pointer p3), .v (.int .i64 i_1)], [some (36, [.int .i64 n3, .int .i64 n4, .int .i64 n5])], []) ∧
                                                    J2 p5 p6 true H32))))
                                     (
                                      SelfEq ([.v (.slice script.p script.n script.c), .v (.pointer p2), .v (.pointer p3), .v (.int .i64 i_1)], [some (36, [.int .i64 n3, .int .i64 n4, .int .i64 n5])], []) ∧
                                      J2 c_1 x_1 true H7)))
                                 (
                                  br ((n6 : Int) == 6) (
                                    FnH Tryz.prog 15 #[.pointer c_1, .int .i64 n4, .int .i64 n5] H7 fun r32 H33 =>
                                      ∃ n32 : Int,
                                      ∃ n33 : Int,
                                      r32 = .tuple #[.int .i64 n32, .int .i64 n33] ∧
                                      FnH Tryz.prog 16 #[.pointer x_1, .int .i64 n4, .int .i64 n5] H33 fun r33 H34 =>
                                        ∃ n34 : Int,
                                        ∃ n35 : Int,
                                        r33 = .tuple #[.int .i64 n34, .int .i64 n35] ∧
                                        br ((n32 : Int) == n34) (
                                          SelfEq ([.v (.slice script.p script.n script.c), .v (.pointer p2), .v (.pointer p3), .v (.int .i64 i_1)], [some (36, [.int .i64 n3, .int .i64 n4, .int .i64 n5])], []) ∧
                                          J2 c_1 x_1 ((n33 : Int) == n35) H34)
                                         (
                                          SelfEq ([.v (.slice script.p script.n script.c), .v (.pointer p2), .v (.pointer p3), .v (.int .i64 i_1)], [some (36, [.int .i64 n3, .int .i64 n4, .int .i64 n5])], []) ∧
                                          J2 c_1 x_1 false H34))
                                   (
                                    br ((n6 : Int) == 7) (
                                      FnH Tryz.prog 17 #[.pointer p2, .slice none 0 0] H7 fun r34 H35 =>
                                        r34 = .tuple #[] ∧
                                        FnH Tryz.prog 18 #[.pointer p3, .slice none 0 0] H35 fun r35 H36 =>
                                          r35 = .tuple #[] ∧
                                          FnH Tryz.prog 19 #[.pointer p2, .string (⟨#[101, 112, 111, 99, 104, 115]⟩ : ByteArray)] H36 fun r36 H37 =>
                                            ∃ p7 : Option Addr,
                                            ∃ n36 : Int,
                                            r36 = .tuple #[.pointer p7, .int .i64 n36] ∧
                                            FnH Tryz.prog 8 #[.pointer p3, .string (⟨#[101, 112, 111, 99, 104, 115]⟩ : ByteArray)] H37 fun r37 H38 =>
                                              ∃ p8 : Option Addr,
                                              ∃ n37 : Int,
                                              r37 = .tuple #[.pointer p8, .int .i64 n37] ∧
                                              br (Option.isNone p7) (
                                                K (.bool false) H38)
                                               (
                                                br ((n36 : Int) != 0) (
                                                  K (.bool false) H38)
                                                 (
                                                  br ((n37 : Int) != 0) (
                                                    K (.bool false) H38)
                                                   (
                                                    SelfEq ([.v (.slice script.p script.n script.c), .v (.pointer p2), .v (.pointer p3), .v (.int .i64 i_1)], [some (36, [.int .i64 n3, .int .i64 n4, .int .i64 n5])], []) ∧
                                                    J2 p7 p8 true H38))))
                                     (
                                      SelfEq ([.v (.slice script.p script.n script.c), .v (.pointer p2), .v (.pointer p3), .v (.int .i64 i_1)], [some (36, [.int .i64 n3, .int .i64 n4, .int .i64 n5])], []) ∧
                                      J2 c_1 x_1 true H7)))))))
                         (
                          br ((n6 : Int) == 1) (
                            br ((n6 : Int) == 1) (
                              (FnH Tryz.prog 9 #[.pointer c_1, .int .i64 n4, .int .i64 n5] H7 fun r38 H39 =>
                                ∃ n38 : Int,
                                r38 = .int .i64 n38 ∧
                                (FnH Tryz.prog 10 #[.pointer x_1, .int .i64 n4, .int .i64 n5] H39 fun r39 H40 =>
                                  ∃ n39 : Int,
                                  r39 = .int .i64 n39 ∧
                                  SelfEq ([.v (.slice script.p script.n script.c), .v (.pointer p2), .v (.pointer p3), .v (.int .i64 i_1)], [some (36, [.int .i64 n3, .int .i64 n4, .int .i64 n5])], []) ∧
                                  J2 c_1 x_1 ((n38 : Int) == n39) H40) ∧
                                FnH Tryz.prog 10 #[.pointer x_1, .int .i64 n4, .int .i64 n5] H39 fun r40 H41 =>
                                  ∃ n40 : Int,
                                  r40 = .int .i64 n40 ∧
                                  SelfEq ([.v (.slice script.p script.n script.c), .v (.pointer p2), .v (.pointer p3), .v (.int .i64 i_1)], [some (36, [.int .i64 n3, .int .i64 n4, .int .i64 n5])], []) ∧
                                  J2 c_1 x_1 ((n38 : Int) == n40) H41) ∧
                              (Sub H7 H7 ∧
                              (FnH Tryz.prog 9 #[.pointer c_1, .int .i64 n4, .int .i64 n5] H7 fun r41 H42 =>
                                ∃ n41 : Int,
                                r41 = .int .i64 n41 ∧
                                FnH Tryz.prog 10 #[.pointer x_1, .int .i64 n4, .int .i64 n5] H42 fun r42 H43 =>
                                  ∃ n42 : Int,
                                  r42 = .int .i64 n42 ∧
                                  SelfEq ([.v (.slice script.p script.n script.c), .v (.pointer p2), .v (.pointer p3), .v (.int .i64 i_1)], [some (36, [.int .i64 n3, .int .i64 n4, .int .i64 n5])], []) ∧
                                  J2 c_1 x_1 ((n41 : Int) == n42) H43) ∧
                              Sub H7 H7 ∧
                              FnH Tryz.prog 9 #[.pointer c_1, .int .i64 n4, .int .i64 n5] H7 fun r43 H44 =>
                                ∃ n43 : Int,
                                r43 = .int .i64 n43 ∧
                                FnH Tryz.prog 10 #[.pointer x_1, .int .i64 n4, .int .i64 n5] H44 fun r44 H45 =>
                                  ∃ n44 : Int,
                                  r44 = .int .i64 n44 ∧
                                  SelfEq ([.v (.slice script.p script.n script.c), .v (.pointer p2), .v (.pointer p3), .v (.int .i64 i_1)], [some (36, [.int .i64 n3, .int .i64 n4, .int .i64 n5])], []) ∧
                                  J2 c_1 x_1 ((n43 : Int) == n44) H45) ∧
                              Sub H7 H7 ∧
                              (FnH Tryz.prog 9 #[.pointer c_1, .int .i64 n4, .int .i64 n5] H7 fun r45 H46 =>
                                ∃ n45 : Int,
                                r45 = .int .i64 n45 ∧
                                FnH Tryz.prog 10 #[.pointer x_1, .int .i64 n4, .int .i64 n5] H46 fun r46 H47 =>
                                  ∃ n46 : Int,
                                  r46 = .int .i64 n46 ∧
                                  SelfEq ([.v (.slice script.p script.n script.c), .v (.pointer p2), .v (.pointer p3), .v (.int .i64 i_1)], [some (36, [.int .i64 n3, .int .i64 n4, .int .i64 n5])], []) ∧
                                  J2 c_1 x_1 ((n45 : Int) == n46) H47) ∧
                              Sub H7 H7 ∧
                              FnH Tryz.prog 9 #[.pointer c_1, .int .i64 n4, .int .i64 n5] H7 fun r47 H48 =>
                                ∃ n47 : Int,
                                r47 = .int .i64 n47 ∧
                                FnH Tryz.prog 10 #[.pointer x_1, .int .i64 n4, .int .i64 n5] H48 fun r48 H49 =>
                                  ∃ n48 : Int,
                                  r48 = .int .i64 n48 ∧
                                  SelfEq ([.v (.slice script.p script.n script.c), .v (.pointer p2), .v (.pointer p3), .v (.int .i64 i_1)], [some (36, [.int .i64 n3, .int .i64 n4, .int .i64 n5])], []) ∧
                                  J2 c_1 x_1 ((n47 : Int) == n48) H49)
                             (
                              br ((n6 : Int) == 3) (
                                (FnH Tryz.prog 11 #[.pointer c_1, .int .i64 n5] H7 fun r49 H50 =>
                                  ∃ n49 : Int,
                                  r49 = .int .i64 n49 ∧
                                  FnH Tryz.prog 12 #[.pointer x_1, .int .i64 n5] H50 fun r50 H51 =>
                                    ∃ n50 : Int,
                                    r50 = .int .i64 n50 ∧
                                    SelfEq ([.v (.slice script.p script.n script.c), .v (.pointer p2), .v (.pointer p3), .v (.int .i64 i_1)], [some (36, [.int .i64 n3, .int .i64 n4, .int .i64 n5])], []) ∧
                                    J2 c_1 x_1 ((n49 : Int) == n50) H51) ∧
                                Sub H7 H7 ∧
                                FnH Tryz.prog 11 #[.pointer c_1, .int .i64 n5] H7 fun r51 H52 =>
                                  ∃ n51 : Int,
                                  r51 = .int .i64 n51 ∧
                                  FnH Tryz.prog 12 #[.pointer x_1, .int .i64 n5] H52 fun r52 H53 =>
                                    ∃ n52 : Int,
                                    r52 = .int .i64 n52 ∧
                                    SelfEq ([.v (.slice script.p script.n script.c), .v (.pointer p2), .v (.pointer p3), .v (.int .i64 i_1)], [some (36, [.int .i64 n3, .int .i64 n4, .int .i64 n5])], []) ∧
                                    J2 c_1 x_1 ((n51 : Int) == n52) H53)
                               (
                                br ((n6 : Int) == 4) (
                                  (FnH Tryz.prog 13 #[.pointer c_1, .int .i64 n5] H7 fun r53 H54 =>
                                    ∃ n53 : Int,
                                    r53 = .int .i64 n53 ∧
                                    FnH Tryz.prog 14 #[.pointer x_1, .int .i64 n5] H54 fun r54 H55 =>
                                      ∃ n54 : Int,
                                      r54 = .int .i64 n54 ∧
                                      SelfEq ([.v (.slice script.p script.n script.c), .v (.pointer p2), .v (.pointer p3), .v (.int .i64 i_1)], [some (36, [.int .i64 n3, .int .i64 n4, .int .i64 n5])], []) ∧
                                      J2 c_1 x_1 ((n53 : Int) == n54) H55) ∧
                                  Sub H7 H7 ∧
                                  FnH Tryz.prog 13 #[.pointer c_1, .int .i64 n5] H7 fun r55 H56 =>
                                    ∃ n55 : Int,
                                    r55 = .int .i64 n55 ∧
                                    FnH Tryz.prog 14 #[.pointer x_1, .int .i64 n5] H56 fun r56 H57 =>
                                      ∃ n56 : Int,
                                      r56 = .int .i64 n56 ∧
                                      SelfEq ([.v (.slice script.p script.n script.c), .v (.pointer p2), .v (.pointer p3), .v (.int .i64 i_1)], [some (36, [.int .i64 n3, .int .i64 n4, .int .i64 n5])], []) ∧
                                      J2 c_1 x_1 ((n55 : Int) == n56) H57)
                                 (
                                  br ((n6 : Int) == 5) (
                                    br ((n6 : Int) == 5) (
                                      FnH Tryz.prog 15 #[.pointer c_1, .int .i64 n4, .int .i64 n5] H7 fun r57 H58 =>
                                        ∃ n57 : Int,
                                        ∃ n58 : Int,
                                        r57 = .tuple #[.int .i64 n57, .int .i64 n58] ∧
                                        FnH Tryz.prog 16 #[.pointer x_1, .int .i64 n4, .int .i64 n5] H58 fun r58 H59 =>
                                          ∃ n59 : Int,
                                          ∃ n60 : Int,
                                          r58 = .tuple #[.int .i64 n59, .int .i64 n60] ∧
                                          br ((n57 : Int) == n59) (
                                            SelfEq ([.v (.slice script.p script.n script.c), .v (.pointer p2), .v (.pointer p3), .v (.int .i64 i_1)], [some (36, [.int .i64 n3, .int .i64 n4, .int .i64 n5])], []) ∧
                                            J2 c_1 x_1 ((n58 : Int) == n60) H59)
                                           (
                                            SelfEq ([.v (.slice script.p script.n script.c), .v (.pointer p2), .v (.pointer p3), .v (.int .i64 i_1)], [some (36, [.int .i64 n3, .int .i64 n4, .int .i64 n5])], []) ∧
                                            J2 c_1 x_1 false H59))
                                     (
                                      br ((n6 : Int) == 7) (
                                        FnH Tryz.prog 17 #[.pointer p2, .slice none 0 0] H7 fun r59 H60 =>
                                          r59 = .tuple #[] ∧
                                          FnH Tryz.prog 18 #[.pointer p3, .slice none 0 0] H60 fun r60 H61 =>
                                            r60 = .tuple #[] ∧
                                            FnH Tryz.prog 19 #[.pointer p2, .string (⟨#[101, 112, 111, 99, 104, 115]⟩ : ByteArray)] H61 fun r61 H62 =>
                                              ∃ p9 : Option Addr,
                                              ∃ n61 : Int,
                                              r61 = .tuple #[.pointer p9, .int .i64 n61] ∧
                                              FnH Tryz.prog 8 #[.pointer p3, .string (⟨#[101, 112, 111, 99, 104, 115]⟩ : ByteArray)] H62 fun r62 H63 =>
                                                ∃ p10 : Option Addr,
                                                ∃ n62 : Int,
                                                r62 = .tuple #[.pointer p10, .int .i64 n62] ∧
                                                br (Option.isNone p9) (
                                                  K (.bool false) H63)
                                                 (
                                                  br ((n61 : Int) != 0) (
                                                    K (.bool false) H63)
                                                   (
                                                    br ((n62 : Int) != 0) (
                                                      K (.bool false) H63)
                                                     (
                                                      SelfEq ([.v (.slice script.p script.n script.c), .v (.pointer p2), .v (.pointer p3), .v (.int .i64 i_1)], [some (36, [.int .i64 n3, .int .i64 n4, .int .i64 n5])], []) ∧
                                                      J2 p9 p10 true H63))))
                                       (
                                        SelfEq ([.v (.slice script.p script.n script.c), .v (.pointer p2), .v (.pointer p3), .v (.int .i64 i_1)], [some (36, [.int .i64 n3, .int .i64 n4, .int .i64 n5])], []) ∧
                                        J2 c_1 x_1 true H7)))
                                   (
                                    br ((n6 : Int) == 6) (
                                      FnH Tryz.prog 15 #[.pointer c_1, .int .i64 n4, .int .i64 n5] H7 fun r63 H64 =>
                                        ∃ n63 : Int,
                                        ∃ n64 : Int,
                                        r63 = .tuple #[.int .i64 n63, .int .i64 n64] ∧
                                        FnH Tryz.prog 16 #[.pointer x_1, .int .i64 n4, .int .i64 n5] H64 fun r64 H65 =>
                                          ∃ n65 : Int,
                                          ∃ n66 : Int,
                                          r64 = .tuple #[.int .i64 n65, .int .i64 n66] ∧
                                          br ((n63 : Int) == n65) (
                                            SelfEq ([.v (.slice script.p script.n script.c), .v (.pointer p2), .v (.pointer p3), .v (.int .i64 i_1)], [some (36, [.int .i64 n3, .int .i64 n4, .int .i64 n5])], []) ∧
                                            J2 c_1 x_1 ((n64 : Int) == n66) H65)
                                           (
                                            SelfEq ([.v (.slice script.p script.n script.c), .v (.pointer p2), .v (.pointer p3), .v (.int .i64 i_1)], [some (36, [.int .i64 n3, .int .i64 n4, .int .i64 n5])], []) ∧
                                            J2 c_1 x_1 false H65))
                                     (
                                      br ((n6 : Int) == 7) (
                                        FnH Tryz.prog 17 #[.pointer p2, .slice none 0 0] H7 fun r65 H66 =>
                                          r65 = .tuple #[] ∧
                                          FnH Tryz.prog 18 #[.pointer p3, .slice none 0 0] H66 fun r66 H67 =>
                                            r66 = .tuple #[] ∧
                                            FnH Tryz.prog 19 #[.pointer p2, .string (⟨#[101, 112, 111, 99, 104, 115]⟩ : ByteArray)] H67 fun r67 H68 =>
                                              ∃ p11 : Option Addr,
                                              ∃ n67 : Int,
                                              r67 = .tuple #[.pointer p11, .int .i64 n67] ∧
                                              FnH Tryz.prog 8 #[.pointer p3, .string (⟨#[101, 112, 111, 99, 104, 115]⟩ : ByteArray)] H68 fun r68 H69 =>
                                                ∃ p12 : Option Addr,
                                                ∃ n68 : Int,
                                                r68 = .tuple #[.pointer p12, .int .i64 n68] ∧
                                                br (Option.isNone p11) (
                                                  K (.bool false) H69)
                                                 (
                                                  br ((n67 : Int) != 0) (
                                                    K (.bool false) H69)
                                                   (
                                                    br ((n68 : Int) != 0) (
                                                      K (.bool false) H69)
                                                     (
                                                      SelfEq ([.v (.slice script.p script.n script.c), .v (.pointer p2), .v (.pointer p3), .v (.int .i64 i_1)], [some (36, [.int .i64 n3, .int .i64 n4, .int .i64 n5])], []) ∧
                                                      J2 p11 p12 true H69))))
                                       (
                                        SelfEq ([.v (.slice script.p script.n script.c), .v (.pointer p2), .v (.pointer p3), .v (.int .i64 i_1)], [some (36, [.int .i64 n3, .int .i64 n4, .int .i64 n5])], []) ∧
                                        J2 c_1 x_1 true H7)))))))
                           (
                            br ((n6 : Int) == 2) (
                              (FnH Tryz.prog 9 #[.pointer c_1, .int .i64 n4, .int .i64 n5] H7 fun r69 H70 =>
                                ∃ n69 : Int,
                                r69 = .int .i64 n69 ∧
                                (FnH Tryz.prog 10 #[.pointer x_1, .int .i64 n4, .int .i64 n5] H70 fun r70 H71 =>
                                  ∃ n70 : Int,
                                  r70 = .int .i64 n70 ∧
                                  SelfEq ([.v (.slice script.p script.n script.c), .v (.pointer p2), .v (.pointer p3), .v (.int .i64 i_1)], [some (36, [.int .i64 n3, .int .i64 n4, .int .i64 n5])], []) ∧
                                  J2 c_1 x_1 ((n69 : Int) == n70) H71) ∧
                                FnH Tryz.prog 10 #[.pointer x_1, .int .i64 n4, .int .i64 n5] H70 fun r71 H72 =>
                                  ∃ n71 : Int,
                                  r71 = .int .i64 n71 ∧
                                  SelfEq ([.v (.slice script.p script.n script.c), .v (.pointer p2), .v (.pointer p3), .v (.int .i64 i_1)], [some (36, [.int .i64 n3, .int .i64 n4, .int .i64 n5])], []) ∧
                                  J2 c_1 x_1 ((n69 : Int) == n71) H72) ∧
                              (Sub H7 H7 ∧
                              (FnH Tryz.prog 9 #[.pointer c_1, .int .i64 n4, .int .i64 n5] H7 fun r72 H73 =>
                                ∃ n72 : Int,
                                r72 = .int .i64 n72 ∧
                                FnH Tryz.prog 10 #[.pointer x_1, .int .i64 n4, .int .i64 n5] H73 fun r73 H74 =>
                                  ∃ n73 : Int,
                                  r73 = .int .i64 n73 ∧
                                  SelfEq ([.v (.slice script.p script.n script.c), .v (.pointer p2), .v (.pointer p3), .v (.int .i64 i_1)], [some (36, [.int .i64 n3, .int .i64 n4, .int .i64 n5])], []) ∧
                                  J2 c_1 x_1 ((n72 : Int) == n73) H74) ∧
                              Sub H7 H7 ∧
                              FnH Tryz.prog 9 #[.pointer c_1, .int .i64 n4, .int .i64 n5] H7 fun r74 H75 =>
                                ∃ n74 : Int,
                                r74 = .int .i64 n74 ∧
                                FnH Tryz.prog 10 #[.pointer x_1, .int .i64 n4, .int .i64 n5] H75 fun r75 H76 =>
                                  ∃ n75 : Int,
                                  r75 = .int .i64 n75 ∧
                                  SelfEq ([.v (.slice script.p script.n script.c), .v (.pointer p2), .v (.pointer p3), .v (.int .i64 i_1)], [some (36, [.int .i64 n3, .int .i64 n4, .int .i64 n5])], []) ∧
                                  J2 c_1 x_1 ((n74 : Int) == n75) H76) ∧
                              Sub H7 H7 ∧
                              (FnH Tryz.prog 9 #[.pointer c_1, .int .i64 n4, .int .i64 n5] H7 fun r76 H77 =>
                                ∃ n76 : Int,
                                r76 = .int .i64 n76 ∧
                                FnH Tryz.prog 10 #[.pointer x_1, .int .i64 n4, .int .i64 n5] H77 fun r77 H78 =>
                                  ∃ n77 : Int,
                                  r77 = .int .i64 n77 ∧
                                  SelfEq ([.v (.slice script.p script.n script.c), .v (.pointer p2), .v (.pointer p3), .v (.int .i64 i_1)], [some (36, [.int .i64 n3, .int .i64 n4, .int .i64 n5])], []) ∧
                                  J2 c_1 x_1 ((n76 : Int) == n77) H78) ∧
                              Sub H7 H7 ∧
                              FnH Tryz.prog 9 #[.pointer c_1, .int .i64 n4, .int .i64 n5] H7 fun r78 H79 =>
                                ∃ n78 : Int,
                                r78 = .int .i64 n78 ∧
                                FnH Tryz.prog 10 #[.pointer x_1, .int .i64 n4, .int .i64 n5] H79 fun r79 H80 =>
                                  ∃ n79 : Int,
                                  r79 = .int .i64 n79 ∧
                                  SelfEq ([.v (.slice script.p script.n script.c), .v (.pointer p2), .v (.pointer p3), .v (.int .i64 i_1)], [some (36, [.int .i64 n3, .int .i64 n4, .int .i64 n5])], []) ∧
                                  J2 c_1 x_1 ((n78 : Int) == n79) H80)
                             (
                              br ((n6 : Int) == 3) (
                                (FnH Tryz.prog 11 #[.pointer c_1, .int .i64 n5] H7 fun r80 H81 =>
                                  ∃ n80 : Int,
                                  r80 = .int .i64 n80 ∧
                                  FnH Tryz.prog 12 #[.pointer x_1, .int .i64 n5] H81 fun r81 H82 =>
                                    ∃ n81 : Int,
                                    r81 = .int .i64 n81 ∧
                                    SelfEq ([.v (.slice script.p script.n script.c), .v (.pointer p2), .v (.pointer p3), .v (.int .i64 i_1)], [some (36, [.int .i64 n3, .int .i64 n4, .int .i64 n5])], []) ∧
                                    J2 c_1 x_1 ((n80 : Int) == n81) H82) ∧
                                Sub H7 H7 ∧
                                FnH Tryz.prog 11 #[.pointer c_1, .int .i64 n5] H7 fun r82 H83 =>
                                  ∃ n82 : Int,
                                  r82 = .int .i64 n82 ∧
                                  FnH Tryz.prog 12 #[.pointer x_1, .int .i64 n5] H83 fun r83 H84 =>
                                    ∃ n83 : Int,
                                    r83 = .int .i64 n83 ∧
                                    SelfEq ([.v (.slice script.p script.n script.c), .v (.pointer p2), .v (.pointer p3), .v (.int .i64 i_1)], [some (36, [.int .i64 n3, .int .i64 n4, .int .i64 n5])], []) ∧
                                    J2 c_1 x_1 ((n82 : Int) == n83) H84)
                               (
                                br ((n6 : Int) == 4) (
                                  (FnH Tryz.prog 13 #[.pointer c_1, .int .i64 n5] H7 fun r84 H85 =>
                                    ∃ n84 : Int,
                                    r84 = .int .i64 n84 ∧
                                    FnH Tryz.prog 14 #[.pointer x_1, .int .i64 n5] H85 fun r85 H86 =>
                                      ∃ n85 : Int,
                                      r85 = .int .i64 n85 ∧
                                      SelfEq ([.v (.slice script.p script.n script.c), .v (.pointer p2), .v (.pointer p3), .v (.int .i64 i_1)], [some (36, [.int .i64 n3, .int .i64 n4, .int .i64 n5])], []) ∧
                                      J2 c_1 x_1 ((n84 : Int) == n85) H86) ∧
                                  Sub H7 H7 ∧
                                  FnH Tryz.prog 13 #[.pointer c_1, .int .i64 n5] H7 fun r86 H87 =>
                                    ∃ n86 : Int,
                                    r86 = .int .i64 n86 ∧
                                    FnH Tryz.prog 14 #[.pointer x_1, .int .i64 n5] H87 fun r87 H88 =>
                                      ∃ n87 : Int,
                                      r87 = .int .i64 n87 ∧
                                      SelfEq ([.v (.slice script.p script.n script.c), .v (.pointer p2), .v (.pointer p3), .v (.int .i64 i_1)], [some (36, [.int .i64 n3, .int .i64 n4, .int .i64 n5])], []) ∧
                                      J2 c_1 x_1 ((n86 : Int) == n87) H88)
                                 (
                                  br ((n6 : Int) == 5) (
                                    br ((n6 : Int) == 5) (
                                      FnH Tryz.prog 15 #[.pointer c_1, .int .i64 n4, .int .i64 n5] H7 fun r88 H89 =>
                                        ∃ n88 : Int,
                                        ∃ n89 : Int,
                                        r88 = .tuple #[.int .i64 n88, .int .i64 n89] ∧
                                        FnH Tryz.prog 16 #[.pointer x_1, .int .i64 n4, .int .i64 n5] H89 fun r89 H90 =>
                                          ∃ n90 : Int,
                                          ∃ n91 : Int,
                                          r89 = .tuple #[.int .i64 n90, .int .i64 n91] ∧
                                          br ((n88 : Int) == n90) (
                                            SelfEq ([.v (.slice script.p script.n script.c), .v (.pointer p2), .v (.pointer p3), .v (.int .i64 i_1)], [some (36, [.int .i64 n3, .int .i64 n4, .int .i64 n5])], []) ∧
                                            J2 c_1 x_1 ((n89 : Int) == n91) H90)
                                           (
                                            SelfEq ([.v (.slice script.p script.n script.c), .v (.pointer p2), .v (.pointer p3), .v (.int .i64 i_1)], [some (36, [.int .i64 n3, .int .i64 n4, .int .i64 n5])], []) ∧
                                            J2 c_1 x_1 false H90))
                                     (
                                      br ((n6 : Int) == 7) (
                                        FnH Tryz.prog 17 #[.pointer p2, .slice none 0 0] H7 fun r90 H91 =>
                                          r90 = .tuple #[] ∧
                                          FnH Tryz.prog 18 #[.pointer p3, .slice none 0 0] H91 fun r91 H92 =>
                                            r91 = .tuple #[] ∧
                                            FnH Tryz.prog 19 #[.pointer p2, .string (⟨#[101, 112, 111, 99, 104, 115]⟩ : ByteArray)] H92 fun r92 H93 =>
                                              ∃ p13 : Option Addr,
                                              ∃ n92 : Int,
                                              r92 = .tuple #[.pointer p13, .int .i64 n92] ∧
                                              FnH Tryz.prog 8 #[.pointer p3, .string (⟨#[101, 112, 111, 99, 104, 115]⟩ : ByteArray)] H93 fun r93 H94 =>
                                                ∃ p14 : Option Addr,
                                                ∃ n93 : Int,
                                                r93 = .tuple #[.pointer p14, .int .i64 n93] ∧
                                                br (Option.isNone p13) (
                                                  K (.bool false) H94)
                                                 (
                                                  br ((n92 : Int) != 0) (
                                                    K (.bool false) H94)
                                                   (
                                                    br ((n93 : Int) != 0) (
                                                      K (.bool false) H94)
                                                     (
                                                      SelfEq ([.v (.slice script.p script.n script.c), .v (.pointer p2), .v (.pointer p3), .v (.int .i64 i_1)], [some (36, [.int .i64 n3, .int .i64 n4, .int .i64 n5])], []) ∧
                                                      J2 p13 p14 true H94))))
                                       (
                                        SelfEq ([.v (.slice script.p script.n script.c), .v (.pointer p2), .v (.pointer p3), .v (.int .i64 i_1)], [some (36, [.int .i64 n3, .int .i64 n4, .int .i64 n5])], []) ∧
                                        J2 c_1 x_1 true H7)))
                                   (
                                    br ((n6 : Int) == 6) (
                                      FnH Tryz.prog 15 #[.pointer c_1, .int .i64 n4, .int .i64 n5] H7 fun r94 H95 =>
                                        ∃ n94 : Int,
                                        ∃ n95 : Int,
                                        r94 = .tuple #[.int .i64 n94, .int .i64 n95] ∧
                                        FnH Tryz.prog 16 #[.pointer x_1, .int .i64 n4, .int .i64 n5] H95 fun r95 H96 =>
                                          ∃ n96 : Int,
                                          ∃ n97 : Int,
                                          r95 = .tuple #[.int .i64 n96, .int .i64 n97] ∧
                                          br ((n94 : Int) == n96) (
                                            SelfEq ([.v (.slice script.p script.n script.c), .v (.pointer p2), .v (.pointer p3), .v (.int .i64 i_1)], [some (36, [.int .i64 n3, .int .i64 n4, .int .i64 n5])], []) ∧
                                            J2 c_1 x_1 ((n95 : Int) == n97) H96)
                                           (
                                            SelfEq ([.v (.slice script.p script.n script.c), .v (.pointer p2), .v (.pointer p3), .v (.int .i64 i_1)], [some (36, [.int .i64 n3, .int .i64 n4, .int .i64 n5])], []) ∧
                                            J2 c_1 x_1 false H96))
                                     (
                                      br ((n6 : Int) == 7) (
                                        FnH Tryz.prog 17 #[.pointer p2, .slice none 0 0] H7 fun r96 H97 =>
                                          r96 = .tuple #[] ∧
                                          FnH Tryz.prog 18 #[.pointer p3, .slice none 0 0] H97 fun r97 H98 =>
                                            r97 = .tuple #[] ∧
                                            FnH Tryz.prog 19 #[.pointer p2, .string (⟨#[101, 112, 111, 99, 104, 115]⟩ : ByteArray)] H98 fun r98 H99 =>
                                              ∃ p15 : Option Addr,
                                              ∃ n98 : Int,
                                              r98 = .tuple #[.pointer p15, .int .i64 n98] ∧
                                              FnH Tryz.prog 8 #[.pointer p3, .string (⟨#[101, 112, 111, 99, 104, 115]⟩ : ByteArray)] H99 fun r99 H100 =>
                                                ∃ p16 : Option Addr,
                                                ∃ n99 : Int,
                                                r99 = .tuple #[.pointer p16, .int .i64 n99] ∧
                                                br (Option.isNone p15) (
                                                  K (.bool false) H100)
                                                 (
                                                  br ((n98 : Int) != 0) (
                                                    K (.bool false) H100)
                                                   (
                                                    br ((n99 : Int) != 0) (
                                                      K (.bool false) H100)
                                                     (
                                                      SelfEq ([.v (.slice script.p script.n script.c), .v (.pointer p2), .v (.pointer p3), .v (.int .i64 i_1)], [some (36, [.int .i64 n3, .int .i64 n4, .int .i64 n5])], []) ∧
                                                      J2 p15 p16 true H100))))
                                       (
                                        SelfEq ([.v (.slice script.p script.n script.c), .v (.pointer p2), .v (.pointer p3), .v (.int .i64 i_1)], [some (36, [.int .i64 n3, .int .i64 n4, .int .i64 n5])], []) ∧
                                        J2 c_1 x_1 true H7))))))))) ∧
                      ∀ c_2 : Option Addr,
                      ∀ x_2 : Option Addr,
                      ∀ ok_1 : Bool,
                      ∀ H101 : Heap,
                      J2 c_2 x_2 ok_1 H101 →
                      FnH Tryz.prog 20 #[.pointer c_2] H101 fun r100 H102 =>
                        ∃ l1 : Sl,
                        r100 = .slice l1.p l1.n l1.c ∧
                        FnH Tryz.prog 22 #[.pointer x_2] H102 fun r101 H103 =>
                          ∃ l2 : Sl,
                          r101 = .slice l2.p l2.n l2.c ∧
                          FnH Tryz.prog 21 #[.slice l1.p l1.n l1.c, .slice l2.p l2.n l2.c] H103 fun r102 H104 =>
                            ∃ b2 : Bool,
                            r102 = .bool b2 ∧
                            FnH Tryz.prog 23 #[.pointer p2, .string (⟨#[101, 112, 111, 99, 104, 115]⟩ : ByteArray)] H104 fun r103 H105 =>
                              ∃ s1 : ByteArray,
                              ∃ n100 : Int,
                              r103 = .tuple #[.string s1, .int .i64 n100] ∧
                              FnH Tryz.prog 24 #[.pointer p3, .string (⟨#[101, 112, 111, 99, 104, 115]⟩ : ByteArray)] H105 fun r104 H106 =>
                                ∃ s2 : ByteArray,
                                ∃ n101 : Int,
                                r104 = .tuple #[.string s2, .int .i64 n101] ∧
                                br (!ok_1) (
                                  K (.bool false) H106)
                                 (
                                  br (!b2) (
                                    K (.bool false) H106)
                                   (
                                    FnH Tryz.prog 25 #[.pointer c_2] H106 fun r105 H107 =>
                                      ∃ n102 : Int,
                                      r105 = .int .i64 n102 ∧
                                      FnH Tryz.prog 26 #[.pointer x_2] H107 fun r106 H108 =>
                                        ∃ n103 : Int,
                                        r106 = .int .i64 n103 ∧
                                        br ((n102 : Int) != n103) (
                                          K (.bool false) H108)
                                         (
                                          br (!(s1.toList == s2.toList)) (
                                            K (.bool false) H108)
                                           (
                                            br ((n100 : Int) != n101) (
                                              K (.bool false) H108)
                                             (
                                              ∃ I2 : Int → Heap → Prop,
                                              ∃ M2 : Int → Heap → Nat,
                                              I2 0 H108 ∧
                                              ∀ k_1 : Int,
                                              ∀ H109 : Heap,
                                              I2 k_1 H109 →
                                              br (decide ((k_1 : Int) < (l1.n : Nat))) (
                                                ∃ q2 : Nat,
                                                ∃ o2 : Nat,
                                                (l1.p : Option Addr) = some ⟨q2, o2, none⟩ ∧
                                                0 ≤ (k_1 : Int) ∧
                                                (k_1 : Int) < (l1.n : Nat) ∧
                                                (∃ u, cellH H109 ⟨q2, o2 + Int.toNat k_1 * 3, none⟩ = some u) ∧
                                                frozenH H109 ⟨q2, o2 + Int.toNat k_1 * 3, none⟩ = false ∧
                                                letH (Heap.set H109 ⟨q2, o2 + Int.toNat k_1 * 3, none⟩ (.int .i64 99)) fun H110 =>
                                                SelfEq ([.v (.slice script.p script.n script.c), .v (.pointer c_2), .v (.pointer p2), .v (.pointer p3), .v (.pointer x_2), .v (.int .i64 i_1), .v (.slice l1.p l1.n l1.c)], [some (36, [.int .i64 n3, .int .i64 n4, .int .i64 n5])], []) ∧
                                                I2 (IntKind.wrap .i64 (k_1 + 1)) H110 ∧
                                                M2 (IntKind.wrap .i64 (k_1 + 1)) H110 < M2 k_1 H109)
                                               (
                                                SelfEq ([.v (.slice script.p script.n script.c), .v (.pointer p2), .v (.pointer p3)], [], []) ∧
                                                I1 c_2 x_2 (IntKind.wrap .i64 (i_1 + 1)) H109 ∧
                                                M1 c_2 x_2 (IntKind.wrap .i64 (i_1 + 1)) H109 < M1 c_1 x_1 i_1 H6)))))))
                     (
                      SelfEq ([], [], []) ∧
                      J1 H6))
                   (
                    SelfEq ([], [], []) ∧
                    J1 H6)) ∧
                  ∀ H111 : Heap,
                  J1 H111 →
                  K (.bool true) H111)))
theorem logboomlaw7_EpochPlays_eq (size : Int) (script : Sl) (H : Heap) (K : Value → Heap → Prop) : logboomlaw7_EpochPlays_vc size script H K = denFn Tryz.prog logboomlaw7_EpochPlays_ann Tryz.f3 (bodyOf Tryz.f3) [.int .i64 size, .slice script.p script.n script.c] H K := by kernel_rfl
theorem logboomlaw7_EpochPlays_fn (size : Int) (script : Sl) {H : Heap} {K : Value → Heap → Prop} (h : logboomlaw7_EpochPlays_vc size script H K) : FnH Tryz.prog 3 #[.int .i64 size, .slice script.p script.n script.c] H K :=
  denFn_fn Tryz.mixed logboomlaw7_EpochPlays_ann Tryz.func3 (bodyOf_spec (by kernel_rfl)) (logboomlaw7_EpochPlays_eq size script H K) h

end Go.Proofs.YtdgmifbcbmndgaaGreatDoor
