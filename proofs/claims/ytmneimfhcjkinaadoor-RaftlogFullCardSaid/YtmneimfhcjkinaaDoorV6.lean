/- Formulas of functions, printed by this session's vc.py; each is tied to the program by the kernel. -/
import Derived.Test.YtmneimfhcjkinaaDoorProg
import Derived.KernelRfl
import Derived.Test.YtmneimfhcjkinaaDoorHlFn
import Derived.Test.YtmneimfhcjkinaaDoorV5
namespace Go.Proofs.YtmneimfhcjkinaaDoor
open Go.HL
set_option maxRecDepth 100000
/-! function 5: logboom/logboomlaw9.RaftlogSurvives -/
def logboomlaw9_RaftlogSurvives_ann : Anns := { hid := [8, 13], loops := [(0, { slots := [(6, .ptr), (7, .int .i64)], kept := [0, 4], locs := [], keptL := [] })], joins := [((12, 2), { slots := [], kept := [0, 4, 6, 7, 8, 9, 10], locs := [], keptL := [0] }), ((11, 25), { slots := [], kept := [0, 4, 6, 7, 8], locs := [], keptL := [0] })], mix := [(17, [12]), (21, [13]), (34, []), (35, [])] }
def logboomlaw9_RaftlogSurvives_vc (script : Sl) (H : Heap) (K : Value → Heap → Prop) : Prop :=
  FnH Tryd.prog 6 #[] H fun r1 H1 =>
    ∃ b1 : Bool,
    r1 = .bool b1 ∧
    FnH Tryd.prog 7 #[.int .i64 1000000] H1 fun r2 H2 =>
      ∃ p1 : Option Addr,
      ∃ n1 : Int,
      r2 = .tuple #[.pointer p1, .int .i64 n1] ∧
      br (!b1) (
        K (.bool false) H2)
       (
        br (Option.isNone p1) (
          K (.bool false) H2)
         (
          br ((n1 : Int) != 0) (
            K (.bool false) H2)
           (
            FnH Tryd.prog 8 #[.pointer p1, .string (⟨#[114]⟩ : ByteArray)] H2 fun r3 H3 =>
              ∃ p2 : Option Addr,
              ∃ n2 : Int,
              r3 = .tuple #[.pointer p2, .int .i64 n2] ∧
              br (Option.isNone p2) (
                K (.bool false) H3)
               (
                br ((n2 : Int) != 0) (
                  K (.bool false) H3)
                 (
                  ∃ I1 : Option Addr → Int → Heap → Prop,
                  ∃ M1 : Option Addr → Int → Heap → Nat,
                  I1 p2 0 H3 ∧
                  ∀ l_1 : Option Addr,
                  ∀ i_1 : Int,
                  ∀ H4 : Heap,
                  I1 l_1 i_1 H4 →
                  br (decide ((i_1 : Int) < (script.n : Nat))) (
                    br (decide ((i_1 : Int) < 60)) (
                      ∃ q1 : Nat,
                      ∃ o1 : Nat,
                      (script.p : Option Addr) = some ⟨q1, o1, none⟩ ∧
                      0 ≤ (i_1 : Int) ∧
                      (i_1 : Int) < (script.n : Nat) ∧
                      ∃ n3 : Int,
                      cellH H4 ⟨q1, o1 + Int.toNat i_1 * 7, none⟩ = some (.int .i64 n3) ∧
                      ∃ n4 : Int,
                      cellH H4 ⟨q1, o1 + Int.toNat i_1 * 7 + 1, none⟩ = some (.int .i64 n4) ∧
                      ∃ n5 : Int,
                      cellH H4 ⟨q1, o1 + Int.toNat i_1 * 7 + 2, none⟩ = some (.int .i64 n5) ∧
                      ∃ s1 : ByteArray,
                      cellH H4 ⟨q1, o1 + Int.toNat i_1 * 7 + 3, none⟩ = some (.string s1) ∧
                      ∃ l1 : Sl,
                      cellH H4 ⟨q1, o1 + Int.toNat i_1 * 7 + 4, none⟩ = some (.slice l1.p l1.n l1.c) ∧
                      ∃ b2 : Bool,
                      cellH H4 ⟨q1, o1 + Int.toNat i_1 * 7 + 5, none⟩ = some (.bool b2) ∧
                      ∃ l2 : Sl,
                      cellH H4 ⟨q1, o1 + Int.toNat i_1 * 7 + 6, none⟩ = some (.slice l2.p l2.n l2.c) ∧
                      ptrm l_1 fun q2 o2 =>
                      FnH Tryd.prog 18 #[.pointer (some ⟨q2, o2, none⟩)] H4 fun r4 H5 =>
                        ∃ n6 : Int,
                        r4 = .int .i64 n6 ∧
                        ptrm l_1 fun q3 o3 =>
                        FnH Tryd.prog 19 #[.pointer (some ⟨q3, o3, none⟩)] H5 fun r5 H6 =>
                          ∃ n7 : Int,
                          r5 = .int .i64 n7 ∧
                          ptrm l_1 fun q4 o4 =>
                          FnH Tryd.prog 9 #[.pointer (some ⟨q4, o4, none⟩)] H6 fun r6 H7 =>
                            ∃ n8 : Int,
                            ∃ n9 : Int,
                            r6 = .tuple #[.int .i64 n8, .int .i64 n9] ∧
                            ∃ J1 : Heap → Prop,
                            (FnH Tryd.prog 10 #[.int .i64 n3, .int .i64 3] H7 fun r7 H8 =>
                              ∃ n10 : Int,
                              r7 = .int .i64 n10 ∧
                              br ((n10 : Int) == 0) (
                                FnH Tryd.prog 10 #[.int .i64 n4, .int .i64 4] H8 fun r8 H9 =>
                                  ∃ n11 : Int,
                                  r8 = .int .i64 n11 ∧
                                  Sub H8 H9 ∧
                                  FnH Tryd.prog 10 #[.int .i64 n5, .int .i64 2] H9 fun r9 H10 =>
                                    ∃ n12 : Int,
                                    r9 = .int .i64 n12 ∧
                                    Sub H8 H10 ∧
                                    FnH Tryd.prog 20 #[.int .i64 n8, .int .i64 n11, .int .i64 (IntKind.wrap .i64 (n9 + n12))] H10 fun r10 H11 =>
                                      ∃ l3 : Sl,
                                      r10 = .slice l3.p l3.n l3.c ∧
                                      Sub H8 H11 ∧
                                      FnH Tryd.prog 12 #[.pointer l_1, .int .i64 n8, .slice l3.p l3.n l3.c] H11 fun r11 H12 =>
                                        ∃ n13 : Int,
                                        r11 = .int .i64 n13 ∧
                                        SelfEq ([.v (.slice script.p script.n script.c), .v (.pointer p1), .v (.pointer l_1), .v (.int .i64 i_1), .loc 0 0, .v (.int .i64 n6), .v (.int .i64 n7)], [some (34, [.int .i64 n3, .int .i64 n4, .int .i64 n5, .string s1, .slice l1.p l1.n l1.c, .bool b2, .slice l2.p l2.n l2.c])], []) ∧
                                        J1 H12)
                               (
                                br ((n10 : Int) == 1) (
                                  FnH Tryd.prog 21 #[.pointer l_1, .int .i64 n4, .int .i64 n5] H8 fun r12 H13 =>
                                    ∃ n14 : Int,
                                    r12 = .int .i64 n14 ∧
                                    SelfEq ([.v (.slice script.p script.n script.c), .v (.pointer p1), .v (.pointer l_1), .v (.int .i64 i_1), .loc 0 0, .v (.int .i64 n6), .v (.int .i64 n7)], [some (34, [.int .i64 n3, .int .i64 n4, .int .i64 n5, .string s1, .slice l1.p l1.n l1.c, .bool b2, .slice l2.p l2.n l2.c])], []) ∧
                                    J1 H13)
                                 (
                                  br ((n10 : Int) == 2) (
                                    ptrm l_1 fun q5 o5 =>
                                    (FnH Tryd.prog 10 #[.int .i64 n4, .int .i64 (IntKind.wrap .i64 (n8 + 1))] H8 fun r13 H14 =>
                                      ∃ n15 : Int,
                                      r13 = .int .i64 n15 ∧
                                      Sub H8 H14 ∧
                                      (FnH Tryd.prog 16 #[.pointer (some ⟨q5, o5, none⟩), .int .i64 n15] H14 fun r14 H15 =>
                                        ∃ n16 : Int,
                                        ∃ n17 : Int,
                                        ∃ s2 : ByteArray,
                                        ∃ b3 : Bool,
                                        r14 = .tuple #[.agg #[.int .i64 n16, .int .i64 n17, .string s2], .bool b3] ∧
                                        Sub H8 H15 ∧
                                        Sub H8 H15 ∧
                                        br (b3) (
                                          FnH Tryd.prog 11 #[.pointer l_1, .int .i64 n17, .int .i64 n16, .string (⟨#[115, 116, 97, 116, 101]⟩ : ByteArray)] H15 fun r15 H16 =>
                                            ∃ n18 : Int,
                                            r15 = .int .i64 n18 ∧
                                            SelfEq ([.v (.slice script.p script.n script.c), .v (.pointer p1), .v (.pointer l_1), .v (.int .i64 i_1), .loc 0 0, .v (.int .i64 n6), .v (.int .i64 n7)], [some (34, [.int .i64 n3, .int .i64 n4, .int .i64 n5, .string s1, .slice l1.p l1.n l1.c, .bool b2, .slice l2.p l2.n l2.c])], []) ∧
                                            J1 H16)
                                         (
                                          SelfEq ([.v (.slice script.p script.n script.c), .v (.pointer p1), .v (.pointer l_1), .v (.int .i64 i_1), .loc 0 0, .v (.int .i64 n6), .v (.int .i64 n7)], [some (34, [.int .i64 n3, .int .i64 n4, .int .i64 n5, .string s1, .slice l1.p l1.n l1.c, .bool b2, .slice l2.p l2.n l2.c])], []) ∧
                                          J1 H15)) ∧
                                      Sub H8 H14 ∧
                                      FnH Tryd.prog 16 #[.pointer (some ⟨q5, o5, none⟩), .int .i64 n15] H14 fun r16 H17 =>
                                        ∃ n19 : Int,
                                        ∃ n20 : Int,
                                        ∃ s3 : ByteArray,
                                        ∃ b4 : Bool,
                                        r16 = .tuple #[.agg #[.int .i64 n19, .int .i64 n20, .string s3], .bool b4] ∧
                                        Sub H8 H17 ∧
                                        br (b4) (
                                          FnH Tryd.prog 11 #[.pointer l_1, .int .i64 n20, .int .i64 n19, .string (⟨#[115, 116, 97, 116, 101]⟩ : ByteArray)] H17 fun r17 H18 =>
                                            ∃ n21 : Int,
                                            r17 = .int .i64 n21 ∧
                                            SelfEq ([.v (.slice script.p script.n script.c), .v (.pointer p1), .v (.pointer l_1), .v (.int .i64 i_1), .loc 0 0, .v (.int .i64 n6), .v (.int .i64 n7)], [some (34, [.int .i64 n3, .int .i64 n4, .int .i64 n5, .string s1, .slice l1.p l1.n l1.c, .bool b2, .slice l2.p l2.n l2.c])], []) ∧
                                            J1 H18)
                                         (
                                          SelfEq ([.v (.slice script.p script.n script.c), .v (.pointer p1), .v (.pointer l_1), .v (.int .i64 i_1), .loc 0 0, .v (.int .i64 n6), .v (.int .i64 n7)], [some (34, [.int .i64 n3, .int .i64 n4, .int .i64 n5, .string s1, .slice l1.p l1.n l1.c, .bool b2, .slice l2.p l2.n l2.c])], []) ∧
                                          J1 H17)) ∧
                                    Sub H8 H8 ∧
                                    FnH Tryd.prog 10 #[.int .i64 n4, .int .i64 (IntKind.wrap .i64 (n8 + 1))] H8 fun r18 H19 =>
                                      ∃ n22 : Int,
                                      r18 = .int .i64 n22 ∧
                                      Sub H8 H19 ∧
                                      FnH Tryd.prog 16 #[.pointer (some ⟨q5, o5, none⟩), .int .i64 n22] H19 fun r19 H20 =>
                                        ∃ n23 : Int,
                                        ∃ n24 : Int,
                                        ∃ s4 : ByteArray,
                                        ∃ b5 : Bool,
                                        r19 = .tuple #[.agg #[.int .i64 n23, .int .i64 n24, .string s4], .bool b5] ∧
                                        Sub H8 H20 ∧
                                        br (b5) (
                                          FnH Tryd.prog 11 #[.pointer l_1, .int .i64 n24, .int .i64 n23, .string (⟨#[115, 116, 97, 116, 101]⟩ : ByteArray)] H20 fun r20 H21 =>
                                            ∃ n25 : Int,
                                            r20 = .int .i64 n25 ∧
                                            SelfEq ([.v (.slice script.p script.n script.c), .v (.pointer p1), .v (.pointer l_1), .v (.int .i64 i_1), .loc 0 0, .v (.int .i64 n6), .v (.int .i64 n7)], [some (34, [.int .i64 n3, .int .i64 n4, .int .i64 n5, .string s1, .slice l1.p l1.n l1.c, .bool b2, .slice l2.p l2.n l2.c])], []) ∧
                                            J1 H21)
                                         (
                                          SelfEq ([.v (.slice script.p script.n script.c), .v (.pointer p1), .v (.pointer l_1), .v (.int .i64 i_1), .loc 0 0, .v (.int .i64 n6), .v (.int .i64 n7)], [some (34, [.int .i64 n3, .int .i64 n4, .int .i64 n5, .string s1, .slice l1.p l1.n l1.c, .bool b2, .slice l2.p l2.n l2.c])], []) ∧
                                          J1 H20))
                                   (
                                    SelfEq ([.v (.slice script.p script.n script.c), .v (.pointer p1), .v (.pointer l_1), .v (.int .i64 i_1), .loc 0 0, .v (.int .i64 n6), .v (.int .i64 n7)], [some (34, [.int .i64 n3, .int .i64 n4, .int .i64 n5, .string s1, .slice l1.p l1.n l1.c, .bool b2, .slice l2.p l2.n l2.c])], []) ∧
                                    J1 H8)))) ∧
                            ∀ H22 : Heap,
                            J1 H22 →
                            ∃ J2 : Heap → Prop,
                            (ptrm l_1 fun q6 o6 =>
                            FnH Tryd.prog 18 #[.pointer (some ⟨q6, o6, none⟩)] H22 fun r21 H23 =>
                              ∃ n26 : Int,
                              r21 = .int .i64 n26 ∧
                              br (decide ((n26 : Int) < n6)) (
                                K (.bool false) H23)
                               (
                                ptrm l_1 fun q7 o7 =>
                                FnH Tryd.prog 18 #[.pointer (some ⟨q7, o7, none⟩)] H23 fun r22 H24 =>
                                  ∃ n27 : Int,
                                  r22 = .int .i64 n27 ∧
                                  br ((n27 : Int) == n6) (
                                    br ((n7 : Int) != 0) (
                                      ptrm l_1 fun q8 o8 =>
                                      FnH Tryd.prog 19 #[.pointer (some ⟨q8, o8, none⟩)] H24 fun r23 H25 =>
                                        ∃ n28 : Int,
                                        r23 = .int .i64 n28 ∧
                                        br ((n28 : Int) != n7) (
                                          K (.bool false) H25)
                                         (
                                          SelfEq ([.v (.slice script.p script.n script.c), .v (.pointer p1), .v (.pointer l_1), .v (.int .i64 i_1), .loc 0 0], [some (34, [.int .i64 n3, .int .i64 n4, .int .i64 n5, .string s1, .slice l1.p l1.n l1.c, .bool b2, .slice l2.p l2.n l2.c])], []) ∧
                                          J2 H25))
                                     (
                                      SelfEq ([.v (.slice script.p script.n script.c), .v (.pointer p1), .v (.pointer l_1), .v (.int .i64 i_1), .loc 0 0], [some (34, [.int .i64 n3, .int .i64 n4, .int .i64 n5, .string s1, .slice l1.p l1.n l1.c, .bool b2, .slice l2.p l2.n l2.c])], []) ∧
                                      J2 H24))
                                   (
                                    SelfEq ([.v (.slice script.p script.n script.c), .v (.pointer p1), .v (.pointer l_1), .v (.int .i64 i_1), .loc 0 0], [some (34, [.int .i64 n3, .int .i64 n4, .int .i64 n5, .string s1, .slice l1.p l1.n l1.c, .bool b2, .slice l2.p l2.n l2.c])], []) ∧
                                    J2 H24))) ∧
                            ∀ H26 : Heap,
                            J2 H26 →
                            FnH Tryd.prog 22 #[.pointer p1, .slice l2.p l2.n l2.c] H26 fun r24 H27 =>
                              r24 = .tuple #[] ∧
                              FnH Tryd.prog 8 #[.pointer p1, .string (⟨#[114]⟩ : ByteArray)] H27 fun r25 H28 =>
                                ∃ p3 : Option Addr,
                                ∃ n29 : Int,
                                r25 = .tuple #[.pointer p3, .int .i64 n29] ∧
                                br (Option.isNone p3) (
                                  K (.bool false) H28)
                                 (
                                  br ((n29 : Int) != 0) (
                                    K (.bool false) H28)
                                   (
                                    ptrm l_1 fun q9 o9 =>
                                    FnH Tryd.prog 9 #[.pointer (some ⟨q9, o9, none⟩)] H28 fun r26 H29 =>
                                      ∃ n30 : Int,
                                      ∃ n31 : Int,
                                      r26 = .tuple #[.int .i64 n30, .int .i64 n31] ∧
                                      ptrm p3 fun q10 o10 =>
                                      FnH Tryd.prog 9 #[.pointer (some ⟨q10, o10, none⟩)] H29 fun r27 H30 =>
                                        ∃ n32 : Int,
                                        ∃ n33 : Int,
                                        r27 = .tuple #[.int .i64 n32, .int .i64 n33] ∧
                                        ptrm l_1 fun q11 o11 =>
                                        FnH Tryd.prog 13 #[.pointer (some ⟨q11, o11, none⟩)] H30 fun r28 H31 =>
                                          ∃ n34 : Int,
                                          ∃ n35 : Int,
                                          ∃ s5 : ByteArray,
                                          r28 = .tuple #[.int .i64 n34, .int .i64 n35, .string s5] ∧
                                          ptrm p3 fun q12 o12 =>
                                          FnH Tryd.prog 13 #[.pointer (some ⟨q12, o12, none⟩)] H31 fun r29 H32 =>
                                            ∃ n36 : Int,
                                            ∃ n37 : Int,
                                            ∃ s6 : ByteArray,
                                            r29 = .tuple #[.int .i64 n36, .int .i64 n37, .string s6] ∧
                                            ptrm l_1 fun q13 o13 =>
                                            ptrm l_1 fun q14 o14 =>
                                            ptrm p3 fun q15 o15 =>
                                            ptrm p3 fun q16 o16 =>
                                            FnH Tryd.prog 15 #[.pointer (some ⟨q14, o14, none⟩)] H32 fun r30 H33 =>
                                              ∃ n38 : Int,
                                              r30 = .int .i64 n38 ∧
                                              Sub H32 H33 ∧
                                              FnH Tryd.prog 14 #[.pointer (some ⟨q13, o13, none⟩), .int .i64 n38, .int .i64 1000000] H33 fun r31 H34 =>
                                                ∃ l4 : Sl,
                                                r31 = .slice l4.p l4.n l4.c ∧
                                                Sub H32 H34 ∧
                                                FnH Tryd.prog 15 #[.pointer (some ⟨q16, o16, none⟩)] H34 fun r32 H35 =>
                                                  ∃ n39 : Int,
                                                  r32 = .int .i64 n39 ∧
                                                  Sub H32 H35 ∧
                                                  FnH Tryd.prog 14 #[.pointer (some ⟨q15, o15, none⟩), .int .i64 n39, .int .i64 1000000] H35 fun r33 H36 =>
                                                    ∃ l5 : Sl,
                                                    r33 = .slice l5.p l5.n l5.c ∧
                                                    Sub H32 H36 ∧
                                                    FnH Tryd.prog 17 #[.slice l4.p l4.n l4.c, .slice l5.p l5.n l5.c] H36 fun r34 H37 =>
                                                      ∃ b6 : Bool,
                                                      r34 = .bool b6 ∧
                                                      Sub H32 H37 ∧
                                                      br ((n30 : Int) != n32) (
                                                        K (.bool false) H37)
                                                       (
                                                        br ((n31 : Int) != n33) (
                                                          K (.bool false) H37)
                                                         (
                                                          br ((n34 : Int) != n36) (
                                                            K (.bool false) H37)
                                                           (
                                                            br ((n35 : Int) != n37) (
                                                              K (.bool false) H37)
                                                             (
                                                              br (!(s5.toList == s6.toList)) (
                                                                K (.bool false) H37)
                                                               (
                                                                br (!b6) (
                                                                  K (.bool false) H37)
                                                                 (
                                                                  ptrm l_1 fun q17 o17 =>
                                                                  ptrm p3 fun q18 o18 =>
                                                                  FnH Tryd.prog 18 #[.pointer (some ⟨q17, o17, none⟩)] H37 fun r35 H38 =>
                                                                    ∃ n40 : Int,
                                                                    r35 = .int .i64 n40 ∧
                                                                    Sub H37 H38 ∧
                                                                    FnH Tryd.prog 18 #[.pointer (some ⟨q18, o18, none⟩)] H38 fun r36 H39 =>
                                                                      ∃ n41 : Int,
                                                                      r36 = .int .i64 n41 ∧
                                                                      Sub H37 H39 ∧
                                                                      br ((n40 : Int) != n41) (
                                                                        K (.bool false) H39)
                                                                       (
                                                                        ptrm l_1 fun q19 o19 =>
                                                                        ptrm p3 fun q20 o20 =>
                                                                        FnH Tryd.prog 19 #[.pointer (some ⟨q19, o19, none⟩)] H39 fun r37 H40 =>
                                                                          ∃ n42 : Int,
                                                                          r37 = .int .i64 n42 ∧
                                                                          Sub H37 H40 ∧
                                                                          FnH Tryd.prog 19 #[.pointer (some ⟨q20, o20, none⟩)] H40 fun r38 H41 =>
                                                                            ∃ n43 : Int,
                                                                            r38 = .int .i64 n43 ∧
                                                                            Sub H37 H41 ∧
                                                                            br ((n42 : Int) != n43) (
                                                                              K (.bool false) H41)
                                                                             (
                                                                              ptrm l_1 fun q21 o21 =>
                                                                              ptrm p3 fun q22 o22 =>
                                                                              FnH Tryd.prog 15 #[.pointer (some ⟨q21, o21, none⟩)] H41 fun r39 H42 =>
                                                                                ∃ n44 : Int,
                                                                                r39 = .int .i64 n44 ∧
                                                                                Sub H37 H42 ∧
                                                                                FnH Tryd.prog 15 #[.pointer (some ⟨q22, o22, none⟩)] H42 fun r40 H43 =>
                                                                                  ∃ n45 : Int,
                                                                                  r40 = .int .i64 n45 ∧
                                                                                  Sub H37 H43 ∧
                                                                                  br ((n44 : Int) != n45) (
                                                                                    K (.bool false) H43)
                                                                                   (
                                                                                    SelfEq ([.v (.slice script.p script.n script.c), .v (.pointer p1)], [], []) ∧
                                                                                    I1 p3 (IntKind.wrap .i64 (i_1 + 1)) H43 ∧
                                                                                    M1 p3 (IntKind.wrap .i64 (i_1 + 1)) H43 < M1 l_1 i_1 H4))))))))))))
                     (
                      K (.bool true) H4))
                   (
                    K (.bool true) H4))))))
theorem logboomlaw9_RaftlogSurvives_eq (script : Sl) (H : Heap) (K : Value → Heap → Prop) : logboomlaw9_RaftlogSurvives_vc script H K = denFn Tryd.prog logboomlaw9_RaftlogSurvives_ann Tryd.f5 (bodyOf Tryd.f5) [.slice script.p script.n script.c] H K := by kernel_rfl
theorem logboomlaw9_RaftlogSurvives_fn (script : Sl) {H : Heap} {K : Value → Heap → Prop} (h : logboomlaw9_RaftlogSurvives_vc script H K) : FnH Tryd.prog 5 #[.slice script.p script.n script.c] H K :=
  denFn_fn Tryd.mixed logboomlaw9_RaftlogSurvives_ann Tryd.func5 (bodyOf_spec (by kernel_rfl)) (logboomlaw9_RaftlogSurvives_eq script H K) h

end Go.Proofs.YtmneimfhcjkinaaDoor
