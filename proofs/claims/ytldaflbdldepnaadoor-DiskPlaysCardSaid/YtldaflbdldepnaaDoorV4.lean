/- Formulas of functions, printed by this session's vc.py; each is tied to the program by the kernel. -/
import Derived.Test.YtldaflbdldepnaaDoorProg
import Derived.KernelRfl
import Derived.Test.YtldaflbdldepnaaDoorHlFn
import Derived.Test.YtldaflbdldepnaaDoorV3
namespace Go.Proofs.YtldaflbdldepnaaDoor
open Go.HL
set_option maxRecDepth 100000
/-! function 22: logboom/logboomlaw1.does -/
def logboomlaw1_does_ann : Anns := { hid := [5], loops := [], joins := [], mix := [(5, [5, 11]), (8, [3, 7]), (10, [5, 11]), (12, [5, 11]), (14, [5, 11]), (17, [3, 7]), (20, [])] }
def logboomlaw1_does_vc (d0 : Nat) (d0o : Nat) (r : Nat) (ro : Nat) (o_0 : Int) (o_1 : ByteArray) (o_2 : ByteArray) (o_3 : Int) (o_4 : Sl) (H : Heap) (K : Value → Heap → Prop) : Prop :=
  FnH Tryd.prog 11 #[.int .i64 o_0, .int .i64 10] H fun r1 H1 =>
    ∃ n1 : Int,
    r1 = .int .i64 n1 ∧
    br ((n1 : Int) == 0) (
      br ((n1 : Int) == 0) (
        (FnH Tryd.prog 13 #[.pointer (some ⟨d0, d0o, none⟩), .string o_1, .string o_2] H1 fun r2 H2 =>
          ∃ n2 : Int,
          r2 = .int .i64 n2 ∧
          (FnH Tryd.prog 33 #[.pointer (some ⟨r, ro, none⟩), .string o_1, .string o_2] H2 fun r3 H3 =>
            ∃ n3 : Int,
            r3 = .int .i64 n3 ∧
            K (.bool ((n2 : Int) == n3)) H3) ∧
          FnH Tryd.prog 33 #[.pointer (some ⟨r, ro, none⟩), .string o_1, .string o_2] H2 fun r4 H4 =>
            ∃ n4 : Int,
            r4 = .int .i64 n4 ∧
            K (.bool ((n2 : Int) == n4)) H4) ∧
        (Sub H1 H1 ∧
        (FnH Tryd.prog 13 #[.pointer (some ⟨d0, d0o, none⟩), .string o_1, .string o_2] H1 fun r5 H5 =>
          ∃ n5 : Int,
          r5 = .int .i64 n5 ∧
          FnH Tryd.prog 33 #[.pointer (some ⟨r, ro, none⟩), .string o_1, .string o_2] H5 fun r6 H6 =>
            ∃ n6 : Int,
            r6 = .int .i64 n6 ∧
            K (.bool ((n5 : Int) == n6)) H6) ∧
        Sub H1 H1 ∧
        FnH Tryd.prog 13 #[.pointer (some ⟨d0, d0o, none⟩), .string o_1, .string o_2] H1 fun r7 H7 =>
          ∃ n7 : Int,
          r7 = .int .i64 n7 ∧
          FnH Tryd.prog 33 #[.pointer (some ⟨r, ro, none⟩), .string o_1, .string o_2] H7 fun r8 H8 =>
            ∃ n8 : Int,
            r8 = .int .i64 n8 ∧
            K (.bool ((n7 : Int) == n8)) H8) ∧
        Sub H1 H1 ∧
        (FnH Tryd.prog 13 #[.pointer (some ⟨d0, d0o, none⟩), .string o_1, .string o_2] H1 fun r9 H9 =>
          ∃ n9 : Int,
          r9 = .int .i64 n9 ∧
          FnH Tryd.prog 33 #[.pointer (some ⟨r, ro, none⟩), .string o_1, .string o_2] H9 fun r10 H10 =>
            ∃ n10 : Int,
            r10 = .int .i64 n10 ∧
            K (.bool ((n9 : Int) == n10)) H10) ∧
        Sub H1 H1 ∧
        FnH Tryd.prog 13 #[.pointer (some ⟨d0, d0o, none⟩), .string o_1, .string o_2] H1 fun r11 H11 =>
          ∃ n11 : Int,
          r11 = .int .i64 n11 ∧
          FnH Tryd.prog 33 #[.pointer (some ⟨r, ro, none⟩), .string o_1, .string o_2] H11 fun r12 H12 =>
            ∃ n12 : Int,
            r12 = .int .i64 n12 ∧
            K (.bool ((n11 : Int) == n12)) H12)
       (
        br ((n1 : Int) == 3) (
          br ((n1 : Int) == 3) (
            (FnH Tryd.prog 14 #[.pointer (some ⟨d0, d0o, none⟩), .string o_1] H1 fun r13 H13 =>
              ∃ n13 : Int,
              r13 = .int .i64 n13 ∧
              FnH Tryd.prog 34 #[.pointer (some ⟨r, ro, none⟩), .string o_1] H13 fun r14 H14 =>
                ∃ n14 : Int,
                r14 = .int .i64 n14 ∧
                K (.bool ((n13 : Int) == n14)) H14) ∧
            Sub H1 H1 ∧
            FnH Tryd.prog 14 #[.pointer (some ⟨d0, d0o, none⟩), .string o_1] H1 fun r15 H15 =>
              ∃ n15 : Int,
              r15 = .int .i64 n15 ∧
              FnH Tryd.prog 34 #[.pointer (some ⟨r, ro, none⟩), .string o_1] H15 fun r16 H16 =>
                ∃ n16 : Int,
                r16 = .int .i64 n16 ∧
                K (.bool ((n15 : Int) == n16)) H16)
           (
            br ((n1 : Int) == 5) (
              (FnH Tryd.prog 35 #[.pointer (some ⟨d0, d0o, none⟩), .string o_1, .int .i64 o_3] H1 fun r17 H17 =>
                ∃ n17 : Int,
                r17 = .int .i64 n17 ∧
                (FnH Tryd.prog 36 #[.pointer (some ⟨r, ro, none⟩), .string o_1, .int .i64 o_3] H17 fun r18 H18 =>
                  ∃ n18 : Int,
                  r18 = .int .i64 n18 ∧
                  K (.bool ((n17 : Int) == n18)) H18) ∧
                FnH Tryd.prog 36 #[.pointer (some ⟨r, ro, none⟩), .string o_1, .int .i64 o_3] H17 fun r19 H19 =>
                  ∃ n19 : Int,
                  r19 = .int .i64 n19 ∧
                  K (.bool ((n17 : Int) == n19)) H19) ∧
              (Sub H1 H1 ∧
              (FnH Tryd.prog 35 #[.pointer (some ⟨d0, d0o, none⟩), .string o_1, .int .i64 o_3] H1 fun r20 H20 =>
                ∃ n20 : Int,
                r20 = .int .i64 n20 ∧
                FnH Tryd.prog 36 #[.pointer (some ⟨r, ro, none⟩), .string o_1, .int .i64 o_3] H20 fun r21 H21 =>
                  ∃ n21 : Int,
                  r21 = .int .i64 n21 ∧
                  K (.bool ((n20 : Int) == n21)) H21) ∧
              Sub H1 H1 ∧
              FnH Tryd.prog 35 #[.pointer (some ⟨d0, d0o, none⟩), .string o_1, .int .i64 o_3] H1 fun r22 H22 =>
                ∃ n22 : Int,
                r22 = .int .i64 n22 ∧
                FnH Tryd.prog 36 #[.pointer (some ⟨r, ro, none⟩), .string o_1, .int .i64 o_3] H22 fun r23 H23 =>
                  ∃ n23 : Int,
                  r23 = .int .i64 n23 ∧
                  K (.bool ((n22 : Int) == n23)) H23) ∧
              Sub H1 H1 ∧
              (FnH Tryd.prog 35 #[.pointer (some ⟨d0, d0o, none⟩), .string o_1, .int .i64 o_3] H1 fun r24 H24 =>
                ∃ n24 : Int,
                r24 = .int .i64 n24 ∧
                FnH Tryd.prog 36 #[.pointer (some ⟨r, ro, none⟩), .string o_1, .int .i64 o_3] H24 fun r25 H25 =>
                  ∃ n25 : Int,
                  r25 = .int .i64 n25 ∧
                  K (.bool ((n24 : Int) == n25)) H25) ∧
              Sub H1 H1 ∧
              FnH Tryd.prog 35 #[.pointer (some ⟨d0, d0o, none⟩), .string o_1, .int .i64 o_3] H1 fun r26 H26 =>
                ∃ n26 : Int,
                r26 = .int .i64 n26 ∧
                FnH Tryd.prog 36 #[.pointer (some ⟨r, ro, none⟩), .string o_1, .int .i64 o_3] H26 fun r27 H27 =>
                  ∃ n27 : Int,
                  r27 = .int .i64 n27 ∧
                  K (.bool ((n26 : Int) == n27)) H27)
             (
              br ((n1 : Int) == 6) (
                (FnH Tryd.prog 19 #[.pointer (some ⟨d0, d0o, none⟩), .string o_1, .string o_2] H1 fun r28 H28 =>
                  ∃ n28 : Int,
                  r28 = .int .i64 n28 ∧
                  (FnH Tryd.prog 37 #[.pointer (some ⟨r, ro, none⟩), .string o_1, .string o_2] H28 fun r29 H29 =>
                    ∃ n29 : Int,
                    r29 = .int .i64 n29 ∧
                    K (.bool ((n28 : Int) == n29)) H29) ∧
                  FnH Tryd.prog 37 #[.pointer (some ⟨r, ro, none⟩), .string o_1, .string o_2] H28 fun r30 H30 =>
                    ∃ n30 : Int,
                    r30 = .int .i64 n30 ∧
                    K (.bool ((n28 : Int) == n30)) H30) ∧
                (Sub H1 H1 ∧
                (FnH Tryd.prog 19 #[.pointer (some ⟨d0, d0o, none⟩), .string o_1, .string o_2] H1 fun r31 H31 =>
                  ∃ n31 : Int,
                  r31 = .int .i64 n31 ∧
                  FnH Tryd.prog 37 #[.pointer (some ⟨r, ro, none⟩), .string o_1, .string o_2] H31 fun r32 H32 =>
                    ∃ n32 : Int,
                    r32 = .int .i64 n32 ∧
                    K (.bool ((n31 : Int) == n32)) H32) ∧
                Sub H1 H1 ∧
                FnH Tryd.prog 19 #[.pointer (some ⟨d0, d0o, none⟩), .string o_1, .string o_2] H1 fun r33 H33 =>
                  ∃ n33 : Int,
                  r33 = .int .i64 n33 ∧
                  FnH Tryd.prog 37 #[.pointer (some ⟨r, ro, none⟩), .string o_1, .string o_2] H33 fun r34 H34 =>
                    ∃ n34 : Int,
                    r34 = .int .i64 n34 ∧
                    K (.bool ((n33 : Int) == n34)) H34) ∧
                Sub H1 H1 ∧
                (FnH Tryd.prog 19 #[.pointer (some ⟨d0, d0o, none⟩), .string o_1, .string o_2] H1 fun r35 H35 =>
                  ∃ n35 : Int,
                  r35 = .int .i64 n35 ∧
                  FnH Tryd.prog 37 #[.pointer (some ⟨r, ro, none⟩), .string o_1, .string o_2] H35 fun r36 H36 =>
                    ∃ n36 : Int,
                    r36 = .int .i64 n36 ∧
                    K (.bool ((n35 : Int) == n36)) H36) ∧
                Sub H1 H1 ∧
                FnH Tryd.prog 19 #[.pointer (some ⟨d0, d0o, none⟩), .string o_1, .string o_2] H1 fun r37 H37 =>
                  ∃ n37 : Int,
                  r37 = .int .i64 n37 ∧
                  FnH Tryd.prog 37 #[.pointer (some ⟨r, ro, none⟩), .string o_1, .string o_2] H37 fun r38 H38 =>
                    ∃ n38 : Int,
                    r38 = .int .i64 n38 ∧
                    K (.bool ((n37 : Int) == n38)) H38)
               (
                br ((n1 : Int) == 7) (
                  (FnH Tryd.prog 38 #[.pointer (some ⟨d0, d0o, none⟩), .string o_1, .string o_2] H1 fun r39 H39 =>
                    ∃ n39 : Int,
                    r39 = .int .i64 n39 ∧
                    (FnH Tryd.prog 39 #[.pointer (some ⟨r, ro, none⟩), .string o_1, .string o_2] H39 fun r40 H40 =>
                      ∃ n40 : Int,
                      r40 = .int .i64 n40 ∧
                      K (.bool ((n39 : Int) == n40)) H40) ∧
                    FnH Tryd.prog 39 #[.pointer (some ⟨r, ro, none⟩), .string o_1, .string o_2] H39 fun r41 H41 =>
                      ∃ n41 : Int,
                      r41 = .int .i64 n41 ∧
                      K (.bool ((n39 : Int) == n41)) H41) ∧
                  (Sub H1 H1 ∧
                  (FnH Tryd.prog 38 #[.pointer (some ⟨d0, d0o, none⟩), .string o_1, .string o_2] H1 fun r42 H42 =>
                    ∃ n42 : Int,
                    r42 = .int .i64 n42 ∧
                    FnH Tryd.prog 39 #[.pointer (some ⟨r, ro, none⟩), .string o_1, .string o_2] H42 fun r43 H43 =>
                      ∃ n43 : Int,
                      r43 = .int .i64 n43 ∧
                      K (.bool ((n42 : Int) == n43)) H43) ∧
                  Sub H1 H1 ∧
                  FnH Tryd.prog 38 #[.pointer (some ⟨d0, d0o, none⟩), .string o_1, .string o_2] H1 fun r44 H44 =>
                    ∃ n44 : Int,
                    r44 = .int .i64 n44 ∧
                    FnH Tryd.prog 39 #[.pointer (some ⟨r, ro, none⟩), .string o_1, .string o_2] H44 fun r45 H45 =>
                      ∃ n45 : Int,
                      r45 = .int .i64 n45 ∧
                      K (.bool ((n44 : Int) == n45)) H45) ∧
                  Sub H1 H1 ∧
                  (FnH Tryd.prog 38 #[.pointer (some ⟨d0, d0o, none⟩), .string o_1, .string o_2] H1 fun r46 H46 =>
                    ∃ n46 : Int,
                    r46 = .int .i64 n46 ∧
                    FnH Tryd.prog 39 #[.pointer (some ⟨r, ro, none⟩), .string o_1, .string o_2] H46 fun r47 H47 =>
                      ∃ n47 : Int,
                      r47 = .int .i64 n47 ∧
                      K (.bool ((n46 : Int) == n47)) H47) ∧
                  Sub H1 H1 ∧
                  FnH Tryd.prog 38 #[.pointer (some ⟨d0, d0o, none⟩), .string o_1, .string o_2] H1 fun r48 H48 =>
                    ∃ n48 : Int,
                    r48 = .int .i64 n48 ∧
                    FnH Tryd.prog 39 #[.pointer (some ⟨r, ro, none⟩), .string o_1, .string o_2] H48 fun r49 H49 =>
                      ∃ n49 : Int,
                      r49 = .int .i64 n49 ∧
                      K (.bool ((n48 : Int) == n49)) H49)
                 (
                  br ((n1 : Int) == 8) (
                    (2 : Int) ≠ 0 ∧
                    br (((Int.tmod o_3 2) : Int) == 0) (
                      (FnH Tryd.prog 40 #[.pointer (some ⟨d0, d0o, none⟩), .string o_1] H1 fun r50 H50 =>
                        ∃ n50 : Int,
                        r50 = .int .i64 n50 ∧
                        FnH Tryd.prog 41 #[.pointer (some ⟨r, ro, none⟩), .string o_1] H50 fun r51 H51 =>
                          ∃ n51 : Int,
                          r51 = .int .i64 n51 ∧
                          K (.bool ((n50 : Int) == n51)) H51) ∧
                      Sub H1 H1 ∧
                      FnH Tryd.prog 40 #[.pointer (some ⟨d0, d0o, none⟩), .string o_1] H1 fun r52 H52 =>
                        ∃ n52 : Int,
                        r52 = .int .i64 n52 ∧
                        FnH Tryd.prog 41 #[.pointer (some ⟨r, ro, none⟩), .string o_1] H52 fun r53 H53 =>
                          ∃ n53 : Int,
                          r53 = .int .i64 n53 ∧
                          K (.bool ((n52 : Int) == n53)) H53)
                     (
                      FnH Tryd.prog 16 #[.pointer (some ⟨d0, d0o, none⟩), .string o_1] H1 fun r54 H54 =>
                        ∃ s1 : ByteArray,
                        ∃ n54 : Int,
                        r54 = .tuple #[.string s1, .int .i64 n54] ∧
                        FnH Tryd.prog 42 #[.pointer (some ⟨r, ro, none⟩), .string o_1] H54 fun r55 H55 =>
                          ∃ s2 : ByteArray,
                          ∃ n55 : Int,
                          r55 = .tuple #[.string s2, .int .i64 n55] ∧
                          br (s1.toList == s2.toList) (
                            br ((n54 : Int) == n55) (
                              FnH Tryd.prog 26 #[.pointer (some ⟨d0, d0o, none⟩), .string o_1] H55 fun r56 H56 =>
                                ∃ n56 : Int,
                                r56 = .int .i64 n56 ∧
                                Sub H55 H56 ∧
                                FnH Tryd.prog 43 #[.pointer (some ⟨r, ro, none⟩), .string o_1] H56 fun r57 H57 =>
                                  ∃ n57 : Int,
                                  r57 = .int .i64 n57 ∧
                                  Sub H55 H57 ∧
                                  br ((n56 : Int) == n57) (
                                    FnH Tryd.prog 17 #[.pointer (some ⟨d0, d0o, none⟩), .string o_1] H57 fun r58 H58 =>
                                      ∃ n58 : Int,
                                      r58 = .int .i64 n58 ∧
                                      Sub H55 H58 ∧
                                      FnH Tryd.prog 44 #[.pointer (some ⟨r, ro, none⟩), .string o_1] H58 fun r59 H59 =>
                                        ∃ n59 : Int,
                                        r59 = .int .i64 n59 ∧
                                        Sub H55 H59 ∧
                                        K (.bool ((n58 : Int) == n59)) H59)
                                   (
                                    K (.bool false) H57))
                             (
                              K (.bool false) H55))
                           (
                            K (.bool false) H55)))
                   (
                    FnH Tryd.prog 15 #[.pointer (some ⟨d0, d0o, none⟩), .slice o_4.p o_4.n o_4.c] H1 fun r60 H60 =>
                      r60 = .tuple #[] ∧
                      FnH Tryd.prog 45 #[.pointer (some ⟨r, ro, none⟩), .slice o_4.p o_4.n o_4.c] H60 fun r61 H61 =>
                        r61 = .tuple #[] ∧
                        K (.bool true) H61))))))
         (
          br ((n1 : Int) == 4) (
            (FnH Tryd.prog 14 #[.pointer (some ⟨d0, d0o, none⟩), .string o_1] H1 fun r62 H62 =>
              ∃ n60 : Int,
              r62 = .int .i64 n60 ∧
              FnH Tryd.prog 34 #[.pointer (some ⟨r, ro, none⟩), .string o_1] H62 fun r63 H63 =>
                ∃ n61 : Int,
                r63 = .int .i64 n61 ∧
                K (.bool ((n60 : Int) == n61)) H63) ∧
            Sub H1 H1 ∧
            FnH Tryd.prog 14 #[.pointer (some ⟨d0, d0o, none⟩), .string o_1] H1 fun r64 H64 =>
              ∃ n62 : Int,
              r64 = .int .i64 n62 ∧
              FnH Tryd.prog 34 #[.pointer (some ⟨r, ro, none⟩), .string o_1] H64 fun r65 H65 =>
                ∃ n63 : Int,
                r65 = .int .i64 n63 ∧
                K (.bool ((n62 : Int) == n63)) H65)
           (
            br ((n1 : Int) == 5) (
              (FnH Tryd.prog 35 #[.pointer (some ⟨d0, d0o, none⟩), .string o_1, .int .i64 o_3] H1 fun r66 H66 =>
                ∃ n64 : Int,
                r66 = .int .i64 n64 ∧
                (FnH Tryd.prog 36 #[.pointer (some ⟨r, ro, none⟩), .string o_1, .int .i64 o_3] H66 fun r67 H67 =>
                  ∃ n65 : Int,
                  r67 = .int .i64 n65 ∧
                  K (.bool ((n64 : Int) == n65)) H67) ∧
                FnH Tryd.prog 36 #[.pointer (some ⟨r, ro, none⟩), .string o_1, .int .i64 o_3] H66 fun r68 H68 =>
                  ∃ n66 : Int,
                  r68 = .int .i64 n66 ∧
                  K (.bool ((n64 : Int) == n66)) H68) ∧
              (Sub H1 H1 ∧
              (FnH Tryd.prog 35 #[.pointer (some ⟨d0, d0o, none⟩), .string o_1, .int .i64 o_3] H1 fun r69 H69 =>
                ∃ n67 : Int,
                r69 = .int .i64 n67 ∧
                FnH Tryd.prog 36 #[.pointer (some ⟨r, ro, none⟩), .string o_1, .int .i64 o_3] H69 fun r70 H70 =>
                  ∃ n68 : Int,
                  r70 = .int .i64 n68 ∧
                  K (.bool ((n67 : Int) == n68)) H70) ∧
              Sub H1 H1 ∧
              FnH Tryd.prog 35 #[.pointer (some ⟨d0, d0o, none⟩), .string o_1, .int .i64 o_3] H1 fun r71 H71 =>
                ∃ n69 : Int,
                r71 = .int .i64 n69 ∧
                FnH Tryd.prog 36 #[.pointer (some ⟨r, ro, none⟩), .string o_1, .int .i64 o_3] H71 fun r72 H72 =>
                  ∃ n70 : Int,
                  r72 = .int .i64 n70 ∧
                  K (.bool ((n69 : Int) == n70)) H72) ∧
              Sub H1 H1 ∧
              (FnH Tryd.prog 35 #[.pointer (some ⟨d0, d0o, none⟩), .string o_1, .int .i64 o_3] H1 fun r73 H73 =>
                ∃ n71 : Int,
                r73 = .int .i64 n71 ∧
                FnH Tryd.prog 36 #[.pointer (some ⟨r, ro, none⟩), .string o_1, .int .i64 o_3] H73 fun r74 H74 =>
                  ∃ n72 : Int,
                  r74 = .int .i64 n72 ∧
                  K (.bool ((n71 : Int) == n72)) H74) ∧
              Sub H1 H1 ∧
              FnH Tryd.prog 35 #[.pointer (some ⟨d0, d0o, none⟩), .string o_1, .int .i64 o_3] H1 fun r75 H75 =>
                ∃ n73 : Int,
                r75 = .int .i64 n73 ∧
                FnH Tryd.prog 36 #[.pointer (some ⟨r, ro, none⟩), .string o_1, .int .i64 o_3] H75 fun r76 H76 =>
                  ∃ n74 : Int,
                  r76 = .int .i64 n74 ∧
                  K (.bool ((n73 : Int) == n74)) H76)
             (
              br ((n1 : Int) == 6) (
                (FnH Tryd.prog 19 #[.pointer (some ⟨d0, d0o, none⟩), .string o_1, .string o_2] H1 fun r77 H77 =>
                  ∃ n75 : Int,
                  r77 = .int .i64 n75 ∧
                  (FnH Tryd.prog 37 #[.pointer (some ⟨r, ro, none⟩), .string o_1, .string o_2] H77 fun r78 H78 =>
                    ∃ n76 : Int,
                    r78 = .int .i64 n76 ∧
                    K (.bool ((n75 : Int) == n76)) H78) ∧
                  FnH Tryd.prog 37 #[.pointer (some ⟨r, ro, none⟩), .string o_1, .string o_2] H77 fun r79 H79 =>
                    ∃ n77 : Int,
                    r79 = .int .i64 n77 ∧
                    K (.bool ((n75 : Int) == n77)) H79) ∧
                (Sub H1 H1 ∧
                (FnH Tryd.prog 19 #[.pointer (some ⟨d0, d0o, none⟩), .string o_1, .string o_2] H1 fun r80 H80 =>
                  ∃ n78 : Int,
                  r80 = .int .i64 n78 ∧
                  FnH Tryd.prog 37 #[.pointer (some ⟨r, ro, none⟩), .string o_1, .string o_2] H80 fun r81 H81 =>
                    ∃ n79 : Int,
                    r81 = .int .i64 n79 ∧
                    K (.bool ((n78 : Int) == n79)) H81) ∧
                Sub H1 H1 ∧
                FnH Tryd.prog 19 #[.pointer (some ⟨d0, d0o, none⟩), .string o_1, .string o_2] H1 fun r82 H82 =>
                  ∃ n80 : Int,
                  r82 = .int .i64 n80 ∧
                  FnH Tryd.prog 37 #[.pointer (some ⟨r, ro, none⟩), .string o_1, .string o_2] H82 fun r83 H83 =>
                    ∃ n81 : Int,
                    r83 = .int .i64 n81 ∧
                    K (.bool ((n80 : Int) == n81)) H83) ∧
                Sub H1 H1 ∧
                (FnH Tryd.prog 19 #[.pointer (some ⟨d0, d0o, none⟩), .string o_1, .string o_2] H1 fun r84 H84 =>
                  ∃ n82 : Int,
                  r84 = .int .i64 n82 ∧
                  FnH Tryd.prog 37 #[.pointer (some ⟨r, ro, none⟩), .string o_1, .string o_2] H84 fun r85 H85 =>
                    ∃ n83 : Int,
                    r85 = .int .i64 n83 ∧
                    K (.bool ((n82 : Int) == n83)) H85) ∧
                Sub H1 H1 ∧
                FnH Tryd.prog 19 #[.pointer (some ⟨d0, d0o, none⟩), .string o_1, .string o_2] H1 fun r86 H86 =>
                  ∃ n84 : Int,
                  r86 = .int .i64 n84 ∧
                  FnH Tryd.prog 37 #[.pointer (some ⟨r, ro, none⟩), .string o_1, .string o_2] H86 fun r87 H87 =>
                    ∃ n85 : Int,
                    r87 = .int .i64 n85 ∧
                    K (.bool ((n84 : Int) == n85)) H87)
               (
                br ((n1 : Int) == 7) (
                  (FnH Tryd.prog 38 #[.pointer (some ⟨d0, d0o, none⟩), .string o_1, .string o_2] H1 fun r88 H88 =>
                    ∃ n86 : Int,
                    r88 = .int .i64 n86 ∧
                    (FnH Tryd.prog 39 #[.pointer (some ⟨r, ro, none⟩), .string o_1, .string o_2] H88 fun r89 H89 =>
                      ∃ n87 : Int,
                      r89 = .int .i64 n87 ∧
                      K (.bool ((n86 : Int) == n87)) H89) ∧
                    FnH Tryd.prog 39 #[.pointer (some ⟨r, ro, none⟩), .string o_1, .string o_2] H88 fun r90 H90 =>
                      ∃ n88 : Int,
                      r90 = .int .i64 n88 ∧
                      K (.bool ((n86 : Int) == n88)) H90) ∧
                  (Sub H1 H1 ∧
                  (FnH Tryd.prog 38 #[.pointer (some ⟨d0, d0o, none⟩), .string o_1, .string o_2] H1 fun r91 H91 =>
                    ∃ n89 : Int,
                    r91 = .int .i64 n89 ∧
                    FnH Tryd.prog 39 #[.pointer (some ⟨r, ro, none⟩), .string o_1, .string o_2] H91 fun r92 H92 =>
                      ∃ n90 : Int,
                      r92 = .int .i64 n90 ∧
                      K (.bool ((n89 : Int) == n90)) H92) ∧
                  Sub H1 H1 ∧
                  FnH Tryd.prog 38 #[.pointer (some ⟨d0, d0o, none⟩), .string o_1, .string o_2] H1 fun r93 H93 =>
                    ∃ n91 : Int,
                    r93 = .int .i64 n91 ∧
                    FnH Tryd.prog 39 #[.pointer (some ⟨r, ro, none⟩), .string o_1, .string o_2] H93 fun r94 H94 =>
                      ∃ n92 : Int,
                      r94 = .int .i64 n92 ∧
                      K (.bool ((n91 : Int) == n92)) H94) ∧
                  Sub H1 H1 ∧
                  (FnH Tryd.prog 38 #[.pointer (some ⟨d0, d0o, none⟩), .string o_1, .string o_2] H1 fun r95 H95 =>
                    ∃ n93 : Int,
                    r95 = .int .i64 n93 ∧
                    FnH Tryd.prog 39 #[.pointer (some ⟨r, ro, none⟩), .string o_1, .string o_2] H95 fun r96 H96 =>
                      ∃ n94 : Int,
                      r96 = .int .i64 n94 ∧
                      K (.bool ((n93 : Int) == n94)) H96) ∧
                  Sub H1 H1 ∧
                  FnH Tryd.prog 38 #[.pointer (some ⟨d0, d0o, none⟩), .string o_1, .string o_2] H1 fun r97 H97 =>
                    ∃ n95 : Int,
                    r97 = .int .i64 n95 ∧
                    FnH Tryd.prog 39 #[.pointer (some ⟨r, ro, none⟩), .string o_1, .string o_2] H97 fun r98 H98 =>
                      ∃ n96 : Int,
                      r98 = .int .i64 n96 ∧
                      K (.bool ((n95 : Int) == n96)) H98)
                 (
                  br ((n1 : Int) == 8) (
                    (2 : Int) ≠ 0 ∧
                    br (((Int.tmod o_3 2) : Int) == 0) (
                      (FnH Tryd.prog 40 #[.pointer (some ⟨d0, d0o, none⟩), .string o_1] H1 fun r99 H99 =>
                        ∃ n97 : Int,
                        r99 = .int .i64 n97 ∧
                        FnH Tryd.prog 41 #[.pointer (some ⟨r, ro, none⟩), .string o_1] H99 fun r100 H100 =>
                          ∃ n98 : Int,
                          r100 = .int .i64 n98 ∧
                          K (.bool ((n97 : Int) == n98)) H100) ∧
                      Sub H1 H1 ∧
                      FnH Tryd.prog 40 #[.pointer (some ⟨d0, d0o, none⟩), .string o_1] H1 fun r101 H101 =>
                        ∃ n99 : Int,
                        r101 = .int .i64 n99 ∧
                        FnH Tryd.prog 41 #[.pointer (some ⟨r, ro, none⟩), .string o_1] H101 fun r102 H102 =>
                          ∃ n100 : Int,
                          r102 = .int .i64 n100 ∧
                          K (.bool ((n99 : Int) == n100)) H102)
                     (
                      FnH Tryd.prog 16 #[.pointer (some ⟨d0, d0o, none⟩), .string o_1] H1 fun r103 H103 =>
                        ∃ s3 : ByteArray,
                        ∃ n101 : Int,
                        r103 = .tuple #[.string s3, .int .i64 n101] ∧
                        FnH Tryd.prog 42 #[.pointer (some ⟨r, ro, none⟩), .string o_1] H103 fun r104 H104 =>
                          ∃ s4 : ByteArray,
                          ∃ n102 : Int,
                          r104 = .tuple #[.string s4, .int .i64 n102] ∧
                          br (s3.toList == s4.toList) (
                            br ((n101 : Int) == n102) (
                              FnH Tryd.prog 26 #[.pointer (some ⟨d0, d0o, none⟩), .string o_1] H104 fun r105 H105 =>
                                ∃ n103 : Int,
                                r105 = .int .i64 n103 ∧
                                Sub H104 H105 ∧
                                FnH Tryd.prog 43 #[.pointer (some ⟨r, ro, none⟩), .string o_1] H105 fun r106 H106 =>
                                  ∃ n104 : Int,
                                  r106 = .int .i64 n104 ∧
                                  Sub H104 H106 ∧
                                  br ((n103 : Int) == n104) (
                                    FnH Tryd.prog 17 #[.pointer (some ⟨d0, d0o, none⟩), .string o_1] H106 fun r107 H107 =>
                                      ∃ n105 : Int,
                                      r107 = .int .i64 n105 ∧
                                      Sub H104 H107 ∧
                                      FnH Tryd.prog 44 #[.pointer (some ⟨r, ro, none⟩), .string o_1] H107 fun r108 H108 =>
                                        ∃ n106 : Int,
                                        r108 = .int .i64 n106 ∧
                                        Sub H104 H108 ∧
                                        K (.bool ((n105 : Int) == n106)) H108)
                                   (
                                    K (.bool false) H106))
                             (
                              K (.bool false) H104))
                           (
                            K (.bool false) H104)))
                   (
                    FnH Tryd.prog 15 #[.pointer (some ⟨d0, d0o, none⟩), .slice o_4.p o_4.n o_4.c] H1 fun r109 H109 =>
                      r109 = .tuple #[] ∧
                      FnH Tryd.prog 45 #[.pointer (some ⟨r, ro, none⟩), .slice o_4.p o_4.n o_4.c] H109 fun r110 H110 =>
                        r110 = .tuple #[] ∧
                        K (.bool true) H110))))))))
     (
      br ((n1 : Int) == 1) (
        br ((n1 : Int) == 1) (
          (FnH Tryd.prog 13 #[.pointer (some ⟨d0, d0o, none⟩), .string o_1, .string o_2] H1 fun r111 H111 =>
            ∃ n107 : Int,
            r111 = .int .i64 n107 ∧
            (FnH Tryd.prog 33 #[.pointer (some ⟨r, ro, none⟩), .string o_1, .string o_2] H111 fun r112 H112 =>
              ∃ n108 : Int,
              r112 = .int .i64 n108 ∧
              K (.bool ((n107 : Int) == n108)) H112) ∧
            FnH Tryd.prog 33 #[.pointer (some ⟨r, ro, none⟩), .string o_1, .string o_2] H111 fun r113 H113 =>
              ∃ n109 : Int,
              r113 = .int .i64 n109 ∧
              K (.bool ((n107 : Int) == n109)) H113) ∧
          (Sub H1 H1 ∧
          (FnH Tryd.prog 13 #[.pointer (some ⟨d0, d0o, none⟩), .string o_1, .string o_2] H1 fun r114 H114 =>
            ∃ n110 : Int,
            r114 = .int .i64 n110 ∧
            FnH Tryd.prog 33 #[.pointer (some ⟨r, ro, none⟩), .string o_1, .string o_2] H114 fun r115 H115 =>
              ∃ n111 : Int,
              r115 = .int .i64 n111 ∧
              K (.bool ((n110 : Int) == n111)) H115) ∧
          Sub H1 H1 ∧
          FnH Tryd.prog 13 #[.pointer (some ⟨d0, d0o, none⟩), .string o_1, .string o_2] H1 fun r116 H116 =>
            ∃ n112 : Int,
            r116 = .int .i64 n112 ∧
            FnH Tryd.prog 33 #[.pointer (some ⟨r, ro, none⟩), .string o_1, .string o_2] H116 fun r117 H117 =>
              ∃ n113 : Int,
              r117 = .int .i64 n113 ∧
              K (.bool ((n112 : Int) == n113)) H117) ∧
          Sub H1 H1 ∧
          (FnH Tryd.prog 13 #[.pointer (some ⟨d0, d0o, none⟩), .string o_1, .string o_2] H1 fun r118 H118 =>
            ∃ n114 : Int,
            r118 = .int .i64 n114 ∧
            FnH Tryd.prog 33 #[.pointer (some ⟨r, ro, none⟩), .string o_1, .string o_2] H118 fun r119 H119 =>
              ∃ n115 : Int,
              r119 = .int .i64 n115 ∧
              K (.bool ((n114 : Int) == n115)) H119) ∧
          Sub H1 H1 ∧
          FnH Tryd.prog 13 #[.pointer (some ⟨d0, d0o, none⟩), .string o_1, .string o_2] H1 fun r120 H120 =>
            ∃ n116 : Int,
            r120 = .int .i64 n116 ∧
            FnH Tryd.prog 33 #[.pointer (some ⟨r, ro, none⟩), .string o_1, .string o_2] H120 fun r121 H121 =>
              ∃ n117 : Int,
              r121 = .int .i64 n117 ∧
              K (.bool ((n116 : Int) == n117)) H121)
         (
          br ((n1 : Int) == 3) (
            br ((n1 : Int) == 3) (
              (FnH Tryd.prog 14 #[.pointer (some ⟨d0, d0o, none⟩), .string o_1] H1 fun r122 H122 =>
                ∃ n118 : Int,
                r122 = .int .i64 n118 ∧
                FnH Tryd.prog 34 #[.pointer (some ⟨r, ro, none⟩), .string o_1] H122 fun r123 H123 =>
                  ∃ n119 : Int,
                  r123 = .int .i64 n119 ∧
                  K (.bool ((n118 : Int) == n119)) H123) ∧
              Sub H1 H1 ∧
              FnH Tryd.prog 14 #[.pointer (some ⟨d0, d0o, none⟩), .string o_1] H1 fun r124 H124 =>
                ∃ n120 : Int,
                r124 = .int .i64 n120 ∧
                FnH Tryd.prog 34 #[.pointer (some ⟨r, ro, none⟩), .string o_1] H124 fun r125 H125 =>
                  ∃ n121 : Int,
                  r125 = .int .i64 n121 ∧
                  K (.bool ((n120 : Int) == n121)) H125)
             (
              br ((n1 : Int) == 5) (
                (FnH Tryd.prog 35 #[.pointer (some ⟨d0, d0o, none⟩), .string o_1, .int .i64 o_3] H1 fun r126 H126 =>
                  ∃ n122 : Int,
                  r126 = .int .i64 n122 ∧
                  (FnH Tryd.prog 36 #[.pointer (some ⟨r, ro, none⟩), .string o_1, .int .i64 o_3] H126 fun r127 H127 =>
                    ∃ n123 : Int,
                    r127 = .int .i64 n123 ∧
                    K (.bool ((n122 : Int) == n123)) H127) ∧
                  FnH Tryd.prog 36 #[.pointer (some ⟨r, ro, none⟩), .string o_1, .int .i64 o_3] H126 fun r128 H128 =>
                    ∃ n124 : Int,
                    r128 = .int .i64 n124 ∧
                    K (.bool ((n122 : Int) == n124)) H128) ∧
                (Sub H1 H1 ∧
                (FnH Tryd.prog 35 #[.pointer (some ⟨d0, d0o, none⟩), .string o_1, .int .i64 o_3] H1 fun r129 H129 =>
                  ∃ n125 : Int,
                  r129 = .int .i64 n125 ∧
                  FnH Tryd.prog 36 #[.pointer (some ⟨r, ro, none⟩), .string o_1, .int .i64 o_3] H129 fun r130 H130 =>
                    ∃ n126 : Int,
                    r130 = .int .i64 n126 ∧
                    K (.bool ((n125 : Int) == n126)) H130) ∧
                Sub H1 H1 ∧
                FnH Tryd.prog 35 #[.pointer (some ⟨d0, d0o, none⟩), .string o_1, .int .i64 o_3] H1 fun r131 H131 =>
                  ∃ n127 : Int,
                  r131 = .int .i64 n127 ∧
                  FnH Tryd.prog 36 #[.pointer (some ⟨r, ro, none⟩), .string o_1, .int .i64 o_3] H131 fun r132 H132 =>
                    ∃ n128 : Int,
                    r132 = .int .i64 n128 ∧
                    K (.bool ((n127 : Int) == n128)) H132) ∧
                Sub H1 H1 ∧
                (FnH Tryd.prog 35 #[.pointer (some ⟨d0, d0o, none⟩), .string o_1, .int .i64 o_3] H1 fun r133 H133 =>
                  ∃ n129 : Int,
                  r133 = .int .i64 n129 ∧
                  FnH Tryd.prog 36 #[.pointer (some ⟨r, ro, none⟩), .string o_1, .int .i64 o_3] H133 fun r134 H134 =>
                    ∃ n130 : Int,
                    r134 = .int .i64 n130 ∧
                    K (.bool ((n129 : Int) == n130)) H134) ∧
                Sub H1 H1 ∧
                FnH Tryd.prog 35 #[.pointer (some ⟨d0, d0o, none⟩), .string o_1, .int .i64 o_3] H1 fun r135 H135 =>
                  ∃ n131 : Int,
                  r135 = .int .i64 n131 ∧
                  FnH Tryd.prog 36 #[.pointer (some ⟨r, ro, none⟩), .string o_1, .int .i64 o_3] H135 fun r136 H136 =>
                    ∃ n132 : Int,
                    r136 = .int .i64 n132 ∧
                    K (.bool ((n131 : Int) == n132)) H136)
               (
                br ((n1 : Int) == 6) (
                  (FnH Tryd.prog 19 #[.pointer (some ⟨d0, d0o, none⟩), .string o_1, .string o_2] H1 fun r137 H137 =>
                    ∃ n133 : Int,
                    r137 = .int .i64 n133 ∧
                    (FnH Tryd.prog 37 #[.pointer (some ⟨r, ro, none⟩), .string o_1, .string o_2] H137 fun r138 H138 =>
                      ∃ n134 : Int,
                      r138 = .int .i64 n134 ∧
                      K (.bool ((n133 : Int) == n134)) H138) ∧
                    FnH Tryd.prog 37 #[.pointer (some ⟨r, ro, none⟩), .string o_1, .string o_2] H137 fun r139 H139 =>
                      ∃ n135 : Int,
                      r139 = .int .i64 n135 ∧
                      K (.bool ((n133 : Int) == n135)) H139) ∧
                  (Sub H1 H1 ∧
                  (FnH Tryd.prog 19 #[.pointer (some ⟨d0, d0o, none⟩), .string o_1, .string o_2] H1 fun r140 H140 =>
                    ∃ n136 : Int,
                    r140 = .int .i64 n136 ∧
                    FnH Tryd.prog 37 #[.pointer (some ⟨r, ro, none⟩), .string o_1, .string o_2] H140 fun r141 H141 =>
                      ∃ n137 : Int,
                      r141 = .int .i64 n137 ∧
                      K (.bool ((n136 : Int) == n137)) H141) ∧
                  Sub H1 H1 ∧
                  FnH Tryd.prog 19 #[.pointer (some ⟨d0, d0o, none⟩), .string o_1, .string o_2] H1 fun r142 H142 =>
                    ∃ n138 : Int,
                    r142 = .int .i64 n138 ∧
                    FnH Tryd.prog 37 #[.pointer (some ⟨r, ro, none⟩), .string o_1, .string o_2] H142 fun r143 H143 =>
                      ∃ n139 : Int,
                      r143 = .int .i64 n139 ∧
                      K (.bool ((n138 : Int) == n139)) H143) ∧
                  Sub H1 H1 ∧
                  (FnH Tryd.prog 19 #[.pointer (some ⟨d0, d0o, none⟩), .string o_1, .string o_2] H1 fun r144 H144 =>
                    ∃ n140 : Int,
                    r144 = .int .i64 n140 ∧
                    FnH Tryd.prog 37 #[.pointer (some ⟨r, ro, none⟩), .string o_1, .string o_2] H144 fun r145 H145 =>
                      ∃ n141 : Int,
                      r145 = .int .i64 n141 ∧
                      K (.bool ((n140 : Int) == n141)) H145) ∧
                  Sub H1 H1 ∧
                  FnH Tryd.prog 19 #[.pointer (some ⟨d0, d0o, none⟩), .string o_1, .string o_2] H1 fun r146 H146 =>
                    ∃ n142 : Int,
                    r146 = .int .i64 n142 ∧
                    FnH Tryd.prog 37 #[.pointer (some ⟨r, ro, none⟩), .string o_1, .string o_2] H146 fun r147 H147 =>
                      ∃ n143 : Int,
                      r147 = .int .i64 n143 ∧
                      K (.bool ((n142 : Int) == n143)) H147)
                 (
                  br ((n1 : Int) == 7) (
                    (FnH Tryd.prog 38 #[.pointer (some ⟨d0, d0o, none⟩), .string o_1, .string o_2] H1 fun r148 H148 =>
                      ∃ n144 : Int,
                      r148 = .int .i64 n144 ∧
                      (FnH Tryd.prog 39 #[.pointer (some ⟨r, ro, none⟩), .string o_1, .string o_2] H148 fun r149 H149 =>
                        ∃ n145 : Int,
                        r149 = .int .i64 n145 ∧
                        K (.bool ((n144 : Int) == n145)) H149) ∧
                      FnH Tryd.prog 39 #[.pointer (some ⟨r, ro, none⟩), .string o_1, .string o_2] H148 fun r150 H150 =>
                        ∃ n146 : Int,
                        r150 = .int .i64 n146 ∧
                        K (.bool ((n144 : Int) == n146)) H150) ∧
                    (Sub H1 H1 ∧
                    (FnH Tryd.prog 38 #[.pointer (some ⟨d0, d0o, none⟩), .string o_1, .string o_2] H1 fun r151 H151 =>
                      ∃ n147 : Int,
                      r151 = .int .i64 n147 ∧
                      FnH Tryd.prog 39 #[.pointer (some ⟨r, ro, none⟩), .string o_1, .string o_2] H151 fun r152 H152 =>
                        ∃ n148 : Int,
                        r152 = .int .i64 n148 ∧
                        K (.bool ((n147 : Int) == n148)) H152) ∧
                    Sub H1 H1 ∧
                    FnH Tryd.prog 38 #[.pointer (some ⟨d0, d0o, none⟩), .string o_1, .string o_2] H1 fun r153 H153 =>
                      ∃ n149 : Int,
                      r153 = .int .i64 n149 ∧
                      FnH Tryd.prog 39 #[.pointer (some ⟨r, ro, none⟩), .string o_1, .string o_2] H153 fun r154 H154 =>
                        ∃ n150 : Int,
                        r154 = .int .i64 n150 ∧
                        K (.bool ((n149 : Int) == n150)) H154) ∧
                    Sub H1 H1 ∧
                    (FnH Tryd.prog 38 #[.pointer (some ⟨d0, d0o, none⟩), .string o_1, .string o_2] H1 fun r155 H155 =>
                      ∃ n151 : Int,
                      r155 = .int .i64 n151 ∧
                      FnH Tryd.prog 39 #[.pointer (some ⟨r, ro, none⟩), .string o_1, .string o_2] H155 fun r156 H156 =>
                        ∃ n152 : Int,
                        r156 = .int .i64 n152 ∧
                        K (.bool ((n151 : Int) == n152)) H156) ∧
                    Sub H1 H1 ∧
                    FnH Tryd.prog 38 #[.pointer (some ⟨d0, d0o, none⟩), .string o_1, .string o_2] H1 fun r157 H157 =>
                      ∃ n153 : Int,
                      r157 = .int .i64 n153 ∧
                      FnH Tryd.prog 39 #[.pointer (some ⟨r, ro, none⟩), .string o_1, .string o_2] H157 fun r158 H158 =>
                        ∃ n154 : Int,
                        r158 = .int .i64 n154 ∧
                        K (.bool ((n153 : Int) == n154)) H158)
                   (
                    br ((n1 : Int) == 8) (
                      (2 : Int) ≠ 0 ∧
                      br (((Int.tmod o_3 2) : Int) == 0) (
                        (FnH Tryd.prog 40 #[.pointer (some ⟨d0, d0o, none⟩), .string o_1] H1 fun r159 H159 =>
                          ∃ n155 : Int,
                          r159 = .int .i64 n155 ∧
                          FnH Tryd.prog 41 #[.pointer (some ⟨r, ro, none⟩), .string o_1] H159 fun r160 H160 =>
                            ∃ n156 : Int,
                            r160 = .int .i64 n156 ∧
                            K (.bool ((n155 : Int) == n156)) H160) ∧
                        Sub H1 H1 ∧
                        FnH Tryd.prog 40 #[.pointer (some ⟨d0, d0o, none⟩), .string o_1] H1 fun r161 H161 =>
                          ∃ n157 : Int,
                          r161 = .int .i64 n157 ∧
                          FnH Tryd.prog 41 #[.pointer (some ⟨r, ro, none⟩), .string o_1] H161 fun r162 H162 =>
                            ∃ n158 : Int,
                            r162 = .int .i64 n158 ∧
                            K (.bool ((n157 : Int) == n158)) H162)
                       (
                        FnH Tryd.prog 16 #[.pointer (some ⟨d0, d0o, none⟩), .string o_1] H1 fun r163 H163 =>
                          ∃ s5 : ByteArray,
                          ∃ n159 : Int,
                          r163 = .tuple #[.string s5, .int .i64 n159] ∧
                          FnH Tryd.prog 42 #[.pointer (some ⟨r, ro, none⟩), .string o_1] H163 fun r164 H164 =>
                            ∃ s6 : ByteArray,
                            ∃ n160 : Int,
                            r164 = .tuple #[.string s6, .int .i64 n160] ∧
                            br (s5.toList == s6.toList) (
                              br ((n159 : Int) == n160) (
                                FnH Tryd.prog 26 #[.pointer (some ⟨d0, d0o, none⟩), .string o_1] H164 fun r165 H165 =>
                                  ∃ n161 : Int,
                                  r165 = .int .i64 n161 ∧
                                  Sub H164 H165 ∧
                                  FnH Tryd.prog 43 #[.pointer (some ⟨r, ro, none⟩), .string o_1] H165 fun r166 H166 =>
                                    ∃ n162 : Int,
                                    r166 = .int .i64 n162 ∧
                                    Sub H164 H166 ∧
                                    br ((n161 : Int) == n162) (
                                      FnH Tryd.prog 17 #[.pointer (some ⟨d0, d0o, none⟩), .string o_1] H166 fun r167 H167 =>
                                        ∃ n163 : Int,
                                        r167 = .int .i64 n163 ∧
                                        Sub H164 H167 ∧
                                        FnH Tryd.prog 44 #[.pointer (some ⟨r, ro, none⟩), .string o_1] H167 fun r168 H168 =>
                                          ∃ n164 : Int,
                                          r168 = .int .i64 n164 ∧
                                          Sub H164 H168 ∧
                                          K (.bool ((n163 : Int) == n164)) H168)
                                     (
                                      K (.bool false) H166))
                               (
                                K (.bool false) H164))
                             (
                              K (.bool false) H164)))
                     (
                      FnH Tryd.prog 15 #[.pointer (some ⟨d0, d0o, none⟩), .slice o_4.p o_4.n o_4.c] H1 fun r169 H169 =>
                        r169 = .tuple #[] ∧
                        FnH Tryd.prog 45 #[.pointer (some ⟨r, ro, none⟩), .slice o_4.p o_4.n o_4.c] H169 fun r170 H170 =>
                          r170 = .tuple #[] ∧
                          K (.bool true) H170))))))
           (
            br ((n1 : Int) == 4) (
              (FnH Tryd.prog 14 #[.pointer (some ⟨d0, d0o, none⟩), .string o_1] H1 fun r171 H171 =>
                ∃ n165 : Int,
                r171 = .int .i64 n165 ∧
                FnH Tryd.prog 34 #[.pointer (some ⟨r, ro, none⟩), .string o_1] H171 fun r172 H172 =>
                  ∃ n166 : Int,
                  r172 = .int .i64 n166 ∧
                  K (.bool ((n165 : Int) == n166)) H172) ∧
              Sub H1 H1 ∧
              FnH Tryd.prog 14 #[.pointer (some ⟨d0, d0o, none⟩), .string o_1] H1 fun r173 H173 =>
                ∃ n167 : Int,
                r173 = .int .i64 n167 ∧
                FnH Tryd.prog 34 #[.pointer (some ⟨r, ro, none⟩), .string o_1] H173 fun r174 H174 =>
                  ∃ n168 : Int,
                  r174 = .int .i64 n168 ∧
                  K (.bool ((n167 : Int) == n168)) H174)
             (
              br ((n1 : Int) == 5) (
                (FnH Tryd.prog 35 #[.pointer (some ⟨d0, d0o, none⟩), .string o_1, .int .i64 o_3] H1 fun r175 H175 =>
                  ∃ n169 : Int,
                  r175 = .int .i64 n169 ∧
                  (FnH Tryd.prog 36 #[.pointer (some ⟨r, ro, none⟩), .string o_1, .int .i64 o_3] H175 fun r176 H176 =>
                    ∃ n170 : Int,
                    r176 = .int .i64 n170 ∧
                    K (.bool ((n169 : Int) == n170)) H176) ∧
                  FnH Tryd.prog 36 #[.pointer (some ⟨r, ro, none⟩), .string o_1, .int .i64 o_3] H175 fun r177 H177 =>
                    ∃ n171 : Int,
                    r177 = .int .i64 n171 ∧
                    K (.bool ((n169 : Int) == n171)) H177) ∧
                (Sub H1 H1 ∧
                (FnH Tryd.prog 35 #[.pointer (some ⟨d0, d0o, none⟩), .string o_1, .int .i64 o_3] H1 fun r178 H178 =>
                  ∃ n172 : Int,
                  r178 = .int .i64 n172 ∧
                  FnH Tryd.prog 36 #[.pointer (some ⟨r, ro, none⟩), .string o_1, .int .i64 o_3] H178 fun r179 H179 =>
                    ∃ n173 : Int,
                    r179 = .int .i64 n173 ∧
                    K (.bool ((n172 : Int) == n173)) H179) ∧
                Sub H1 H1 ∧
                FnH Tryd.prog 35 #[.pointer (some ⟨d0, d0o, none⟩), .string o_1, .int .i64 o_3] H1 fun r180 H180 =>
                  ∃ n174 : Int,
                  r180 = .int .i64 n174 ∧
                  FnH Tryd.prog 36 #[.pointer (some ⟨r, ro, none⟩), .string o_1, .int .i64 o_3] H180 fun r181 H181 =>
                    ∃ n175 : Int,
                    r181 = .int .i64 n175 ∧
                    K (.bool ((n174 : Int) == n175)) H181) ∧
                Sub H1 H1 ∧
                (FnH Tryd.prog 35 #[.pointer (some ⟨d0, d0o, none⟩), .string o_1, .int .i64 o_3] H1 fun r182 H182 =>
                  ∃ n176 : Int,
                  r182 = .int .i64 n176 ∧
                  FnH Tryd.prog 36 #[.pointer (some ⟨r, ro, none⟩), .string o_1, .int .i64 o_3] H182 fun r183 H183 =>
                    ∃ n177 : Int,
                    r183 = .int .i64 n177 ∧
                    K (.bool ((n176 : Int) == n177)) H183) ∧
                Sub H1 H1 ∧
                FnH Tryd.prog 35 #[.pointer (some ⟨d0, d0o, none⟩), .string o_1, .int .i64 o_3] H1 fun r184 H184 =>
                  ∃ n178 : Int,
                  r184 = .int .i64 n178 ∧
                  FnH Tryd.prog 36 #[.pointer (some ⟨r, ro, none⟩), .string o_1, .int .i64 o_3] H184 fun r185 H185 =>
                    ∃ n179 : Int,
                    r185 = .int .i64 n179 ∧
                    K (.bool ((n178 : Int) == n179)) H185)
               (
                br ((n1 : Int) == 6) (
                  (FnH Tryd.prog 19 #[.pointer (some ⟨d0, d0o, none⟩), .string o_1, .string o_2] H1 fun r186 H186 =>
                    ∃ n180 : Int,
                    r186 = .int .i64 n180 ∧
                    (FnH Tryd.prog 37 #[.pointer (some ⟨r, ro, none⟩), .string o_1, .string o_2] H186 fun r187 H187 =>
                      ∃ n181 : Int,
                      r187 = .int .i64 n181 ∧
                      K (.bool ((n180 : Int) == n181)) H187) ∧
                    FnH Tryd.prog 37 #[.pointer (some ⟨r, ro, none⟩), .string o_1, .string o_2] H186 fun r188 H188 =>
                      ∃ n182 : Int,
                      r188 = .int .i64 n182 ∧
                      K (.bool ((n180 : Int) == n182)) H188) ∧
                  (Sub H1 H1 ∧
                  (FnH Tryd.prog 19 #[.pointer (some ⟨d0, d0o, none⟩), .string o_1, .string o_2] H1 fun r189 H189 =>
                    ∃ n183 : Int,
                    r189 = .int .i64 n183 ∧
                    FnH Tryd.prog 37 #[.pointer (some ⟨r, ro, none⟩), .string o_1, .string o_2] H189 fun r190 H190 =>
                      ∃ n184 : Int,
                      r190 = .int .i64 n184 ∧
                      K (.bool ((n183 : Int) == n184)) H190) ∧
                  Sub H1 H1 ∧
                  FnH Tryd.prog 19 #[.pointer (some ⟨d0, d0o, none⟩), .string o_1, .string o_2] H1 fun r191 H191 =>
                    ∃ n185 : Int,
                    r191 = .int .i64 n185 ∧
                    FnH Tryd.prog 37 #[.pointer (some ⟨r, ro, none⟩), .string o_1, .string o_2] H191 fun r192 H192 =>
                      ∃ n186 : Int,
                      r192 = .int .i64 n186 ∧
                      K (.bool ((n185 : Int) == n186)) H192) ∧
                  Sub H1 H1 ∧
                  (FnH Tryd.prog 19 #[.pointer (some ⟨d0, d0o, none⟩), .string o_1, .string o_2] H1 fun r193 H193 =>
                    ∃ n187 : Int,
                    r193 = .int .i64 n187 ∧
                    FnH Tryd.prog 37 #[.pointer (some ⟨r, ro, none⟩), .string o_1, .string o_2] H193 fun r194 H194 =>
                      ∃ n188 : Int,
                      r194 = .int .i64 n188 ∧
                      K (.bool ((n187 : Int) == n188)) H194) ∧
                  Sub H1 H1 ∧
                  FnH Tryd.prog 19 #[.pointer (some ⟨d0, d0o, none⟩), .string o_1, .string o_2] H1 fun r195 H195 =>
                    ∃ n189 : Int,
                    r195 = .int .i64 n189 ∧
                    FnH Tryd.prog 37 #[.pointer (some ⟨r, ro, none⟩), .string o_1, .string o_2] H195 fun r196 H196 =>
                      ∃ n190 : Int,
                      r196 = .int .i64 n190 ∧
                      K (.bool ((n189 : Int) == n190)) H196)
                 (
                  br ((n1 : Int) == 7) (
                    (FnH Tryd.prog 38 #[.pointer (some ⟨d0, d0o, none⟩), .string o_1, .string o_2] H1 fun r197 H197 =>
                      ∃ n191 : Int,
                      r197 = .int .i64 n191 ∧
                      (FnH Tryd.prog 39 #[.pointer (some ⟨r, ro, none⟩), .string o_1, .string o_2] H197 fun r198 H198 =>
                        ∃ n192 : Int,
                        r198 = .int .i64 n192 ∧
                        K (.bool ((n191 : Int) == n192)) H198) ∧
                      FnH Tryd.prog 39 #[.pointer (some ⟨r, ro, none⟩), .string o_1, .string o_2] H197 fun r199 H199 =>
                        ∃ n193 : Int,
                        r199 = .int .i64 n193 ∧
                        K (.bool ((n191 : Int) == n193)) H199) ∧
                    (Sub H1 H1 ∧
                    (FnH Tryd.prog 38 #[.pointer (some ⟨d0, d0o, none⟩), .string o_1, .string o_2] H1 fun r200 H200 =>
                      ∃ n194 : Int,
                      r200 = .int .i64 n194 ∧
                      FnH Tryd.prog 39 #[.pointer (some ⟨r, ro, none⟩), .string o_1, .string o_2] H200 fun r201 H201 =>
                        ∃ n195 : Int,
                        r201 = .int .i64 n195 ∧
                        K (.bool ((n194 : Int) == n195)) H201) ∧
                    Sub H1 H1 ∧
                    FnH Tryd.prog 38 #[.pointer (some ⟨d0, d0o, none⟩), .string o_1, .string o_2] H1 fun r202 H202 =>
                      ∃ n196 : Int,
                      r202 = .int .i64 n196 ∧
                      FnH Tryd.prog 39 #[.pointer (some ⟨r, ro, none⟩), .string o_1, .string o_2] H202 fun r203 H203 =>
                        ∃ n197 : Int,
                        r203 = .int .i64 n197 ∧
                        K (.bool ((n196 : Int) == n197)) H203) ∧
                    Sub H1 H1 ∧
                    (FnH Tryd.prog 38 #[.pointer (some ⟨d0, d0o, none⟩), .string o_1, .string o_2] H1 fun r204 H204 =>
                      ∃ n198 : Int,
                      r204 = .int .i64 n198 ∧
                      FnH Tryd.prog 39 #[.pointer (some ⟨r, ro, none⟩), .string o_1, .string o_2] H204 fun r205 H205 =>
                        ∃ n199 : Int,
                        r205 = .int .i64 n199 ∧
                        K (.bool ((n198 : Int) == n199)) H205) ∧
                    Sub H1 H1 ∧
                    FnH Tryd.prog 38 #[.pointer (some ⟨d0, d0o, none⟩), .string o_1, .string o_2] H1 fun r206 H206 =>
                      ∃ n200 : Int,
                      r206 = .int .i64 n200 ∧
                      FnH Tryd.prog 39 #[.pointer (some ⟨r, ro, none⟩), .string o_1, .string o_2] H206 fun r207 H207 =>
                        ∃ n201 : Int,
                        r207 = .int .i64 n201 ∧
                        K (.bool ((n200 : Int) == n201)) H207)
                   (
                    br ((n1 : Int) == 8) (
                      (2 : Int) ≠ 0 ∧
                      br (((Int.tmod o_3 2) : Int) == 0) (
                        (FnH Tryd.prog 40 #[.pointer (some ⟨d0, d0o, none⟩), .string o_1] H1 fun r208 H208 =>
                          ∃ n202 : Int,
                          r208 = .int .i64 n202 ∧
                          FnH Tryd.prog 41 #[.pointer (some ⟨r, ro, none⟩), .string o_1] H208 fun r209 H209 =>
                            ∃ n203 : Int,
                            r209 = .int .i64 n203 ∧
                            K (.bool ((n202 : Int) == n203)) H209) ∧
                        Sub H1 H1 ∧
                        FnH Tryd.prog 40 #[.pointer (some ⟨d0, d0o, none⟩), .string o_1] H1 fun r210 H210 =>
                          ∃ n204 : Int,
                          r210 = .int .i64 n204 ∧
                          FnH Tryd.prog 41 #[.pointer (some ⟨r, ro, none⟩), .string o_1] H210 fun r211 H211 =>
                            ∃ n205 : Int,
                            r211 = .int .i64 n205 ∧
                            K (.bool ((n204 : Int) == n205)) H211)
                       (
                        FnH Tryd.prog 16 #[.pointer (some ⟨d0, d0o, none⟩), .string o_1] H1 fun r212 H212 =>
                          ∃ s7 : ByteArray,
                          ∃ n206 : Int,
                          r212 = .tuple #[.string s7, .int .i64 n206] ∧
                          FnH Tryd.prog 42 #[.pointer (some ⟨r, ro, none⟩), .string o_1] H212 fun r213 H213 =>
                            ∃ s8 : ByteArray,
                            ∃ n207 : Int,
                            r213 = .tuple #[.string s8, .int .i64 n207] ∧
                            br (s7.toList == s8.toList) (
                              br ((n206 : Int) == n207) (
                                FnH Tryd.prog 26 #[.pointer (some ⟨d0, d0o, none⟩), .string o_1] H213 fun r214 H214 =>
                                  ∃ n208 : Int,
                                  r214 = .int .i64 n208 ∧
                                  Sub H213 H214 ∧
                                  FnH Tryd.prog 43 #[.pointer (some ⟨r, ro, none⟩), .string o_1] H214 fun r215 H215 =>
                                    ∃ n209 : Int,
                                    r215 = .int .i64 n209 ∧
                                    Sub H213 H215 ∧
                                    br ((n208 : Int) == n209) (
                                      FnH Tryd.prog 17 #[.pointer (some ⟨d0, d0o, none⟩), .string o_1] H215 fun r216 H216 =>
                                        ∃ n210 : Int,
                                        r216 = .int .i64 n210 ∧
                                        Sub H213 H216 ∧
                                        FnH Tryd.prog 44 #[.pointer (some ⟨r, ro, none⟩), .string o_1] H216 fun r217 H217 =>
                                          ∃ n211 : Int,
                                          r217 = .int .i64 n211 ∧
                                          Sub H213 H217 ∧
                                          K (.bool ((n210 : Int) == n211)) H217)
                                     (
                                      K (.bool false) H215))
                               (
                                K (.bool false) H213))
                             (
                              K (.bool false) H213)))
                     (
                      FnH Tryd.prog 15 #[.pointer (some ⟨d0, d0o, none⟩), .slice o_4.p o_4.n o_4.c] H1 fun r218 H218 =>
                        r218 = .tuple #[] ∧
                        FnH Tryd.prog 45 #[.pointer (some ⟨r, ro, none⟩), .slice o_4.p o_4.n o_4.c] H218 fun r219 H219 =>
                          r219 = .tuple #[] ∧
                          K (.bool true) H219))))))))
       (
        br ((n1 : Int) == 2) (
          (FnH Tryd.prog 13 #[.pointer (some ⟨d0, d0o, none⟩), .string o_1, .string o_2] H1 fun r220 H220 =>
            ∃ n212 : Int,
            r220 = .int .i64 n212 ∧
            (FnH Tryd.prog 33 #[.pointer (some ⟨r, ro, none⟩), .string o_1, .string o_2] H220 fun r221 H221 =>
              ∃ n213 : Int,
              r221 = .int .i64 n213 ∧
              K (.bool ((n212 : Int) == n213)) H221) ∧
            FnH Tryd.prog 33 #[.pointer (some ⟨r, ro, none⟩), .string o_1, .string o_2] H220 fun r222 H222 =>
              ∃ n214 : Int,
              r222 = .int .i64 n214 ∧
              K (.bool ((n212 : Int) == n214)) H222) ∧
          (Sub H1 H1 ∧
          (FnH Tryd.prog 13 #[.pointer (some ⟨d0, d0o, none⟩), .string o_1, .string o_2] H1 fun r223 H223 =>
            ∃ n215 : Int,
            r223 = .int .i64 n215 ∧
            FnH Tryd.prog 33 #[.pointer (some ⟨r, ro, none⟩), .string o_1, .string o_2] H223 fun r224 H224 =>
              ∃ n216 : Int,
              r224 = .int .i64 n216 ∧
              K (.bool ((n215 : Int) == n216)) H224) ∧
          Sub H1 H1 ∧
          FnH Tryd.prog 13 #[.pointer (some ⟨d0, d0o, none⟩), .string o_1, .string o_2] H1 fun r225 H225 =>
            ∃ n217 : Int,
            r225 = .int .i64 n217 ∧
            FnH Tryd.prog 33 #[.pointer (some ⟨r, ro, none⟩), .string o_1, .string o_2] H225 fun r226 H226 =>
              ∃ n218 : Int,
              r226 = .int .i64 n218 ∧
              K (.bool ((n217 : Int) == n218)) H226) ∧
          Sub H1 H1 ∧
          (FnH Tryd.prog 13 #[.pointer (some ⟨d0, d0o, none⟩), .string o_1, .string o_2] H1 fun r227 H227 =>
            ∃ n219 : Int,
            r227 = .int .i64 n219 ∧
            FnH Tryd.prog 33 #[.pointer (some ⟨r, ro, none⟩), .string o_1, .string o_2] H227 fun r228 H228 =>
              ∃ n220 : Int,
              r228 = .int .i64 n220 ∧
              K (.bool ((n219 : Int) == n220)) H228) ∧
          Sub H1 H1 ∧
          FnH Tryd.prog 13 #[.pointer (some ⟨d0, d0o, none⟩), .string o_1, .string o_2] H1 fun r229 H229 =>
            ∃ n221 : Int,
            r229 = .int .i64 n221 ∧
            FnH Tryd.prog 33 #[.pointer (some ⟨r, ro, none⟩), .string o_1, .string o_2] H229 fun r230 H230 =>
              ∃ n222 : Int,
              r230 = .int .i64 n222 ∧
              K (.bool ((n221 : Int) == n222)) H230)
         (
          br ((n1 : Int) == 3) (
            br ((n1 : Int) == 3) (
              (FnH Tryd.prog 14 #[.pointer (some ⟨d0, d0o, none⟩), .string o_1] H1 fun r231 H231 =>
                ∃ n223 : Int,
                r231 = .int .i64 n223 ∧
                FnH Tryd.prog 34 #[.pointer (some ⟨r, ro, none⟩), .string o_1] H231 fun r232 H232 =>
                  ∃ n224 : Int,
                  r232 = .int .i64 n224 ∧
                  K (.bool ((n223 : Int) == n224)) H232) ∧
              Sub H1 H1 ∧
              FnH Tryd.prog 14 #[.pointer (some ⟨d0, d0o, none⟩), .string o_1] H1 fun r233 H233 =>
                ∃ n225 : Int,
                r233 = .int .i64 n225 ∧
                FnH Tryd.prog 34 #[.pointer (some ⟨r, ro, none⟩), .string o_1] H233 fun r234 H234 =>
                  ∃ n226 : Int,
                  r234 = .int .i64 n226 ∧
                  K (.bool ((n225 : Int) == n226)) H234)
             (
              br ((n1 : Int) == 5) (
                (FnH Tryd.prog 35 #[.pointer (some ⟨d0, d0o, none⟩), .string o_1, .int .i64 o_3] H1 fun r235 H235 =>
                  ∃ n227 : Int,
                  r235 = .int .i64 n227 ∧
                  (FnH Tryd.prog 36 #[.pointer (some ⟨r, ro, none⟩), .string o_1, .int .i64 o_3] H235 fun r236 H236 =>
                    ∃ n228 : Int,
                    r236 = .int .i64 n228 ∧
                    K (.bool ((n227 : Int) == n228)) H236) ∧
                  FnH Tryd.prog 36 #[.pointer (some ⟨r, ro, none⟩), .string o_1, .int .i64 o_3] H235 fun r237 H237 =>
                    ∃ n229 : Int,
                    r237 = .int .i64 n229 ∧
                    K (.bool ((n227 : Int) == n229)) H237) ∧
                (Sub H1 H1 ∧
                (FnH Tryd.prog 35 #[.pointer (some ⟨d0, d0o, none⟩), .string o_1, .int .i64 o_3] H1 fun r238 H238 =>
                  ∃ n230 : Int,
                  r238 = .int .i64 n230 ∧
                  FnH Tryd.prog 36 #[.pointer (some ⟨r, ro, none⟩), .string o_1, .int .i64 o_3] H238 fun r239 H239 =>
                    ∃ n231 : Int,
                    r239 = .int .i64 n231 ∧
                    K (.bool ((n230 : Int) == n231)) H239) ∧
                Sub H1 H1 ∧
                FnH Tryd.prog 35 #[.pointer (some ⟨d0, d0o, none⟩), .string o_1, .int .i64 o_3] H1 fun r240 H240 =>
                  ∃ n232 : Int,
                  r240 = .int .i64 n232 ∧
                  FnH Tryd.prog 36 #[.pointer (some ⟨r, ro, none⟩), .string o_1, .int .i64 o_3] H240 fun r241 H241 =>
                    ∃ n233 : Int,
                    r241 = .int .i64 n233 ∧
                    K (.bool ((n232 : Int) == n233)) H241) ∧
                Sub H1 H1 ∧
                (FnH Tryd.prog 35 #[.pointer (some ⟨d0, d0o, none⟩), .string o_1, .int .i64 o_3] H1 fun r242 H242 =>
                  ∃ n234 : Int,
                  r242 = .int .i64 n234 ∧
                  FnH Tryd.prog 36 #[.pointer (some ⟨r, ro, none⟩), .string o_1, .int .i64 o_3] H242 fun r243 H243 =>
                    ∃ n235 : Int,
                    r243 = .int .i64 n235 ∧
                    K (.bool ((n234 : Int) == n235)) H243) ∧
                Sub H1 H1 ∧
                FnH Tryd.prog 35 #[.pointer (some ⟨d0, d0o, none⟩), .string o_1, .int .i64 o_3] H1 fun r244 H244 =>
                  ∃ n236 : Int,
                  r244 = .int .i64 n236 ∧
                  FnH Tryd.prog 36 #[.pointer (some ⟨r, ro, none⟩), .string o_1, .int .i64 o_3] H244 fun r245 H245 =>
                    ∃ n237 : Int,
                    r245 = .int .i64 n237 ∧
                    K (.bool ((n236 : Int) == n237)) H245)
               (
                br ((n1 : Int) == 6) (
                  (FnH Tryd.prog 19 #[.pointer (some ⟨d0, d0o, none⟩), .string o_1, .string o_2] H1 fun r246 H246 =>
                    ∃ n238 : Int,
                    r246 = .int .i64 n238 ∧
                    (FnH Tryd.prog 37 #[.pointer (some ⟨r, ro, none⟩), .string o_1, .string o_2] H246 fun r247 H247 =>
                      ∃ n239 : Int,
                      r247 = .int .i64 n239 ∧
                      K (.bool ((n238 : Int) == n239)) H247) ∧
                    FnH Tryd.prog 37 #[.pointer (some ⟨r, ro, none⟩), .string o_1, .string o_2] H246 fun r248 H248 =>
                      ∃ n240 : Int,
                      r248 = .int .i64 n240 ∧
                      K (.bool ((n238 : Int) == n240)) H248) ∧
                  (Sub H1 H1 ∧
                  (FnH Tryd.prog 19 #[.pointer (some ⟨d0, d0o, none⟩), .string o_1, .string o_2] H1 fun r249 H249 =>
                    ∃ n241 : Int,
                    r249 = .int .i64 n241 ∧
                    FnH Tryd.prog 37 #[.pointer (some ⟨r, ro, none⟩), .string o_1, .string o_2] H249 fun r250 H250 =>
                      ∃ n242 : Int,
                      r250 = .int .i64 n242 ∧
                      K (.bool ((n241 : Int) == n242)) H250) ∧
                  Sub H1 H1 ∧
                  FnH Tryd.prog 19 #[.pointer (some ⟨d0, d0o, none⟩), .string o_1, .string o_2] H1 fun r251 H251 =>
                    ∃ n243 : Int,
                    r251 = .int .i64 n243 ∧
                    FnH Tryd.prog 37 #[.pointer (some ⟨r, ro, none⟩), .string o_1, .string o_2] H251 fun r252 H252 =>
                      ∃ n244 : Int,
                      r252 = .int .i64 n244 ∧
                      K (.bool ((n243 : Int) == n244)) H252) ∧
                  Sub H1 H1 ∧
                  (FnH Tryd.prog 19 #[.pointer (some ⟨d0, d0o, none⟩), .string o_1, .string o_2] H1 fun r253 H253 =>
                    ∃ n245 : Int,
                    r253 = .int .i64 n245 ∧
                    FnH Tryd.prog 37 #[.pointer (some ⟨r, ro, none⟩), .string o_1, .string o_2] H253 fun r254 H254 =>
                      ∃ n246 : Int,
                      r254 = .int .i64 n246 ∧
                      K (.bool ((n245 : Int) == n246)) H254) ∧
                  Sub H1 H1 ∧
                  FnH Tryd.prog 19 #[.pointer (some ⟨d0, d0o, none⟩), .string o_1, .string o_2] H1 fun r255 H255 =>
                    ∃ n247 : Int,
                    r255 = .int .i64 n247 ∧
                    FnH Tryd.prog 37 #[.pointer (some ⟨r, ro, none⟩), .string o_1, .string o_2] H255 fun r256 H256 =>
                      ∃ n248 : Int,
                      r256 = .int .i64 n248 ∧
                      K (.bool ((n247 : Int) == n248)) H256)
                 (
                  br ((n1 : Int) == 7) (
                    (FnH Tryd.prog 38 #[.pointer (some ⟨d0, d0o, none⟩), .string o_1, .string o_2] H1 fun r257 H257 =>
                      ∃ n249 : Int,
                      r257 = .int .i64 n249 ∧
                      (FnH Tryd.prog 39 #[.pointer (some ⟨r, ro, none⟩), .string o_1, .string o_2] H257 fun r258 H258 =>
                        ∃ n250 : Int,
                        r258 = .int .i64 n250 ∧
                        K (.bool ((n249 : Int) == n250)) H258) ∧
                      FnH Tryd.prog 39 #[.pointer (some ⟨r, ro, none⟩), .string o_1, .string o_2] H257 fun r259 H259 =>
                        ∃ n251 : Int,
                        r259 = .int .i64 n251 ∧
                        K (.bool ((n249 : Int) == n251)) H259) ∧
                    (Sub H1 H1 ∧
                    (FnH Tryd.prog 38 #[.pointer (some ⟨d0, d0o, none⟩), .string o_1, .string o_2] H1 fun r260 H260 =>
                      ∃ n252 : Int,
                      r260 = .int .i64 n252 ∧
                      FnH Tryd.prog 39 #[.pointer (some ⟨r, ro, none⟩), .string o_1, .string o_2] H260 fun r261 H261 =>
                        ∃ n253 : Int,
                        r261 = .int .i64 n253 ∧
                        K (.bool ((n252 : Int) == n253)) H261) ∧
                    Sub H1 H1 ∧
                    FnH Tryd.prog 38 #[.pointer (some ⟨d0, d0o, none⟩), .string o_1, .string o_2] H1 fun r262 H262 =>
                      ∃ n254 : Int,
                      r262 = .int .i64 n254 ∧
                      FnH Tryd.prog 39 #[.pointer (some ⟨r, ro, none⟩), .string o_1, .string o_2] H262 fun r263 H263 =>
                        ∃ n255 : Int,
                        r263 = .int .i64 n255 ∧
                        K (.bool ((n254 : Int) == n255)) H263) ∧
                    Sub H1 H1 ∧
                    (FnH Tryd.prog 38 #[.pointer (some ⟨d0, d0o, none⟩), .string o_1, .string o_2] H1 fun r264 H264 =>
                      ∃ n256 : Int,
                      r264 = .int .i64 n256 ∧
                      FnH Tryd.prog 39 #[.pointer (some ⟨r, ro, none⟩), .string o_1, .string o_2] H264 fun r265 H265 =>
                        ∃ n257 : Int,
                        r265 = .int .i64 n257 ∧
                        K (.bool ((n256 : Int) == n257)) H265) ∧
                    Sub H1 H1 ∧
                    FnH Tryd.prog 38 #[.pointer (some ⟨d0, d0o, none⟩), .string o_1, .string o_2] H1 fun r266 H266 =>
                      ∃ n258 : Int,
                      r266 = .int .i64 n258 ∧
                      FnH Tryd.prog 39 #[.pointer (some ⟨r, ro, none⟩), .string o_1, .string o_2] H266 fun r267 H267 =>
                        ∃ n259 : Int,
                        r267 = .int .i64 n259 ∧
                        K (.bool ((n258 : Int) == n259)) H267)
                   (
                    br ((n1 : Int) == 8) (
                      (2 : Int) ≠ 0 ∧
                      br (((Int.tmod o_3 2) : Int) == 0) (
                        (FnH Tryd.prog 40 #[.pointer (some ⟨d0, d0o, none⟩), .string o_1] H1 fun r268 H268 =>
                          ∃ n260 : Int,
                          r268 = .int .i64 n260 ∧
                          FnH Tryd.prog 41 #[.pointer (some ⟨r, ro, none⟩), .string o_1] H268 fun r269 H269 =>
                            ∃ n261 : Int,
                            r269 = .int .i64 n261 ∧
                            K (.bool ((n260 : Int) == n261)) H269) ∧
                        Sub H1 H1 ∧
                        FnH Tryd.prog 40 #[.pointer (some ⟨d0, d0o, none⟩), .string o_1] H1 fun r270 H270 =>
                          ∃ n262 : Int,
                          r270 = .int .i64 n262 ∧
                          FnH Tryd.prog 41 #[.pointer (some ⟨r, ro, none⟩), .string o_1] H270 fun r271 H271 =>
                            ∃ n263 : Int,
                            r271 = .int .i64 n263 ∧
                            K (.bool ((n262 : Int) == n263)) H271)
                       (
                        FnH Tryd.prog 16 #[.pointer (some ⟨d0, d0o, none⟩), .string o_1] H1 fun r272 H272 =>
                          ∃ s9 : ByteArray,
                          ∃ n264 : Int,
                          r272 = .tuple #[.string s9, .int .i64 n264] ∧
                          FnH Tryd.prog 42 #[.pointer (some ⟨r, ro, none⟩), .string o_1] H272 fun r273 H273 =>
                            ∃ s10 : ByteArray,
                            ∃ n265 : Int,
                            r273 = .tuple #[.string s10, .int .i64 n265] ∧
                            br (s9.toList == s10.toList) (
                              br ((n264 : Int) == n265) (
                                FnH Tryd.prog 26 #[.pointer (some ⟨d0, d0o, none⟩), .string o_1] H273 fun r274 H274 =>
                                  ∃ n266 : Int,
                                  r274 = .int .i64 n266 ∧
                                  Sub H273 H274 ∧
                                  FnH Tryd.prog 43 #[.pointer (some ⟨r, ro, none⟩), .string o_1] H274 fun r275 H275 =>
                                    ∃ n267 : Int,
                                    r275 = .int .i64 n267 ∧
                                    Sub H273 H275 ∧
                                    br ((n266 : Int) == n267) (
                                      FnH Tryd.prog 17 #[.pointer (some ⟨d0, d0o, none⟩), .string o_1] H275 fun r276 H276 =>
                                        ∃ n268 : Int,
                                        r276 = .int .i64 n268 ∧
                                        Sub H273 H276 ∧
                                        FnH Tryd.prog 44 #[.pointer (some ⟨r, ro, none⟩), .string o_1] H276 fun r277 H277 =>
                                          ∃ n269 : Int,
                                          r277 = .int .i64 n269 ∧
                                          Sub H273 H277 ∧
                                          K (.bool ((n268 : Int) == n269)) H277)
                                     (
                                      K (.bool false) H275))
                               (
                                K (.bool false) H273))
                             (
                              K (.bool false) H273)))
                     (
                      FnH Tryd.prog 15 #[.pointer (some ⟨d0, d0o, none⟩), .slice o_4.p o_4.n o_4.c] H1 fun r278 H278 =>
                        r278 = .tuple #[] ∧
                        FnH Tryd.prog 45 #[.pointer (some ⟨r, ro, none⟩), .slice o_4.p o_4.n o_4.c] H278 fun r279 H279 =>
                          r279 = .tuple #[] ∧
                          K (.bool true) H279))))))
           (
            br ((n1 : Int) == 4) (
              (FnH Tryd.prog 14 #[.pointer (some ⟨d0, d0o, none⟩), .string o_1] H1 fun r280 H280 =>
                ∃ n270 : Int,
                r280 = .int .i64 n270 ∧
                FnH Tryd.prog 34 #[.pointer (some ⟨r, ro, none⟩), .string o_1] H280 fun r281 H281 =>
                  ∃ n271 : Int,
                  r281 = .int .i64 n271 ∧
                  K (.bool ((n270 : Int) == n271)) H281) ∧
              Sub H1 H1 ∧
              FnH Tryd.prog 14 #[.pointer (some ⟨d0, d0o, none⟩), .string o_1] H1 fun r282 H282 =>
                ∃ n272 : Int,
                r282 = .int .i64 n272 ∧
                FnH Tryd.prog 34 #[.pointer (some ⟨r, ro, none⟩), .string o_1] H282 fun r283 H283 =>
                  ∃ n273 : Int,
                  r283 = .int .i64 n273 ∧
                  K (.bool ((n272 : Int) == n273)) H283)
             (
              br ((n1 : Int) == 5) (
                (FnH Tryd.prog 35 #[.pointer (some ⟨d0, d0o, none⟩), .string o_1, .int .i64 o_3] H1 fun r284 H284 =>
                  ∃ n274 : Int,
                  r284 = .int .i64 n274 ∧
                  (FnH Tryd.prog 36 #[.pointer (some ⟨r, ro, none⟩), .string o_1, .int .i64 o_3] H284 fun r285 H285 =>
                    ∃ n275 : Int,
                    r285 = .int .i64 n275 ∧
                    K (.bool ((n274 : Int) == n275)) H285) ∧
                  FnH Tryd.prog 36 #[.pointer (some ⟨r, ro, none⟩), .string o_1, .int .i64 o_3] H284 fun r286 H286 =>
                    ∃ n276 : Int,
                    r286 = .int .i64 n276 ∧
                    K (.bool ((n274 : Int) == n276)) H286) ∧
                (Sub H1 H1 ∧
                (FnH Tryd.prog 35 #[.pointer (some ⟨d0, d0o, none⟩), .string o_1, .int .i64 o_3] H1 fun r287 H287 =>
                  ∃ n277 : Int,
                  r287 = .int .i64 n277 ∧
                  FnH Tryd.prog 36 #[.pointer (some ⟨r, ro, none⟩), .string o_1, .int .i64 o_3] H287 fun r288 H288 =>
                    ∃ n278 : Int,
                    r288 = .int .i64 n278 ∧
                    K (.bool ((n277 : Int) == n278)) H288) ∧
                Sub H1 H1 ∧
                FnH Tryd.prog 35 #[.pointer (some ⟨d0, d0o, none⟩), .string o_1, .int .i64 o_3] H1 fun r289 H289 =>
                  ∃ n279 : Int,
                  r289 = .int .i64 n279 ∧
                  FnH Tryd.prog 36 #[.pointer (some ⟨r, ro, none⟩), .string o_1, .int .i64 o_3] H289 fun r290 H290 =>
                    ∃ n280 : Int,
                    r290 = .int .i64 n280 ∧
                    K (.bool ((n279 : Int) == n280)) H290) ∧
                Sub H1 H1 ∧
                (FnH Tryd.prog 35 #[.pointer (some ⟨d0, d0o, none⟩), .string o_1, .int .i64 o_3] H1 fun r291 H291 =>
                  ∃ n281 : Int,
                  r291 = .int .i64 n281 ∧
                  FnH Tryd.prog 36 #[.pointer (some ⟨r, ro, none⟩), .string o_1, .int .i64 o_3] H291 fun r292 H292 =>
                    ∃ n282 : Int,
                    r292 = .int .i64 n282 ∧
                    K (.bool ((n281 : Int) == n282)) H292) ∧
                Sub H1 H1 ∧
                FnH Tryd.prog 35 #[.pointer (some ⟨d0, d0o, none⟩), .string o_1, .int .i64 o_3] H1 fun r293 H293 =>
                  ∃ n283 : Int,
                  r293 = .int .i64 n283 ∧
                  FnH Tryd.prog 36 #[.pointer (some ⟨r, ro, none⟩), .string o_1, .int .i64 o_3] H293 fun r294 H294 =>
                    ∃ n284 : Int,
                    r294 = .int .i64 n284 ∧
                    K (.bool ((n283 : Int) == n284)) H294)
               (
                br ((n1 : Int) == 6) (
                  (FnH Tryd.prog 19 #[.pointer (some ⟨d0, d0o, none⟩), .string o_1, .string o_2] H1 fun r295 H295 =>
                    ∃ n285 : Int,
                    r295 = .int .i64 n285 ∧
                    (FnH Tryd.prog 37 #[.pointer (some ⟨r, ro, none⟩), .string o_1, .string o_2] H295 fun r296 H296 =>
                      ∃ n286 : Int,
                      r296 = .int .i64 n286 ∧
                      K (.bool ((n285 : Int) == n286)) H296) ∧
                    FnH Tryd.prog 37 #[.pointer (some ⟨r, ro, none⟩), .string o_1, .string o_2] H295 fun r297 H297 =>
                      ∃ n287 : Int,
                      r297 = .int .i64 n287 ∧
                      K (.bool ((n285 : Int) == n287)) H297) ∧
                  (Sub H1 H1 ∧
                  (FnH Tryd.prog 19 #[.pointer (some ⟨d0, d0o, none⟩), .string o_1, .string o_2] H1 fun r298 H298 =>
                    ∃ n288 : Int,
                    r298 = .int .i64 n288 ∧
                    FnH Tryd.prog 37 #[.pointer (some ⟨r, ro, none⟩), .string o_1, .string o_2] H298 fun r299 H299 =>
                      ∃ n289 : Int,
                      r299 = .int .i64 n289 ∧
                      K (.bool ((n288 : Int) == n289)) H299) ∧
                  Sub H1 H1 ∧
                  FnH Tryd.prog 19 #[.pointer (some ⟨d0, d0o, none⟩), .string o_1, .string o_2] H1 fun r300 H300 =>
                    ∃ n290 : Int,
                    r300 = .int .i64 n290 ∧
                    FnH Tryd.prog 37 #[.pointer (some ⟨r, ro, none⟩), .string o_1, .string o_2] H300 fun r301 H301 =>
                      ∃ n291 : Int,
                      r301 = .int .i64 n291 ∧
                      K (.bool ((n290 : Int) == n291)) H301) ∧
                  Sub H1 H1 ∧
                  (FnH Tryd.prog 19 #[.pointer (some ⟨d0, d0o, none⟩), .string o_1, .string o_2] H1 fun r302 H302 =>
                    ∃ n292 : Int,
                    r302 = .int .i64 n292 ∧
                    FnH Tryd.prog 37 #[.pointer (some ⟨r, ro, none⟩), .string o_1, .string o_2] H302 fun r303 H303 =>
                      ∃ n293 : Int,
                      r303 = .int .i64 n293 ∧
                      K (.bool ((n292 : Int) == n293)) H303) ∧
                  Sub H1 H1 ∧
                  FnH Tryd.prog 19 #[.pointer (some ⟨d0, d0o, none⟩), .string o_1, .string o_2] H1 fun r304 H304 =>
                    ∃ n294 : Int,
                    r304 = .int .i64 n294 ∧
                    FnH Tryd.prog 37 #[.pointer (some ⟨r, ro, none⟩), .string o_1, .string o_2] H304 fun r305 H305 =>
                      ∃ n295 : Int,
                      r305 = .int .i64 n295 ∧
                      K (.bool ((n294 : Int) == n295)) H305)
                 (
                  br ((n1 : Int) == 7) (
                    (FnH Tryd.prog 38 #[.pointer (some ⟨d0, d0o, none⟩), .string o_1, .string o_2] H1 fun r306 H306 =>
                      ∃ n296 : Int,
                      r306 = .int .i64 n296 ∧
                      (FnH Tryd.prog 39 #[.pointer (some ⟨r, ro, none⟩), .string o_1, .string o_2] H306 fun r307 H307 =>
                        ∃ n297 : Int,
                        r307 = .int .i64 n297 ∧
                        K (.bool ((n296 : Int) == n297)) H307) ∧
                      FnH Tryd.prog 39 #[.pointer (some ⟨r, ro, none⟩), .string o_1, .string o_2] H306 fun r308 H308 =>
                        ∃ n298 : Int,
                        r308 = .int .i64 n298 ∧
                        K (.bool ((n296 : Int) == n298)) H308) ∧
                    (Sub H1 H1 ∧
                    (FnH Tryd.prog 38 #[.pointer (some ⟨d0, d0o, none⟩), .string o_1, .string o_2] H1 fun r309 H309 =>
                      ∃ n299 : Int,
                      r309 = .int .i64 n299 ∧
                      FnH Tryd.prog 39 #[.pointer (some ⟨r, ro, none⟩), .string o_1, .string o_2] H309 fun r310 H310 =>
                        ∃ n300 : Int,
                        r310 = .int .i64 n300 ∧
                        K (.bool ((n299 : Int) == n300)) H310) ∧
                    Sub H1 H1 ∧
                    FnH Tryd.prog 38 #[.pointer (some ⟨d0, d0o, none⟩), .string o_1, .string o_2] H1 fun r311 H311 =>
                      ∃ n301 : Int,
                      r311 = .int .i64 n301 ∧
                      FnH Tryd.prog 39 #[.pointer (some ⟨r, ro, none⟩), .string o_1, .string o_2] H311 fun r312 H312 =>
                        ∃ n302 : Int,
                        r312 = .int .i64 n302 ∧
                        K (.bool ((n301 : Int) == n302)) H312) ∧
                    Sub H1 H1 ∧
                    (FnH Tryd.prog 38 #[.pointer (some ⟨d0, d0o, none⟩), .string o_1, .string o_2] H1 fun r313 H313 =>
                      ∃ n303 : Int,
                      r313 = .int .i64 n303 ∧
                      FnH Tryd.prog 39 #[.pointer (some ⟨r, ro, none⟩), .string o_1, .string o_2] H313 fun r314 H314 =>
                        ∃ n304 : Int,
                        r314 = .int .i64 n304 ∧
                        K (.bool ((n303 : Int) == n304)) H314) ∧
                    Sub H1 H1 ∧
                    FnH Tryd.prog 38 #[.pointer (some ⟨d0, d0o, none⟩), .string o_1, .string o_2] H1 fun r315 H315 =>
                      ∃ n305 : Int,
                      r315 = .int .i64 n305 ∧
                      FnH Tryd.prog 39 #[.pointer (some ⟨r, ro, none⟩), .string o_1, .string o_2] H315 fun r316 H316 =>
                        ∃ n306 : Int,
                        r316 = .int .i64 n306 ∧
                        K (.bool ((n305 : Int) == n306)) H316)
                   (
                    br ((n1 : Int) == 8) (
                      (2 : Int) ≠ 0 ∧
                      br (((Int.tmod o_3 2) : Int) == 0) (
                        (FnH Tryd.prog 40 #[.pointer (some ⟨d0, d0o, none⟩), .string o_1] H1 fun r317 H317 =>
                          ∃ n307 : Int,
                          r317 = .int .i64 n307 ∧
                          FnH Tryd.prog 41 #[.pointer (some ⟨r, ro, none⟩), .string o_1] H317 fun r318 H318 =>
                            ∃ n308 : Int,
                            r318 = .int .i64 n308 ∧
                            K (.bool ((n307 : Int) == n308)) H318) ∧
                        Sub H1 H1 ∧
                        FnH Tryd.prog 40 #[.pointer (some ⟨d0, d0o, none⟩), .string o_1] H1 fun r319 H319 =>
                          ∃ n309 : Int,
                          r319 = .int .i64 n309 ∧
                          FnH Tryd.prog 41 #[.pointer (some ⟨r, ro, none⟩), .string o_1] H319 fun r320 H320 =>
                            ∃ n310 : Int,
                            r320 = .int .i64 n310 ∧
                            K (.bool ((n309 : Int) == n310)) H320)
                       (
                        FnH Tryd.prog 16 #[.pointer (some ⟨d0, d0o, none⟩), .string o_1] H1 fun r321 H321 =>
                          ∃ s11 : ByteArray,
                          ∃ n311 : Int,
                          r321 = .tuple #[.string s11, .int .i64 n311] ∧
                          FnH Tryd.prog 42 #[.pointer (some ⟨r, ro, none⟩), .string o_1] H321 fun r322 H322 =>
                            ∃ s12 : ByteArray,
                            ∃ n312 : Int,
                            r322 = .tuple #[.string s12, .int .i64 n312] ∧
                            br (s11.toList == s12.toList) (
                              br ((n311 : Int) == n312) (
                                FnH Tryd.prog 26 #[.pointer (some ⟨d0, d0o, none⟩), .string o_1] H322 fun r323 H323 =>
                                  ∃ n313 : Int,
                                  r323 = .int .i64 n313 ∧
                                  Sub H322 H323 ∧
                                  FnH Tryd.prog 43 #[.pointer (some ⟨r, ro, none⟩), .string o_1] H323 fun r324 H324 =>
                                    ∃ n314 : Int,
                                    r324 = .int .i64 n314 ∧
                                    Sub H322 H324 ∧
                                    br ((n313 : Int) == n314) (
                                      FnH Tryd.prog 17 #[.pointer (some ⟨d0, d0o, none⟩), .string o_1] H324 fun r325 H325 =>
                                        ∃ n315 : Int,
                                        r325 = .int .i64 n315 ∧
                                        Sub H322 H325 ∧
                                        FnH Tryd.prog 44 #[.pointer (some ⟨r, ro, none⟩), .string o_1] H325 fun r326 H326 =>
                                          ∃ n316 : Int,
                                          r326 = .int .i64 n316 ∧
                                          Sub H322 H326 ∧
                                          K (.bool ((n315 : Int) == n316)) H326)
                                     (
                                      K (.bool false) H324))
                               (
                                K (.bool false) H322))
                             (
                              K (.bool false) H322)))
                     (
                      FnH Tryd.prog 15 #[.pointer (some ⟨d0, d0o, none⟩), .slice o_4.p o_4.n o_4.c] H1 fun r327 H327 =>
                        r327 = .tuple #[] ∧
                        FnH Tryd.prog 45 #[.pointer (some ⟨r, ro, none⟩), .slice o_4.p o_4.n o_4.c] H327 fun r328 H328 =>
                          r328 = .tuple #[] ∧
                          K (.bool true) H328)))))))))
theorem logboomlaw1_does_eq (d0 : Nat) (d0o : Nat) (r : Nat) (ro : Nat) (o_0 : Int) (o_1 : ByteArray) (o_2 : ByteArray) (o_3 : Int) (o_4 : Sl) (H : Heap) (K : Value → Heap → Prop) : logboomlaw1_does_vc d0 d0o r ro o_0 o_1 o_2 o_3 o_4 H K = denFn Tryd.prog logboomlaw1_does_ann Tryd.f22 (bodyOf Tryd.f22) [.pointer (some ⟨d0, d0o, none⟩), .pointer (some ⟨r, ro, none⟩), .agg #[.int .i64 o_0, .string o_1, .string o_2, .int .i64 o_3, .slice o_4.p o_4.n o_4.c]] H K := by kernel_rfl
theorem logboomlaw1_does_fn (d0 : Nat) (d0o : Nat) (r : Nat) (ro : Nat) (o_0 : Int) (o_1 : ByteArray) (o_2 : ByteArray) (o_3 : Int) (o_4 : Sl) {H : Heap} {K : Value → Heap → Prop} (h : logboomlaw1_does_vc d0 d0o r ro o_0 o_1 o_2 o_3 o_4 H K) : FnH Tryd.prog 22 #[.pointer (some ⟨d0, d0o, none⟩), .pointer (some ⟨r, ro, none⟩), .agg #[.int .i64 o_0, .string o_1, .string o_2, .int .i64 o_3, .slice o_4.p o_4.n o_4.c]] H K :=
  denFn_fn Tryd.mixed logboomlaw1_does_ann Tryd.func22 (bodyOf_spec (by kernel_rfl)) (logboomlaw1_does_eq d0 d0o r ro o_0 o_1 o_2 o_3 o_4 H K) h

/-! function 23: logboom/logboomlaw1.alike -/
def logboomlaw1_alike_ann : Anns := { hid := [7], loops := [(0, { slots := [(6, .int .i64)], kept := [0, 1, 5], locs := [], keptL := [] })], joins := [], mix := [(9, [])] }
def logboomlaw1_alike_vc (d0 : Nat) (d0o : Nat) (r : Nat) (ro : Nat) (H : Heap) (K : Value → Heap → Prop) : Prop :=
  FnH Tryd.prog 20 #[.pointer (some ⟨d0, d0o, none⟩)] H fun r1 H1 =>
    ∃ l1 : Sl,
    r1 = .slice l1.p l1.n l1.c ∧
    ∃ l2 : Sl,
    cellH H1 ⟨r, ro + 1, none⟩ = some (.slice l2.p l2.n l2.c) ∧
    br (((l1.n : Nat) : Int) != (l2.n : Nat)) (
      K (.bool false) H1)
     (
      FnH Tryd.prog 18 #[.pointer (some ⟨d0, d0o, none⟩)] H1 fun r2 H2 =>
        ∃ n1 : Int,
        r2 = .int .i64 n1 ∧
        FnH Tryd.prog 46 #[.pointer (some ⟨r, ro, none⟩)] H2 fun r3 H3 =>
          ∃ n2 : Int,
          r3 = .int .i64 n2 ∧
          br ((n1 : Int) != n2) (
            K (.bool false) H3)
           (
            ∃ I1 : Int → Heap → Prop,
            ∃ M1 : Int → Heap → Nat,
            I1 0 H3 ∧
            ∀ i_1 : Int,
            ∀ H4 : Heap,
            I1 i_1 H4 →
            br (decide ((i_1 : Int) < (l1.n : Nat))) (
              ∃ l3 : Sl,
              cellH H4 ⟨r, ro + 1, none⟩ = some (.slice l3.p l3.n l3.c) ∧
              ∃ q1 : Nat,
              ∃ o1 : Nat,
              (l3.p : Option Addr) = some ⟨q1, o1, none⟩ ∧
              0 ≤ (i_1 : Int) ∧
              (i_1 : Int) < (l3.n : Nat) ∧
              ∃ s1 : ByteArray,
              cellH H4 ⟨q1, o1 + Int.toNat i_1 * 3, none⟩ = some (.string s1) ∧
              ∃ s2 : ByteArray,
              cellH H4 ⟨q1, o1 + Int.toNat i_1 * 3 + 1, none⟩ = some (.string s2) ∧
              ∃ n3 : Int,
              cellH H4 ⟨q1, o1 + Int.toNat i_1 * 3 + 2, none⟩ = some (.int .i64 n3) ∧
              FnH Tryd.prog 16 #[.pointer (some ⟨d0, d0o, none⟩), .string s1] H4 fun r4 H5 =>
                ∃ s3 : ByteArray,
                ∃ n4 : Int,
                r4 = .tuple #[.string s3, .int .i64 n4] ∧
                ∃ q2 : Nat,
                ∃ o2 : Nat,
                (l1.p : Option Addr) = some ⟨q2, o2, none⟩ ∧
                0 ≤ (i_1 : Int) ∧
                (i_1 : Int) < (l1.n : Nat) ∧
                ∃ s4 : ByteArray,
                cellH H5 ⟨q2, o2 + Int.toNat i_1, none⟩ = some (.string s4) ∧
                br (!(s4.toList == s1.toList)) (
                  K (.bool false) H5)
                 (
                  br ((n4 : Int) != 0) (
                    K (.bool false) H5)
                   (
                    br (!(s3.toList == s2.toList)) (
                      K (.bool false) H5)
                     (
                      FnH Tryd.prog 26 #[.pointer (some ⟨d0, d0o, none⟩), .string s1] H5 fun r5 H6 =>
                        ∃ n5 : Int,
                        r5 = .int .i64 n5 ∧
                        Sub H5 H6 ∧
                        br ((n5 : Int) != (s2.size : Nat)) (
                          K (.bool false) H6)
                         (
                          FnH Tryd.prog 17 #[.pointer (some ⟨d0, d0o, none⟩), .string s1] H6 fun r6 H7 =>
                            ∃ n6 : Int,
                            r6 = .int .i64 n6 ∧
                            Sub H5 H7 ∧
                            br ((n6 : Int) != n3) (
                              K (.bool false) H7)
                             (
                              SelfEq ([.v (.pointer (some ⟨d0, d0o, none⟩)), .v (.pointer (some ⟨r, ro, none⟩)), .v (.slice l1.p l1.n l1.c)], [], []) ∧
                              I1 (IntKind.wrap .i64 (i_1 + 1)) H7 ∧
                              M1 (IntKind.wrap .i64 (i_1 + 1)) H7 < M1 i_1 H4))))))
             (
              K (.bool true) H4)))
theorem logboomlaw1_alike_eq (d0 : Nat) (d0o : Nat) (r : Nat) (ro : Nat) (H : Heap) (K : Value → Heap → Prop) : logboomlaw1_alike_vc d0 d0o r ro H K = denFn Tryd.prog logboomlaw1_alike_ann Tryd.f23 (bodyOf Tryd.f23) [.pointer (some ⟨d0, d0o, none⟩), .pointer (some ⟨r, ro, none⟩)] H K := by kernel_rfl
theorem logboomlaw1_alike_fn (d0 : Nat) (d0o : Nat) (r : Nat) (ro : Nat) {H : Heap} {K : Value → Heap → Prop} (h : logboomlaw1_alike_vc d0 d0o r ro H K) : FnH Tryd.prog 23 #[.pointer (some ⟨d0, d0o, none⟩), .pointer (some ⟨r, ro, none⟩)] H K :=
  denFn_fn Tryd.mixed logboomlaw1_alike_ann Tryd.func23 (bodyOf_spec (by kernel_rfl)) (logboomlaw1_alike_eq d0 d0o r ro H K) h

/-! function 5: logboom/logboomlaw1.DiskPlays -/
def logboomlaw1_DiskPlays_ann : Anns := { hid := [], loops := [(0, { slots := [(9, .int .i64)], kept := [1, 6, 8], locs := [], keptL := [] })], joins := [], mix := [] }
def logboomlaw1_DiskPlays_vc (size : Int) (script : Sl) (H : Heap) (K : Value → Heap → Prop) : Prop :=
  FnH Tryd.prog 10 #[] H fun r1 H1 =>
    ∃ b1 : Bool,
    r1 = .bool b1 ∧
    FnH Tryd.prog 12 #[.int .i64 size] H1 fun r2 H2 =>
      ∃ p1 : Option Addr,
      ∃ n1 : Int,
      r2 = .tuple #[.pointer p1, .int .i64 n1] ∧
      FnH Tryd.prog 21 #[.int .i64 size] H2 fun r3 H3 =>
        ∃ p2 : Option Addr,
        r3 = .pointer p2 ∧
        br (Option.isNone p2) (
          br (b1) (
            br (Option.isNone p1) (
              K (.bool ((n1 : Int) == 1)) H3)
             (
              K (.bool false) H3))
           (
            K (.bool false) H3))
         (
          br (!b1) (
            K (.bool false) H3)
           (
            br (Option.isNone p1) (
              K (.bool false) H3)
             (
              br ((n1 : Int) != 0) (
                K (.bool false) H3)
               (
                ∃ I1 : Int → Heap → Prop,
                ∃ M1 : Int → Heap → Nat,
                I1 0 H3 ∧
                ∀ i_1 : Int,
                ∀ H4 : Heap,
                I1 i_1 H4 →
                br (decide ((i_1 : Int) < (script.n : Nat))) (
                  br (decide ((i_1 : Int) < 400)) (
                    ∃ q1 : Nat,
                    ∃ o1 : Nat,
                    (script.p : Option Addr) = some ⟨q1, o1, none⟩ ∧
                    0 ≤ (i_1 : Int) ∧
                    (i_1 : Int) < (script.n : Nat) ∧
                    ∃ n2 : Int,
                    cellH H4 ⟨q1, o1 + Int.toNat i_1 * 5, none⟩ = some (.int .i64 n2) ∧
                    ∃ s1 : ByteArray,
                    cellH H4 ⟨q1, o1 + Int.toNat i_1 * 5 + 1, none⟩ = some (.string s1) ∧
                    ∃ s2 : ByteArray,
                    cellH H4 ⟨q1, o1 + Int.toNat i_1 * 5 + 2, none⟩ = some (.string s2) ∧
                    ∃ n3 : Int,
                    cellH H4 ⟨q1, o1 + Int.toNat i_1 * 5 + 3, none⟩ = some (.int .i64 n3) ∧
                    ∃ l1 : Sl,
                    cellH H4 ⟨q1, o1 + Int.toNat i_1 * 5 + 4, none⟩ = some (.slice l1.p l1.n l1.c) ∧
                    FnH Tryd.prog 22 #[.pointer p1, .pointer p2, .agg #[.int .i64 n2, .string s1, .string s2, .int .i64 n3, .slice l1.p l1.n l1.c]] H4 fun r4 H5 =>
                      ∃ b2 : Bool,
                      r4 = .bool b2 ∧
                      FnH Tryd.prog 23 #[.pointer p1, .pointer p2] H5 fun r5 H6 =>
                        ∃ b3 : Bool,
                        r5 = .bool b3 ∧
                        br (!b2) (
                          K (.bool false) H6)
                         (
                          br (!b3) (
                            K (.bool false) H6)
                           (
                            SelfEq ([.v (.slice script.p script.n script.c), .v (.pointer p1), .v (.pointer p2)], [], []) ∧
                            I1 (IntKind.wrap .i64 (i_1 + 1)) H6 ∧
                            M1 (IntKind.wrap .i64 (i_1 + 1)) H6 < M1 i_1 H4)))
                   (
                    FnH Tryd.prog 24 #[.pointer p1] H4 fun r6 H7 =>
                      ∃ p3 : Option Addr,
                      r6 = .pointer p3 ∧
                      br (Option.isNone p3) (
                        K (.bool false) H7)
                       (
                        FnH Tryd.prog 13 #[.pointer p3, .string (⟨#[111, 116, 104, 101, 114]⟩ : ByteArray), .string (⟨#[120]⟩ : ByteArray)] H7 fun r7 H8 =>
                          ∃ n4 : Int,
                          r7 = .int .i64 n4 ∧
                          FnH Tryd.prog 15 #[.pointer p3, .slice none 0 0] H8 fun r8 H9 =>
                            r8 = .tuple #[] ∧
                            FnH Tryd.prog 23 #[.pointer p1, .pointer p2] H9 fun r9 H10 =>
                              ∃ b4 : Bool,
                              r9 = .bool b4 ∧
                              K (.bool b4) H10)))
                 (
                  FnH Tryd.prog 24 #[.pointer p1] H4 fun r10 H11 =>
                    ∃ p4 : Option Addr,
                    r10 = .pointer p4 ∧
                    br (Option.isNone p4) (
                      K (.bool false) H11)
                     (
                      FnH Tryd.prog 13 #[.pointer p4, .string (⟨#[111, 116, 104, 101, 114]⟩ : ByteArray), .string (⟨#[120]⟩ : ByteArray)] H11 fun r11 H12 =>
                        ∃ n5 : Int,
                        r11 = .int .i64 n5 ∧
                        FnH Tryd.prog 15 #[.pointer p4, .slice none 0 0] H12 fun r12 H13 =>
                          r12 = .tuple #[] ∧
                          FnH Tryd.prog 23 #[.pointer p1, .pointer p2] H13 fun r13 H14 =>
                            ∃ b5 : Bool,
                            r13 = .bool b5 ∧
                            K (.bool b5) H14))))))
theorem logboomlaw1_DiskPlays_eq (size : Int) (script : Sl) (H : Heap) (K : Value → Heap → Prop) : logboomlaw1_DiskPlays_vc size script H K = denFn Tryd.prog logboomlaw1_DiskPlays_ann Tryd.f5 (bodyOf Tryd.f5) [.int .i64 size, .slice script.p script.n script.c] H K := by kernel_rfl
theorem logboomlaw1_DiskPlays_fn (size : Int) (script : Sl) {H : Heap} {K : Value → Heap → Prop} (h : logboomlaw1_DiskPlays_vc size script H K) : FnH Tryd.prog 5 #[.int .i64 size, .slice script.p script.n script.c] H K :=
  denFn_fn Tryd.mixed logboomlaw1_DiskPlays_ann Tryd.func5 (bodyOf_spec (by kernel_rfl)) (logboomlaw1_DiskPlays_eq size script H K) h

end Go.Proofs.YtldaflbdldepnaaDoor
