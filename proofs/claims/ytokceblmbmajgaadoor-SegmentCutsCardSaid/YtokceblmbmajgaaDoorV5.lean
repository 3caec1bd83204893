/- Formulas of functions, printed by this session's vc.py; each is tied to the program by the kernel. -/
import Derived.Test.YtokceblmbmajgaaDoorProg
import Derived.KernelRfl
import Derived.Test.YtokceblmbmajgaaDoorHlFn
import Derived.Test.YtokceblmbmajgaaDoorV4
namespace Go.Proofs.YtokceblmbmajgaaDoor
open Go.HL
set_option maxRecDepth 100000
/-! function 3: logboom/logboomlaw5.SegmentSurvives -/
def logboomlaw5_SegmentSurvives_ann : Anns := { hid := [16], loops := [(0, { slots := [(12, .slice), (14, .int .i64), (15, .int .i64)], kept := [0, 1, 2, 8, 10, 13], locs := [], keptL := [] })], joins := [], mix := [(14, [10])] }
def logboomlaw5_SegmentSurvives_vc (sizes : Sl) (safe : Int) (keep : Sl) (H : Heap) (K : Value → Heap → Prop) : Prop :=
  FnH Tryd.prog 8 #[] H fun r1 H1 =>
    ∃ b1 : Bool,
    r1 = .bool b1 ∧
    FnH Tryd.prog 9 #[.int .i64 1000000] H1 fun r2 H2 =>
      ∃ p1 : Option Addr,
      ∃ n1 : Int,
      r2 = .tuple #[.pointer p1, .int .i64 n1] ∧
      br (!b1) (
        K (.bool false) H2)
       (
        br (Option.isNone p1) (
          K (.bool false) H2)
         (
          br ((n1 : Int) != 0) (
            K (.bool false) H2)
           (
            FnH Tryd.prog 10 #[.pointer p1, .string (⟨#[115]⟩ : ByteArray), .int .i64 0] H2 fun r3 H3 =>
              ∃ p2 : Option Addr,
              ∃ n2 : Int,
              ∃ n3 : Int,
              r3 = .tuple #[.pointer p2, .int .i64 n2, .int .i64 n3] ∧
              br (Option.isNone p2) (
                K (.bool false) H3)
               (
                br ((n3 : Int) != 0) (
                  K (.bool false) H3)
                 (
                  ∃ I1 : Sl → Int → Int → Heap → Prop,
                  ∃ M1 : Sl → Int → Int → Heap → Nat,
                  I1 ⟨none, 0, 0⟩ 0 0 H3 ∧
                  ∀ all_1 : Sl,
                  ∀ synced_1 : Int,
                  ∀ i_1 : Int,
                  ∀ H4 : Heap,
                  I1 all_1 synced_1 i_1 H4 →
                  br (decide ((i_1 : Int) < (if 40 < ((sizes.n : Nat) : Int) then 40 else ((sizes.n : Nat) : Int)))) (
                    ∃ q1 : Nat,
                    ∃ o1 : Nat,
                    (sizes.p : Option Addr) = some ⟨q1, o1, none⟩ ∧
                    0 ≤ (i_1 : Int) ∧
                    (i_1 : Int) < (sizes.n : Nat) ∧
                    ∃ n4 : Int,
                    cellH H4 ⟨q1, o1 + Int.toNat i_1, none⟩ = some (.int .i64 n4) ∧
                    (FnH Tryd.prog 12 #[.pointer p2] H4 fun r4 H5 =>
                      ∃ n5 : Int,
                      r4 = .int .i64 n5 ∧
                      Sub H4 H5 ∧
                      (FnH Tryd.prog 13 #[.int .i64 n4, .int .i64 20] H5 fun r5 H6 =>
                        ∃ n6 : Int,
                        r5 = .int .i64 n6 ∧
                        Sub H4 H6 ∧
                        (FnH Tryd.prog 11 #[.int .i64 n5, .int .i64 (IntKind.wrap .i64 (1 + n6))] H6 fun r6 H7 =>
                          ∃ n7 : Int,
                          ∃ n8 : Int,
                          ∃ n9 : Int,
                          ∃ n10 : Int,
                          ∃ n11 : Int,
                          ∃ l1 : Sl,
                          r6 = .agg #[.int .i64 n7, .int .i64 n8, .int .i64 n9, .int .i64 n10, .int .i64 n11, .slice l1.p l1.n l1.c] ∧
                          Sub H4 H7 ∧
                          Sub H4 H7 ∧
                          FnH Tryd.prog 14 #[.pointer p2, .agg #[.int .i64 n7, .int .i64 n8, .int .i64 n9, .int .i64 n10, .int .i64 n11, .slice l1.p l1.n l1.c]] H7 fun r7 H8 =>
                            ∃ n12 : Int,
                            r7 = .int .i64 n12 ∧
                            br ((n12 : Int) != 0) (
                              K (.bool false) H8)
                             (
                              ∀ q2 : Nat,
                              H8 q2 = none →
                              letH (Heap.upd H8 q2 (.cells #[.int .i64 n7, .int .i64 n8, .int .i64 n9, .int .i64 n10, .int .i64 n11, .slice l1.p l1.n l1.c] 34 (0, 0))) fun H9 =>
                              runH Tryd.prog (Builtin.append_ #[31, 31] 31 #[.slice all_1.p all_1.n all_1.c, .slice (some ⟨q2, 0, none⟩) 1 1]) H9 fun r8 H10 =>
                                ∃ l2 : Sl,
                                r8 = .slice l2.p l2.n l2.c ∧
                                FnH Tryd.prog 13 #[.int .i64 safe, .int .i64 (if 40 < ((sizes.n : Nat) : Int) then 40 else ((sizes.n : Nat) : Int))] H10 fun r9 H11 =>
                                  ∃ n13 : Int,
                                  r9 = .int .i64 n13 ∧
                                  br ((i_1 : Int) == n13) (
                                    FnH Tryd.prog 15 #[.pointer p2] H11 fun r10 H12 =>
                                      ∃ n14 : Int,
                                      r10 = .int .i64 n14 ∧
                                      br ((n14 : Int) != 0) (
                                        K (.bool false) H12)
                                       (
                                        FnH Tryd.prog 12 #[.pointer p2] H12 fun r11 H13 =>
                                          ∃ n15 : Int,
                                          r11 = .int .i64 n15 ∧
                                          SelfEq ([.v (.slice sizes.p sizes.n sizes.c), .v (.int .i64 safe), .v (.slice keep.p keep.n keep.c), .v (.pointer p1), .v (.pointer p2), .v (.int .i64 (if 40 < ((sizes.n : Nat) : Int) then 40 else ((sizes.n : Nat) : Int)))], [], []) ∧
                                          I1 l2 n15 (IntKind.wrap .i64 (i_1 + 1)) H13 ∧
                                          M1 l2 n15 (IntKind.wrap .i64 (i_1 + 1)) H13 < M1 all_1 synced_1 i_1 H4))
                                   (
                                    SelfEq ([.v (.slice sizes.p sizes.n sizes.c), .v (.int .i64 safe), .v (.slice keep.p keep.n keep.c), .v (.pointer p1), .v (.pointer p2), .v (.int .i64 (if 40 < ((sizes.n : Nat) : Int) then 40 else ((sizes.n : Nat) : Int)))], [], []) ∧
                                    I1 l2 synced_1 (IntKind.wrap .i64 (i_1 + 1)) H11 ∧
                                    M1 l2 synced_1 (IntKind.wrap .i64 (i_1 + 1)) H11 < M1 all_1 synced_1 i_1 H4))) ∧
                        Sub H4 H6 ∧
                        FnH Tryd.prog 11 #[.int .i64 n5, .int .i64 (IntKind.wrap .i64 (1 + n6))] H6 fun r12 H14 =>
                          ∃ n16 : Int,
                          ∃ n17 : Int,
                          ∃ n18 : Int,
                          ∃ n19 : Int,
                          ∃ n20 : Int,
                          ∃ l3 : Sl,
                          r12 = .agg #[.int .i64 n16, .int .i64 n17, .int .i64 n18, .int .i64 n19, .int .i64 n20, .slice l3.p l3.n l3.c] ∧
                          Sub H4 H14 ∧
                          FnH Tryd.prog 14 #[.pointer p2, .agg #[.int .i64 n16, .int .i64 n17, .int .i64 n18, .int .i64 n19, .int .i64 n20, .slice l3.p l3.n l3.c]] H14 fun r13 H15 =>
                            ∃ n21 : Int,
                            r13 = .int .i64 n21 ∧
                            br ((n21 : Int) != 0) (
                              K (.bool false) H15)
                             (
                              ∀ q3 : Nat,
                              H15 q3 = none →
                              letH (Heap.upd H15 q3 (.cells #[.int .i64 n16, .int .i64 n17, .int .i64 n18, .int .i64 n19, .int .i64 n20, .slice l3.p l3.n l3.c] 34 (0, 0))) fun H16 =>
                              runH Tryd.prog (Builtin.append_ #[31, 31] 31 #[.slice all_1.p all_1.n all_1.c, .slice (some ⟨q3, 0, none⟩) 1 1]) H16 fun r14 H17 =>
                                ∃ l4 : Sl,
                                r14 = .slice l4.p l4.n l4.c ∧
                                FnH Tryd.prog 13 #[.int .i64 safe, .int .i64 (if 40 < ((sizes.n : Nat) : Int) then 40 else ((sizes.n : Nat) : Int))] H17 fun r15 H18 =>
                                  ∃ n22 : Int,
                                  r15 = .int .i64 n22 ∧
                                  br ((i_1 : Int) == n22) (
                                    FnH Tryd.prog 15 #[.pointer p2] H18 fun r16 H19 =>
                                      ∃ n23 : Int,
                                      r16 = .int .i64 n23 ∧
                                      br ((n23 : Int) != 0) (
                                        K (.bool false) H19)
                                       (
                                        FnH Tryd.prog 12 #[.pointer p2] H19 fun r17 H20 =>
                                          ∃ n24 : Int,
                                          r17 = .int .i64 n24 ∧
                                          SelfEq ([.v (.slice sizes.p sizes.n sizes.c), .v (.int .i64 safe), .v (.slice keep.p keep.n keep.c), .v (.pointer p1), .v (.pointer p2), .v (.int .i64 (if 40 < ((sizes.n : Nat) : Int) then 40 else ((sizes.n : Nat) : Int)))], [], []) ∧
                                          I1 l4 n24 (IntKind.wrap .i64 (i_1 + 1)) H20 ∧
                                          M1 l4 n24 (IntKind.wrap .i64 (i_1 + 1)) H20 < M1 all_1 synced_1 i_1 H4))
                                   (
                                    SelfEq ([.v (.slice sizes.p sizes.n sizes.c), .v (.int .i64 safe), .v (.slice keep.p keep.n keep.c), .v (.pointer p1), .v (.pointer p2), .v (.int .i64 (if 40 < ((sizes.n : Nat) : Int) then 40 else ((sizes.n : Nat) : Int)))], [], []) ∧
                                    I1 l4 synced_1 (IntKind.wrap .i64 (i_1 + 1)) H18 ∧
                                    M1 l4 synced_1 (IntKind.wrap .i64 (i_1 + 1)) H18 < M1 all_1 synced_1 i_1 H4))) ∧
                      Sub H4 H5 ∧
                      FnH Tryd.prog 13 #[.int .i64 n4, .int .i64 20] H5 fun r18 H21 =>
                        ∃ n25 : Int,
                        r18 = .int .i64 n25 ∧
                        Sub H4 H21 ∧
                        FnH Tryd.prog 11 #[.int .i64 n5, .int .i64 (IntKind.wrap .i64 (1 + n25))] H21 fun r19 H22 =>
                          ∃ n26 : Int,
                          ∃ n27 : Int,
                          ∃ n28 : Int,
                          ∃ n29 : Int,
                          ∃ n30 : Int,
                          ∃ l5 : Sl,
                          r19 = .agg #[.int .i64 n26, .int .i64 n27, .int .i64 n28, .int .i64 n29, .int .i64 n30, .slice l5.p l5.n l5.c] ∧
                          Sub H4 H22 ∧
                          FnH Tryd.prog 14 #[.pointer p2, .agg #[.int .i64 n26, .int .i64 n27, .int .i64 n28, .int .i64 n29, .int .i64 n30, .slice l5.p l5.n l5.c]] H22 fun r20 H23 =>
                            ∃ n31 : Int,
                            r20 = .int .i64 n31 ∧
                            br ((n31 : Int) != 0) (
                              K (.bool false) H23)
                             (
                              ∀ q4 : Nat,
                              H23 q4 = none →
                              letH (Heap.upd H23 q4 (.cells #[.int .i64 n26, .int .i64 n27, .int .i64 n28, .int .i64 n29, .int .i64 n30, .slice l5.p l5.n l5.c] 34 (0, 0))) fun H24 =>
                              runH Tryd.prog (Builtin.append_ #[31, 31] 31 #[.slice all_1.p all_1.n all_1.c, .slice (some ⟨q4, 0, none⟩) 1 1]) H24 fun r21 H25 =>
                                ∃ l6 : Sl,
                                r21 = .slice l6.p l6.n l6.c ∧
                                FnH Tryd.prog 13 #[.int .i64 safe, .int .i64 (if 40 < ((sizes.n : Nat) : Int) then 40 else ((sizes.n : Nat) : Int))] H25 fun r22 H26 =>
                                  ∃ n32 : Int,
                                  r22 = .int .i64 n32 ∧
                                  br ((i_1 : Int) == n32) (
                                    FnH Tryd.prog 15 #[.pointer p2] H26 fun r23 H27 =>
                                      ∃ n33 : Int,
                                      r23 = .int .i64 n33 ∧
                                      br ((n33 : Int) != 0) (
                                        K (.bool false) H27)
                                       (
                                        FnH Tryd.prog 12 #[.pointer p2] H27 fun r24 H28 =>
                                          ∃ n34 : Int,
                                          r24 = .int .i64 n34 ∧
                                          SelfEq ([.v (.slice sizes.p sizes.n sizes.c), .v (.int .i64 safe), .v (.slice keep.p keep.n keep.c), .v (.pointer p1), .v (.pointer p2), .v (.int .i64 (if 40 < ((sizes.n : Nat) : Int) then 40 else ((sizes.n : Nat) : Int)))], [], []) ∧
                                          I1 l6 n34 (IntKind.wrap .i64 (i_1 + 1)) H28 ∧
                                          M1 l6 n34 (IntKind.wrap .i64 (i_1 + 1)) H28 < M1 all_1 synced_1 i_1 H4))
                                   (
                                    SelfEq ([.v (.slice sizes.p sizes.n sizes.c), .v (.int .i64 safe), .v (.slice keep.p keep.n keep.c), .v (.pointer p1), .v (.pointer p2), .v (.int .i64 (if 40 < ((sizes.n : Nat) : Int) then 40 else ((sizes.n : Nat) : Int)))], [], []) ∧
                                    I1 l6 synced_1 (IntKind.wrap .i64 (i_1 + 1)) H26 ∧
                                    M1 l6 synced_1 (IntKind.wrap .i64 (i_1 + 1)) H26 < M1 all_1 synced_1 i_1 H4))) ∧
                    Sub H4 H4 ∧
                    FnH Tryd.prog 12 #[.pointer p2] H4 fun r25 H29 =>
                      ∃ n35 : Int,
                      r25 = .int .i64 n35 ∧
                      Sub H4 H29 ∧
                      FnH Tryd.prog 13 #[.int .i64 n4, .int .i64 20] H29 fun r26 H30 =>
                        ∃ n36 : Int,
                        r26 = .int .i64 n36 ∧
                        Sub H4 H30 ∧
                        FnH Tryd.prog 11 #[.int .i64 n35, .int .i64 (IntKind.wrap .i64 (1 + n36))] H30 fun r27 H31 =>
                          ∃ n37 : Int,
                          ∃ n38 : Int,
                          ∃ n39 : Int,
                          ∃ n40 : Int,
                          ∃ n41 : Int,
                          ∃ l7 : Sl,
                          r27 = .agg #[.int .i64 n37, .int .i64 n38, .int .i64 n39, .int .i64 n40, .int .i64 n41, .slice l7.p l7.n l7.c] ∧
                          Sub H4 H31 ∧
                          FnH Tryd.prog 14 #[.pointer p2, .agg #[.int .i64 n37, .int .i64 n38, .int .i64 n39, .int .i64 n40, .int .i64 n41, .slice l7.p l7.n l7.c]] H31 fun r28 H32 =>
                            ∃ n42 : Int,
                            r28 = .int .i64 n42 ∧
                            br ((n42 : Int) != 0) (
                              K (.bool false) H32)
                             (
                              ∀ q5 : Nat,
                              H32 q5 = none →
                              letH (Heap.upd H32 q5 (.cells #[.int .i64 n37, .int .i64 n38, .int .i64 n39, .int .i64 n40, .int .i64 n41, .slice l7.p l7.n l7.c] 34 (0, 0))) fun H33 =>
                              runH Tryd.prog (Builtin.append_ #[31, 31] 31 #[.slice all_1.p all_1.n all_1.c, .slice (some ⟨q5, 0, none⟩) 1 1]) H33 fun r29 H34 =>
                                ∃ l8 : Sl,
                                r29 = .slice l8.p l8.n l8.c ∧
                                FnH Tryd.prog 13 #[.int .i64 safe, .int .i64 (if 40 < ((sizes.n : Nat) : Int) then 40 else ((sizes.n : Nat) : Int))] H34 fun r30 H35 =>
                                  ∃ n43 : Int,
                                  r30 = .int .i64 n43 ∧
                                  br ((i_1 : Int) == n43) (
                                    FnH Tryd.prog 15 #[.pointer p2] H35 fun r31 H36 =>
                                      ∃ n44 : Int,
                                      r31 = .int .i64 n44 ∧
                                      br ((n44 : Int) != 0) (
                                        K (.bool false) H36)
                                       (
                                        FnH Tryd.prog 12 #[.pointer p2] H36 fun r32 H37 =>
                                          ∃ n45 : Int,
                                          r32 = .int .i64 n45 ∧
                                          SelfEq ([.v (.slice sizes.p sizes.n sizes.c), .v (.int .i64 safe), .v (.slice keep.p keep.n keep.c), .v (.pointer p1), .v (.pointer p2), .v (.int .i64 (if 40 < ((sizes.n : Nat) : Int) then 40 else ((sizes.n : Nat) : Int)))], [], []) ∧
                                          I1 l8 n45 (IntKind.wrap .i64 (i_1 + 1)) H37 ∧
                                          M1 l8 n45 (IntKind.wrap .i64 (i_1 + 1)) H37 < M1 all_1 synced_1 i_1 H4))
                                   (
                                    SelfEq ([.v (.slice sizes.p sizes.n sizes.c), .v (.int .i64 safe), .v (.slice keep.p keep.n keep.c), .v (.pointer p1), .v (.pointer p2), .v (.int .i64 (if 40 < ((sizes.n : Nat) : Int) then 40 else ((sizes.n : Nat) : Int)))], [], []) ∧
                                    I1 l8 synced_1 (IntKind.wrap .i64 (i_1 + 1)) H35 ∧
                                    M1 l8 synced_1 (IntKind.wrap .i64 (i_1 + 1)) H35 < M1 all_1 synced_1 i_1 H4)))
                   (
                    FnH Tryd.prog 16 #[.pointer p1, .slice keep.p keep.n keep.c] H4 fun r33 H38 =>
                      r33 = .tuple #[] ∧
                      FnH Tryd.prog 10 #[.pointer p1, .string (⟨#[115]⟩ : ByteArray), .int .i64 0] H38 fun r34 H39 =>
                        ∃ p3 : Option Addr,
                        ∃ n46 : Int,
                        ∃ n47 : Int,
                        r34 = .tuple #[.pointer p3, .int .i64 n46, .int .i64 n47] ∧
                        br (Option.isNone p3) (
                          K (.bool false) H39)
                         (
                          br ((n47 : Int) != 0) (
                            K (.bool false) H39)
                           (
                            FnH Tryd.prog 12 #[.pointer p3] H39 fun r35 H40 =>
                              ∃ n48 : Int,
                              r35 = .int .i64 n48 ∧
                              br (decide ((n48 : Int) < synced_1)) (
                                K (.bool false) H40)
                               (
                                FnH Tryd.prog 17 #[.pointer p3] H40 fun r36 H41 =>
                                  ∃ n49 : Int,
                                  r36 = .int .i64 n49 ∧
                                  FnH Tryd.prog 12 #[.pointer p3] H41 fun r37 H42 =>
                                    ∃ n50 : Int,
                                    r37 = .int .i64 n50 ∧
                                    br ((n49 : Int) != n50) (
                                      K (.bool false) H42)
                                     (
                                      FnH Tryd.prog 18 #[.pointer p3, .int .i64 0, .int .i64 1000000] H42 fun r38 H43 =>
                                        ∃ l9 : Sl,
                                        r38 = .slice l9.p l9.n l9.c ∧
                                        br (decide (((l9.n : Nat) : Int) > (all_1.n : Nat))) (
                                          K (.bool false) H43)
                                         (
                                          0 ≤ ((l9.n : Nat) : Int) ∧
                                          ((l9.n : Nat) : Int) ≤ (all_1.c : Nat) ∧
                                          FnH Tryd.prog 19 #[.slice l9.p l9.n l9.c, .slice (slP all_1.p all_1.c (0 : Int) 6) (Int.toNat ((l9.n : Nat) - (0 : Int))) (Int.toNat ((all_1.c : Nat) - (0 : Int)))] H43 fun r39 H44 =>
                                            ∃ b2 : Bool,
                                            r39 = .bool b2 ∧
                                            K (.bool b2) H44)))))))))))
theorem logboomlaw5_SegmentSurvives_eq (sizes : Sl) (safe : Int) (keep : Sl) (H : Heap) (K : Value → Heap → Prop) : logboomlaw5_SegmentSurvives_vc sizes safe keep H K = denFn Tryd.prog logboomlaw5_SegmentSurvives_ann Tryd.f3 (bodyOf Tryd.f3) [.slice sizes.p sizes.n sizes.c, .int .i64 safe, .slice keep.p keep.n keep.c] H K := by kernel_rfl
theorem logboomlaw5_SegmentSurvives_fn (sizes : Sl) (safe : Int) (keep : Sl) {H : Heap} {K : Value → Heap → Prop} (h : logboomlaw5_SegmentSurvives_vc sizes safe keep H K) : FnH Tryd.prog 3 #[.slice sizes.p sizes.n sizes.c, .int .i64 safe, .slice keep.p keep.n keep.c] H K :=
  denFn_fn Tryd.mixed logboomlaw5_SegmentSurvives_ann Tryd.func3 (bodyOf_spec (by kernel_rfl)) (logboomlaw5_SegmentSurvives_eq sizes safe keep H K) h

/-! function 4: logboom/logboomlaw5.SegmentReads -/
def logboomlaw5_SegmentReads_ann : Anns := { hid := [15], loops := [(0, { slots := [(14, .int .i64)], kept := [10, 12, 13], locs := [], keptL := [] })], joins := [], mix := [(21, [])] }
def logboomlaw5_SegmentReads_vc (base : Int) (sizes : Sl) (offset : Int) (most : Int) (H : Heap) (K : Value → Heap → Prop) : Prop :=
  FnH Tryd.prog 8 #[] H fun r1 H1 =>
    ∃ b1 : Bool,
    r1 = .bool b1 ∧
    FnH Tryd.prog 13 #[.int .i64 base, .int .i64 1000] H1 fun r2 H2 =>
      ∃ n1 : Int,
      r2 = .int .i64 n1 ∧
      FnH Tryd.prog 20 #[.int .i64 n1, .slice sizes.p sizes.n sizes.c] H2 fun r3 H3 =>
        ∃ p1 : Option Addr,
        r3 = .pointer p1 ∧
        br (!b1) (
          K (.bool false) H3)
         (
          br (Option.isNone p1) (
            K (.bool false) H3)
           (
            FnH Tryd.prog 12 #[.pointer p1] H3 fun r4 H4 =>
              ∃ n2 : Int,
              r4 = .int .i64 n2 ∧
              FnH Tryd.prog 13 #[.int .i64 offset, .int .i64 (IntKind.wrap .i64 ((IntKind.wrap .i64 (n2 - n1)) + 2))] H4 fun r5 H5 =>
                ∃ n3 : Int,
                r5 = .int .i64 n3 ∧
                FnH Tryd.prog 13 #[.int .i64 most, .int .i64 3000] H5 fun r6 H6 =>
                  ∃ n4 : Int,
                  r6 = .int .i64 n4 ∧
                  FnH Tryd.prog 18 #[.pointer p1, .int .i64 (IntKind.wrap .i64 (n1 + n3)), .int .i64 n4] H6 fun r7 H7 =>
                    ∃ l1 : Sl,
                    r7 = .slice l1.p l1.n l1.c ∧
                    FnH Tryd.prog 12 #[.pointer p1] H7 fun r8 H8 =>
                      ∃ n5 : Int,
                      r8 = .int .i64 n5 ∧
                      br (decide (((IntKind.wrap .i64 (n1 + n3)) : Int) ≥ n5)) (
                        K (.bool (((l1.n : Nat) : Int) == 0)) H8)
                       (
                        FnH Tryd.prog 18 #[.pointer p1, .int .i64 (IntKind.wrap .i64 (n1 + n3)), .int .i64 10000000] H8 fun r9 H9 =>
                          ∃ l2 : Sl,
                          r9 = .slice l2.p l2.n l2.c ∧
                          br (((l1.n : Nat) : Int) == 0) (
                            K (.bool false) H9)
                           (
                            ∃ q1 : Nat,
                            ∃ o1 : Nat,
                            (l1.p : Option Addr) = some ⟨q1, o1, none⟩ ∧
                            0 ≤ (0 : Int) ∧
                            (0 : Int) < (l1.n : Nat) ∧
                            ∃ n6 : Int,
                            cellH H9 ⟨q1, o1 + Int.toNat 0 * 6, none⟩ = some (.int .i64 n6) ∧
                            br (decide ((n6 : Int) > (IntKind.wrap .i64 (n1 + n3)))) (
                              K (.bool false) H9)
                             (
                              ∃ q2 : Nat,
                              ∃ o2 : Nat,
                              (l1.p : Option Addr) = some ⟨q2, o2, none⟩ ∧
                              0 ≤ (0 : Int) ∧
                              (0 : Int) < (l1.n : Nat) ∧
                              ∃ n7 : Int,
                              cellH H9 ⟨q2, o2 + Int.toNat 0 * 6, none⟩ = some (.int .i64 n7) ∧
                              ∃ q3 : Nat,
                              ∃ o3 : Nat,
                              (l1.p : Option Addr) = some ⟨q3, o3, none⟩ ∧
                              0 ≤ (0 : Int) ∧
                              (0 : Int) < (l1.n : Nat) ∧
                              ∃ l3 : Sl,
                              cellH H9 ⟨q3, o3 + Int.toNat 0 * 6 + 5, none⟩ = some (.slice l3.p l3.n l3.c) ∧
                              br (decide (((IntKind.wrap .i64 (n7 + (l3.n : Nat))) : Int) ≤ (IntKind.wrap .i64 (n1 + n3)))) (
                                K (.bool false) H9)
                               (
                                br (decide (((l2.n : Nat) : Int) < (l1.n : Nat))) (
                                  K (.bool false) H9)
                                 (
                                  0 ≤ ((l1.n : Nat) : Int) ∧
                                  ((l1.n : Nat) : Int) ≤ (l2.c : Nat) ∧
                                  FnH Tryd.prog 19 #[.slice l1.p l1.n l1.c, .slice (slP l2.p l2.c (0 : Int) 6) (Int.toNat ((l1.n : Nat) - (0 : Int))) (Int.toNat ((l2.c : Nat) - (0 : Int)))] H9 fun r10 H10 =>
                                    ∃ b2 : Bool,
                                    r10 = .bool b2 ∧
                                    ∃ I1 : Int → Heap → Prop,
                                    ∃ M1 : Int → Heap → Nat,
                                    I1 1 H10 ∧
                                    ∀ i_1 : Int,
                                    ∀ H11 : Heap,
                                    I1 i_1 H11 →
                                    br (decide ((i_1 : Int) < (l2.n : Nat))) (
                                      ∃ q4 : Nat,
                                      ∃ o4 : Nat,
                                      (l2.p : Option Addr) = some ⟨q4, o4, none⟩ ∧
                                      0 ≤ (i_1 : Int) ∧
                                      (i_1 : Int) < (l2.n : Nat) ∧
                                      ∃ n8 : Int,
                                      cellH H11 ⟨q4, o4 + Int.toNat i_1 * 6, none⟩ = some (.int .i64 n8) ∧
                                      ∃ q5 : Nat,
                                      ∃ o5 : Nat,
                                      (l2.p : Option Addr) = some ⟨q5, o5, none⟩ ∧
                                      0 ≤ ((IntKind.wrap .i64 (i_1 - 1)) : Int) ∧
                                      ((IntKind.wrap .i64 (i_1 - 1)) : Int) < (l2.n : Nat) ∧
                                      ∃ n9 : Int,
                                      cellH H11 ⟨q5, o5 + Int.toNat (IntKind.wrap .i64 (i_1 - 1)) * 6, none⟩ = some (.int .i64 n9) ∧
                                      ∃ q6 : Nat,
                                      ∃ o6 : Nat,
                                      (l2.p : Option Addr) = some ⟨q6, o6, none⟩ ∧
                                      0 ≤ ((IntKind.wrap .i64 (i_1 - 1)) : Int) ∧
                                      ((IntKind.wrap .i64 (i_1 - 1)) : Int) < (l2.n : Nat) ∧
                                      ∃ l4 : Sl,
                                      cellH H11 ⟨q6, o6 + Int.toNat (IntKind.wrap .i64 (i_1 - 1)) * 6 + 5, none⟩ = some (.slice l4.p l4.n l4.c) ∧
                                      br ((n8 : Int) != (IntKind.wrap .i64 (n9 + (l4.n : Nat)))) (
                                        K (.bool false) H11)
                                       (
                                        SelfEq ([.v (.pointer p1), .v (.slice l2.p l2.n l2.c), .v (.bool b2)], [], []) ∧
                                        I1 (IntKind.wrap .i64 (i_1 + 1)) H11 ∧
                                        M1 (IntKind.wrap .i64 (i_1 + 1)) H11 < M1 i_1 H11))
                                     (
                                      ∃ q7 : Nat,
                                      ∃ o7 : Nat,
                                      (l2.p : Option Addr) = some ⟨q7, o7, none⟩ ∧
                                      0 ≤ ((IntKind.wrap .i64 ((l2.n : Nat) - 1)) : Int) ∧
                                      ((IntKind.wrap .i64 ((l2.n : Nat) - 1)) : Int) < (l2.n : Nat) ∧
                                      ∃ n10 : Int,
                                      cellH H11 ⟨q7, o7 + Int.toNat (IntKind.wrap .i64 ((l2.n : Nat) - 1)) * 6, none⟩ = some (.int .i64 n10) ∧
                                      ∃ n11 : Int,
                                      cellH H11 ⟨q7, o7 + Int.toNat (IntKind.wrap .i64 ((l2.n : Nat) - 1)) * 6 + 1, none⟩ = some (.int .i64 n11) ∧
                                      ∃ n12 : Int,
                                      cellH H11 ⟨q7, o7 + Int.toNat (IntKind.wrap .i64 ((l2.n : Nat) - 1)) * 6 + 2, none⟩ = some (.int .i64 n12) ∧
                                      ∃ n13 : Int,
                                      cellH H11 ⟨q7, o7 + Int.toNat (IntKind.wrap .i64 ((l2.n : Nat) - 1)) * 6 + 3, none⟩ = some (.int .i64 n13) ∧
                                      ∃ n14 : Int,
                                      cellH H11 ⟨q7, o7 + Int.toNat (IntKind.wrap .i64 ((l2.n : Nat) - 1)) * 6 + 4, none⟩ = some (.int .i64 n14) ∧
                                      ∃ l5 : Sl,
                                      cellH H11 ⟨q7, o7 + Int.toNat (IntKind.wrap .i64 ((l2.n : Nat) - 1)) * 6 + 5, none⟩ = some (.slice l5.p l5.n l5.c) ∧
                                      br (b2) (
                                        FnH Tryd.prog 12 #[.pointer p1] H11 fun r11 H12 =>
                                          ∃ n15 : Int,
                                          r11 = .int .i64 n15 ∧
                                          Sub H11 H12 ∧
                                          K (.bool (((IntKind.wrap .i64 (n10 + (l5.n : Nat))) : Int) == n15)) H12)
                                       (
                                        K (.bool false) H11)))))))))
theorem logboomlaw5_SegmentReads_eq (base : Int) (sizes : Sl) (offset : Int) (most : Int) (H : Heap) (K : Value → Heap → Prop) : logboomlaw5_SegmentReads_vc base sizes offset most H K = denFn Tryd.prog logboomlaw5_SegmentReads_ann Tryd.f4 (bodyOf Tryd.f4) [.int .i64 base, .slice sizes.p sizes.n sizes.c, .int .i64 offset, .int .i64 most] H K := by kernel_rfl
theorem logboomlaw5_SegmentReads_fn (base : Int) (sizes : Sl) (offset : Int) (most : Int) {H : Heap} {K : Value → Heap → Prop} (h : logboomlaw5_SegmentReads_vc base sizes offset most H K) : FnH Tryd.prog 4 #[.int .i64 base, .slice sizes.p sizes.n sizes.c, .int .i64 offset, .int .i64 most] H K :=
  denFn_fn Tryd.mixed logboomlaw5_SegmentReads_ann Tryd.func4 (bodyOf_spec (by kernel_rfl)) (logboomlaw5_SegmentReads_eq base sizes offset most H K) h

/-! function 7: logboom/logboomlaw5.SegmentCuts -/
def logboomlaw5_SegmentCuts_ann : Anns := { hid := [12], loops := [(0, { slots := [(10, .int .i64)], kept := [1, 2, 8, 9], locs := [], keptL := [] })], joins := [((2, 0), { slots := [(10, .int .i64)], kept := [2, 8, 9], locs := [], keptL := [] })], mix := [(12, [])] }
def logboomlaw5_SegmentCuts_vc (sizes : Sl) (offset : Int) (more : Int) (H : Heap) (K : Value → Heap → Prop) : Prop :=
  FnH Tryd.prog 8 #[] H fun r1 H1 =>
    ∃ b1 : Bool,
    r1 = .bool b1 ∧
    FnH Tryd.prog 20 #[.int .i64 0, .slice sizes.p sizes.n sizes.c] H1 fun r2 H2 =>
      ∃ p1 : Option Addr,
      r2 = .pointer p1 ∧
      br (!b1) (
        K (.bool false) H2)
       (
        br (Option.isNone p1) (
          K (.bool false) H2)
         (
          FnH Tryd.prog 18 #[.pointer p1, .int .i64 0, .int .i64 10000000] H2 fun r3 H3 =>
            ∃ l1 : Sl,
            r3 = .slice l1.p l1.n l1.c ∧
            FnH Tryd.prog 12 #[.pointer p1] H3 fun r4 H4 =>
              ∃ n1 : Int,
              r4 = .int .i64 n1 ∧
              FnH Tryd.prog 13 #[.int .i64 offset, .int .i64 (IntKind.wrap .i64 (n1 + 3))] H4 fun r5 H5 =>
                ∃ n2 : Int,
                r5 = .int .i64 n2 ∧
                FnH Tryd.prog 24 #[.pointer p1, .int .i64 n2] H5 fun r6 H6 =>
                  ∃ n3 : Int,
                  r6 = .int .i64 n3 ∧
                  br ((n3 : Int) != 0) (
                    K (.bool false) H6)
                   (
                    ∃ J1 : Int → Heap → Prop,
                    (∃ I1 : Int → Heap → Prop,
                    ∃ M1 : Int → Heap → Nat,
                    I1 0 H6 ∧
                    ∀ n_1 : Int,
                    ∀ H7 : Heap,
                    I1 n_1 H7 →
                    br (decide ((n_1 : Int) < (l1.n : Nat))) (
                      ∃ q1 : Nat,
                      ∃ o1 : Nat,
                      (l1.p : Option Addr) = some ⟨q1, o1, none⟩ ∧
                      0 ≤ (n_1 : Int) ∧
                      (n_1 : Int) < (l1.n : Nat) ∧
                      ∃ n4 : Int,
                      cellH H7 ⟨q1, o1 + Int.toNat n_1 * 6, none⟩ = some (.int .i64 n4) ∧
                      ∃ q2 : Nat,
                      ∃ o2 : Nat,
                      (l1.p : Option Addr) = some ⟨q2, o2, none⟩ ∧
                      0 ≤ (n_1 : Int) ∧
                      (n_1 : Int) < (l1.n : Nat) ∧
                      ∃ l2 : Sl,
                      cellH H7 ⟨q2, o2 + Int.toNat n_1 * 6 + 5, none⟩ = some (.slice l2.p l2.n l2.c) ∧
                      br (decide (((IntKind.wrap .i64 (n4 + (l2.n : Nat))) : Int) ≤ n2)) (
                        SelfEq ([.v (.int .i64 n2), .v (.int .i64 more), .v (.pointer p1), .v (.slice l1.p l1.n l1.c)], [], []) ∧
                        I1 (IntKind.wrap .i64 (n_1 + 1)) H7 ∧
                        M1 (IntKind.wrap .i64 (n_1 + 1)) H7 < M1 n_1 H7)
                       (
                        SelfEq ([.v (.int .i64 more), .v (.pointer p1), .v (.slice l1.p l1.n l1.c)], [], []) ∧
                        J1 n_1 H7))
                     (
                      SelfEq ([.v (.int .i64 more), .v (.pointer p1), .v (.slice l1.p l1.n l1.c)], [], []) ∧
                      J1 n_1 H7)) ∧
                    ∀ n_2 : Int,
                    ∀ H8 : Heap,
                    J1 n_2 H8 →
                    0 ≤ (n_2 : Int) ∧
                    (n_2 : Int) ≤ (l1.c : Nat) ∧
                    FnH Tryd.prog 18 #[.pointer p1, .int .i64 0, .int .i64 10000000] H8 fun r7 H9 =>
                      ∃ l3 : Sl,
                      r7 = .slice l3.p l3.n l3.c ∧
                      Sub H8 H9 ∧
                      FnH Tryd.prog 19 #[.slice l3.p l3.n l3.c, .slice (slP l1.p l1.c (0 : Int) 6) (Int.toNat (n_2 - (0 : Int))) (Int.toNat ((l1.c : Nat) - (0 : Int)))] H9 fun r8 H10 =>
                        ∃ b2 : Bool,
                        r8 = .bool b2 ∧
                        Sub H8 H10 ∧
                        FnH Tryd.prog 12 #[.pointer p1] H10 fun r9 H11 =>
                          ∃ n5 : Int,
                          r9 = .int .i64 n5 ∧
                          FnH Tryd.prog 13 #[.int .i64 more, .int .i64 9] H11 fun r10 H12 =>
                            ∃ n6 : Int,
                            r10 = .int .i64 n6 ∧
                            FnH Tryd.prog 11 #[.int .i64 n5, .int .i64 (IntKind.wrap .i64 (1 + n6))] H12 fun r11 H13 =>
                              ∃ n7 : Int,
                              ∃ n8 : Int,
                              ∃ n9 : Int,
                              ∃ n10 : Int,
                              ∃ n11 : Int,
                              ∃ l4 : Sl,
                              r11 = .agg #[.int .i64 n7, .int .i64 n8, .int .i64 n9, .int .i64 n10, .int .i64 n11, .slice l4.p l4.n l4.c] ∧
                              FnH Tryd.prog 14 #[.pointer p1, .agg #[.int .i64 n7, .int .i64 n8, .int .i64 n9, .int .i64 n10, .int .i64 n11, .slice l4.p l4.n l4.c]] H13 fun r12 H14 =>
                                ∃ n12 : Int,
                                r12 = .int .i64 n12 ∧
                                FnH Tryd.prog 18 #[.pointer p1, .int .i64 0, .int .i64 10000000] H14 fun r13 H15 =>
                                  ∃ l5 : Sl,
                                  r13 = .slice l5.p l5.n l5.c ∧
                                  ∀ q3 : Nat,
                                  H15 q3 = none →
                                  letH (Heap.upd H15 q3 (.cells #[] 34 (0, 0))) fun H16 =>
                                  0 ≤ (n_2 : Int) ∧
                                  (n_2 : Int) ≤ (l1.c : Nat) ∧
                                  runH Tryd.prog (Builtin.append_ #[31, 31] 31 #[.slice (some ⟨q3, 0, none⟩) 0 0, .slice (slP l1.p l1.c (0 : Int) 6) (Int.toNat (n_2 - (0 : Int))) (Int.toNat ((l1.c : Nat) - (0 : Int)))]) H16 fun r14 H17 =>
                                    ∃ l6 : Sl,
                                    r14 = .slice l6.p l6.n l6.c ∧
                                    ∀ q4 : Nat,
                                    H17 q4 = none →
                                    letH (Heap.upd H17 q4 (.cells #[.int .i64 n7, .int .i64 n8, .int .i64 n9, .int .i64 n10, .int .i64 n11, .slice l4.p l4.n l4.c] 34 (0, 0))) fun H18 =>
                                    runH Tryd.prog (Builtin.append_ #[31, 31] 31 #[.slice l6.p l6.n l6.c, .slice (some ⟨q4, 0, none⟩) 1 1]) H18 fun r15 H19 =>
                                      ∃ l7 : Sl,
                                      r15 = .slice l7.p l7.n l7.c ∧
                                      FnH Tryd.prog 19 #[.slice l5.p l5.n l5.c, .slice l7.p l7.n l7.c] H19 fun r16 H20 =>
                                        ∃ b3 : Bool,
                                        r16 = .bool b3 ∧
                                        br (b2) (
                                          br ((n12 : Int) == 0) (
                                            K (.bool b3) H20)
                                           (
                                            K (.bool false) H20))
                                         (
                                          K (.bool false) H20))))
theorem logboomlaw5_SegmentCuts_eq (sizes : Sl) (offset : Int) (more : Int) (H : Heap) (K : Value → Heap → Prop) : logboomlaw5_SegmentCuts_vc sizes offset more H K = denFn Tryd.prog logboomlaw5_SegmentCuts_ann Tryd.f7 (bodyOf Tryd.f7) [.slice sizes.p sizes.n sizes.c, .int .i64 offset, .int .i64 more] H K := by kernel_rfl
theorem logboomlaw5_SegmentCuts_fn (sizes : Sl) (offset : Int) (more : Int) {H : Heap} {K : Value → Heap → Prop} (h : logboomlaw5_SegmentCuts_vc sizes offset more H K) : FnH Tryd.prog 7 #[.slice sizes.p sizes.n sizes.c, .int .i64 offset, .int .i64 more] H K :=
  denFn_fn Tryd.mixed logboomlaw5_SegmentCuts_ann Tryd.func7 (bodyOf_spec (by kernel_rfl)) (logboomlaw5_SegmentCuts_eq sizes offset more H K) h

end Go.Proofs.YtokceblmbmajgaaDoor
