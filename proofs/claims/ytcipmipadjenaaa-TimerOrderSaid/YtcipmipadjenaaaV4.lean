/- Formulas of functions, printed by this session's vc.py; each is tied to the program by the kernel. -/
import Derived.Test.YtcipmipadjenaaaProg
import Derived.KernelRfl
import Derived.Test.YtcipmipadjenaaaHlFn
import Derived.Test.YtcipmipadjenaaaV3
namespace Go.Proofs.Ytcipmipadjenaaa
open Go.HL
set_option maxRecDepth 100000
/-! function 5: logboom/logboomlaw2.TimerOrder -/
def logboomlaw2_TimerOrder_ann : Anns := { hid := [12], loops := [(0, { slots := [(7, .int .i64), (8, .int .i64)], kept := [0, 1, 6], locs := [], keptL := [] }), (2, { slots := [(9, .slice), (10, .int .i64)], kept := [0, 1, 6, 7], locs := [], keptL := [] }), (4, { slots := [(11, .int .i64), (13, .int .i64), (14, .int .i64)], kept := [0, 1, 6, 7, 9, 12], locs := [(0, [.int .i64, .int .i64])], keptL := [] }), (6, { slots := [(13, .int .i64), (16, .int .i64)], kept := [0, 1, 6, 7, 9, 11, 12, 14, 15], locs := [(0, [.int .i64, .int .i64])], keptL := [] }), (8, { slots := [(17, .int .i64), (18, .int .i64)], kept := [0, 1, 6, 7, 9, 11, 12, 13, 14, 15, 16], locs := [], keptL := [0] })], joins := [((12, 0), { slots := [(7, .int .i64)], kept := [0, 1, 6], locs := [], keptL := [] }), ((11, 10), { slots := [(7, .int .i64)], kept := [0, 1, 6, 8], locs := [], keptL := [] }), ((12, 2), { slots := [(9, .slice)], kept := [0, 1, 6, 7], locs := [], keptL := [] }), ((11, 25), { slots := [(11, .int .i64)], kept := [0, 1, 6, 7, 9, 12, 13, 14], locs := [], keptL := [0] }), ((11, 27), { slots := [(11, .int .i64)], kept := [0, 1, 6, 7, 9, 12, 13, 14], locs := [], keptL := [0] })], mix := [(11, [12]), (38, [])] }
def logboomlaw2_TimerOrder_vc (script : Sl) (steps : Sl) (H : Heap) (K : Value → Heap → Prop) : Prop :=
  FnH Try.prog 6 #[] H fun r1 H1 =>
    ∃ b1 : Bool,
    r1 = .bool b1 ∧
    FnH Try.prog 7 #[] H1 fun r2 H2 =>
      ∃ p1 : Option Addr,
      r2 = .pointer p1 ∧
      br (!b1) (
        K (.bool false) H2)
       (
        br (Option.isNone p1) (
          K (.bool false) H2)
         (
          ∃ J1 : Int → Heap → Prop,
          (∃ I1 : Int → Int → Heap → Prop,
          ∃ M1 : Int → Int → Heap → Nat,
          I1 0 0 H2 ∧
          ∀ set_1 : Int,
          ∀ i_1 : Int,
          ∀ H3 : Heap,
          I1 set_1 i_1 H3 →
          br (decide ((i_1 : Int) < (script.n : Nat))) (
            br (decide ((i_1 : Int) < 300)) (
              ∃ J2 : Int → Heap → Prop,
              (∃ q1 : Nat,
              ∃ o1 : Nat,
              (script.p : Option Addr) = some ⟨q1, o1, none⟩ ∧
              0 ≤ (i_1 : Int) ∧
              (i_1 : Int) < (script.n : Nat) ∧
              ∃ n1 : Int,
              cellH H3 ⟨q1, o1 + Int.toNat i_1 * 3 + 1, none⟩ = some (.int .i64 n1) ∧
              FnH Try.prog 16 #[.pointer p1, .int .i64 n1] H3 fun r3 H4 =>
                ∃ n2 : Int,
                r3 = .int .i64 n2 ∧
                br (decide ((n2 : Int) < 0)) (
                  SelfEq ([.v (.slice script.p script.n script.c), .v (.slice steps.p steps.n steps.c), .v (.pointer p1), .v (.int .i64 i_1)], [], []) ∧
                  J2 (IntKind.wrap .i64 (set_1 + 1)) H4)
                 (
                  SelfEq ([.v (.slice script.p script.n script.c), .v (.slice steps.p steps.n steps.c), .v (.pointer p1), .v (.int .i64 i_1)], [], []) ∧
                  J2 set_1 H4)) ∧
              ∀ set_2 : Int,
              ∀ H5 : Heap,
              J2 set_2 H5 →
              ∃ q2 : Nat,
              ∃ o2 : Nat,
              (script.p : Option Addr) = some ⟨q2, o2, none⟩ ∧
              0 ≤ (i_1 : Int) ∧
              (i_1 : Int) < (script.n : Nat) ∧
              ∃ n3 : Int,
              cellH H5 ⟨q2, o2 + Int.toNat i_1 * 3 + 1, none⟩ = some (.int .i64 n3) ∧
              ∃ q3 : Nat,
              ∃ o3 : Nat,
              (script.p : Option Addr) = some ⟨q3, o3, none⟩ ∧
              0 ≤ (i_1 : Int) ∧
              (i_1 : Int) < (script.n : Nat) ∧
              ∃ n4 : Int,
              cellH H5 ⟨q3, o3 + Int.toNat i_1 * 3 + 2, none⟩ = some (.int .i64 n4) ∧
              FnH Try.prog 8 #[.int .i64 n4, .int .i64 1000] H5 fun r4 H6 =>
                ∃ n5 : Int,
                r4 = .int .i64 n5 ∧
                Sub H5 H6 ∧
                FnH Try.prog 9 #[.pointer p1, .int .i64 n3, .int .i64 n5] H6 fun r5 H7 =>
                  ∃ n6 : Int,
                  r5 = .int .i64 n6 ∧
                  br ((n6 : Int) != 0) (
                    K (.bool false) H7)
                   (
                    SelfEq ([.v (.slice script.p script.n script.c), .v (.slice steps.p steps.n steps.c), .v (.pointer p1)], [], []) ∧
                    I1 set_2 (IntKind.wrap .i64 (i_1 + 1)) H7 ∧
                    M1 set_2 (IntKind.wrap .i64 (i_1 + 1)) H7 < M1 set_1 i_1 H3))
             (
              SelfEq ([.v (.slice script.p script.n script.c), .v (.slice steps.p steps.n steps.c), .v (.pointer p1)], [], []) ∧
              J1 set_1 H3))
           (
            SelfEq ([.v (.slice script.p script.n script.c), .v (.slice steps.p steps.n steps.c), .v (.pointer p1)], [], []) ∧
            J1 set_1 H3)) ∧
          ∀ set_3 : Int,
          ∀ H8 : Heap,
          J1 set_3 H8 →
          ∃ J3 : Sl → Heap → Prop,
          (∃ I2 : Sl → Int → Heap → Prop,
          ∃ M2 : Sl → Int → Heap → Nat,
          I2 ⟨none, 0, 0⟩ 0 H8 ∧
          ∀ want_1 : Sl,
          ∀ i_2 : Int,
          ∀ H9 : Heap,
          I2 want_1 i_2 H9 →
          br (decide ((i_2 : Int) < (script.n : Nat))) (
            br (decide ((i_2 : Int) < 300)) (
              ∃ q4 : Nat,
              ∃ o4 : Nat,
              (script.p : Option Addr) = some ⟨q4, o4, none⟩ ∧
              0 ≤ (i_2 : Int) ∧
              (i_2 : Int) < (script.n : Nat) ∧
              ∃ n7 : Int,
              cellH H9 ⟨q4, o4 + Int.toNat i_2 * 3 + 1, none⟩ = some (.int .i64 n7) ∧
              FnH Try.prog 16 #[.pointer p1, .int .i64 n7] H9 fun r6 H10 =>
                ∃ n8 : Int,
                r6 = .int .i64 n8 ∧
                ∀ q5 : Nat,
                H10 q5 = none →
                letH (Heap.upd H10 q5 (.cells #[.int .i64 n8] 3 (0, 0))) fun H11 =>
                runH Try.prog (Builtin.append_ #[37, 37] 37 #[.slice want_1.p want_1.n want_1.c, .slice (some ⟨q5, 0, none⟩) 1 1]) H11 fun r7 H12 =>
                  ∃ l1 : Sl,
                  r7 = .slice l1.p l1.n l1.c ∧
                  SelfEq ([.v (.slice script.p script.n script.c), .v (.slice steps.p steps.n steps.c), .v (.pointer p1), .v (.int .i64 set_3)], [], []) ∧
                  I2 l1 (IntKind.wrap .i64 (i_2 + 1)) H12 ∧
                  M2 l1 (IntKind.wrap .i64 (i_2 + 1)) H12 < M2 want_1 i_2 H9)
             (
              SelfEq ([.v (.slice script.p script.n script.c), .v (.slice steps.p steps.n steps.c), .v (.pointer p1), .v (.int .i64 set_3)], [], []) ∧
              J3 want_1 H9))
           (
            SelfEq ([.v (.slice script.p script.n script.c), .v (.slice steps.p steps.n steps.c), .v (.pointer p1), .v (.int .i64 set_3)], [], []) ∧
            J3 want_1 H9)) ∧
          ∀ want_2 : Sl,
          ∀ H13 : Heap,
          J3 want_2 H13 →
          ∃ I3 : Int → Int → Int → Int → Int → Heap → Prop,
          ∃ M3 : Int → Int → Int → Int → Int → Heap → Nat,
          I3 0 0 0 0 (-1) H13 ∧
          ∀ now_1 : Int,
          ∀ told_1 : Int,
          ∀ i_3 : Int,
          ∀ n9 : Int,
          ∀ n10 : Int,
          ∀ H14 : Heap,
          I3 now_1 told_1 i_3 n9 n10 H14 →
          br (decide ((i_3 : Int) ≤ (steps.n : Nat))) (
            br (decide ((i_3 : Int) < 200)) (
              ∃ J4 : Int → Heap → Prop,
              (br (decide ((i_3 : Int) < (steps.n : Nat))) (
                ∃ q6 : Nat,
                ∃ o5 : Nat,
                (steps.p : Option Addr) = some ⟨q6, o5, none⟩ ∧
                0 ≤ (i_3 : Int) ∧
                (i_3 : Int) < (steps.n : Nat) ∧
                ∃ n11 : Int,
                cellH H14 ⟨q6, o5 + Int.toNat i_3, none⟩ = some (.int .i64 n11) ∧
                FnH Try.prog 8 #[.int .i64 n11, .int .i64 50] H14 fun r8 H15 =>
                  ∃ n12 : Int,
                  r8 = .int .i64 n12 ∧
                  SelfEq ([.v (.slice script.p script.n script.c), .v (.slice steps.p steps.n steps.c), .v (.pointer p1), .v (.int .i64 set_3), .v (.slice want_2.p want_2.n want_2.c), .loc 0 0, .v (.int .i64 told_1), .v (.int .i64 i_3)], [some (44, [.int .i64 n9, .int .i64 n10])], []) ∧
                  J4 (IntKind.wrap .i64 (now_1 + n12)) H15)
               (
                SelfEq ([.v (.slice script.p script.n script.c), .v (.slice steps.p steps.n steps.c), .v (.pointer p1), .v (.int .i64 set_3), .v (.slice want_2.p want_2.n want_2.c), .loc 0 0, .v (.int .i64 told_1), .v (.int .i64 i_3)], [some (44, [.int .i64 n9, .int .i64 n10])], []) ∧
                J4 now_1 H14)) ∧
              ∀ now_2 : Int,
              ∀ H16 : Heap,
              J4 now_2 H16 →
              ∃ J5 : Int → Heap → Prop,
              (br ((i_3 : Int) == (steps.n : Nat)) (
                SelfEq ([.v (.slice script.p script.n script.c), .v (.slice steps.p steps.n steps.c), .v (.pointer p1), .v (.int .i64 set_3), .v (.slice want_2.p want_2.n want_2.c), .loc 0 0, .v (.int .i64 told_1), .v (.int .i64 i_3)], [some (44, [.int .i64 n9, .int .i64 n10])], []) ∧
                J5 1000 H16)
               (
                br ((i_3 : Int) == 199) (
                  SelfEq ([.v (.slice script.p script.n script.c), .v (.slice steps.p steps.n steps.c), .v (.pointer p1), .v (.int .i64 set_3), .v (.slice want_2.p want_2.n want_2.c), .loc 0 0, .v (.int .i64 told_1), .v (.int .i64 i_3)], [some (44, [.int .i64 n9, .int .i64 n10])], []) ∧
                  J5 1000 H16)
                 (
                  SelfEq ([.v (.slice script.p script.n script.c), .v (.slice steps.p steps.n steps.c), .v (.pointer p1), .v (.int .i64 set_3), .v (.slice want_2.p want_2.n want_2.c), .loc 0 0, .v (.int .i64 told_1), .v (.int .i64 i_3)], [some (44, [.int .i64 n9, .int .i64 n10])], []) ∧
                  J5 now_2 H16))) ∧
              ∀ now_3 : Int,
              ∀ H17 : Heap,
              J5 now_3 H17 →
              FnH Try.prog 14 #[.pointer p1, .int .i64 now_3] H17 fun r9 H18 =>
                ∃ l2 : Sl,
                r9 = .slice l2.p l2.n l2.c ∧
                ∃ I4 : Int → Int → Int → Int → Heap → Prop,
                ∃ M4 : Int → Int → Int → Int → Heap → Nat,
                I4 told_1 0 n9 n10 H18 ∧
                ∀ told_2 : Int,
                ∀ k_1 : Int,
                ∀ n13 : Int,
                ∀ n14 : Int,
                ∀ H19 : Heap,
                I4 told_2 k_1 n13 n14 H19 →
                br (decide ((k_1 : Int) < (l2.n : Nat))) (
                  ∃ I5 : Int → Int → Heap → Prop,
                  ∃ M5 : Int → Int → Heap → Nat,
                  I5 (-1) 0 H19 ∧
                  ∀ at_1 : Int,
                  ∀ j_1 : Int,
                  ∀ H20 : Heap,
                  I5 at_1 j_1 H20 →
                  br (decide ((j_1 : Int) < (want_2.n : Nat))) (
                    ∃ q7 : Nat,
                    ∃ o6 : Nat,
                    (script.p : Option Addr) = some ⟨q7, o6, none⟩ ∧
                    0 ≤ (j_1 : Int) ∧
                    (j_1 : Int) < (script.n : Nat) ∧
                    ∃ n15 : Int,
                    cellH H20 ⟨q7, o6 + Int.toNat j_1 * 3 + 1, none⟩ = some (.int .i64 n15) ∧
                    ∃ q8 : Nat,
                    ∃ o7 : Nat,
                    (l2.p : Option Addr) = some ⟨q8, o7, none⟩ ∧
                    0 ≤ (k_1 : Int) ∧
                    (k_1 : Int) < (l2.n : Nat) ∧
                    ∃ n16 : Int,
                    cellH H20 ⟨q8, o7 + Int.toNat k_1, none⟩ = some (.int .i64 n16) ∧
                    br ((n15 : Int) == n16) (
                      ∃ q9 : Nat,
                      ∃ o8 : Nat,
                      (want_2.p : Option Addr) = some ⟨q9, o8, none⟩ ∧
                      0 ≤ (j_1 : Int) ∧
                      (j_1 : Int) < (want_2.n : Nat) ∧
                      ∃ n17 : Int,
                      cellH H20 ⟨q9, o8 + Int.toNat j_1, none⟩ = some (.int .i64 n17) ∧
                      SelfEq ([.v (.slice script.p script.n script.c), .v (.slice steps.p steps.n steps.c), .v (.pointer p1), .v (.int .i64 set_3), .v (.slice want_2.p want_2.n want_2.c), .v (.int .i64 now_3), .loc 0 0, .v (.int .i64 told_2), .v (.int .i64 i_3), .v (.slice l2.p l2.n l2.c), .v (.int .i64 k_1)], [some (44, [.int .i64 n13, .int .i64 n14])], []) ∧
                      I5 n17 (IntKind.wrap .i64 (j_1 + 1)) H20 ∧
                      M5 n17 (IntKind.wrap .i64 (j_1 + 1)) H20 < M5 at_1 j_1 H20)
                     (
                      SelfEq ([.v (.slice script.p script.n script.c), .v (.slice steps.p steps.n steps.c), .v (.pointer p1), .v (.int .i64 set_3), .v (.slice want_2.p want_2.n want_2.c), .v (.int .i64 now_3), .loc 0 0, .v (.int .i64 told_2), .v (.int .i64 i_3), .v (.slice l2.p l2.n l2.c), .v (.int .i64 k_1)], [some (44, [.int .i64 n13, .int .i64 n14])], []) ∧
                      I5 at_1 (IntKind.wrap .i64 (j_1 + 1)) H20 ∧
                      M5 at_1 (IntKind.wrap .i64 (j_1 + 1)) H20 < M5 at_1 j_1 H20))
                   (
                    br (decide ((at_1 : Int) < 0)) (
                      K (.bool false) H20)
                     (
                      br (decide ((at_1 : Int) > now_3)) (
                        K (.bool false) H20)
                       (
                        br (decide ((at_1 : Int) < n14)) (
                          K (.bool false) H20)
                         (
                          br ((at_1 : Int) == n14) (
                            ∃ q10 : Nat,
                            ∃ o9 : Nat,
                            (l2.p : Option Addr) = some ⟨q10, o9, none⟩ ∧
                            0 ≤ (k_1 : Int) ∧
                            (k_1 : Int) < (l2.n : Nat) ∧
                            ∃ n18 : Int,
                            cellH H20 ⟨q10, o9 + Int.toNat k_1, none⟩ = some (.int .i64 n18) ∧
                            br (decide ((n18 : Int) ≤ n13)) (
                              K (.bool false) H20)
                             (
                              ∃ q11 : Nat,
                              ∃ o10 : Nat,
                              (l2.p : Option Addr) = some ⟨q11, o10, none⟩ ∧
                              0 ≤ (k_1 : Int) ∧
                              (k_1 : Int) < (l2.n : Nat) ∧
                              ∃ n19 : Int,
                              cellH H20 ⟨q11, o10 + Int.toNat k_1, none⟩ = some (.int .i64 n19) ∧
                              FnH Try.prog 16 #[.pointer p1, .int .i64 n19] H20 fun r10 H21 =>
                                ∃ n20 : Int,
                                r10 = .int .i64 n20 ∧
                                Sub H20 H21 ∧
                                br ((n20 : Int) != (-1)) (
                                  K (.bool false) H21)
                                 (
                                  ∃ q12 : Nat,
                                  ∃ o11 : Nat,
                                  (l2.p : Option Addr) = some ⟨q12, o11, none⟩ ∧
                                  0 ≤ (k_1 : Int) ∧
                                  (k_1 : Int) < (l2.n : Nat) ∧
                                  ∃ n21 : Int,
                                  cellH H21 ⟨q12, o11 + Int.toNat k_1, none⟩ = some (.int .i64 n21) ∧
                                  SelfEq ([.v (.slice script.p script.n script.c), .v (.slice steps.p steps.n steps.c), .v (.pointer p1), .v (.int .i64 set_3), .v (.slice want_2.p want_2.n want_2.c), .v (.int .i64 now_3), .loc 0 0, .v (.int .i64 i_3), .v (.slice l2.p l2.n l2.c)], [], [44]) ∧
                                  I4 (IntKind.wrap .i64 (told_2 + 1)) (IntKind.wrap .i64 (k_1 + 1)) n21 at_1 H21 ∧
                                  M4 (IntKind.wrap .i64 (told_2 + 1)) (IntKind.wrap .i64 (k_1 + 1)) n21 at_1 H21 < M4 told_2 k_1 n13 n14 H19)))
                           (
                            ∃ q13 : Nat,
                            ∃ o12 : Nat,
                            (l2.p : Option Addr) = some ⟨q13, o12, none⟩ ∧
                            0 ≤ (k_1 : Int) ∧
                            (k_1 : Int) < (l2.n : Nat) ∧
                            ∃ n22 : Int,
                            cellH H20 ⟨q13, o12 + Int.toNat k_1, none⟩ = some (.int .i64 n22) ∧
                            FnH Try.prog 16 #[.pointer p1, .int .i64 n22] H20 fun r11 H22 =>
                              ∃ n23 : Int,
                              r11 = .int .i64 n23 ∧
                              Sub H20 H22 ∧
                              br ((n23 : Int) != (-1)) (
                                K (.bool false) H22)
                               (
                                ∃ q14 : Nat,
                                ∃ o13 : Nat,
                                (l2.p : Option Addr) = some ⟨q14, o13, none⟩ ∧
                                0 ≤ (k_1 : Int) ∧
                                (k_1 : Int) < (l2.n : Nat) ∧
                                ∃ n24 : Int,
                                cellH H22 ⟨q14, o13 + Int.toNat k_1, none⟩ = some (.int .i64 n24) ∧
                                SelfEq ([.v (.slice script.p script.n script.c), .v (.slice steps.p steps.n steps.c), .v (.pointer p1), .v (.int .i64 set_3), .v (.slice want_2.p want_2.n want_2.c), .v (.int .i64 now_3), .loc 0 0, .v (.int .i64 i_3), .v (.slice l2.p l2.n l2.c)], [], [44]) ∧
                                I4 (IntKind.wrap .i64 (told_2 + 1)) (IntKind.wrap .i64 (k_1 + 1)) n24 at_1 H22 ∧
                                M4 (IntKind.wrap .i64 (told_2 + 1)) (IntKind.wrap .i64 (k_1 + 1)) n24 at_1 H22 < M4 told_2 k_1 n13 n14 H19)))))))
                 (
                  SelfEq ([.v (.slice script.p script.n script.c), .v (.slice steps.p steps.n steps.c), .v (.pointer p1), .v (.int .i64 set_3), .v (.slice want_2.p want_2.n want_2.c), .loc 0 0], [], [44]) ∧
                  I3 now_3 told_2 (IntKind.wrap .i64 (i_3 + 1)) n13 n14 H19 ∧
                  M3 now_3 told_2 (IntKind.wrap .i64 (i_3 + 1)) n13 n14 H19 < M3 now_1 told_1 i_3 n9 n10 H14))
             (
              br ((told_1 : Int) == set_3) (
                FnH Try.prog 18 #[.pointer p1] H14 fun r12 H23 =>
                  ∃ n25 : Int,
                  r12 = .int .i64 n25 ∧
                  br ((n25 : Int) == 0) (
                    FnH Try.prog 19 #[.pointer p1] H23 fun r13 H24 =>
                      ∃ n26 : Int,
                      r13 = .int .i64 n26 ∧
                      K (.bool ((n26 : Int) == (-1))) H24)
                   (
                    K (.bool false) H23))
               (
                K (.bool false) H14)))
           (
            br ((told_1 : Int) == set_3) (
              FnH Try.prog 18 #[.pointer p1] H14 fun r14 H25 =>
                ∃ n27 : Int,
                r14 = .int .i64 n27 ∧
                br ((n27 : Int) == 0) (
                  FnH Try.prog 19 #[.pointer p1] H25 fun r15 H26 =>
                    ∃ n28 : Int,
                    r15 = .int .i64 n28 ∧
                    K (.bool ((n28 : Int) == (-1))) H26)
                 (
                  K (.bool false) H25))
             (
              K (.bool false) H14))))
theorem logboomlaw2_TimerOrder_eq (script : Sl) (steps : Sl) (H : Heap) (K : Value → Heap → Prop) : logboomlaw2_TimerOrder_vc script steps H K = denFn Try.prog logboomlaw2_TimerOrder_ann Try.f5 (bodyOf Try.f5) [.slice script.p script.n script.c, .slice steps.p steps.n steps.c] H K := by kernel_rfl
theorem logboomlaw2_TimerOrder_fn (script : Sl) (steps : Sl) {H : Heap} {K : Value → Heap → Prop} (h : logboomlaw2_TimerOrder_vc script steps H K) : FnH Try.prog 5 #[.slice script.p script.n script.c, .slice steps.p steps.n steps.c] H K :=
  denFn_sound Try.mixed logboomlaw2_TimerOrder_ann Try.func5 (bodyOf_spec (by kernel_rfl)) ((logboomlaw2_TimerOrder_eq script steps H K) ▸ h)

end Go.Proofs.Ytcipmipadjenaaa
