/- Formulas of functions, printed by this session's vc.py; each is tied to the program by the kernel. -/
import Derived.Test.YtokceblmbmajgaaGreatDoorProg
import Derived.KernelRfl
import Derived.Test.YtokceblmbmajgaaGreatDoorHlFn
import Derived.Test.YtokceblmbmajgaaGreatDoorV4
namespace Go.Proofs.YtokceblmbmajgaaGreatDoor
open Go.HL
set_option maxRecDepth 100000
/-! function 78: logboom/logboomref3.body -/
def logboomref3_body_ann : Anns := { hid := [1, 5], loops := [(0, { slots := [(3, .str), (4, .int .i64)], kept := [1], locs := [], keptL := [0] })], joins := [], mix := [(1, []), (6, [])] }
def logboomref3_body_vc (b_0 : Int) (b_1 : Int) (b_2 : Int) (b_3 : Int) (b_4 : Int) (b_5 : Sl) (H : Heap) (K : Value → Heap → Prop) : Prop :=
  FnH Tryz.prog 94 #[.int .i64 b_0] H fun r1 H1 =>
    ∃ s1 : ByteArray,
    r1 = .string s1 ∧
    Sub H H1 ∧
    FnH Tryz.prog 94 #[.int .i64 b_1] H1 fun r2 H2 =>
      ∃ s2 : ByteArray,
      r2 = .string s2 ∧
      Sub H H2 ∧
      s1.size + s2.size < 9223372036854775808 ∧
      FnH Tryz.prog 94 #[.int .i64 b_2] H2 fun r3 H3 =>
        ∃ s3 : ByteArray,
        r3 = .string s3 ∧
        Sub H H3 ∧
        (s1 ++ s2).size + s3.size < 9223372036854775808 ∧
        FnH Tryz.prog 94 #[.int .i64 b_3] H3 fun r4 H4 =>
          ∃ s4 : ByteArray,
          r4 = .string s4 ∧
          Sub H H4 ∧
          ((s1 ++ s2) ++ s3).size + s4.size < 9223372036854775808 ∧
          FnH Tryz.prog 94 #[.int .i64 b_4] H4 fun r5 H5 =>
            ∃ s5 : ByteArray,
            r5 = .string s5 ∧
            Sub H H5 ∧
            (((s1 ++ s2) ++ s3) ++ s4).size + s5.size < 9223372036854775808 ∧
            FnH Tryz.prog 94 #[.int .i64 (b_5.n : Nat)] H5 fun r6 H6 =>
              ∃ s6 : ByteArray,
              r6 = .string s6 ∧
              Sub H H6 ∧
              ((((s1 ++ s2) ++ s3) ++ s4) ++ s5).size + s6.size < 9223372036854775808 ∧
              ∃ I1 : ByteArray → Int → Heap → Prop,
              ∃ M1 : ByteArray → Int → Heap → Nat,
              I1 (((((s1 ++ s2) ++ s3) ++ s4) ++ s5) ++ s6) 0 H6 ∧
              ∀ s_1 : ByteArray,
              ∀ i_1 : Int,
              ∀ H7 : Heap,
              I1 s_1 i_1 H7 →
              br (decide ((i_1 : Int) < (b_5.n : Nat))) (
                ∃ q1 : Nat,
                ∃ o1 : Nat,
                (b_5.p : Option Addr) = some ⟨q1, o1, none⟩ ∧
                0 ≤ (i_1 : Int) ∧
                (i_1 : Int) < (b_5.n : Nat) ∧
                ∃ s7 : ByteArray,
                cellH H7 ⟨q1, o1 + Int.toNat i_1 * 3, none⟩ = some (.string s7) ∧
                ∃ s8 : ByteArray,
                cellH H7 ⟨q1, o1 + Int.toNat i_1 * 3 + 1, none⟩ = some (.string s8) ∧
                ∃ n1 : Int,
                cellH H7 ⟨q1, o1 + Int.toNat i_1 * 3 + 2, none⟩ = some (.int .i64 n1) ∧
                FnH Tryz.prog 94 #[.int .i64 n1] H7 fun r7 H8 =>
                  ∃ s9 : ByteArray,
                  r7 = .string s9 ∧
                  Sub H7 H8 ∧
                  s_1.size + s9.size < 9223372036854775808 ∧
                  FnH Tryz.prog 94 #[.int .i64 (s7.size : Nat)] H8 fun r8 H9 =>
                    ∃ s10 : ByteArray,
                    r8 = .string s10 ∧
                    Sub H7 H9 ∧
                    (s_1 ++ s9).size + s10.size < 9223372036854775808 ∧
                    ((s_1 ++ s9) ++ s10).size + s7.size < 9223372036854775808 ∧
                    FnH Tryz.prog 94 #[.int .i64 (s8.size : Nat)] H9 fun r9 H10 =>
                      ∃ s11 : ByteArray,
                      r9 = .string s11 ∧
                      Sub H7 H10 ∧
                      (((s_1 ++ s9) ++ s10) ++ s7).size + s11.size < 9223372036854775808 ∧
                      ((((s_1 ++ s9) ++ s10) ++ s7) ++ s11).size + s8.size < 9223372036854775808 ∧
                      SelfEq ([.loc 0 0], [some (40, [.int .i64 b_0, .int .i64 b_1, .int .i64 b_2, .int .i64 b_3, .int .i64 b_4, .slice b_5.p b_5.n b_5.c])], []) ∧
                      I1 (((((s_1 ++ s9) ++ s10) ++ s7) ++ s11) ++ s8) (IntKind.wrap .i64 (i_1 + 1)) H10 ∧
                      M1 (((((s_1 ++ s9) ++ s10) ++ s7) ++ s11) ++ s8) (IntKind.wrap .i64 (i_1 + 1)) H10 < M1 s_1 i_1 H7)
               (
                K (.string s_1) H7)
theorem logboomref3_body_eq (b_0 : Int) (b_1 : Int) (b_2 : Int) (b_3 : Int) (b_4 : Int) (b_5 : Sl) (H : Heap) (K : Value → Heap → Prop) : logboomref3_body_vc b_0 b_1 b_2 b_3 b_4 b_5 H K = denFn Tryz.prog logboomref3_body_ann Tryz.f78 (bodyOf Tryz.f78) [.agg #[.int .i64 b_0, .int .i64 b_1, .int .i64 b_2, .int .i64 b_3, .int .i64 b_4, .slice b_5.p b_5.n b_5.c]] H K := by kernel_rfl
theorem logboomref3_body_fn (b_0 : Int) (b_1 : Int) (b_2 : Int) (b_3 : Int) (b_4 : Int) (b_5 : Sl) {H : Heap} {K : Value → Heap → Prop} (h : logboomref3_body_vc b_0 b_1 b_2 b_3 b_4 b_5 H K) : FnH Tryz.prog 78 #[.agg #[.int .i64 b_0, .int .i64 b_1, .int .i64 b_2, .int .i64 b_3, .int .i64 b_4, .slice b_5.p b_5.n b_5.c]] H K :=
  denFn_fn Tryz.mixed logboomref3_body_ann Tryz.func78 (bodyOf_spec (by kernel_rfl)) (logboomref3_body_eq b_0 b_1 b_2 b_3 b_4 b_5 H K) h

/-! function 77: logboom/logboomref3.Right -/
def logboomref3_Right_ann : Anns := { hid := [1], loops := [(0, { slots := [(5, .int .i64)], kept := [1, 3, 4], locs := [], keptL := [0] }), (2, { slots := [(6, .int .i64)], kept := [1, 3], locs := [], keptL := [0] }), (4, { slots := [(7, .int .i64)], kept := [1, 3], locs := [], keptL := [0] })], joins := [], mix := [] }
def logboomref3_Right_vc (b_0 : Int) (b_1 : Int) (b_2 : Int) (b_3 : Int) (b_4 : Int) (b_5 : Sl) (H : Heap) (K : Value → Heap → Prop) : Prop :=
  ∀ q1 : Nat,
  H q1 = none →
  letH (Heap.upd H q1 (.cells #[.int .i64 b_1, .int .i64 b_2, .int .i64 b_3, .int .i64 b_4] 3 (0, 0))) fun H1 =>
  ∃ I1 : Int → Heap → Prop,
  ∃ M1 : Int → Heap → Nat,
  I1 0 H1 ∧
  ∀ i_1 : Int,
  ∀ H2 : Heap,
  I1 i_1 H2 →
  br (decide ((i_1 : Int) < (4 : Nat))) (
    ∃ q2 : Nat,
    ∃ o1 : Nat,
    ((some ⟨q1, 0, none⟩) : Option Addr) = some ⟨q2, o1, none⟩ ∧
    0 ≤ (i_1 : Int) ∧
    (i_1 : Int) < (4 : Nat) ∧
    ∃ n1 : Int,
    cellH H2 ⟨q2, o1 + Int.toNat i_1, none⟩ = some (.int .i64 n1) ∧
    br (decide ((n1 : Int) < 0)) (
      K (.int .i64 1) H2)
     (
      ∃ q3 : Nat,
      ∃ o2 : Nat,
      ((some ⟨q1, 0, none⟩) : Option Addr) = some ⟨q3, o2, none⟩ ∧
      0 ≤ (i_1 : Int) ∧
      (i_1 : Int) < (4 : Nat) ∧
      ∃ n2 : Int,
      cellH H2 ⟨q3, o2 + Int.toNat i_1, none⟩ = some (.int .i64 n2) ∧
      br (decide ((n2 : Int) > 1000000000)) (
        K (.int .i64 1) H2)
       (
        SelfEq ([.loc 0 0, .v (.int .i64 (b_5.n : Nat)), .v (.slice (some ⟨q1, 0, none⟩) 4 4)], [some (40, [.int .i64 b_0, .int .i64 b_1, .int .i64 b_2, .int .i64 b_3, .int .i64 b_4, .slice b_5.p b_5.n b_5.c])], []) ∧
        I1 (IntKind.wrap .i64 (i_1 + 1)) H2 ∧
        M1 (IntKind.wrap .i64 (i_1 + 1)) H2 < M1 i_1 H2)))
   (
    br (decide ((b_0 : Int) < 0)) (
      K (.int .i64 1) H2)
     (
      br ((b_2 : Int) == 0) (
        br ((b_3 : Int) != 0) (
          K (.int .i64 1) H2)
         (
          br ((b_4 : Int) != 0) (
            K (.int .i64 1) H2)
           (
            br (((b_5.n : Nat) : Int) == 0) (
              K (.int .i64 1) H2)
             (
              ∃ I2 : Int → Heap → Prop,
              ∃ M2 : Int → Heap → Nat,
              I2 0 H2 ∧
              ∀ i_2 : Int,
              ∀ H3 : Heap,
              I2 i_2 H3 →
              br (decide ((i_2 : Int) < (b_5.n : Nat))) (
                ∃ q4 : Nat,
                ∃ o3 : Nat,
                (b_5.p : Option Addr) = some ⟨q4, o3, none⟩ ∧
                0 ≤ (i_2 : Int) ∧
                (i_2 : Int) < (b_5.n : Nat) ∧
                ∃ n3 : Int,
                cellH H3 ⟨q4, o3 + Int.toNat i_2 * 3 + 2, none⟩ = some (.int .i64 n3) ∧
                br (decide ((n3 : Int) < 0)) (
                  K (.int .i64 1) H3)
                 (
                  ∃ q5 : Nat,
                  ∃ o4 : Nat,
                  (b_5.p : Option Addr) = some ⟨q5, o4, none⟩ ∧
                  0 ≤ (i_2 : Int) ∧
                  (i_2 : Int) < (b_5.n : Nat) ∧
                  ∃ n4 : Int,
                  cellH H3 ⟨q5, o4 + Int.toNat i_2 * 3 + 2, none⟩ = some (.int .i64 n4) ∧
                  br (decide ((n4 : Int) > 1000000000)) (
                    K (.int .i64 1) H3)
                   (
                    SelfEq ([.loc 0 0, .v (.int .i64 (b_5.n : Nat))], [some (40, [.int .i64 b_0, .int .i64 b_1, .int .i64 b_2, .int .i64 b_3, .int .i64 b_4, .slice b_5.p b_5.n b_5.c])], []) ∧
                    I2 (IntKind.wrap .i64 (i_2 + 1)) H3 ∧
                    M2 (IntKind.wrap .i64 (i_2 + 1)) H3 < M2 i_2 H3)))
               (
                br (decide (((b_5.n : Nat) : Int) > 64)) (
                  K (.int .i64 3) H3)
                 (
                  ∃ I3 : Int → Heap → Prop,
                  ∃ M3 : Int → Heap → Nat,
                  I3 0 H3 ∧
                  ∀ i_3 : Int,
                  ∀ H4 : Heap,
                  I3 i_3 H4 →
                  br (decide ((i_3 : Int) < (b_5.n : Nat))) (
                    ∃ q6 : Nat,
                    ∃ o5 : Nat,
                    (b_5.p : Option Addr) = some ⟨q6, o5, none⟩ ∧
                    0 ≤ (i_3 : Int) ∧
                    (i_3 : Int) < (b_5.n : Nat) ∧
                    ∃ s1 : ByteArray,
                    cellH H4 ⟨q6, o5 + Int.toNat i_3 * 3, none⟩ = some (.string s1) ∧
                    br (decide (((s1.size : Nat) : Int) > 1000)) (
                      K (.int .i64 2) H4)
                     (
                      ∃ q7 : Nat,
                      ∃ o6 : Nat,
                      (b_5.p : Option Addr) = some ⟨q7, o6, none⟩ ∧
                      0 ≤ (i_3 : Int) ∧
                      (i_3 : Int) < (b_5.n : Nat) ∧
                      ∃ s2 : ByteArray,
                      cellH H4 ⟨q7, o6 + Int.toNat i_3 * 3 + 1, none⟩ = some (.string s2) ∧
                      br (decide (((s2.size : Nat) : Int) > 1000)) (
                        K (.int .i64 2) H4)
                       (
                        SelfEq ([.loc 0 0, .v (.int .i64 (b_5.n : Nat))], [some (40, [.int .i64 b_0, .int .i64 b_1, .int .i64 b_2, .int .i64 b_3, .int .i64 b_4, .slice b_5.p b_5.n b_5.c])], []) ∧
                        I3 (IntKind.wrap .i64 (i_3 + 1)) H4 ∧
                        M3 (IntKind.wrap .i64 (i_3 + 1)) H4 < M3 i_3 H4)))
                   (
                    br (decide ((b_0 : Int) > (IntKind.wrap .i64 (1000000000 - (IntKind.wrap .i64 ((b_5.n : Nat) - 1)))))) (
                      K (.int .i64 20) H4)
                     (
                      br (decide ((b_4 : Int) > (IntKind.wrap .i64 (1000000 - (IntKind.wrap .i64 ((b_5.n : Nat) - 1)))))) (
                        K (.int .i64 20) H4)
                       (
                        FnH Tryz.prog 78 #[.agg #[.int .i64 b_0, .int .i64 b_1, .int .i64 b_2, .int .i64 b_3, .int .i64 b_4, .slice b_5.p b_5.n b_5.c]] H4 fun r1 H5 =>
                          ∃ s3 : ByteArray,
                          r1 = .string s3 ∧
                          br (decide (((IntKind.wrap .i64 ((s3.size : Nat) + 8)) : Int) > 4096)) (
                            K (.int .i64 2) H5)
                           (
                            K (.int .i64 0) H5))))))))))
       (
        br (((b_5.n : Nat) : Int) == 0) (
          K (.int .i64 1) H2)
         (
          ∃ I4 : Int → Heap → Prop,
          ∃ M4 : Int → Heap → Nat,
          I4 0 H2 ∧
          ∀ i_4 : Int,
          ∀ H6 : Heap,
          I4 i_4 H6 →
          br (decide ((i_4 : Int) < (b_5.n : Nat))) (
            ∃ q8 : Nat,
            ∃ o7 : Nat,
            (b_5.p : Option Addr) = some ⟨q8, o7, none⟩ ∧
            0 ≤ (i_4 : Int) ∧
            (i_4 : Int) < (b_5.n : Nat) ∧
            ∃ n5 : Int,
            cellH H6 ⟨q8, o7 + Int.toNat i_4 * 3 + 2, none⟩ = some (.int .i64 n5) ∧
            br (decide ((n5 : Int) < 0)) (
              K (.int .i64 1) H6)
             (
              ∃ q9 : Nat,
              ∃ o8 : Nat,
              (b_5.p : Option Addr) = some ⟨q9, o8, none⟩ ∧
              0 ≤ (i_4 : Int) ∧
              (i_4 : Int) < (b_5.n : Nat) ∧
              ∃ n6 : Int,
              cellH H6 ⟨q9, o8 + Int.toNat i_4 * 3 + 2, none⟩ = some (.int .i64 n6) ∧
              br (decide ((n6 : Int) > 1000000000)) (
                K (.int .i64 1) H6)
               (
                SelfEq ([.loc 0 0, .v (.int .i64 (b_5.n : Nat))], [some (40, [.int .i64 b_0, .int .i64 b_1, .int .i64 b_2, .int .i64 b_3, .int .i64 b_4, .slice b_5.p b_5.n b_5.c])], []) ∧
                I4 (IntKind.wrap .i64 (i_4 + 1)) H6 ∧
                M4 (IntKind.wrap .i64 (i_4 + 1)) H6 < M4 i_4 H6)))
           (
            br (decide (((b_5.n : Nat) : Int) > 64)) (
              K (.int .i64 3) H6)
             (
              ∃ I5 : Int → Heap → Prop,
              ∃ M5 : Int → Heap → Nat,
              I5 0 H6 ∧
              ∀ i_5 : Int,
              ∀ H7 : Heap,
              I5 i_5 H7 →
              br (decide ((i_5 : Int) < (b_5.n : Nat))) (
                ∃ q10 : Nat,
                ∃ o9 : Nat,
                (b_5.p : Option Addr) = some ⟨q10, o9, none⟩ ∧
                0 ≤ (i_5 : Int) ∧
                (i_5 : Int) < (b_5.n : Nat) ∧
                ∃ s4 : ByteArray,
                cellH H7 ⟨q10, o9 + Int.toNat i_5 * 3, none⟩ = some (.string s4) ∧
                br (decide (((s4.size : Nat) : Int) > 1000)) (
                  K (.int .i64 2) H7)
                 (
                  ∃ q11 : Nat,
                  ∃ o10 : Nat,
                  (b_5.p : Option Addr) = some ⟨q11, o10, none⟩ ∧
                  0 ≤ (i_5 : Int) ∧
                  (i_5 : Int) < (b_5.n : Nat) ∧
                  ∃ s5 : ByteArray,
                  cellH H7 ⟨q11, o10 + Int.toNat i_5 * 3 + 1, none⟩ = some (.string s5) ∧
                  br (decide (((s5.size : Nat) : Int) > 1000)) (
                    K (.int .i64 2) H7)
                   (
                    SelfEq ([.loc 0 0, .v (.int .i64 (b_5.n : Nat))], [some (40, [.int .i64 b_0, .int .i64 b_1, .int .i64 b_2, .int .i64 b_3, .int .i64 b_4, .slice b_5.p b_5.n b_5.c])], []) ∧
                    I5 (IntKind.wrap .i64 (i_5 + 1)) H7 ∧
                    M5 (IntKind.wrap .i64 (i_5 + 1)) H7 < M5 i_5 H7)))
               (
                br (decide ((b_0 : Int) > (IntKind.wrap .i64 (1000000000 - (IntKind.wrap .i64 ((b_5.n : Nat) - 1)))))) (
                  K (.int .i64 20) H7)
                 (
                  br (decide ((b_4 : Int) > (IntKind.wrap .i64 (1000000 - (IntKind.wrap .i64 ((b_5.n : Nat) - 1)))))) (
                    K (.int .i64 20) H7)
                   (
                    FnH Tryz.prog 78 #[.agg #[.int .i64 b_0, .int .i64 b_1, .int .i64 b_2, .int .i64 b_3, .int .i64 b_4, .slice b_5.p b_5.n b_5.c]] H7 fun r2 H8 =>
                      ∃ s6 : ByteArray,
                      r2 = .string s6 ∧
                      br (decide (((IntKind.wrap .i64 ((s6.size : Nat) + 8)) : Int) > 4096)) (
                        K (.int .i64 2) H8)
                       (
                        K (.int .i64 0) H8))))))))))
theorem logboomref3_Right_eq (b_0 : Int) (b_1 : Int) (b_2 : Int) (b_3 : Int) (b_4 : Int) (b_5 : Sl) (H : Heap) (K : Value → Heap → Prop) : logboomref3_Right_vc b_0 b_1 b_2 b_3 b_4 b_5 H K = denFn Tryz.prog logboomref3_Right_ann Tryz.f77 (bodyOf Tryz.f77) [.agg #[.int .i64 b_0, .int .i64 b_1, .int .i64 b_2, .int .i64 b_3, .int .i64 b_4, .slice b_5.p b_5.n b_5.c]] H K := by kernel_rfl
theorem logboomref3_Right_fn (b_0 : Int) (b_1 : Int) (b_2 : Int) (b_3 : Int) (b_4 : Int) (b_5 : Sl) {H : Heap} {K : Value → Heap → Prop} (h : logboomref3_Right_vc b_0 b_1 b_2 b_3 b_4 b_5 H K) : FnH Tryz.prog 77 #[.agg #[.int .i64 b_0, .int .i64 b_1, .int .i64 b_2, .int .i64 b_3, .int .i64 b_4, .slice b_5.p b_5.n b_5.c]] H K :=
  denFn_fn Tryz.mixed logboomref3_Right_ann Tryz.func77 (bodyOf_spec (by kernel_rfl)) (logboomref3_Right_eq b_0 b_1 b_2 b_3 b_4 b_5 H K) h

/-! function 56: logboom/logboomref3.Batch -/
def logboomref3_Batch_ann : Anns := { hid := [1], loops := [], joins := [], mix := [] }
def logboomref3_Batch_vc (b_0 : Int) (b_1 : Int) (b_2 : Int) (b_3 : Int) (b_4 : Int) (b_5 : Sl) (H : Heap) (K : Value → Heap → Prop) : Prop :=
  FnH Tryz.prog 77 #[.agg #[.int .i64 b_0, .int .i64 b_1, .int .i64 b_2, .int .i64 b_3, .int .i64 b_4, .slice b_5.p b_5.n b_5.c]] H fun r1 H1 =>
    ∃ n1 : Int,
    r1 = .int .i64 n1 ∧
    br ((n1 : Int) != 0) (
      K (.tuple #[.string (⟨#[]⟩ : ByteArray), .int .i64 n1]) H1)
     (
      FnH Tryz.prog 78 #[.agg #[.int .i64 b_0, .int .i64 b_1, .int .i64 b_2, .int .i64 b_3, .int .i64 b_4, .slice b_5.p b_5.n b_5.c]] H1 fun r2 H2 =>
        ∃ s1 : ByteArray,
        r2 = .string s1 ∧
        FnH Tryz.prog 79 #[.int .i64 (s1.size : Nat)] H2 fun r3 H3 =>
          ∃ s2 : ByteArray,
          r3 = .string s2 ∧
          FnH Tryz.prog 80 #[.string s1] H3 fun r4 H4 =>
            ∃ n2 : Int,
            r4 = .int .i64 n2 ∧
            FnH Tryz.prog 79 #[.int .i64 n2] H4 fun r5 H5 =>
              ∃ s3 : ByteArray,
              r5 = .string s3 ∧
              s2.size + s3.size < 9223372036854775808 ∧
              (s2 ++ s3).size + s1.size < 9223372036854775808 ∧
              K (.tuple #[.string ((s2 ++ s3) ++ s1), .int .i64 0]) H5)
theorem logboomref3_Batch_eq (b_0 : Int) (b_1 : Int) (b_2 : Int) (b_3 : Int) (b_4 : Int) (b_5 : Sl) (H : Heap) (K : Value → Heap → Prop) : logboomref3_Batch_vc b_0 b_1 b_2 b_3 b_4 b_5 H K = denFn Tryz.prog logboomref3_Batch_ann Tryz.f56 (bodyOf Tryz.f56) [.agg #[.int .i64 b_0, .int .i64 b_1, .int .i64 b_2, .int .i64 b_3, .int .i64 b_4, .slice b_5.p b_5.n b_5.c]] H K := by kernel_rfl
theorem logboomref3_Batch_fn (b_0 : Int) (b_1 : Int) (b_2 : Int) (b_3 : Int) (b_4 : Int) (b_5 : Sl) {H : Heap} {K : Value → Heap → Prop} (h : logboomref3_Batch_vc b_0 b_1 b_2 b_3 b_4 b_5 H K) : FnH Tryz.prog 56 #[.agg #[.int .i64 b_0, .int .i64 b_1, .int .i64 b_2, .int .i64 b_3, .int .i64 b_4, .slice b_5.p b_5.n b_5.c]] H K :=
  denFn_fn Tryz.mixed logboomref3_Batch_ann Tryz.func56 (bodyOf_spec (by kernel_rfl)) (logboomref3_Batch_eq b_0 b_1 b_2 b_3 b_4 b_5 H K) h

/-! function 76: logboom/logboomref3.ReadBatch -/
def logboomref3_ReadBatch_ann : Anns := { hid := [2, 41, 8, 11], loops := [(0, { slots := [(10, .int .i64)], kept := [2, 5, 7, 8, 9], locs := [(1, [.str, .bool]), (2, [.int .i64, .int .i64, .int .i64, .int .i64, .int .i64, .slice])], keptL := [0] })], joins := [], mix := [(9, [])] }
def logboomref3_ReadBatch_vc (s : ByteArray) (H : Heap) (K : Value → Heap → Prop) : Prop :=
  br (decide (((s.size : Nat) : Int) < 8)) (
    K (.tuple #[.agg #[.int .i64 0, .int .i64 0, .int .i64 0, .int .i64 0, .int .i64 0, .slice none 0 0], .int .i64 0, .int .i64 5]) H)
   (
    FnH Tryz.prog 91 #[.string s] H fun r1 H1 =>
      ∃ n1 : Int,
      r1 = .int .i64 n1 ∧
      br (decide ((n1 : Int) > 4088)) (
        K (.tuple #[.agg #[.int .i64 0, .int .i64 0, .int .i64 0, .int .i64 0, .int .i64 0, .slice none 0 0], .int .i64 0, .int .i64 2]) H1)
       (
        br (decide (((s.size : Nat) : Int) < (IntKind.wrap .i64 (8 + n1)))) (
          K (.tuple #[.agg #[.int .i64 0, .int .i64 0, .int .i64 0, .int .i64 0, .int .i64 0, .slice none 0 0], .int .i64 0, .int .i64 5]) H1)
         (
          0 ≤ (IntKind.wrap .i64 (8 + n1) : Int) ∧
          (IntKind.wrap .i64 (8 + n1) : Int) ≤ (s.size : Nat) ∧
          0 ≤ (8 : Int) ∧
          (8 : Int) ≤ (IntKind.wrap .i64 (8 + n1)) ∧
          0 ≤ (4 : Int) ∧
          (4 : Int) ≤ (s.size : Nat) ∧
          FnH Tryz.prog 80 #[.string (s.extract (Int.toNat 8) (Int.toNat (IntKind.wrap .i64 (8 + n1))))] H1 fun r2 H2 =>
            ∃ n2 : Int,
            r2 = .int .i64 n2 ∧
            Sub H1 H2 ∧
            FnH Tryz.prog 91 #[.string (s.extract (Int.toNat 4) (Int.toNat (s.size : Nat)))] H2 fun r3 H3 =>
              ∃ n3 : Int,
              r3 = .int .i64 n3 ∧
              Sub H1 H3 ∧
              br ((n2 : Int) != n3) (
                K (.tuple #[.agg #[.int .i64 0, .int .i64 0, .int .i64 0, .int .i64 0, .int .i64 0, .slice none 0 0], .int .i64 0, .int .i64 6]) H3)
               (
                ∀ q1 : Nat,
                H3 q1 = none →
                FnH Tryz.prog 92 #[.pointer (some ⟨q1, 0, none⟩)] (Heap.upd H3 q1 (.cells #[.string (s.extract (Int.toNat 8) (Int.toNat (IntKind.wrap .i64 (8 + n1)))), .bool false] 133 (0, 0))) fun r4 H4 =>
                  ∃ n4 : Int,
                  r4 = .int .i64 n4 ∧
                  ∃ s1 : ByteArray,
                  ∃ b1 : Bool,
                  H4 q1 = some (.cells #[.string s1, .bool b1] 133 (0, 0)) ∧
                  letH (Heap.del H4 q1) fun H5 =>
                  ∀ q2 : Nat,
                  H5 q2 = none →
                  FnH Tryz.prog 92 #[.pointer (some ⟨q2, 0, none⟩)] (Heap.upd H5 q2 (.cells #[.string s1, .bool b1] 133 (0, 0))) fun r5 H6 =>
                    ∃ n5 : Int,
                    r5 = .int .i64 n5 ∧
                    ∃ s2 : ByteArray,
                    ∃ b2 : Bool,
                    H6 q2 = some (.cells #[.string s2, .bool b2] 133 (0, 0)) ∧
                    letH (Heap.del H6 q2) fun H7 =>
                    ∀ q3 : Nat,
                    H7 q3 = none →
                    FnH Tryz.prog 92 #[.pointer (some ⟨q3, 0, none⟩)] (Heap.upd H7 q3 (.cells #[.string s2, .bool b2] 133 (0, 0))) fun r6 H8 =>
                      ∃ n6 : Int,
                      r6 = .int .i64 n6 ∧
                      ∃ s3 : ByteArray,
                      ∃ b3 : Bool,
                      H8 q3 = some (.cells #[.string s3, .bool b3] 133 (0, 0)) ∧
                      letH (Heap.del H8 q3) fun H9 =>
                      ∀ q4 : Nat,
                      H9 q4 = none →
                      FnH Tryz.prog 92 #[.pointer (some ⟨q4, 0, none⟩)] (Heap.upd H9 q4 (.cells #[.string s3, .bool b3] 133 (0, 0))) fun r7 H10 =>
                        ∃ n7 : Int,
                        r7 = .int .i64 n7 ∧
                        ∃ s4 : ByteArray,
                        ∃ b4 : Bool,
                        H10 q4 = some (.cells #[.string s4, .bool b4] 133 (0, 0)) ∧
                        letH (Heap.del H10 q4) fun H11 =>
                        ∀ q5 : Nat,
                        H11 q5 = none →
                        FnH Tryz.prog 92 #[.pointer (some ⟨q5, 0, none⟩)] (Heap.upd H11 q5 (.cells #[.string s4, .bool b4] 133 (0, 0))) fun r8 H12 =>
                          ∃ n8 : Int,
                          r8 = .int .i64 n8 ∧
                          ∃ s5 : ByteArray,
                          ∃ b5 : Bool,
                          H12 q5 = some (.cells #[.string s5, .bool b5] 133 (0, 0)) ∧
                          letH (Heap.del H12 q5) fun H13 =>
                          ∀ q6 : Nat,
                          H13 q6 = none →
                          FnH Tryz.prog 92 #[.pointer (some ⟨q6, 0, none⟩)] (Heap.upd H13 q6 (.cells #[.string s5, .bool b5] 133 (0, 0))) fun r9 H14 =>
                            ∃ n9 : Int,
                            r9 = .int .i64 n9 ∧
                            ∃ s6 : ByteArray,
                            ∃ b6 : Bool,
                            H14 q6 = some (.cells #[.string s6, .bool b6] 133 (0, 0)) ∧
                            letH (Heap.del H14 q6) fun H15 =>
                            br (decide ((n9 : Int) < 1)) (
                              K (.tuple #[.agg #[.int .i64 0, .int .i64 0, .int .i64 0, .int .i64 0, .int .i64 0, .slice none 0 0], .int .i64 0, .int .i64 4]) H15)
                             (
                              br (decide ((n9 : Int) > 64)) (
                                K (.tuple #[.agg #[.int .i64 0, .int .i64 0, .int .i64 0, .int .i64 0, .int .i64 0, .slice none 0 0], .int .i64 0, .int .i64 4]) H15)
                               (
                                ∃ I1 : Int → ByteArray → Bool → Int → Int → Int → Int → Int → Sl → Heap → Prop,
                                ∃ M1 : Int → ByteArray → Bool → Int → Int → Int → Int → Int → Sl → Heap → Nat,
                                I1 0 s6 b6 n4 n5 n6 n7 n8 ⟨none, 0, 0⟩ H15 ∧
                                ∀ i_1 : Int,
                                ∀ s7 : ByteArray,
                                ∀ b7 : Bool,
                                ∀ n10 : Int,
                                ∀ n11 : Int,
                                ∀ n12 : Int,
                                ∀ n13 : Int,
                                ∀ n14 : Int,
                                ∀ l1 : Sl,
                                ∀ H16 : Heap,
                                I1 i_1 s7 b7 n10 n11 n12 n13 n14 l1 H16 →
                                br (decide ((i_1 : Int) < n9)) (
                                  ∀ q7 : Nat,
                                  H16 q7 = none →
                                  FnH Tryz.prog 92 #[.pointer (some ⟨q7, 0, none⟩)] (Heap.upd H16 q7 (.cells #[.string s7, .bool b7] 133 (0, 0))) fun r10 H17 =>
                                    ∃ n15 : Int,
                                    r10 = .int .i64 n15 ∧
                                    ∃ s8 : ByteArray,
                                    ∃ b8 : Bool,
                                    H17 q7 = some (.cells #[.string s8, .bool b8] 133 (0, 0)) ∧
                                    letH (Heap.del H17 q7) fun H18 =>
                                    ∀ q8 : Nat,
                                    H18 q8 = none →
                                    FnH Tryz.prog 93 #[.pointer (some ⟨q8, 0, none⟩), .int .i64 1000] (Heap.upd H18 q8 (.cells #[.string s8, .bool b8] 133 (0, 0))) fun r11 H19 =>
                                      ∃ s9 : ByteArray,
                                      r11 = .string s9 ∧
                                      ∃ s10 : ByteArray,
                                      ∃ b9 : Bool,
                                      H19 q8 = some (.cells #[.string s10, .bool b9] 133 (0, 0)) ∧
                                      letH (Heap.del H19 q8) fun H20 =>
                                      ∀ q9 : Nat,
                                      H20 q9 = none →
                                      FnH Tryz.prog 93 #[.pointer (some ⟨q9, 0, none⟩), .int .i64 1000] (Heap.upd H20 q9 (.cells #[.string s10, .bool b9] 133 (0, 0))) fun r12 H21 =>
                                        ∃ s11 : ByteArray,
                                        r12 = .string s11 ∧
                                        ∃ s12 : ByteArray,
                                        ∃ b10 : Bool,
                                        H21 q9 = some (.cells #[.string s12, .bool b10] 133 (0, 0)) ∧
                                        letH (Heap.del H21 q9) fun H22 =>
                                        ∀ q10 : Nat,
                                        H22 q10 = none →
                                        letH (Heap.upd H22 q10 (.cells #[.string s9, .string s11, .int .i64 n15] 86 (0, 0))) fun H23 =>
                                        runH Tryz.prog (Builtin.append_ #[38, 38] 38 #[.slice l1.p l1.n l1.c, .slice (some ⟨q10, 0, none⟩) 1 1]) H23 fun r13 H24 =>
                                          ∃ l2 : Sl,
                                          r13 = .slice l2.p l2.n l2.c ∧
                                          SelfEq ([.loc 0 0, .v (.int .i64 n1), .loc 1 0, .loc 2 0, .v (.int .i64 n9)], [some (40, [.int .i64 0, .int .i64 0, .int .i64 0, .int .i64 0, .int .i64 0, .slice none 0 0])], [133, 40]) ∧
                                          I1 (IntKind.wrap .i64 (i_1 + 1)) s12 b10 n10 n11 n12 n13 n14 l2 H24 ∧
                                          M1 (IntKind.wrap .i64 (i_1 + 1)) s12 b10 n10 n11 n12 n13 n14 l2 H24 < M1 i_1 s7 b7 n10 n11 n12 n13 n14 l1 H16)
                                 (
                                  FnH Tryz.prog 77 #[.agg #[.int .i64 n10, .int .i64 n11, .int .i64 n12, .int .i64 n13, .int .i64 n14, .slice l1.p l1.n l1.c]] H16 fun r14 H25 =>
                                    ∃ n16 : Int,
                                    r14 = .int .i64 n16 ∧
                                    br (b7) (
                                      K (.tuple #[.agg #[.int .i64 0, .int .i64 0, .int .i64 0, .int .i64 0, .int .i64 0, .slice none 0 0], .int .i64 0, .int .i64 4]) H25)
                                     (
                                      br (!(s7.toList == (⟨#[]⟩ : ByteArray).toList)) (
                                        K (.tuple #[.agg #[.int .i64 0, .int .i64 0, .int .i64 0, .int .i64 0, .int .i64 0, .slice none 0 0], .int .i64 0, .int .i64 4]) H25)
                                       (
                                        br ((n16 : Int) != 0) (
                                          K (.tuple #[.agg #[.int .i64 0, .int .i64 0, .int .i64 0, .int .i64 0, .int .i64 0, .slice none 0 0], .int .i64 0, .int .i64 4]) H25)
                                         (
                                          K (.tuple #[.agg #[.int .i64 n10, .int .i64 n11, .int .i64 n12, .int .i64 n13, .int .i64 n14, .slice l1.p l1.n l1.c], .int .i64 (IntKind.wrap .i64 (8 + n1)), .int .i64 0]) H25))))))))))
theorem logboomref3_ReadBatch_eq (s : ByteArray) (H : Heap) (K : Value → Heap → Prop) : logboomref3_ReadBatch_vc s H K = denFn Tryz.prog logboomref3_ReadBatch_ann Tryz.f76 (bodyOf Tryz.f76) [.string s] H K := by kernel_rfl
theorem logboomref3_ReadBatch_fn (s : ByteArray) {H : Heap} {K : Value → Heap → Prop} (h : logboomref3_ReadBatch_vc s H K) : FnH Tryz.prog 76 #[.string s] H K :=
  denFn_fn Tryz.mixed logboomref3_ReadBatch_ann Tryz.func76 (bodyOf_spec (by kernel_rfl)) (logboomref3_ReadBatch_eq s H K) h

/-! function 93: (*logboom/logboomref3.Reader).Text -/
def logboomref3_Reader_Text_ann : Anns := { hid := [], loops := [], joins := [], mix := [] }
def logboomref3_Reader_Text_vc (r : Nat) (ro : Nat) (most : Int) (H : Heap) (K : Value → Heap → Prop) : Prop :=
  FnH Tryz.prog 92 #[.pointer (some ⟨r, ro, none⟩)] H fun r1 H1 =>
    ∃ n1 : Int,
    r1 = .int .i64 n1 ∧
    br (decide ((n1 : Int) < 0)) (
      (∃ u, cellH H1 ⟨r, ro + 1, none⟩ = some u) ∧
      frozenH H1 ⟨r, ro + 1, none⟩ = false ∧
      letH (Heap.set H1 ⟨r, ro + 1, none⟩ (.bool true)) fun H2 =>
      K (.string (⟨#[]⟩ : ByteArray)) H2)
     (
      br (decide ((n1 : Int) > most)) (
        (∃ u, cellH H1 ⟨r, ro + 1, none⟩ = some u) ∧
        frozenH H1 ⟨r, ro + 1, none⟩ = false ∧
        letH (Heap.set H1 ⟨r, ro + 1, none⟩ (.bool true)) fun H3 =>
        K (.string (⟨#[]⟩ : ByteArray)) H3)
       (
        ∃ s1 : ByteArray,
        cellH H1 ⟨r, ro, none⟩ = some (.string s1) ∧
        br (decide ((n1 : Int) > (s1.size : Nat))) (
          (∃ u, cellH H1 ⟨r, ro + 1, none⟩ = some u) ∧
          frozenH H1 ⟨r, ro + 1, none⟩ = false ∧
          letH (Heap.set H1 ⟨r, ro + 1, none⟩ (.bool true)) fun H4 =>
          K (.string (⟨#[]⟩ : ByteArray)) H4)
         (
          ∃ s2 : ByteArray,
          cellH H1 ⟨r, ro, none⟩ = some (.string s2) ∧
          0 ≤ (n1 : Int) ∧
          (n1 : Int) ≤ (s2.size : Nat) ∧
          ∃ s3 : ByteArray,
          cellH H1 ⟨r, ro, none⟩ = some (.string s3) ∧
          0 ≤ (n1 : Int) ∧
          (n1 : Int) ≤ (s3.size : Nat) ∧
          (∃ u, cellH H1 ⟨r, ro, none⟩ = some u) ∧
          frozenH H1 ⟨r, ro, none⟩ = false ∧
          letH (Heap.set H1 ⟨r, ro, none⟩ (.string (s3.extract (Int.toNat n1) (Int.toNat (s3.size : Nat))))) fun H5 =>
          K (.string (s2.extract (Int.toNat (0 : Int)) (Int.toNat n1))) H5)))
theorem logboomref3_Reader_Text_eq (r : Nat) (ro : Nat) (most : Int) (H : Heap) (K : Value → Heap → Prop) : logboomref3_Reader_Text_vc r ro most H K = denFn Tryz.prog logboomref3_Reader_Text_ann Tryz.f93 (bodyOf Tryz.f93) [.pointer (some ⟨r, ro, none⟩), .int .i64 most] H K := by kernel_rfl
theorem logboomref3_Reader_Text_fn (r : Nat) (ro : Nat) (most : Int) {H : Heap} {K : Value → Heap → Prop} (h : logboomref3_Reader_Text_vc r ro most H K) : FnH Tryz.prog 93 #[.pointer (some ⟨r, ro, none⟩), .int .i64 most] H K :=
  denFn_fn Tryz.mixed logboomref3_Reader_Text_ann Tryz.func93 (bodyOf_spec (by kernel_rfl)) (logboomref3_Reader_Text_eq r ro most H K) h

/-! function 91: logboom/logboomref3.four -/
def logboomref3_four_ann : Anns := { hid := [], loops := [], joins := [], mix := [] }
def logboomref3_four_vc (s : ByteArray) (H : Heap) (K : Value → Heap → Prop) : Prop :=
  0 ≤ (0 : Int) ∧
  ∃ c1 : UInt8,
  s[Int.toNat 0]? = some c1 ∧
  0 ≤ (1 : Int) ∧
  ∃ c2 : UInt8,
  s[Int.toNat 1]? = some c2 ∧
  0 ≤ (2 : Int) ∧
  ∃ c3 : UInt8,
  s[Int.toNat 2]? = some c3 ∧
  0 ≤ (3 : Int) ∧
  ∃ c4 : UInt8,
  s[Int.toNat 3]? = some c4 ∧
  K (.int .i64 (IntKind.wrap .i64 ((IntKind.wrap .i64 ((IntKind.wrap .i64 ((IntKind.wrap .i64 ((IntKind.wrap .i64 (c1.toNat : Int)) * 16777216)) + (IntKind.wrap .i64 ((IntKind.wrap .i64 (c2.toNat : Int)) * 65536)))) + (IntKind.wrap .i64 ((IntKind.wrap .i64 (c3.toNat : Int)) * 256)))) + (IntKind.wrap .i64 (c4.toNat : Int))))) H
theorem logboomref3_four_eq (s : ByteArray) (H : Heap) (K : Value → Heap → Prop) : logboomref3_four_vc s H K = denFn Tryz.prog logboomref3_four_ann Tryz.f91 (bodyOf Tryz.f91) [.string s] H K := by kernel_rfl
theorem logboomref3_four_fn (s : ByteArray) {H : Heap} {K : Value → Heap → Prop} (h : logboomref3_four_vc s H K) : FnH Tryz.prog 91 #[.string s] H K :=
  denFn_fn Tryz.mixed logboomref3_four_ann Tryz.func91 (bodyOf_spec (by kernel_rfl)) (logboomref3_four_eq s H K) h

end Go.Proofs.YtokceblmbmajgaaGreatDoor
