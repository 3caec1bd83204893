/- Formulas of functions, printed by this session's vc.py; each is tied to the program by the kernel. -/
import Derived.Test.YtdgmifbcbmndgaaDoorProg
import Derived.KernelRfl
import Derived.Test.YtdgmifbcbmndgaaDoorHlFn
import Derived.Test.YtdgmifbcbmndgaaDoorV3
namespace Go.Proofs.YtdgmifbcbmndgaaDoor
open Go.HL
set_option maxRecDepth 100000
/-! function 3: logboom/logboomlaw7.EpochOpens -/
def logboomlaw7_EpochOpens_ann : Anns := { hid := [], loops := [(0, { slots := [(5, .int .i64)], kept := [3, 4], locs := [], keptL := [] })], joins := [], mix := [] }
def logboomlaw7_EpochOpens_vc (s : ByteArray) (H : Heap) (K : Value → Heap → Prop) : Prop :=
  FnH Tryd.prog 6 #[] H fun r1 H1 =>
    ∃ b1 : Bool,
    r1 = .bool b1 ∧
    br (decide (((s.size : Nat) : Int) > 30000)) (
      K (.bool b1) H1)
     (
      FnH Tryd.prog 8 #[.string s] H1 fun r2 H2 =>
        ∃ n1 : Int,
        r2 = .int .i64 n1 ∧
        FnH Tryd.prog 7 #[.int .i64 n1] H2 fun r3 H3 =>
          ∃ s1 : ByteArray,
          r3 = .string s1 ∧
          s1.size + s.size < 9223372036854775808 ∧
          ∀ q1 : Nat,
          H3 q1 = none →
          letH (Heap.upd H3 q1 (.cells #[.string s, .string (s1 ++ s)] 9 (0, 0))) fun H4 =>
          ∃ I1 : Int → Heap → Prop,
          ∃ M1 : Int → Heap → Nat,
          I1 0 H4 ∧
          ∀ i_1 : Int,
          ∀ H5 : Heap,
          I1 i_1 H5 →
          br (decide ((i_1 : Int) < (2 : Nat))) (
            FnH Tryd.prog 9 #[.int .i64 100000] H5 fun r4 H6 =>
              ∃ p1 : Option Addr,
              ∃ n2 : Int,
              r4 = .tuple #[.pointer p1, .int .i64 n2] ∧
              br (Option.isNone p1) (
                K (.bool false) H6)
               (
                br ((n2 : Int) != 0) (
                  K (.bool false) H6)
                 (
                  ∃ q2 : Nat,
                  ∃ o1 : Nat,
                  ((some ⟨q1, 0, none⟩) : Option Addr) = some ⟨q2, o1, none⟩ ∧
                  0 ≤ (i_1 : Int) ∧
                  (i_1 : Int) < (2 : Nat) ∧
                  ∃ s2 : ByteArray,
                  cellH H6 ⟨q2, o1 + Int.toNat i_1, none⟩ = some (.string s2) ∧
                  FnH Tryd.prog 10 #[.pointer p1, .string (⟨#[101, 112, 111, 99, 104, 115]⟩ : ByteArray), .string s2] H6 fun r5 H7 =>
                    ∃ n3 : Int,
                    r5 = .int .i64 n3 ∧
                    br ((n3 : Int) != 0) (
                      K (.bool false) H7)
                     (
                      FnH Tryd.prog 11 #[.pointer p1, .string (⟨#[101, 112, 111, 99, 104, 115]⟩ : ByteArray)] H7 fun r6 H8 =>
                        ∃ p2 : Option Addr,
                        ∃ n4 : Int,
                        r6 = .tuple #[.pointer p2, .int .i64 n4] ∧
                        ∃ q3 : Nat,
                        ∃ o2 : Nat,
                        ((some ⟨q1, 0, none⟩) : Option Addr) = some ⟨q3, o2, none⟩ ∧
                        0 ≤ (i_1 : Int) ∧
                        (i_1 : Int) < (2 : Nat) ∧
                        ∃ s3 : ByteArray,
                        cellH H8 ⟨q3, o2 + Int.toNat i_1, none⟩ = some (.string s3) ∧
                        FnH Tryd.prog 12 #[.string s3] H8 fun r7 H9 =>
                          ∃ l1 : Sl,
                          ∃ n5 : Int,
                          r7 = .tuple #[.slice l1.p l1.n l1.c, .int .i64 n5] ∧
                          br ((n4 : Int) != n5) (
                            K (.bool false) H9)
                           (
                            br (!((Option.isNone p2) == ((n5 : Int) != 0))) (
                              K (.bool false) H9)
                             (
                              br ((n5 : Int) == 0) (
                                FnH Tryd.prog 14 #[.pointer p2] H9 fun r8 H10 =>
                                  ∃ l2 : Sl,
                                  r8 = .slice l2.p l2.n l2.c ∧
                                  FnH Tryd.prog 13 #[.slice l2.p l2.n l2.c, .slice l1.p l1.n l1.c] H10 fun r9 H11 =>
                                    ∃ b2 : Bool,
                                    r9 = .bool b2 ∧
                                    br (!b2) (
                                      K (.bool false) H11)
                                     (
                                      SelfEq ([.v (.bool b1), .v (.slice (some ⟨q1, 0, none⟩) 2 2)], [], []) ∧
                                      I1 (IntKind.wrap .i64 (i_1 + 1)) H11 ∧
                                      M1 (IntKind.wrap .i64 (i_1 + 1)) H11 < M1 i_1 H5))
                               (
                                SelfEq ([.v (.bool b1), .v (.slice (some ⟨q1, 0, none⟩) 2 2)], [], []) ∧
                                I1 (IntKind.wrap .i64 (i_1 + 1)) H9 ∧
                                M1 (IntKind.wrap .i64 (i_1 + 1)) H9 < M1 i_1 H5)))))))
           (
            K (.bool b1) H5))
theorem logboomlaw7_EpochOpens_eq (s : ByteArray) (H : Heap) (K : Value → Heap → Prop) : logboomlaw7_EpochOpens_vc s H K = denFn Tryd.prog logboomlaw7_EpochOpens_ann Tryd.f3 (bodyOf Tryd.f3) [.string s] H K := by kernel_rfl
theorem logboomlaw7_EpochOpens_fn (s : ByteArray) {H : Heap} {K : Value → Heap → Prop} (h : logboomlaw7_EpochOpens_vc s H K) : FnH Tryd.prog 3 #[.string s] H K :=
  denFn_fn Tryd.mixed logboomlaw7_EpochOpens_ann Tryd.func3 (bodyOf_spec (by kernel_rfl)) (logboomlaw7_EpochOpens_eq s H K) h

/-! function 4: logboom/logboomlaw7.EpochMany -/
def logboomlaw7_EpochMany_ann : Anns := { hid := [], loops := [(0, { slots := [(8, .int .i64)], kept := [0, 1, 6], locs := [], keptL := [] })], joins := [], mix := [] }
def logboomlaw7_EpochMany_vc (n : Int) (step : Int) (H : Heap) (K : Value → Heap → Prop) : Prop :=
  FnH Tryd.prog 6 #[] H fun r1 H1 =>
    ∃ b1 : Bool,
    r1 = .bool b1 ∧
    FnH Tryd.prog 15 #[.int .i64 100000] H1 fun r2 H2 =>
      ∃ p1 : Option Addr,
      ∃ p2 : Option Addr,
      r2 = .tuple #[.pointer p1, .pointer p2] ∧
      br (!b1) (
        K (.bool false) H2)
       (
        br (Option.isNone p1) (
          K (.bool false) H2)
         (
          FnH Tryd.prog 16 #[.int .i64 n, .int .i64 10] H2 fun r3 H3 =>
            ∃ n1 : Int,
            r3 = .int .i64 n1 ∧
            FnH Tryd.prog 16 #[.int .i64 step, .int .i64 1000] H3 fun r4 H4 =>
              ∃ n2 : Int,
              r4 = .int .i64 n2 ∧
              ∃ I1 : Int → Heap → Prop,
              ∃ M1 : Int → Heap → Nat,
              I1 0 H4 ∧
              ∀ i_1 : Int,
              ∀ H5 : Heap,
              I1 i_1 H5 →
              br (decide ((i_1 : Int) < (IntKind.wrap .i64 (195 + n1)))) (
                FnH Tryd.prog 17 #[.pointer p1, .int .i64 i_1, .int .i64 (IntKind.wrap .i64 (i_1 * (IntKind.wrap .i64 (1 + n2))))] H5 fun r5 H6 =>
                  ∃ n3 : Int,
                  r5 = .int .i64 n3 ∧
                  br (!(((n3 : Int) == 0) == (decide ((i_1 : Int) < 200)))) (
                    K (.bool false) H6)
                   (
                    br ((n3 : Int) != 0) (
                      br ((n3 : Int) != 3) (
                        K (.bool false) H6)
                       (
                        SelfEq ([.v (.int .i64 (IntKind.wrap .i64 (195 + n1))), .v (.int .i64 (IntKind.wrap .i64 (1 + n2))), .v (.pointer p1)], [], []) ∧
                        I1 (IntKind.wrap .i64 (i_1 + 1)) H6 ∧
                        M1 (IntKind.wrap .i64 (i_1 + 1)) H6 < M1 i_1 H5))
                     (
                      SelfEq ([.v (.int .i64 (IntKind.wrap .i64 (195 + n1))), .v (.int .i64 (IntKind.wrap .i64 (1 + n2))), .v (.pointer p1)], [], []) ∧
                      I1 (IntKind.wrap .i64 (i_1 + 1)) H6 ∧
                      M1 (IntKind.wrap .i64 (i_1 + 1)) H6 < M1 i_1 H5)))
               (
                FnH Tryd.prog 14 #[.pointer p1] H5 fun r6 H7 =>
                  ∃ l1 : Sl,
                  r6 = .slice l1.p l1.n l1.c ∧
                  br (((l1.n : Nat) : Int) == (if 200 < (IntKind.wrap .i64 (195 + n1)) then 200 else (IntKind.wrap .i64 (195 + n1)))) (
                    FnH Tryd.prog 18 #[.pointer p1] H7 fun r7 H8 =>
                      ∃ n4 : Int,
                      r7 = .int .i64 n4 ∧
                      K (.bool ((n4 : Int) == (IntKind.wrap .i64 ((if 200 < (IntKind.wrap .i64 (195 + n1)) then 200 else (IntKind.wrap .i64 (195 + n1))) - 1)))) H8)
                   (
                    K (.bool false) H7))))
theorem logboomlaw7_EpochMany_eq (n : Int) (step : Int) (H : Heap) (K : Value → Heap → Prop) : logboomlaw7_EpochMany_vc n step H K = denFn Tryd.prog logboomlaw7_EpochMany_ann Tryd.f4 (bodyOf Tryd.f4) [.int .i64 n, .int .i64 step] H K := by kernel_rfl
theorem logboomlaw7_EpochMany_fn (n : Int) (step : Int) {H : Heap} {K : Value → Heap → Prop} (h : logboomlaw7_EpochMany_vc n step H K) : FnH Tryd.prog 4 #[.int .i64 n, .int .i64 step] H K :=
  denFn_fn Tryd.mixed logboomlaw7_EpochMany_ann Tryd.func4 (bodyOf_spec (by kernel_rfl)) (logboomlaw7_EpochMany_eq n step H K) h

/-! function 5: logboom/logboomlaw7.EpochRises -/
def logboomlaw7_EpochRises_ann : Anns := { hid := [11], loops := [(0, { slots := [(10, .int .i64)], kept := [0, 1, 2, 8, 9], locs := [], keptL := [] }), (3, { slots := [(16, .int .i64)], kept := [0, 1, 2, 8, 9, 10, 11, 13, 14], locs := [], keptL := [0] }), (5, { slots := [(20, .int .i64)], kept := [1, 2, 9, 17, 18, 19], locs := [], keptL := [] })], joins := [((12, 0), { slots := [], kept := [1, 2, 8, 9], locs := [], keptL := [] }), ((12, 2), { slots := [(13, .int .i64)], kept := [0, 1, 2, 8, 9, 10, 11, 12], locs := [], keptL := [0] }), ((0, 26), { slots := [(137, .bool)], kept := [0, 1, 2, 8, 9, 10, 11, 13, 14, 16], locs := [], keptL := [0] }), ((0, 28), { slots := [(171, .bool)], kept := [0, 1, 2, 8, 9, 10, 11, 13, 14, 16], locs := [], keptL := [0] }), ((12, 5), { slots := [], kept := [1, 9, 17, 18, 19], locs := [], keptL := [] }), ((11, 37), { slots := [(21, .int .i64)], kept := [1, 2, 9, 17, 18, 19, 20], locs := [], keptL := [] }), ((0, 38), { slots := [(232, .bool)], kept := [1, 2, 9, 17, 18, 19, 20], locs := [], keptL := [] }), ((0, 40), { slots := [(251, .bool)], kept := [9, 17], locs := [], keptL := [] })], mix := [(28, [])] }
def logboomlaw7_EpochRises_vc (script : Sl) (epoch : Int) (next : Int) (H : Heap) (K : Value → Heap → Prop) : Prop :=
  FnH Tryd.prog 6 #[] H fun r1 H1 =>
    ∃ b1 : Bool,
    r1 = .bool b1 ∧
    FnH Tryd.prog 15 #[.int .i64 100000] H1 fun r2 H2 =>
      ∃ p1 : Option Addr,
      ∃ p2 : Option Addr,
      r2 = .tuple #[.pointer p1, .pointer p2] ∧
      br (!b1) (
        K (.bool false) H2)
       (
        br (Option.isNone p1) (
          K (.bool false) H2)
         (
          ∃ J1 : Heap → Prop,
          (∃ I1 : Int → Heap → Prop,
          ∃ M1 : Int → Heap → Nat,
          I1 0 H2 ∧
          ∀ i_1 : Int,
          ∀ H3 : Heap,
          I1 i_1 H3 →
          br (decide ((i_1 : Int) < (script.n : Nat))) (
            br (decide ((i_1 : Int) < 150)) (
              ∃ q1 : Nat,
              ∃ o1 : Nat,
              (script.p : Option Addr) = some ⟨q1, o1, none⟩ ∧
              0 ≤ (i_1 : Int) ∧
              (i_1 : Int) < (script.n : Nat) ∧
              ∃ n1 : Int,
              cellH H3 ⟨q1, o1 + Int.toNat i_1 * 3, none⟩ = some (.int .i64 n1) ∧
              ∃ n2 : Int,
              cellH H3 ⟨q1, o1 + Int.toNat i_1 * 3 + 1, none⟩ = some (.int .i64 n2) ∧
              ∃ n3 : Int,
              cellH H3 ⟨q1, o1 + Int.toNat i_1 * 3 + 2, none⟩ = some (.int .i64 n3) ∧
              FnH Tryd.prog 14 #[.pointer p1] H3 fun r3 H4 =>
                ∃ l1 : Sl,
                r3 = .slice l1.p l1.n l1.c ∧
                ∃ J2 : Int → Heap → Prop,
                (FnH Tryd.prog 16 #[.int .i64 n1, .int .i64 4] H4 fun r4 H5 =>
                  ∃ n4 : Int,
                  r4 = .int .i64 n4 ∧
                  br ((n4 : Int) == 0) (
                    br ((n4 : Int) == 0) (
                      FnH Tryd.prog 17 #[.pointer p1, .int .i64 n2, .int .i64 n3] H5 fun r5 H6 =>
                        ∃ n5 : Int,
                        r5 = .int .i64 n5 ∧
                        SelfEq ([.v (.slice script.p script.n script.c), .v (.int .i64 epoch), .v (.int .i64 next), .v (.pointer p1), .v (.pointer p2), .v (.int .i64 i_1), .loc 0 0, .v (.slice l1.p l1.n l1.c)], [some (48, [.int .i64 n1, .int .i64 n2, .int .i64 n3])], []) ∧
                        J2 n5 H6)
                     (
                      br ((n4 : Int) == 2) (
                        FnH Tryd.prog 19 #[.pointer p1, .int .i64 n3] H5 fun r6 H7 =>
                          ∃ n6 : Int,
                          r6 = .int .i64 n6 ∧
                          SelfEq ([.v (.slice script.p script.n script.c), .v (.int .i64 epoch), .v (.int .i64 next), .v (.pointer p1), .v (.pointer p2), .v (.int .i64 i_1), .loc 0 0, .v (.slice l1.p l1.n l1.c)], [some (48, [.int .i64 n1, .int .i64 n2, .int .i64 n3])], []) ∧
                          J2 n6 H7)
                       (
                        br ((n4 : Int) == 3) (
                          FnH Tryd.prog 20 #[.pointer p1, .int .i64 n3] H5 fun r7 H8 =>
                            ∃ n7 : Int,
                            r7 = .int .i64 n7 ∧
                            SelfEq ([.v (.slice script.p script.n script.c), .v (.int .i64 epoch), .v (.int .i64 next), .v (.pointer p1), .v (.pointer p2), .v (.int .i64 i_1), .loc 0 0, .v (.slice l1.p l1.n l1.c)], [some (48, [.int .i64 n1, .int .i64 n2, .int .i64 n3])], []) ∧
                            J2 n7 H8)
                         (
                          SelfEq ([.v (.slice script.p script.n script.c), .v (.int .i64 epoch), .v (.int .i64 next), .v (.pointer p1), .v (.pointer p2), .v (.int .i64 i_1), .loc 0 0, .v (.slice l1.p l1.n l1.c)], [some (48, [.int .i64 n1, .int .i64 n2, .int .i64 n3])], []) ∧
                          J2 0 H5))))
                   (
                    br ((n4 : Int) == 1) (
                      FnH Tryd.prog 17 #[.pointer p1, .int .i64 n2, .int .i64 n3] H5 fun r8 H9 =>
                        ∃ n8 : Int,
                        r8 = .int .i64 n8 ∧
                        SelfEq ([.v (.slice script.p script.n script.c), .v (.int .i64 epoch), .v (.int .i64 next), .v (.pointer p1), .v (.pointer p2), .v (.int .i64 i_1), .loc 0 0, .v (.slice l1.p l1.n l1.c)], [some (48, [.int .i64 n1, .int .i64 n2, .int .i64 n3])], []) ∧
                        J2 n8 H9)
                     (
                      br ((n4 : Int) == 2) (
                        FnH Tryd.prog 19 #[.pointer p1, .int .i64 n3] H5 fun r9 H10 =>
                          ∃ n9 : Int,
                          r9 = .int .i64 n9 ∧
                          SelfEq ([.v (.slice script.p script.n script.c), .v (.int .i64 epoch), .v (.int .i64 next), .v (.pointer p1), .v (.pointer p2), .v (.int .i64 i_1), .loc 0 0, .v (.slice l1.p l1.n l1.c)], [some (48, [.int .i64 n1, .int .i64 n2, .int .i64 n3])], []) ∧
                          J2 n9 H10)
                       (
                        br ((n4 : Int) == 3) (
                          FnH Tryd.prog 20 #[.pointer p1, .int .i64 n3] H5 fun r10 H11 =>
                            ∃ n10 : Int,
                            r10 = .int .i64 n10 ∧
                            SelfEq ([.v (.slice script.p script.n script.c), .v (.int .i64 epoch), .v (.int .i64 next), .v (.pointer p1), .v (.pointer p2), .v (.int .i64 i_1), .loc 0 0, .v (.slice l1.p l1.n l1.c)], [some (48, [.int .i64 n1, .int .i64 n2, .int .i64 n3])], []) ∧
                            J2 n10 H11)
                         (
                          SelfEq ([.v (.slice script.p script.n script.c), .v (.int .i64 epoch), .v (.int .i64 next), .v (.pointer p1), .v (.pointer p2), .v (.int .i64 i_1), .loc 0 0, .v (.slice l1.p l1.n l1.c)], [some (48, [.int .i64 n1, .int .i64 n2, .int .i64 n3])], []) ∧
                          J2 0 H5))))) ∧
                ∀ e_1 : Int,
                ∀ H12 : Heap,
                J2 e_1 H12 →
                FnH Tryd.prog 14 #[.pointer p1] H12 fun r11 H13 =>
                  ∃ l2 : Sl,
                  r11 = .slice l2.p l2.n l2.c ∧
                  FnH Tryd.prog 13 #[.slice l2.p l2.n l2.c, .slice l1.p l1.n l1.c] H13 fun r12 H14 =>
                    ∃ b2 : Bool,
                    r12 = .bool b2 ∧
                    br ((e_1 : Int) != 0) (
                      br (!b2) (
                        K (.bool false) H14)
                       (
                        ∃ I2 : Int → Heap → Prop,
                        ∃ M2 : Int → Heap → Nat,
                        I2 0 H14 ∧
                        ∀ k_1 : Int,
                        ∀ H15 : Heap,
                        I2 k_1 H15 →
                        br (decide ((k_1 : Int) < (l2.n : Nat))) (
                          ∃ J3 : Bool → Heap → Prop,
                          (∃ q2 : Nat,
                          ∃ o2 : Nat,
                          (l2.p : Option Addr) = some ⟨q2, o2, none⟩ ∧
                          0 ≤ (k_1 : Int) ∧
                          (k_1 : Int) < (l2.n : Nat) ∧
                          ∃ n11 : Int,
                          cellH H15 ⟨q2, o2 + Int.toNat k_1 * 3, none⟩ = some (.int .i64 n11) ∧
                          br (decide ((n11 : Int) < 0)) (
                            SelfEq ([.v (.slice script.p script.n script.c), .v (.int .i64 epoch), .v (.int .i64 next), .v (.pointer p1), .v (.pointer p2), .v (.int .i64 i_1), .loc 0 0, .v (.int .i64 e_1), .v (.slice l2.p l2.n l2.c), .v (.int .i64 k_1)], [some (48, [.int .i64 n1, .int .i64 n2, .int .i64 n3])], []) ∧
                            J3 true H15)
                           (
                            ∃ q3 : Nat,
                            ∃ o3 : Nat,
                            (l2.p : Option Addr) = some ⟨q3, o3, none⟩ ∧
                            0 ≤ (k_1 : Int) ∧
                            (k_1 : Int) < (l2.n : Nat) ∧
                            ∃ n12 : Int,
                            cellH H15 ⟨q3, o3 + Int.toNat k_1 * 3 + 1, none⟩ = some (.int .i64 n12) ∧
                            br (decide ((n12 : Int) < 0)) (
                              SelfEq ([.v (.slice script.p script.n script.c), .v (.int .i64 epoch), .v (.int .i64 next), .v (.pointer p1), .v (.pointer p2), .v (.int .i64 i_1), .loc 0 0, .v (.int .i64 e_1), .v (.slice l2.p l2.n l2.c), .v (.int .i64 k_1)], [some (48, [.int .i64 n1, .int .i64 n2, .int .i64 n3])], []) ∧
                              J3 true H15)
                             (
                              br (decide ((k_1 : Int) > 0)) (
                                ∃ q4 : Nat,
                                ∃ o4 : Nat,
                                (l2.p : Option Addr) = some ⟨q4, o4, none⟩ ∧
                                0 ≤ (k_1 : Int) ∧
                                (k_1 : Int) < (l2.n : Nat) ∧
                                ∃ n13 : Int,
                                cellH H15 ⟨q4, o4 + Int.toNat k_1 * 3, none⟩ = some (.int .i64 n13) ∧
                                ∃ q5 : Nat,
                                ∃ o5 : Nat,
                                (l2.p : Option Addr) = some ⟨q5, o5, none⟩ ∧
                                0 ≤ ((IntKind.wrap .i64 (k_1 - 1)) : Int) ∧
                                ((IntKind.wrap .i64 (k_1 - 1)) : Int) < (l2.n : Nat) ∧
                                ∃ n14 : Int,
                                cellH H15 ⟨q5, o5 + Int.toNat (IntKind.wrap .i64 (k_1 - 1)) * 3, none⟩ = some (.int .i64 n14) ∧
                                br (decide ((n13 : Int) ≤ n14)) (
                                  SelfEq ([.v (.slice script.p script.n script.c), .v (.int .i64 epoch), .v (.int .i64 next), .v (.pointer p1), .v (.pointer p2), .v (.int .i64 i_1), .loc 0 0, .v (.int .i64 e_1), .v (.slice l2.p l2.n l2.c), .v (.int .i64 k_1)], [some (48, [.int .i64 n1, .int .i64 n2, .int .i64 n3])], []) ∧
                                  J3 true H15)
                                 (
                                  ∃ q6 : Nat,
                                  ∃ o6 : Nat,
                                  (l2.p : Option Addr) = some ⟨q6, o6, none⟩ ∧
                                  0 ≤ (k_1 : Int) ∧
                                  (k_1 : Int) < (l2.n : Nat) ∧
                                  ∃ n15 : Int,
                                  cellH H15 ⟨q6, o6 + Int.toNat k_1 * 3 + 1, none⟩ = some (.int .i64 n15) ∧
                                  ∃ q7 : Nat,
                                  ∃ o7 : Nat,
                                  (l2.p : Option Addr) = some ⟨q7, o7, none⟩ ∧
                                  0 ≤ ((IntKind.wrap .i64 (k_1 - 1)) : Int) ∧
                                  ((IntKind.wrap .i64 (k_1 - 1)) : Int) < (l2.n : Nat) ∧
                                  ∃ n16 : Int,
                                  cellH H15 ⟨q7, o7 + Int.toNat (IntKind.wrap .i64 (k_1 - 1)) * 3 + 1, none⟩ = some (.int .i64 n16) ∧
                                  SelfEq ([.v (.slice script.p script.n script.c), .v (.int .i64 epoch), .v (.int .i64 next), .v (.pointer p1), .v (.pointer p2), .v (.int .i64 i_1), .loc 0 0, .v (.int .i64 e_1), .v (.slice l2.p l2.n l2.c), .v (.int .i64 k_1)], [some (48, [.int .i64 n1, .int .i64 n2, .int .i64 n3])], []) ∧
                                  J3 (decide ((n15 : Int) ≤ n16)) H15))
                               (
                                SelfEq ([.v (.slice script.p script.n script.c), .v (.int .i64 epoch), .v (.int .i64 next), .v (.pointer p1), .v (.pointer p2), .v (.int .i64 i_1), .loc 0 0, .v (.int .i64 e_1), .v (.slice l2.p l2.n l2.c), .v (.int .i64 k_1)], [some (48, [.int .i64 n1, .int .i64 n2, .int .i64 n3])], []) ∧
                                J3 false H15)))) ∧
                          ∀ b_1 : Bool,
                          ∀ H16 : Heap,
                          J3 b_1 H16 →
                          br (b_1) (
                            K (.bool false) H16)
                           (
                            ∃ J4 : Bool → Heap → Prop,
                            (br ((e_1 : Int) == 0) (
                              FnH Tryd.prog 16 #[.int .i64 n1, .int .i64 4] H16 fun r13 H17 =>
                                ∃ n17 : Int,
                                r13 = .int .i64 n17 ∧
                                Sub H16 H17 ∧
                                br ((n17 : Int) == 2) (
                                  ∃ q8 : Nat,
                                  ∃ o8 : Nat,
                                  (l2.p : Option Addr) = some ⟨q8, o8, none⟩ ∧
                                  0 ≤ (k_1 : Int) ∧
                                  (k_1 : Int) < (l2.n : Nat) ∧
                                  ∃ n18 : Int,
                                  cellH H16 ⟨q8, o8 + Int.toNat k_1 * 3 + 1, none⟩ = some (.int .i64 n18) ∧
                                  br (decide ((n18 : Int) ≥ n3)) (
                                    SelfEq ([.v (.slice script.p script.n script.c), .v (.int .i64 epoch), .v (.int .i64 next), .v (.pointer p1), .v (.pointer p2), .v (.int .i64 i_1), .loc 0 0, .v (.int .i64 e_1), .v (.slice l2.p l2.n l2.c), .v (.int .i64 k_1)], [some (48, [.int .i64 n1, .int .i64 n2, .int .i64 n3])], []) ∧
                                    J4 true H17)
                                   (
                                    FnH Tryd.prog 16 #[.int .i64 n1, .int .i64 4] H17 fun r14 H18 =>
                                      ∃ n19 : Int,
                                      r14 = .int .i64 n19 ∧
                                      Sub H16 H18 ∧
                                      br ((n19 : Int) == 3) (
                                        ∃ q9 : Nat,
                                        ∃ o9 : Nat,
                                        (l2.p : Option Addr) = some ⟨q9, o9, none⟩ ∧
                                        0 ≤ (k_1 : Int) ∧
                                        (k_1 : Int) < (l2.n : Nat) ∧
                                        ∃ n20 : Int,
                                        cellH H16 ⟨q9, o9 + Int.toNat k_1 * 3 + 1, none⟩ = some (.int .i64 n20) ∧
                                        SelfEq ([.v (.slice script.p script.n script.c), .v (.int .i64 epoch), .v (.int .i64 next), .v (.pointer p1), .v (.pointer p2), .v (.int .i64 i_1), .loc 0 0, .v (.int .i64 e_1), .v (.slice l2.p l2.n l2.c), .v (.int .i64 k_1)], [some (48, [.int .i64 n1, .int .i64 n2, .int .i64 n3])], []) ∧
                                        J4 (decide ((n20 : Int) < n3)) H18)
                                       (
                                        SelfEq ([.v (.slice script.p script.n script.c), .v (.int .i64 epoch), .v (.int .i64 next), .v (.pointer p1), .v (.pointer p2), .v (.int .i64 i_1), .loc 0 0, .v (.int .i64 e_1), .v (.slice l2.p l2.n l2.c), .v (.int .i64 k_1)], [some (48, [.int .i64 n1, .int .i64 n2, .int .i64 n3])], []) ∧
                                        J4 false H18)))
                                 (
                                  FnH Tryd.prog 16 #[.int .i64 n1, .int .i64 4] H17 fun r15 H19 =>
                                    ∃ n21 : Int,
                                    r15 = .int .i64 n21 ∧
                                    Sub H16 H19 ∧
                                    br ((n21 : Int) == 3) (
                                      ∃ q10 : Nat,
                                      ∃ o10 : Nat,
                                      (l2.p : Option Addr) = some ⟨q10, o10, none⟩ ∧
                                      0 ≤ (k_1 : Int) ∧
                                      (k_1 : Int) < (l2.n : Nat) ∧
                                      ∃ n22 : Int,
                                      cellH H16 ⟨q10, o10 + Int.toNat k_1 * 3 + 1, none⟩ = some (.int .i64 n22) ∧
                                      SelfEq ([.v (.slice script.p script.n script.c), .v (.int .i64 epoch), .v (.int .i64 next), .v (.pointer p1), .v (.pointer p2), .v (.int .i64 i_1), .loc 0 0, .v (.int .i64 e_1), .v (.slice l2.p l2.n l2.c), .v (.int .i64 k_1)], [some (48, [.int .i64 n1, .int .i64 n2, .int .i64 n3])], []) ∧
                                      J4 (decide ((n22 : Int) < n3)) H19)
                                     (
                                      SelfEq ([.v (.slice script.p script.n script.c), .v (.int .i64 epoch), .v (.int .i64 next), .v (.pointer p1), .v (.pointer p2), .v (.int .i64 i_1), .loc 0 0, .v (.int .i64 e_1), .v (.slice l2.p l2.n l2.c), .v (.int .i64 k_1)], [some (48, [.int .i64 n1, .int .i64 n2, .int .i64 n3])], []) ∧
                                      J4 false H19)))
                             (
                              SelfEq ([.v (.slice script.p script.n script.c), .v (.int .i64 epoch), .v (.int .i64 next), .v (.pointer p1), .v (.pointer p2), .v (.int .i64 i_1), .loc 0 0, .v (.int .i64 e_1), .v (.slice l2.p l2.n l2.c), .v (.int .i64 k_1)], [some (48, [.int .i64 n1, .int .i64 n2, .int .i64 n3])], []) ∧
                              J4 false H16)) ∧
                            ∀ b_2 : Bool,
                            ∀ H20 : Heap,
                            J4 b_2 H20 →
                            br (b_2) (
                              K (.bool false) H20)
                             (
                              SelfEq ([.v (.slice script.p script.n script.c), .v (.int .i64 epoch), .v (.int .i64 next), .v (.pointer p1), .v (.pointer p2), .v (.int .i64 i_1), .loc 0 0, .v (.int .i64 e_1), .v (.slice l2.p l2.n l2.c)], [some (48, [.int .i64 n1, .int .i64 n2, .int .i64 n3])], []) ∧
                              I2 (IntKind.wrap .i64 (k_1 + 1)) H20 ∧
                              M2 (IntKind.wrap .i64 (k_1 + 1)) H20 < M2 k_1 H15)))
                         (
                          SelfEq ([.v (.slice script.p script.n script.c), .v (.int .i64 epoch), .v (.int .i64 next), .v (.pointer p1), .v (.pointer p2)], [], []) ∧
                          I1 (IntKind.wrap .i64 (i_1 + 1)) H15 ∧
                          M1 (IntKind.wrap .i64 (i_1 + 1)) H15 < M1 i_1 H3)))
                     (
                      ∃ I3 : Int → Heap → Prop,
                      ∃ M3 : Int → Heap → Nat,
                      I3 0 H14 ∧
                      ∀ k_2 : Int,
                      ∀ H21 : Heap,
                      I3 k_2 H21 →
                      br (decide ((k_2 : Int) < (l2.n : Nat))) (
                        ∃ J5 : Bool → Heap → Prop,
                        (∃ q11 : Nat,
                        ∃ o11 : Nat,
                        (l2.p : Option Addr) = some ⟨q11, o11, none⟩ ∧
                        0 ≤ (k_2 : Int) ∧
                        (k_2 : Int) < (l2.n : Nat) ∧
                        ∃ n23 : Int,
                        cellH H21 ⟨q11, o11 + Int.toNat k_2 * 3, none⟩ = some (.int .i64 n23) ∧
                        br (decide ((n23 : Int) < 0)) (
                          SelfEq ([.v (.slice script.p script.n script.c), .v (.int .i64 epoch), .v (.int .i64 next), .v (.pointer p1), .v (.pointer p2), .v (.int .i64 i_1), .loc 0 0, .v (.int .i64 e_1), .v (.slice l2.p l2.n l2.c), .v (.int .i64 k_2)], [some (48, [.int .i64 n1, .int .i64 n2, .int .i64 n3])], []) ∧
                          J5 true H21)
                         (
                          ∃ q12 : Nat,
                          ∃ o12 : Nat,
                          (l2.p : Option Addr) = some ⟨q12, o12, none⟩ ∧
                          0 ≤ (k_2 : Int) ∧
                          (k_2 : Int) < (l2.n : Nat) ∧
                          ∃ n24 : Int,
                          cellH H21 ⟨q12, o12 + Int.toNat k_2 * 3 + 1, none⟩ = some (.int .i64 n24) ∧
                          br (decide ((n24 : Int) < 0)) (
                            SelfEq ([.v (.slice script.p script.n script.c), .v (.int .i64 epoch), .v (.int .i64 next), .v (.pointer p1), .v (.pointer p2), .v (.int .i64 i_1), .loc 0 0, .v (.int .i64 e_1), .v (.slice l2.p l2.n l2.c), .v (.int .i64 k_2)], [some (48, [.int .i64 n1, .int .i64 n2, .int .i64 n3])], []) ∧
                            J5 true H21)
                           (
                            br (decide ((k_2 : Int) > 0)) (
                              ∃ q13 : Nat,
                              ∃ o13 : Nat,
                              (l2.p : Option Addr) = some ⟨q13, o13, none⟩ ∧
                              0 ≤ (k_2 : Int) ∧
                              (k_2 : Int) < (l2.n : Nat) ∧
                              ∃ n25 : Int,
                              cellH H21 ⟨q13, o13 + Int.toNat k_2 * 3, none⟩ = some (.int .i64 n25) ∧
                              ∃ q14 : Nat,
                              ∃ o14 : Nat,
                              (l2.p : Option Addr) = some ⟨q14, o14, none⟩ ∧
                              0 ≤ ((IntKind.wrap .i64 (k_2 - 1)) : Int) ∧
                              ((IntKind.wrap .i64 (k_2 - 1)) : Int) < (l2.n : Nat) ∧
                              ∃ n26 : Int,
                              cellH H21 ⟨q14, o14 + Int.toNat (IntKind.wrap .i64 (k_2 - 1)) * 3, none⟩ = some (.int .i64 n26) ∧
                              br (decide ((n25 : Int) ≤ n26)) (
                                SelfEq ([.v (.slice script.p script.n script.c), .v (.int .i64 epoch), .v (.int .i64 next), .v (.pointer p1), .v (.pointer p2), .v (.int .i64 i_1), .loc 0 0, .v (.int .i64 e_1), .v (.slice l2.p l2.n l2.c), .v (.int .i64 k_2)], [some (48, [.int .i64 n1, .int .i64 n2, .int .i64 n3])], []) ∧
                                J5 true H21)
                               (
                                ∃ q15 : Nat,
                                ∃ o15 : Nat,
                                (l2.p : Option Addr) = some ⟨q15, o15, none⟩ ∧
                                0 ≤ (k_2 : Int) ∧
                                (k_2 : Int) < (l2.n : Nat) ∧
                                ∃ n27 : Int,
                                cellH H21 ⟨q15, o15 + Int.toNat k_2 * 3 + 1, none⟩ = some (.int .i64 n27) ∧
                                ∃ q16 : Nat,
                                ∃ o16 : Nat,
                                (l2.p : Option Addr) = some ⟨q16, o16, none⟩ ∧
                                0 ≤ ((IntKind.wrap .i64 (k_2 - 1)) : Int) ∧
                                ((IntKind.wrap .i64 (k_2 - 1)) : Int) < (l2.n : Nat) ∧
                                ∃ n28 : Int,
                                cellH H21 ⟨q16, o16 + Int.toNat (IntKind.wrap .i64 (k_2 - 1)) * 3 + 1, none⟩ = some (.int .i64 n28) ∧
                                SelfEq ([.v (.slice script.p script.n script.c), .v (.int .i64 epoch), .v (.int .i64 next), .v (.pointer p1), .v (.pointer p2), .v (.int .i64 i_1), .loc 0 0, .v (.int .i64 e_1), .v (.slice l2.p l2.n l2.c), .v (.int .i64 k_2)], [some (48, [.int .i64 n1, .int .i64 n2, .int .i64 n3])], []) ∧
                                J5 (decide ((n27 : Int) ≤ n28)) H21))
                             (
                              SelfEq ([.v (.slice script.p script.n script.c), .v (.int .i64 epoch), .v (.int .i64 next), .v (.pointer p1), .v (.pointer p2), .v (.int .i64 i_1), .loc 0 0, .v (.int .i64 e_1), .v (.slice l2.p l2.n l2.c), .v (.int .i64 k_2)], [some (48, [.int .i64 n1, .int .i64 n2, .int .i64 n3])], []) ∧
                              J5 false H21)))) ∧
                        ∀ b_3 : Bool,
                        ∀ H22 : Heap,
                        J5 b_3 H22 →
                        br (b_3) (
                          K (.bool false) H22)
                         (
                          ∃ J6 : Bool → Heap → Prop,
                          (br ((e_1 : Int) == 0) (
                            FnH Tryd.prog 16 #[.int .i64 n1, .int .i64 4] H22 fun r16 H23 =>
                              ∃ n29 : Int,
                              r16 = .int .i64 n29 ∧
                              Sub H22 H23 ∧
                              br ((n29 : Int) == 2) (
                                ∃ q17 : Nat,
                                ∃ o17 : Nat,
                                (l2.p : Option Addr) = some ⟨q17, o17, none⟩ ∧
                                0 ≤ (k_2 : Int) ∧
                                (k_2 : Int) < (l2.n : Nat) ∧
                                ∃ n30 : Int,
                                cellH H22 ⟨q17, o17 + Int.toNat k_2 * 3 + 1, none⟩ = some (.int .i64 n30) ∧
                                br (decide ((n30 : Int) ≥ n3)) (
                                  SelfEq ([.v (.slice script.p script.n script.c), .v (.int .i64 epoch), .v (.int .i64 next), .v (.pointer p1), .v (.pointer p2), .v (.int .i64 i_1), .loc 0 0, .v (.int .i64 e_1), .v (.slice l2.p l2.n l2.c), .v (.int .i64 k_2)], [some (48, [.int .i64 n1, .int .i64 n2, .int .i64 n3])], []) ∧
                                  J6 true H23)
                                 (
                                  FnH Tryd.prog 16 #[.int .i64 n1, .int .i64 4] H23 fun r17 H24 =>
                                    ∃ n31 : Int,
                                    r17 = .int .i64 n31 ∧
                                    Sub H22 H24 ∧
                                    br ((n31 : Int) == 3) (
                                      ∃ q18 : Nat,
                                      ∃ o18 : Nat,
                                      (l2.p : Option Addr) = some ⟨q18, o18, none⟩ ∧
                                      0 ≤ (k_2 : Int) ∧
                                      (k_2 : Int) < (l2.n : Nat) ∧
                                      ∃ n32 : Int,
                                      cellH H22 ⟨q18, o18 + Int.toNat k_2 * 3 + 1, none⟩ = some (.int .i64 n32) ∧
                                      SelfEq ([.v (.slice script.p script.n script.c), .v (.int .i64 epoch), .v (.int .i64 next), .v (.pointer p1), .v (.pointer p2), .v (.int .i64 i_1), .loc 0 0, .v (.int .i64 e_1), .v (.slice l2.p l2.n l2.c), .v (.int .i64 k_2)], [some (48, [.int .i64 n1, .int .i64 n2, .int .i64 n3])], []) ∧
                                      J6 (decide ((n32 : Int) < n3)) H24)
                                     (
                                      SelfEq ([.v (.slice script.p script.n script.c), .v (.int .i64 epoch), .v (.int .i64 next), .v (.pointer p1), .v (.pointer p2), .v (.int .i64 i_1), .loc 0 0, .v (.int .i64 e_1), .v (.slice l2.p l2.n l2.c), .v (.int .i64 k_2)], [some (48, [.int .i64 n1, .int .i64 n2, .int .i64 n3])], []) ∧
                                      J6 false H24)))
                               (
                                FnH Tryd.prog 16 #[.int .i64 n1, .int .i64 4] H23 fun r18 H25 =>
                                  ∃ n33 : Int,
                                  r18 = .int .i64 n33 ∧
                                  Sub H22 H25 ∧
                                  br ((n33 : Int) == 3) (
                                    ∃ q19 : Nat,
                                    ∃ o19 : Nat,
                                    (l2.p : Option Addr) = some ⟨q19, o19, none⟩ ∧
                                    0 ≤ (k_2 : Int) ∧
                                    (k_2 : Int) < (l2.n : Nat) ∧
                                    ∃ n34 : Int,
                                    cellH H22 ⟨q19, o19 + Int.toNat k_2 * 3 + 1, none⟩ = some (.int .i64 n34) ∧
                                    SelfEq ([.v (.slice script.p script.n script.c), .v (.int .i64 epoch), .v (.int .i64 next), .v (.pointer p1), .v (.pointer p2), .v (.int .i64 i_1), .loc 0 0, .v (.int .i64 e_1), .v (.slice l2.p l2.n l2.c), .v (.int .i64 k_2)], [some (48, [.int .i64 n1, .int .i64 n2, .int .i64 n3])], []) ∧
                                    J6 (decide ((n34 : Int) < n3)) H25)
                                   (
                                    SelfEq ([.v (.slice script.p script.n script.c), .v (.int .i64 epoch), .v (.int .i64 next), .v (.pointer p1), .v (.pointer p2), .v (.int .i64 i_1), .loc 0 0, .v (.int .i64 e_1), .v (.slice l2.p l2.n l2.c), .v (.int .i64 k_2)], [some (48, [.int .i64 n1, .int .i64 n2, .int .i64 n3])], []) ∧
                                    J6 false H25)))
                           (
                            SelfEq ([.v (.slice script.p script.n script.c), .v (.int .i64 epoch), .v (.int .i64 next), .v (.pointer p1), .v (.pointer p2), .v (.int .i64 i_1), .loc 0 0, .v (.int .i64 e_1), .v (.slice l2.p l2.n l2.c), .v (.int .i64 k_2)], [some (48, [.int .i64 n1, .int .i64 n2, .int .i64 n3])], []) ∧
                            J6 false H22)) ∧
                          ∀ b_4 : Bool,
                          ∀ H26 : Heap,
                          J6 b_4 H26 →
                          br (b_4) (
                            K (.bool false) H26)
                           (
                            SelfEq ([.v (.slice script.p script.n script.c), .v (.int .i64 epoch), .v (.int .i64 next), .v (.pointer p1), .v (.pointer p2), .v (.int .i64 i_1), .loc 0 0, .v (.int .i64 e_1), .v (.slice l2.p l2.n l2.c)], [some (48, [.int .i64 n1, .int .i64 n2, .int .i64 n3])], []) ∧
                            I3 (IntKind.wrap .i64 (k_2 + 1)) H26 ∧
                            M3 (IntKind.wrap .i64 (k_2 + 1)) H26 < M3 k_2 H21)))
                       (
                        SelfEq ([.v (.slice script.p script.n script.c), .v (.int .i64 epoch), .v (.int .i64 next), .v (.pointer p1), .v (.pointer p2)], [], []) ∧
                        I1 (IntKind.wrap .i64 (i_1 + 1)) H21 ∧
                        M1 (IntKind.wrap .i64 (i_1 + 1)) H21 < M1 i_1 H3)))
             (
              SelfEq ([.v (.int .i64 epoch), .v (.int .i64 next), .v (.pointer p1), .v (.pointer p2)], [], []) ∧
              J1 H3))
           (
            SelfEq ([.v (.int .i64 epoch), .v (.int .i64 next), .v (.pointer p1), .v (.pointer p2)], [], []) ∧
            J1 H3)) ∧
          ∀ H27 : Heap,
          J1 H27 →
          FnH Tryd.prog 14 #[.pointer p1] H27 fun r19 H28 =>
            ∃ l3 : Sl,
            r19 = .slice l3.p l3.n l3.c ∧
            FnH Tryd.prog 21 #[.pointer p1, .int .i64 epoch, .int .i64 next] H28 fun r20 H29 =>
              ∃ n35 : Int,
              ∃ n36 : Int,
              r20 = .tuple #[.int .i64 n35, .int .i64 n36] ∧
              ∃ J7 : Heap → Prop,
              (∃ I4 : Int → Heap → Prop,
              ∃ M4 : Int → Heap → Nat,
              I4 0 H29 ∧
              ∀ i_2 : Int,
              ∀ H30 : Heap,
              I4 i_2 H30 →
              br (decide ((i_2 : Int) < (l3.n : Nat))) (
                ∃ J8 : Int → Heap → Prop,
                (br (decide (((IntKind.wrap .i64 (i_2 + 1)) : Int) < (l3.n : Nat))) (
                  ∃ q20 : Nat,
                  ∃ o20 : Nat,
                  (l3.p : Option Addr) = some ⟨q20, o20, none⟩ ∧
                  0 ≤ ((IntKind.wrap .i64 (i_2 + 1)) : Int) ∧
                  ((IntKind.wrap .i64 (i_2 + 1)) : Int) < (l3.n : Nat) ∧
                  ∃ n37 : Int,
                  cellH H30 ⟨q20, o20 + Int.toNat (IntKind.wrap .i64 (i_2 + 1)) * 3 + 1, none⟩ = some (.int .i64 n37) ∧
                  SelfEq ([.v (.int .i64 epoch), .v (.int .i64 next), .v (.pointer p2), .v (.slice l3.p l3.n l3.c), .v (.int .i64 n35), .v (.int .i64 n36), .v (.int .i64 i_2)], [], []) ∧
                  J8 n37 H30)
                 (
                  SelfEq ([.v (.int .i64 epoch), .v (.int .i64 next), .v (.pointer p2), .v (.slice l3.p l3.n l3.c), .v (.int .i64 n35), .v (.int .i64 n36), .v (.int .i64 i_2)], [], []) ∧
                  J8 next H30)) ∧
                ∀ end_1 : Int,
                ∀ H31 : Heap,
                J8 end_1 H31 →
                ∃ J9 : Bool → Heap → Prop,
                (∃ q21 : Nat,
                ∃ o21 : Nat,
                (l3.p : Option Addr) = some ⟨q21, o21, none⟩ ∧
                0 ≤ (i_2 : Int) ∧
                (i_2 : Int) < (l3.n : Nat) ∧
                ∃ n38 : Int,
                cellH H31 ⟨q21, o21 + Int.toNat i_2 * 3, none⟩ = some (.int .i64 n38) ∧
                br ((n38 : Int) == n35) (
                  br (decide ((n35 : Int) > epoch)) (
                    SelfEq ([.v (.int .i64 epoch), .v (.int .i64 next), .v (.pointer p2), .v (.slice l3.p l3.n l3.c), .v (.int .i64 n35), .v (.int .i64 n36), .v (.int .i64 i_2)], [], []) ∧
                    J9 true H31)
                   (
                    br ((n36 : Int) != end_1) (
                      SelfEq ([.v (.int .i64 epoch), .v (.int .i64 next), .v (.pointer p2), .v (.slice l3.p l3.n l3.c), .v (.int .i64 n35), .v (.int .i64 n36), .v (.int .i64 i_2)], [], []) ∧
                      J9 true H31)
                     (
                      br (decide (((IntKind.wrap .i64 (i_2 + 1)) : Int) < (l3.n : Nat))) (
                        ∃ q22 : Nat,
                        ∃ o22 : Nat,
                        (l3.p : Option Addr) = some ⟨q22, o22, none⟩ ∧
                        0 ≤ ((IntKind.wrap .i64 (i_2 + 1)) : Int) ∧
                        ((IntKind.wrap .i64 (i_2 + 1)) : Int) < (l3.n : Nat) ∧
                        ∃ n39 : Int,
                        cellH H31 ⟨q22, o22 + Int.toNat (IntKind.wrap .i64 (i_2 + 1)) * 3, none⟩ = some (.int .i64 n39) ∧
                        SelfEq ([.v (.int .i64 epoch), .v (.int .i64 next), .v (.pointer p2), .v (.slice l3.p l3.n l3.c), .v (.int .i64 n35), .v (.int .i64 n36), .v (.int .i64 i_2)], [], []) ∧
                        J9 (decide ((n39 : Int) ≤ epoch)) H31)
                       (
                        SelfEq ([.v (.int .i64 epoch), .v (.int .i64 next), .v (.pointer p2), .v (.slice l3.p l3.n l3.c), .v (.int .i64 n35), .v (.int .i64 n36), .v (.int .i64 i_2)], [], []) ∧
                        J9 false H31))))
                 (
                  SelfEq ([.v (.int .i64 epoch), .v (.int .i64 next), .v (.pointer p2), .v (.slice l3.p l3.n l3.c), .v (.int .i64 n35), .v (.int .i64 n36), .v (.int .i64 i_2)], [], []) ∧
                  J9 false H31)) ∧
                ∀ b_5 : Bool,
                ∀ H32 : Heap,
                J9 b_5 H32 →
                br (b_5) (
                  K (.bool false) H32)
                 (
                  SelfEq ([.v (.int .i64 epoch), .v (.int .i64 next), .v (.pointer p2), .v (.slice l3.p l3.n l3.c), .v (.int .i64 n35), .v (.int .i64 n36)], [], []) ∧
                  I4 (IntKind.wrap .i64 (i_2 + 1)) H32 ∧
                  M4 (IntKind.wrap .i64 (i_2 + 1)) H32 < M4 i_2 H30))
               (
                SelfEq ([.v (.int .i64 epoch), .v (.pointer p2), .v (.slice l3.p l3.n l3.c), .v (.int .i64 n35), .v (.int .i64 n36)], [], []) ∧
                J7 H30)) ∧
              ∀ H33 : Heap,
              J7 H33 →
              ∃ J10 : Bool → Heap → Prop,
              (br ((n35 : Int) == (-1)) (
                br ((n36 : Int) != (-1)) (
                  SelfEq ([.v (.pointer p2), .v (.slice l3.p l3.n l3.c)], [], []) ∧
                  J10 true H33)
                 (
                  br (decide (((l3.n : Nat) : Int) > 0)) (
                    ∃ q23 : Nat,
                    ∃ o23 : Nat,
                    (l3.p : Option Addr) = some ⟨q23, o23, none⟩ ∧
                    0 ≤ (0 : Int) ∧
                    (0 : Int) < (l3.n : Nat) ∧
                    ∃ n40 : Int,
                    cellH H33 ⟨q23, o23 + Int.toNat 0 * 3, none⟩ = some (.int .i64 n40) ∧
                    SelfEq ([.v (.pointer p2), .v (.slice l3.p l3.n l3.c)], [], []) ∧
                    J10 (decide ((n40 : Int) ≤ epoch)) H33)
                   (
                    SelfEq ([.v (.pointer p2), .v (.slice l3.p l3.n l3.c)], [], []) ∧
                    J10 false H33)))
               (
                SelfEq ([.v (.pointer p2), .v (.slice l3.p l3.n l3.c)], [], []) ∧
                J10 false H33)) ∧
              ∀ b_6 : Bool,
              ∀ H34 : Heap,
              J10 b_6 H34 →
              br (b_6) (
                K (.bool false) H34)
               (
                ∀ q24 : Nat,
                H34 q24 = none →
                letH (Heap.upd H34 q24 (.cells #[.int .i64 1, .int .i64 2, .int .i64 3] 3 (0, 0))) fun H35 =>
                FnH Tryd.prog 22 #[.pointer p2, .slice (some ⟨q24, 0, none⟩) 3 3] H35 fun r21 H36 =>
                  r21 = .tuple #[] ∧
                  FnH Tryd.prog 11 #[.pointer p2, .string (⟨#[101, 112, 111, 99, 104, 115]⟩ : ByteArray)] H36 fun r22 H37 =>
                    ∃ p3 : Option Addr,
                    ∃ n41 : Int,
                    r22 = .tuple #[.pointer p3, .int .i64 n41] ∧
                    br (Option.isNone p3) (
                      K (.bool false) H37)
                     (
                      br ((n41 : Int) != 0) (
                        K (.bool false) H37)
                       (
                        FnH Tryd.prog 14 #[.pointer p3] H37 fun r23 H38 =>
                          ∃ l4 : Sl,
                          r23 = .slice l4.p l4.n l4.c ∧
                          FnH Tryd.prog 13 #[.slice l4.p l4.n l4.c, .slice l3.p l3.n l3.c] H38 fun r24 H39 =>
                            ∃ b3 : Bool,
                            r24 = .bool b3 ∧
                            K (.bool b3) H39)))))
theorem logboomlaw7_EpochRises_eq (script : Sl) (epoch : Int) (next : Int) (H : Heap) (K : Value → Heap → Prop) : logboomlaw7_EpochRises_vc script epoch next H K = denFn Tryd.prog logboomlaw7_EpochRises_ann Tryd.f5 (bodyOf Tryd.f5) [.slice script.p script.n script.c, .int .i64 epoch, .int .i64 next] H K := by kernel_rfl
theorem logboomlaw7_EpochRises_fn (script : Sl) (epoch : Int) (next : Int) {H : Heap} {K : Value → Heap → Prop} (h : logboomlaw7_EpochRises_vc script epoch next H K) : FnH Tryd.prog 5 #[.slice script.p script.n script.c, .int .i64 epoch, .int .i64 next] H K :=
  denFn_fn Tryd.mixed logboomlaw7_EpochRises_ann Tryd.func5 (bodyOf_spec (by kernel_rfl)) (logboomlaw7_EpochRises_eq script epoch next H K) h

end Go.Proofs.YtdgmifbcbmndgaaDoor
