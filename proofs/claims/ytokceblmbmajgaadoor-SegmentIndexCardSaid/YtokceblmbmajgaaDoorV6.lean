/- Formulas of functions, printed by this session's vc.py; each is tied to the program by the kernel. -/
import Derived.Test.YtokceblmbmajgaaDoorProg
import Derived.KernelRfl
import Derived.Test.YtokceblmbmajgaaDoorHlFn
import Derived.Test.YtokceblmbmajgaaDoorV5
namespace Go.Proofs.YtokceblmbmajgaaDoor
open Go.HL
set_option maxRecDepth 100000
/-! function 5: logboom/logboomlaw5.SegmentIndex -/
def logboomlaw5_SegmentIndex_ann : Anns := { hid := [], loops := [(0, { slots := [(8, .int .i64)], kept := [0, 4, 6], locs := [], keptL := [] }), (2, { slots := [(10, .int .i64)], kept := [4, 6, 9], locs := [], keptL := [] })], joins := [((12, 0), { slots := [], kept := [0, 4, 6], locs := [], keptL := [] }), ((0, 11), { slots := [(61, .bool)], kept := [0, 4, 6, 8], locs := [], keptL := [] }), ((11, 15), { slots := [], kept := [4, 6, 9], locs := [], keptL := [] })], mix := [(11, [10])] }
def logboomlaw5_SegmentIndex_vc (sizes : Sl) (H : Heap) (K : Value → Heap → Prop) : Prop :=
  FnH Tryd.prog 8 #[] H fun r1 H1 =>
    ∃ b1 : Bool,
    r1 = .bool b1 ∧
    FnH Tryd.prog 9 #[.int .i64 2000000] H1 fun r2 H2 =>
      ∃ p1 : Option Addr,
      ∃ n1 : Int,
      r2 = .tuple #[.pointer p1, .int .i64 n1] ∧
      br (!b1) (
        K (.bool false) H2)
       (
        br (Option.isNone p1) (
          K (.bool false) H2)
         (
          br ((n1 : Int) != 0) (
            K (.bool false) H2)
           (
            FnH Tryd.prog 10 #[.pointer p1, .string (⟨#[115]⟩ : ByteArray), .int .i64 3] H2 fun r3 H3 =>
              ∃ p2 : Option Addr,
              ∃ n2 : Int,
              ∃ n3 : Int,
              r3 = .tuple #[.pointer p2, .int .i64 n2, .int .i64 n3] ∧
              br (Option.isNone p2) (
                K (.bool false) H3)
               (
                br ((n3 : Int) != 0) (
                  K (.bool false) H3)
                 (
                  ∃ J1 : Heap → Prop,
                  (∃ I1 : Int → Heap → Prop,
                  ∃ M1 : Int → Heap → Nat,
                  I1 0 H3 ∧
                  ∀ i_1 : Int,
                  ∀ H4 : Heap,
                  I1 i_1 H4 →
                  br (decide ((i_1 : Int) < (sizes.n : Nat))) (
                    br (decide ((i_1 : Int) < 60)) (
                      ∃ J2 : Bool → Heap → Prop,
                      (∃ q1 : Nat,
                      ∃ o1 : Nat,
                      (sizes.p : Option Addr) = some ⟨q1, o1, none⟩ ∧
                      0 ≤ (i_1 : Int) ∧
                      (i_1 : Int) < (sizes.n : Nat) ∧
                      ∃ n4 : Int,
                      cellH H4 ⟨q1, o1 + Int.toNat i_1, none⟩ = some (.int .i64 n4) ∧
                      FnH Tryd.prog 12 #[.pointer p2] H4 fun r4 H5 =>
                        ∃ n5 : Int,
                        r4 = .int .i64 n5 ∧
                        Sub H4 H5 ∧
                        FnH Tryd.prog 13 #[.int .i64 n4, .int .i64 30] H5 fun r5 H6 =>
                          ∃ n6 : Int,
                          r5 = .int .i64 n6 ∧
                          Sub H4 H6 ∧
                          FnH Tryd.prog 11 #[.int .i64 n5, .int .i64 (IntKind.wrap .i64 (1 + n6))] H6 fun r6 H7 =>
                            ∃ n7 : Int,
                            ∃ n8 : Int,
                            ∃ n9 : Int,
                            ∃ n10 : Int,
                            ∃ n11 : Int,
                            ∃ l1 : Sl,
                            r6 = .agg #[.int .i64 n7, .int .i64 n8, .int .i64 n9, .int .i64 n10, .int .i64 n11, .slice l1.p l1.n l1.c] ∧
                            Sub H4 H7 ∧
                            FnH Tryd.prog 14 #[.pointer p2, .agg #[.int .i64 n7, .int .i64 n8, .int .i64 n9, .int .i64 n10, .int .i64 n11, .slice l1.p l1.n l1.c]] H7 fun r7 H8 =>
                              ∃ n12 : Int,
                              r7 = .int .i64 n12 ∧
                              SelfEq ([.v (.slice sizes.p sizes.n sizes.c), .v (.pointer p1), .v (.pointer p2), .v (.int .i64 i_1)], [], []) ∧
                              J2 ((n12 : Int) != 0) H8) ∧
                      ∀ b_1 : Bool,
                      ∀ H9 : Heap,
                      J2 b_1 H9 →
                      br (b_1) (
                        K (.bool false) H9)
                       (
                        SelfEq ([.v (.slice sizes.p sizes.n sizes.c), .v (.pointer p1), .v (.pointer p2)], [], []) ∧
                        I1 (IntKind.wrap .i64 (i_1 + 1)) H9 ∧
                        M1 (IntKind.wrap .i64 (i_1 + 1)) H9 < M1 i_1 H4))
                     (
                      SelfEq ([.v (.slice sizes.p sizes.n sizes.c), .v (.pointer p1), .v (.pointer p2)], [], []) ∧
                      J1 H4))
                   (
                    SelfEq ([.v (.slice sizes.p sizes.n sizes.c), .v (.pointer p1), .v (.pointer p2)], [], []) ∧
                    J1 H4)) ∧
                  ∀ H10 : Heap,
                  J1 H10 →
                  FnH Tryd.prog 21 #[.pointer p2] H10 fun r8 H11 =>
                    ∃ l2 : Sl,
                    r8 = .slice l2.p l2.n l2.c ∧
                    ∃ J3 : Heap → Prop,
                    (br (!((((l2.n : Nat) : Int) == 0) == (((sizes.n : Nat) : Int) == 0))) (
                      K (.bool false) H11)
                     (
                      br (decide (((l2.n : Nat) : Int) > 0)) (
                        ∃ q2 : Nat,
                        ∃ o2 : Nat,
                        (l2.p : Option Addr) = some ⟨q2, o2, none⟩ ∧
                        0 ≤ (0 : Int) ∧
                        (0 : Int) < (l2.n : Nat) ∧
                        ∃ n13 : Int,
                        cellH H11 ⟨q2, o2 + Int.toNat 0 * 3 + 1, none⟩ = some (.int .i64 n13) ∧
                        br ((n13 : Int) != 3) (
                          K (.bool false) H11)
                         (
                          ∃ q3 : Nat,
                          ∃ o3 : Nat,
                          (l2.p : Option Addr) = some ⟨q3, o3, none⟩ ∧
                          0 ≤ (0 : Int) ∧
                          (0 : Int) < (l2.n : Nat) ∧
                          ∃ n14 : Int,
                          cellH H11 ⟨q3, o3 + Int.toNat 0 * 3, none⟩ = some (.int .i64 n14) ∧
                          br ((n14 : Int) != 0) (
                            K (.bool false) H11)
                           (
                            SelfEq ([.v (.pointer p1), .v (.pointer p2), .v (.slice l2.p l2.n l2.c)], [], []) ∧
                            J3 H11)))
                       (
                        SelfEq ([.v (.pointer p1), .v (.pointer p2), .v (.slice l2.p l2.n l2.c)], [], []) ∧
                        J3 H11))) ∧
                    ∀ H12 : Heap,
                    J3 H12 →
                    ∃ I2 : Int → Heap → Prop,
                    ∃ M2 : Int → Heap → Nat,
                    I2 1 H12 ∧
                    ∀ i_2 : Int,
                    ∀ H13 : Heap,
                    I2 i_2 H13 →
                    br (decide ((i_2 : Int) < (l2.n : Nat))) (
                      ∃ q4 : Nat,
                      ∃ o4 : Nat,
                      (l2.p : Option Addr) = some ⟨q4, o4, none⟩ ∧
                      0 ≤ (i_2 : Int) ∧
                      (i_2 : Int) < (l2.n : Nat) ∧
                      ∃ n15 : Int,
                      cellH H13 ⟨q4, o4 + Int.toNat i_2 * 3 + 1, none⟩ = some (.int .i64 n15) ∧
                      ∃ q5 : Nat,
                      ∃ o5 : Nat,
                      (l2.p : Option Addr) = some ⟨q5, o5, none⟩ ∧
                      0 ≤ ((IntKind.wrap .i64 (i_2 - 1)) : Int) ∧
                      ((IntKind.wrap .i64 (i_2 - 1)) : Int) < (l2.n : Nat) ∧
                      ∃ n16 : Int,
                      cellH H13 ⟨q5, o5 + Int.toNat (IntKind.wrap .i64 (i_2 - 1)) * 3 + 1, none⟩ = some (.int .i64 n16) ∧
                      br (decide ((n15 : Int) ≤ n16)) (
                        K (.bool false) H13)
                       (
                        ∃ q6 : Nat,
                        ∃ o6 : Nat,
                        (l2.p : Option Addr) = some ⟨q6, o6, none⟩ ∧
                        0 ≤ (i_2 : Int) ∧
                        (i_2 : Int) < (l2.n : Nat) ∧
                        ∃ n17 : Int,
                        cellH H13 ⟨q6, o6 + Int.toNat i_2 * 3, none⟩ = some (.int .i64 n17) ∧
                        ∃ q7 : Nat,
                        ∃ o7 : Nat,
                        (l2.p : Option Addr) = some ⟨q7, o7, none⟩ ∧
                        0 ≤ ((IntKind.wrap .i64 (i_2 - 1)) : Int) ∧
                        ((IntKind.wrap .i64 (i_2 - 1)) : Int) < (l2.n : Nat) ∧
                        ∃ n18 : Int,
                        cellH H13 ⟨q7, o7 + Int.toNat (IntKind.wrap .i64 (i_2 - 1)) * 3, none⟩ = some (.int .i64 n18) ∧
                        br (decide ((n17 : Int) < (IntKind.wrap .i64 (n18 + 256)))) (
                          K (.bool false) H13)
                         (
                          SelfEq ([.v (.pointer p1), .v (.pointer p2), .v (.slice l2.p l2.n l2.c)], [], []) ∧
                          I2 (IntKind.wrap .i64 (i_2 + 1)) H13 ∧
                          M2 (IntKind.wrap .i64 (i_2 + 1)) H13 < M2 i_2 H13)))
                     (
                      FnH Tryd.prog 10 #[.pointer p1, .string (⟨#[115]⟩ : ByteArray), .int .i64 3] H13 fun r9 H14 =>
                        ∃ p3 : Option Addr,
                        ∃ n19 : Int,
                        ∃ n20 : Int,
                        r9 = .tuple #[.pointer p3, .int .i64 n19, .int .i64 n20] ∧
                        br (Option.isNone p3) (
                          K (.bool false) H14)
                         (
                          br ((n20 : Int) != 0) (
                            K (.bool false) H14)
                           (
                            br ((n19 : Int) != 0) (
                              K (.bool false) H14)
                             (
                              FnH Tryd.prog 21 #[.pointer p3] H14 fun r10 H15 =>
                                ∃ l3 : Sl,
                                r10 = .slice l3.p l3.n l3.c ∧
                                FnH Tryd.prog 22 #[.slice l3.p l3.n l3.c, .slice l2.p l2.n l2.c] H15 fun r11 H16 =>
                                  ∃ b2 : Bool,
                                  r11 = .bool b2 ∧
                                  br (b2) (
                                    FnH Tryd.prog 12 #[.pointer p3] H16 fun r12 H17 =>
                                      ∃ n21 : Int,
                                      r12 = .int .i64 n21 ∧
                                      FnH Tryd.prog 12 #[.pointer p2] H17 fun r13 H18 =>
                                        ∃ n22 : Int,
                                        r13 = .int .i64 n22 ∧
                                        K (.bool ((n21 : Int) == n22)) H18)
                                   (
                                    K (.bool false) H16))))))))))
theorem logboomlaw5_SegmentIndex_eq (sizes : Sl) (H : Heap) (K : Value → Heap → Prop) : logboomlaw5_SegmentIndex_vc sizes H K = denFn Tryd.prog logboomlaw5_SegmentIndex_ann Tryd.f5 (bodyOf Tryd.f5) [.slice sizes.p sizes.n sizes.c] H K := by kernel_rfl
theorem logboomlaw5_SegmentIndex_fn (sizes : Sl) {H : Heap} {K : Value → Heap → Prop} (h : logboomlaw5_SegmentIndex_vc sizes H K) : FnH Tryd.prog 5 #[.slice sizes.p sizes.n sizes.c] H K :=
  denFn_fn Tryd.mixed logboomlaw5_SegmentIndex_ann Tryd.func5 (bodyOf_spec (by kernel_rfl)) (logboomlaw5_SegmentIndex_eq sizes H K) h

end Go.Proofs.YtokceblmbmajgaaDoor
