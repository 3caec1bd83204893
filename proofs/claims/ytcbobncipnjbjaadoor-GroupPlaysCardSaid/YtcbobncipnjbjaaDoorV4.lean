/- Formulas of functions, printed by this session's vc.py; each is tied to the program by the kernel. -/
import Derived.Test.YtcbobncipnjbjaaDoorProg
import Derived.KernelRfl
import Derived.Test.YtcbobncipnjbjaaDoorHlFn
import Derived.Test.YtcbobncipnjbjaaDoorV3
namespace Go.Proofs.YtcbobncipnjbjaaDoor
open Go.HL
set_option maxRecDepth 100000
/-! function 7: logboom/logboomlaw15.GroupRules -/
def logboomlaw15_GroupRules_ann : Anns := { hid := [8, 11], loops := [(0, { slots := [(5, .slice), (6, .int .i64), (7, .int .i64)], kept := [0, 4], locs := [], keptL := [] }), (2, { slots := [(13, .int .i64)], kept := [0, 4, 5, 6, 7, 8, 11, 12], locs := [], keptL := [0, 1] }), (4, { slots := [(16, .bool), (17, .int .i64)], kept := [0, 4, 5, 6, 7, 14, 15], locs := [], keptL := [0, 1] })], joins := [((11, 17), { slots := [], kept := [0, 4, 5, 6, 7, 8, 11, 12], locs := [], keptL := [0, 1] }), ((11, 19), { slots := [(5, .slice)], kept := [0, 4, 6, 7, 8, 11, 12], locs := [], keptL := [0, 1] }), ((0, 18), { slots := [(87, .bool)], kept := [0, 4, 5, 6, 7, 8, 11, 12], locs := [], keptL := [0, 1] }), ((11, 26), { slots := [(6, .int .i64)], kept := [0, 4, 5, 7], locs := [], keptL := [0, 1] }), ((0, 25), { slots := [(118, .bool)], kept := [0, 4, 5, 6, 7, 8, 12], locs := [], keptL := [0, 1] })], mix := [(27, [])] }
def logboomlaw15_GroupRules_vc (script : Sl) (H : Heap) (K : Value → Heap → Prop) : Prop :=
  FnH Tryd.prog 9 #[] H fun r1 H1 =>
    ∃ b1 : Bool,
    r1 = .bool b1 ∧
    FnH Tryd.prog 13 #[] H1 fun r2 H2 =>
      ∃ p1 : Option Addr,
      r2 = .pointer p1 ∧
      br (!b1) (
        K (.bool false) H2)
       (
        br (Option.isNone p1) (
          K (.bool false) H2)
         (
          ∃ I1 : Sl → Int → Int → Heap → Prop,
          ∃ M1 : Sl → Int → Int → Heap → Nat,
          I1 ⟨none, 0, 0⟩ (-1) 0 H2 ∧
          ∀ ids_1 : Sl,
          ∀ last_1 : Int,
          ∀ i_1 : Int,
          ∀ H3 : Heap,
          I1 ids_1 last_1 i_1 H3 →
          br (decide ((i_1 : Int) < (script.n : Nat))) (
            br (decide ((i_1 : Int) < 200)) (
              ∃ q1 : Nat,
              ∃ o1 : Nat,
              (script.p : Option Addr) = some ⟨q1, o1, none⟩ ∧
              0 ≤ (i_1 : Int) ∧
              (i_1 : Int) < (script.n : Nat) ∧
              ∃ n1 : Int,
              cellH H3 ⟨q1, o1 + Int.toNat i_1 * 8, none⟩ = some (.int .i64 n1) ∧
              ∃ n2 : Int,
              cellH H3 ⟨q1, o1 + Int.toNat i_1 * 8 + 1, none⟩ = some (.int .i64 n2) ∧
              ∃ n3 : Int,
              cellH H3 ⟨q1, o1 + Int.toNat i_1 * 8 + 2, none⟩ = some (.int .i64 n3) ∧
              ∃ n4 : Int,
              cellH H3 ⟨q1, o1 + Int.toNat i_1 * 8 + 3, none⟩ = some (.int .i64 n4) ∧
              ∃ n5 : Int,
              cellH H3 ⟨q1, o1 + Int.toNat i_1 * 8 + 4, none⟩ = some (.int .i64 n5) ∧
              ∃ s1 : ByteArray,
              cellH H3 ⟨q1, o1 + Int.toNat i_1 * 8 + 5, none⟩ = some (.string s1) ∧
              ∃ s2 : ByteArray,
              cellH H3 ⟨q1, o1 + Int.toNat i_1 * 8 + 6, none⟩ = some (.string s2) ∧
              ∃ l1 : Sl,
              cellH H3 ⟨q1, o1 + Int.toNat i_1 * 8 + 7, none⟩ = some (.slice l1.p l1.n l1.c) ∧
              FnH Tryd.prog 18 #[.pointer p1, .string (⟨#[103]⟩ : ByteArray)] H3 fun r3 H4 =>
                ∃ n6 : Int,
                r3 = .int .i64 n6 ∧
                FnH Tryd.prog 20 #[.pointer p1] H4 fun r4 H5 =>
                  ∃ n7 : Int,
                  r4 = .int .i64 n7 ∧
                  FnH Tryd.prog 14 #[.pointer p1, .agg #[.int .i64 n1, .int .i64 n2, .int .i64 n3, .int .i64 n4, .int .i64 n5, .string (⟨#[103]⟩ : ByteArray), .string s2, .slice l1.p l1.n l1.c]] H5 fun r5 H6 =>
                    ∃ n8 : Int,
                    ∃ n9 : Int,
                    ∃ n10 : Int,
                    ∃ n11 : Int,
                    ∃ l2 : Sl,
                    r5 = .agg #[.int .i64 n8, .int .i64 n9, .int .i64 n10, .int .i64 n11, .slice l2.p l2.n l2.c] ∧
                    FnH Tryd.prog 18 #[.pointer p1, .string (⟨#[103]⟩ : ByteArray)] H6 fun r6 H7 =>
                      ∃ n12 : Int,
                      r6 = .int .i64 n12 ∧
                      ∃ J1 : Heap → Prop,
                      (br (decide ((n12 : Int) < n6)) (
                        K (.bool false) H7)
                       (
                        br (decide ((n12 : Int) > (IntKind.wrap .i64 (n6 + 1)))) (
                          K (.bool false) H7)
                         (
                          FnH Tryd.prog 20 #[.pointer p1] H7 fun r7 H8 =>
                            ∃ n13 : Int,
                            r7 = .int .i64 n13 ∧
                            br (decide ((n13 : Int) < n7)) (
                              K (.bool false) H8)
                             (
                              br ((n8 : Int) != 0) (
                                br ((n12 : Int) != n6) (
                                  K (.bool false) H8)
                                 (
                                  SelfEq ([.v (.slice script.p script.n script.c), .v (.pointer p1), .v (.slice ids_1.p ids_1.n ids_1.c), .v (.int .i64 last_1), .v (.int .i64 i_1), .loc 0 0, .loc 1 0, .v (.int .i64 n12)], [some (34, [.int .i64 n1, .int .i64 n2, .int .i64 n3, .int .i64 n4, .int .i64 n5, .string (⟨#[103]⟩ : ByteArray), .string s2, .slice l1.p l1.n l1.c]), some (31, [.int .i64 n8, .int .i64 n9, .int .i64 n10, .int .i64 n11, .slice l2.p l2.n l2.c])], []) ∧
                                  J1 H8))
                               (
                                SelfEq ([.v (.slice script.p script.n script.c), .v (.pointer p1), .v (.slice ids_1.p ids_1.n ids_1.c), .v (.int .i64 last_1), .v (.int .i64 i_1), .loc 0 0, .loc 1 0, .v (.int .i64 n12)], [some (34, [.int .i64 n1, .int .i64 n2, .int .i64 n3, .int .i64 n4, .int .i64 n5, .string (⟨#[103]⟩ : ByteArray), .string s2, .slice l1.p l1.n l1.c]), some (31, [.int .i64 n8, .int .i64 n9, .int .i64 n10, .int .i64 n11, .slice l2.p l2.n l2.c])], []) ∧
                                J1 H8))))) ∧
                      ∀ H9 : Heap,
                      J1 H9 →
                      ∃ J2 : Sl → Heap → Prop,
                      (∃ J3 : Bool → Heap → Prop,
                      (br ((n1 : Int) == 1) (
                        br ((n2 : Int) == 0) (
                          SelfEq ([.v (.slice script.p script.n script.c), .v (.pointer p1), .v (.slice ids_1.p ids_1.n ids_1.c), .v (.int .i64 last_1), .v (.int .i64 i_1), .loc 0 0, .loc 1 0, .v (.int .i64 n12)], [some (34, [.int .i64 n1, .int .i64 n2, .int .i64 n3, .int .i64 n4, .int .i64 n5, .string (⟨#[103]⟩ : ByteArray), .string s2, .slice l1.p l1.n l1.c]), some (31, [.int .i64 n8, .int .i64 n9, .int .i64 n10, .int .i64 n11, .slice l2.p l2.n l2.c])], []) ∧
                          J3 ((n8 : Int) == 0) H9)
                         (
                          SelfEq ([.v (.slice script.p script.n script.c), .v (.pointer p1), .v (.slice ids_1.p ids_1.n ids_1.c), .v (.int .i64 last_1), .v (.int .i64 i_1), .loc 0 0, .loc 1 0, .v (.int .i64 n12)], [some (34, [.int .i64 n1, .int .i64 n2, .int .i64 n3, .int .i64 n4, .int .i64 n5, .string (⟨#[103]⟩ : ByteArray), .string s2, .slice l1.p l1.n l1.c]), some (31, [.int .i64 n8, .int .i64 n9, .int .i64 n10, .int .i64 n11, .slice l2.p l2.n l2.c])], []) ∧
                          J3 false H9))
                       (
                        SelfEq ([.v (.slice script.p script.n script.c), .v (.pointer p1), .v (.slice ids_1.p ids_1.n ids_1.c), .v (.int .i64 last_1), .v (.int .i64 i_1), .loc 0 0, .loc 1 0, .v (.int .i64 n12)], [some (34, [.int .i64 n1, .int .i64 n2, .int .i64 n3, .int .i64 n4, .int .i64 n5, .string (⟨#[103]⟩ : ByteArray), .string s2, .slice l1.p l1.n l1.c]), some (31, [.int .i64 n8, .int .i64 n9, .int .i64 n10, .int .i64 n11, .slice l2.p l2.n l2.c])], []) ∧
                        J3 false H9)) ∧
                      ∀ b_1 : Bool,
                      ∀ H10 : Heap,
                      J3 b_1 H10 →
                      br (b_1) (
                        ∃ I2 : Int → Heap → Prop,
                        ∃ M2 : Int → Heap → Nat,
                        I2 0 H10 ∧
                        ∀ k_1 : Int,
                        ∀ H11 : Heap,
                        I2 k_1 H11 →
                        br (decide ((k_1 : Int) < (ids_1.n : Nat))) (
                          ∃ q2 : Nat,
                          ∃ o2 : Nat,
                          (ids_1.p : Option Addr) = some ⟨q2, o2, none⟩ ∧
                          0 ≤ (k_1 : Int) ∧
                          (k_1 : Int) < (ids_1.n : Nat) ∧
                          ∃ n14 : Int,
                          cellH H11 ⟨q2, o2 + Int.toNat k_1, none⟩ = some (.int .i64 n14) ∧
                          br ((n14 : Int) == n9) (
                            K (.bool false) H11)
                           (
                            SelfEq ([.v (.slice script.p script.n script.c), .v (.pointer p1), .v (.slice ids_1.p ids_1.n ids_1.c), .v (.int .i64 last_1), .v (.int .i64 i_1), .loc 0 0, .loc 1 0, .v (.int .i64 n12)], [some (34, [.int .i64 n1, .int .i64 n2, .int .i64 n3, .int .i64 n4, .int .i64 n5, .string (⟨#[103]⟩ : ByteArray), .string s2, .slice l1.p l1.n l1.c]), some (31, [.int .i64 n8, .int .i64 n9, .int .i64 n10, .int .i64 n11, .slice l2.p l2.n l2.c])], []) ∧
                            I2 (IntKind.wrap .i64 (k_1 + 1)) H11 ∧
                            M2 (IntKind.wrap .i64 (k_1 + 1)) H11 < M2 k_1 H11))
                         (
                          ∀ q3 : Nat,
                          H11 q3 = none →
                          letH (Heap.upd H11 q3 (.cells #[.int .i64 n9] 3 (0, 0))) fun H12 =>
                          runH Tryd.prog (Builtin.append_ #[22, 22] 22 #[.slice ids_1.p ids_1.n ids_1.c, .slice (some ⟨q3, 0, none⟩) 1 1]) H12 fun r8 H13 =>
                            ∃ l3 : Sl,
                            r8 = .slice l3.p l3.n l3.c ∧
                            SelfEq ([.v (.slice script.p script.n script.c), .v (.pointer p1), .v (.int .i64 last_1), .v (.int .i64 i_1), .loc 0 0, .loc 1 0, .v (.int .i64 n12)], [some (34, [.int .i64 n1, .int .i64 n2, .int .i64 n3, .int .i64 n4, .int .i64 n5, .string (⟨#[103]⟩ : ByteArray), .string s2, .slice l1.p l1.n l1.c]), some (31, [.int .i64 n8, .int .i64 n9, .int .i64 n10, .int .i64 n11, .slice l2.p l2.n l2.c])], []) ∧
                            J2 l3 H13))
                       (
                        SelfEq ([.v (.slice script.p script.n script.c), .v (.pointer p1), .v (.int .i64 last_1), .v (.int .i64 i_1), .loc 0 0, .loc 1 0, .v (.int .i64 n12)], [some (34, [.int .i64 n1, .int .i64 n2, .int .i64 n3, .int .i64 n4, .int .i64 n5, .string (⟨#[103]⟩ : ByteArray), .string s2, .slice l1.p l1.n l1.c]), some (31, [.int .i64 n8, .int .i64 n9, .int .i64 n10, .int .i64 n11, .slice l2.p l2.n l2.c])], []) ∧
                        J2 ids_1 H10)) ∧
                      ∀ ids_2 : Sl,
                      ∀ H14 : Heap,
                      J2 ids_2 H14 →
                      ∃ J4 : Int → Heap → Prop,
                      (∃ J5 : Bool → Heap → Prop,
                      (br ((n1 : Int) == 3) (
                        br ((n4 : Int) == 2) (
                          SelfEq ([.v (.slice script.p script.n script.c), .v (.pointer p1), .v (.slice ids_2.p ids_2.n ids_2.c), .v (.int .i64 last_1), .v (.int .i64 i_1), .loc 0 0, .v (.int .i64 n12)], [some (34, [.int .i64 n1, .int .i64 n2, .int .i64 n3, .int .i64 n4, .int .i64 n5, .string (⟨#[103]⟩ : ByteArray), .string s2, .slice l1.p l1.n l1.c]), some (31, [.int .i64 n8, .int .i64 n9, .int .i64 n10, .int .i64 n11, .slice l2.p l2.n l2.c])], []) ∧
                          J5 ((n8 : Int) == 0) H14)
                         (
                          SelfEq ([.v (.slice script.p script.n script.c), .v (.pointer p1), .v (.slice ids_2.p ids_2.n ids_2.c), .v (.int .i64 last_1), .v (.int .i64 i_1), .loc 0 0, .v (.int .i64 n12)], [some (34, [.int .i64 n1, .int .i64 n2, .int .i64 n3, .int .i64 n4, .int .i64 n5, .string (⟨#[103]⟩ : ByteArray), .string s2, .slice l1.p l1.n l1.c]), some (31, [.int .i64 n8, .int .i64 n9, .int .i64 n10, .int .i64 n11, .slice l2.p l2.n l2.c])], []) ∧
                          J5 false H14))
                       (
                        SelfEq ([.v (.slice script.p script.n script.c), .v (.pointer p1), .v (.slice ids_2.p ids_2.n ids_2.c), .v (.int .i64 last_1), .v (.int .i64 i_1), .loc 0 0, .v (.int .i64 n12)], [some (34, [.int .i64 n1, .int .i64 n2, .int .i64 n3, .int .i64 n4, .int .i64 n5, .string (⟨#[103]⟩ : ByteArray), .string s2, .slice l1.p l1.n l1.c]), some (31, [.int .i64 n8, .int .i64 n9, .int .i64 n10, .int .i64 n11, .slice l2.p l2.n l2.c])], []) ∧
                        J5 false H14)) ∧
                      ∀ b_2 : Bool,
                      ∀ H15 : Heap,
                      J5 b_2 H15 →
                      br (b_2) (
                        FnH Tryd.prog 19 #[.pointer p1, .string (⟨#[103]⟩ : ByteArray), .int .i64 2] H15 fun r9 H16 =>
                          ∃ n15 : Int,
                          r9 = .int .i64 n15 ∧
                          Sub H15 H16 ∧
                          br ((n15 : Int) != n2) (
                            K (.bool false) H16)
                           (
                            br ((n3 : Int) != n12) (
                              K (.bool false) H16)
                             (
                              SelfEq ([.v (.slice script.p script.n script.c), .v (.pointer p1), .v (.slice ids_2.p ids_2.n ids_2.c), .v (.int .i64 i_1)], [some (34, [.int .i64 n1, .int .i64 n2, .int .i64 n3, .int .i64 n4, .int .i64 n5, .string (⟨#[103]⟩ : ByteArray), .string s2, .slice l1.p l1.n l1.c]), some (31, [.int .i64 n8, .int .i64 n9, .int .i64 n10, .int .i64 n11, .slice l2.p l2.n l2.c])], []) ∧
                              J4 n5 H16)))
                       (
                        SelfEq ([.v (.slice script.p script.n script.c), .v (.pointer p1), .v (.slice ids_2.p ids_2.n ids_2.c), .v (.int .i64 i_1)], [some (34, [.int .i64 n1, .int .i64 n2, .int .i64 n3, .int .i64 n4, .int .i64 n5, .string (⟨#[103]⟩ : ByteArray), .string s2, .slice l1.p l1.n l1.c]), some (31, [.int .i64 n8, .int .i64 n9, .int .i64 n10, .int .i64 n11, .slice l2.p l2.n l2.c])], []) ∧
                        J4 last_1 H15)) ∧
                      ∀ last_2 : Int,
                      ∀ H17 : Heap,
                      J4 last_2 H17 →
                      FnH Tryd.prog 16 #[.pointer p1, .string (⟨#[103]⟩ : ByteArray), .int .i64 2] H17 fun r10 H18 =>
                        ∃ n16 : Int,
                        r10 = .int .i64 n16 ∧
                        br ((n16 : Int) != last_2) (
                          K (.bool false) H18)
                         (
                          FnH Tryd.prog 19 #[.pointer p1, .string (⟨#[103]⟩ : ByteArray), .int .i64 2] H18 fun r11 H19 =>
                            ∃ n17 : Int,
                            r11 = .int .i64 n17 ∧
                            FnH Tryd.prog 17 #[.pointer p1, .string (⟨#[103]⟩ : ByteArray)] H19 fun r12 H20 =>
                              ∃ l4 : Sl,
                              r12 = .slice l4.p l4.n l4.c ∧
                              ∃ I3 : Bool → Int → Heap → Prop,
                              ∃ M3 : Bool → Int → Heap → Nat,
                              I3 ((n17 : Int) == 0) 0 H20 ∧
                              ∀ is_1 : Bool,
                              ∀ k_2 : Int,
                              ∀ H21 : Heap,
                              I3 is_1 k_2 H21 →
                              br (decide ((k_2 : Int) < (l4.n : Nat))) (
                                br (is_1) (
                                  SelfEq ([.v (.slice script.p script.n script.c), .v (.pointer p1), .v (.slice ids_2.p ids_2.n ids_2.c), .v (.int .i64 last_2), .v (.int .i64 i_1), .v (.int .i64 n17), .v (.slice l4.p l4.n l4.c)], [some (34, [.int .i64 n1, .int .i64 n2, .int .i64 n3, .int .i64 n4, .int .i64 n5, .string (⟨#[103]⟩ : ByteArray), .string s2, .slice l1.p l1.n l1.c]), some (31, [.int .i64 n8, .int .i64 n9, .int .i64 n10, .int .i64 n11, .slice l2.p l2.n l2.c])], []) ∧
                                  I3 true (IntKind.wrap .i64 (k_2 + 1)) H21 ∧
                                  M3 true (IntKind.wrap .i64 (k_2 + 1)) H21 < M3 is_1 k_2 H21)
                                 (
                                  ∃ q4 : Nat,
                                  ∃ o3 : Nat,
                                  (l4.p : Option Addr) = some ⟨q4, o3, none⟩ ∧
                                  0 ≤ (k_2 : Int) ∧
                                  (k_2 : Int) < (l4.n : Nat) ∧
                                  ∃ n18 : Int,
                                  cellH H21 ⟨q4, o3 + Int.toNat k_2, none⟩ = some (.int .i64 n18) ∧
                                  SelfEq ([.v (.slice script.p script.n script.c), .v (.pointer p1), .v (.slice ids_2.p ids_2.n ids_2.c), .v (.int .i64 last_2), .v (.int .i64 i_1), .v (.int .i64 n17), .v (.slice l4.p l4.n l4.c)], [some (34, [.int .i64 n1, .int .i64 n2, .int .i64 n3, .int .i64 n4, .int .i64 n5, .string (⟨#[103]⟩ : ByteArray), .string s2, .slice l1.p l1.n l1.c]), some (31, [.int .i64 n8, .int .i64 n9, .int .i64 n10, .int .i64 n11, .slice l2.p l2.n l2.c])], []) ∧
                                  I3 ((n18 : Int) == n17) (IntKind.wrap .i64 (k_2 + 1)) H21 ∧
                                  M3 ((n18 : Int) == n17) (IntKind.wrap .i64 (k_2 + 1)) H21 < M3 is_1 k_2 H21))
                               (
                                br (!is_1) (
                                  K (.bool false) H21)
                                 (
                                  SelfEq ([.v (.slice script.p script.n script.c), .v (.pointer p1)], [], []) ∧
                                  I1 ids_2 last_2 (IntKind.wrap .i64 (i_1 + 1)) H21 ∧
                                  M1 ids_2 last_2 (IntKind.wrap .i64 (i_1 + 1)) H21 < M1 ids_1 last_1 i_1 H3))))
             (
              K (.bool true) H3))
           (
            K (.bool true) H3)))
theorem logboomlaw15_GroupRules_eq (script : Sl) (H : Heap) (K : Value → Heap → Prop) : logboomlaw15_GroupRules_vc script H K = denFn Tryd.prog logboomlaw15_GroupRules_ann Tryd.f7 (bodyOf Tryd.f7) [.slice script.p script.n script.c] H K := by kernel_rfl
theorem logboomlaw15_GroupRules_fn (script : Sl) {H : Heap} {K : Value → Heap → Prop} (h : logboomlaw15_GroupRules_vc script H K) : FnH Tryd.prog 7 #[.slice script.p script.n script.c] H K :=
  denFn_fn Tryd.mixed logboomlaw15_GroupRules_ann Tryd.func7 (bodyOf_spec (by kernel_rfl)) (logboomlaw15_GroupRules_eq script H K) h

end Go.Proofs.YtcbobncipnjbjaaDoor
