/- Formulas of functions, printed by this session's vc.py; each is tied to the program by the kernel. -/
import Derived.Test.YtcbobncipnjbjaaDoorProg
import Derived.KernelRfl
import Derived.Test.YtcbobncipnjbjaaDoorHlFn
import Derived.Test.YtcbobncipnjbjaaDoorV6
namespace Go.Proofs.YtcbobncipnjbjaaDoor
open Go.HL
set_option maxRecDepth 100000
/-! function 34: (*logboom/logboomref15.Groups).join -/
def logboomref15_Groups_join_ann : Anns := { hid := [3, 4], loops := [(0, { slots := [(5, .bool), (6, .int .i64)], kept := [0, 3, 4], locs := [], keptL := [0, 1] }), (3, { slots := [(9, .int .i64)], kept := [0, 3, 4, 7], locs := [], keptL := [0, 1] })], joins := [((2, 2), { slots := [], kept := [0, 3, 4, 7], locs := [(1, [.int .i64, .int .i64, .int .i64, .int .i64, .slice])], keptL := [0] }), ((0, 7), { slots := [(61, .bool)], kept := [0, 3, 4, 7], locs := [], keptL := [0, 1] }), ((0, 9), { slots := [(70, .bool)], kept := [0, 3, 4, 7], locs := [], keptL := [0, 1] }), ((11, 18), { slots := [(7, .ptr)], kept := [3, 4], locs := [], keptL := [0, 1] }), ((2, 3), { slots := [(9, .int .i64)], kept := [0, 3, 4, 7], locs := [], keptL := [0, 1] }), ((11, 27), { slots := [(11, .int .i64)], kept := [3, 4, 7], locs := [], keptL := [0, 1] })], mix := [(12, []), (32, [9])] }
def logboomref15_Groups_join_vc (g : Nat) (go : Nat) (m_0 : Int) (m_1 : Int) (m_2 : Int) (m_3 : Int) (m_4 : Int) (m_5 : ByteArray) (m_6 : ByteArray) (m_7 : Sl) (H : Heap) (K : Value → Heap → Prop) : Prop :=
  FnH Tryd.prog 47 #[.string m_5] H fun r1 H1 =>
    ∃ b1 : Bool,
    r1 = .bool b1 ∧
    ∃ I1 : Bool → Int → Heap → Prop,
    ∃ M1 : Bool → Int → Heap → Nat,
    I1 b1 0 H1 ∧
    ∀ good_1 : Bool,
    ∀ i_1 : Int,
    ∀ H2 : Heap,
    I1 good_1 i_1 H2 →
    br (decide ((i_1 : Int) < (m_7.n : Nat))) (
      br (good_1) (
        ∃ q1 : Nat,
        ∃ o1 : Nat,
        (m_7.p : Option Addr) = some ⟨q1, o1, none⟩ ∧
        0 ≤ (i_1 : Int) ∧
        (i_1 : Int) < (m_7.n : Nat) ∧
        ∃ n1 : Int,
        cellH H2 ⟨q1, o1 + Int.toNat i_1, none⟩ = some (.int .i64 n1) ∧
        br (decide ((n1 : Int) ≥ 1)) (
          ∃ q2 : Nat,
          ∃ o2 : Nat,
          (m_7.p : Option Addr) = some ⟨q2, o2, none⟩ ∧
          0 ≤ (i_1 : Int) ∧
          (i_1 : Int) < (m_7.n : Nat) ∧
          ∃ n2 : Int,
          cellH H2 ⟨q2, o2 + Int.toNat i_1, none⟩ = some (.int .i64 n2) ∧
          br (decide ((n2 : Int) ≤ 16)) (
            br ((i_1 : Int) == 0) (
              SelfEq ([.v (.pointer (some ⟨g, go, none⟩)), .loc 0 0, .loc 1 0], [some (34, [.int .i64 m_0, .int .i64 m_1, .int .i64 m_2, .int .i64 m_3, .int .i64 m_4, .string m_5, .string m_6, .slice m_7.p m_7.n m_7.c]), some (48, [.int .i64 0, .int .i64 0, .int .i64 0, .int .i64 0, .slice none 0 0])], []) ∧
              I1 true (IntKind.wrap .i64 (i_1 + 1)) H2 ∧
              M1 true (IntKind.wrap .i64 (i_1 + 1)) H2 < M1 good_1 i_1 H2)
             (
              ∃ q3 : Nat,
              ∃ o3 : Nat,
              (m_7.p : Option Addr) = some ⟨q3, o3, none⟩ ∧
              0 ≤ (i_1 : Int) ∧
              (i_1 : Int) < (m_7.n : Nat) ∧
              ∃ n3 : Int,
              cellH H2 ⟨q3, o3 + Int.toNat i_1, none⟩ = some (.int .i64 n3) ∧
              ∃ q4 : Nat,
              ∃ o4 : Nat,
              (m_7.p : Option Addr) = some ⟨q4, o4, none⟩ ∧
              0 ≤ ((IntKind.wrap .i64 (i_1 - 1)) : Int) ∧
              ((IntKind.wrap .i64 (i_1 - 1)) : Int) < (m_7.n : Nat) ∧
              ∃ n4 : Int,
              cellH H2 ⟨q4, o4 + Int.toNat (IntKind.wrap .i64 (i_1 - 1)), none⟩ = some (.int .i64 n4) ∧
              SelfEq ([.v (.pointer (some ⟨g, go, none⟩)), .loc 0 0, .loc 1 0], [some (34, [.int .i64 m_0, .int .i64 m_1, .int .i64 m_2, .int .i64 m_3, .int .i64 m_4, .string m_5, .string m_6, .slice m_7.p m_7.n m_7.c]), some (48, [.int .i64 0, .int .i64 0, .int .i64 0, .int .i64 0, .slice none 0 0])], []) ∧
              I1 (decide ((n3 : Int) > n4)) (IntKind.wrap .i64 (i_1 + 1)) H2 ∧
              M1 (decide ((n3 : Int) > n4)) (IntKind.wrap .i64 (i_1 + 1)) H2 < M1 good_1 i_1 H2))
           (
            SelfEq ([.v (.pointer (some ⟨g, go, none⟩)), .loc 0 0, .loc 1 0], [some (34, [.int .i64 m_0, .int .i64 m_1, .int .i64 m_2, .int .i64 m_3, .int .i64 m_4, .string m_5, .string m_6, .slice m_7.p m_7.n m_7.c]), some (48, [.int .i64 0, .int .i64 0, .int .i64 0, .int .i64 0, .slice none 0 0])], []) ∧
            I1 false (IntKind.wrap .i64 (i_1 + 1)) H2 ∧
            M1 false (IntKind.wrap .i64 (i_1 + 1)) H2 < M1 good_1 i_1 H2))
         (
          SelfEq ([.v (.pointer (some ⟨g, go, none⟩)), .loc 0 0, .loc 1 0], [some (34, [.int .i64 m_0, .int .i64 m_1, .int .i64 m_2, .int .i64 m_3, .int .i64 m_4, .string m_5, .string m_6, .slice m_7.p m_7.n m_7.c]), some (48, [.int .i64 0, .int .i64 0, .int .i64 0, .int .i64 0, .slice none 0 0])], []) ∧
          I1 false (IntKind.wrap .i64 (i_1 + 1)) H2 ∧
          M1 false (IntKind.wrap .i64 (i_1 + 1)) H2 < M1 good_1 i_1 H2))
       (
        SelfEq ([.v (.pointer (some ⟨g, go, none⟩)), .loc 0 0, .loc 1 0], [some (34, [.int .i64 m_0, .int .i64 m_1, .int .i64 m_2, .int .i64 m_3, .int .i64 m_4, .string m_5, .string m_6, .slice m_7.p m_7.n m_7.c]), some (48, [.int .i64 0, .int .i64 0, .int .i64 0, .int .i64 0, .slice none 0 0])], []) ∧
        I1 false (IntKind.wrap .i64 (i_1 + 1)) H2 ∧
        M1 false (IntKind.wrap .i64 (i_1 + 1)) H2 < M1 good_1 i_1 H2))
     (
      FnH Tryd.prog 35 #[.pointer (some ⟨g, go, none⟩), .string m_5] H2 fun r2 H3 =>
        ∃ p1 : Option Addr,
        r2 = .pointer p1 ∧
        ∃ J1 : Int → Int → Int → Int → Sl → Heap → Prop,
        (∃ J2 : Bool → Heap → Prop,
        (br (!good_1) (
          SelfEq ([.v (.pointer (some ⟨g, go, none⟩)), .loc 0 0, .loc 1 0, .v (.pointer p1)], [some (34, [.int .i64 m_0, .int .i64 m_1, .int .i64 m_2, .int .i64 m_3, .int .i64 m_4, .string m_5, .string m_6, .slice m_7.p m_7.n m_7.c]), some (48, [.int .i64 0, .int .i64 0, .int .i64 0, .int .i64 0, .slice none 0 0])], []) ∧
          J2 true H3)
         (
          SelfEq ([.v (.pointer (some ⟨g, go, none⟩)), .loc 0 0, .loc 1 0, .v (.pointer p1)], [some (34, [.int .i64 m_0, .int .i64 m_1, .int .i64 m_2, .int .i64 m_3, .int .i64 m_4, .string m_5, .string m_6, .slice m_7.p m_7.n m_7.c]), some (48, [.int .i64 0, .int .i64 0, .int .i64 0, .int .i64 0, .slice none 0 0])], []) ∧
          J2 (decide ((m_1 : Int) < 0)) H3)) ∧
        ∀ b_1 : Bool,
        ∀ H4 : Heap,
        J2 b_1 H4 →
        br (b_1) (
          K (.agg #[.int .i64 1, .int .i64 0, .int .i64 0, .int .i64 0, .slice none 0 0]) H4)
         (
          ∃ J3 : Bool → Heap → Prop,
          (br (decide ((m_1 : Int) > 0)) (
            SelfEq ([.v (.pointer (some ⟨g, go, none⟩)), .loc 0 0, .loc 1 0, .v (.pointer p1)], [some (34, [.int .i64 m_0, .int .i64 m_1, .int .i64 m_2, .int .i64 m_3, .int .i64 m_4, .string m_5, .string m_6, .slice m_7.p m_7.n m_7.c]), some (48, [.int .i64 0, .int .i64 0, .int .i64 0, .int .i64 0, .slice none 0 0])], []) ∧
            J3 (Option.isNone p1) H4)
           (
            SelfEq ([.v (.pointer (some ⟨g, go, none⟩)), .loc 0 0, .loc 1 0, .v (.pointer p1)], [some (34, [.int .i64 m_0, .int .i64 m_1, .int .i64 m_2, .int .i64 m_3, .int .i64 m_4, .string m_5, .string m_6, .slice m_7.p m_7.n m_7.c]), some (48, [.int .i64 0, .int .i64 0, .int .i64 0, .int .i64 0, .slice none 0 0])], []) ∧
            J3 false H4)) ∧
          ∀ b_2 : Bool,
          ∀ H5 : Heap,
          J3 b_2 H5 →
          br (b_2) (
            K (.agg #[.int .i64 8, .int .i64 0, .int .i64 0, .int .i64 0, .slice none 0 0]) H5)
           (
            br (decide ((m_1 : Int) > 0)) (
              ptrm p1 fun q5 o5 =>
              ∃ l1 : Sl,
              cellH H5 ⟨q5, o5 + 3, none⟩ = some (.slice l1.p l1.n l1.c) ∧
              FnH Tryd.prog 37 #[.slice l1.p l1.n l1.c, .int .i64 m_1] H5 fun r3 H6 =>
                ∃ b2 : Bool,
                r3 = .bool b2 ∧
                Sub H5 H6 ∧
                br (!b2) (
                  K (.agg #[.int .i64 17, .int .i64 0, .int .i64 0, .int .i64 0, .slice none 0 0]) H6)
                 (
                  SelfEq ([.v (.pointer (some ⟨g, go, none⟩)), .loc 0 0, .loc 1 0, .v (.pointer p1)], [some (34, [.int .i64 m_0, .int .i64 m_1, .int .i64 m_2, .int .i64 m_3, .int .i64 m_4, .string m_5, .string m_6, .slice m_7.p m_7.n m_7.c])], [48]) ∧
                  J1 0 0 0 0 ⟨none, 0, 0⟩ H6))
             (
              br (Option.isNone p1) (
                ∃ l2 : Sl,
                cellH H5 ⟨g, go, none⟩ = some (.slice l2.p l2.n l2.c) ∧
                br (decide (((l2.n : Nat) : Int) ≥ 8)) (
                  K (.agg #[.int .i64 3, .int .i64 0, .int .i64 0, .int .i64 0, .slice none 0 0]) H5)
                 (
                  br (!(Option.isNone p1)) (
                    ptrm p1 fun q6 o6 =>
                    ∃ l3 : Sl,
                    cellH H5 ⟨q6, o6 + 3, none⟩ = some (.slice l3.p l3.n l3.c) ∧
                    br (decide (((l3.n : Nat) : Int) ≥ 16)) (
                      K (.agg #[.int .i64 3, .int .i64 0, .int .i64 0, .int .i64 0, .slice none 0 0]) H5)
                     (
                      ptrm p1 fun q7 o7 =>
                      ∃ n5 : Int,
                      cellH H5 ⟨q7, o7 + 2, none⟩ = some (.int .i64 n5) ∧
                      br (decide ((n5 : Int) ≥ 1000000)) (
                        K (.agg #[.int .i64 3, .int .i64 0, .int .i64 0, .int .i64 0, .slice none 0 0]) H5)
                       (
                        SelfEq ([.v (.pointer (some ⟨g, go, none⟩)), .loc 0 0, .loc 1 0, .v (.pointer p1)], [some (34, [.int .i64 m_0, .int .i64 m_1, .int .i64 m_2, .int .i64 m_3, .int .i64 m_4, .string m_5, .string m_6, .slice m_7.p m_7.n m_7.c])], [48]) ∧
                        J1 0 0 0 0 ⟨none, 0, 0⟩ H5)))
                   (
                    SelfEq ([.v (.pointer (some ⟨g, go, none⟩)), .loc 0 0, .loc 1 0, .v (.pointer p1)], [some (34, [.int .i64 m_0, .int .i64 m_1, .int .i64 m_2, .int .i64 m_3, .int .i64 m_4, .string m_5, .string m_6, .slice m_7.p m_7.n m_7.c])], [48]) ∧
                    J1 0 0 0 0 ⟨none, 0, 0⟩ H5)))
               (
                br (!(Option.isNone p1)) (
                  ptrm p1 fun q8 o8 =>
                  ∃ l4 : Sl,
                  cellH H5 ⟨q8, o8 + 3, none⟩ = some (.slice l4.p l4.n l4.c) ∧
                  br (decide (((l4.n : Nat) : Int) ≥ 16)) (
                    K (.agg #[.int .i64 3, .int .i64 0, .int .i64 0, .int .i64 0, .slice none 0 0]) H5)
                   (
                    ptrm p1 fun q9 o9 =>
                    ∃ n6 : Int,
                    cellH H5 ⟨q9, o9 + 2, none⟩ = some (.int .i64 n6) ∧
                    br (decide ((n6 : Int) ≥ 1000000)) (
                      K (.agg #[.int .i64 3, .int .i64 0, .int .i64 0, .int .i64 0, .slice none 0 0]) H5)
                     (
                      SelfEq ([.v (.pointer (some ⟨g, go, none⟩)), .loc 0 0, .loc 1 0, .v (.pointer p1)], [some (34, [.int .i64 m_0, .int .i64 m_1, .int .i64 m_2, .int .i64 m_3, .int .i64 m_4, .string m_5, .string m_6, .slice m_7.p m_7.n m_7.c])], [48]) ∧
                      J1 0 0 0 0 ⟨none, 0, 0⟩ H5)))
                 (
                  SelfEq ([.v (.pointer (some ⟨g, go, none⟩)), .loc 0 0, .loc 1 0, .v (.pointer p1)], [some (34, [.int .i64 m_0, .int .i64 m_1, .int .i64 m_2, .int .i64 m_3, .int .i64 m_4, .string m_5, .string m_6, .slice m_7.p m_7.n m_7.c])], [48]) ∧
                  J1 0 0 0 0 ⟨none, 0, 0⟩ H5)))))) ∧
        ∀ n7 : Int,
        ∀ n8 : Int,
        ∀ n9 : Int,
        ∀ n10 : Int,
        ∀ l5 : Sl,
        ∀ H7 : Heap,
        J1 n7 n8 n9 n10 l5 H7 →
        ∃ J4 : Option Addr → Heap → Prop,
        (br (Option.isNone p1) (
          ∀ q10 : Nat,
          H7 q10 = none →
          letH (Heap.upd H7 q10 (.cells #[.string m_5, .int .i64 0, .int .i64 0, .slice none 0 0, .slice none 0 0, .slice none 0 0, .slice none 0 0] 67 (0, 0))) fun H8 =>
          ∃ J5 : Int → Heap → Prop,
          (∃ I2 : Int → Heap → Prop,
          ∃ M2 : Int → Heap → Nat,
          I2 0 H8 ∧
          ∀ i_2 : Int,
          ∀ H9 : Heap,
          I2 i_2 H9 →
          ∃ l6 : Sl,
          cellH H9 ⟨g, go, none⟩ = some (.slice l6.p l6.n l6.c) ∧
          br (decide ((i_2 : Int) < (l6.n : Nat))) (
            ∃ l7 : Sl,
            cellH H9 ⟨g, go, none⟩ = some (.slice l7.p l7.n l7.c) ∧
            ∃ q11 : Nat,
            ∃ o10 : Nat,
            (l7.p : Option Addr) = some ⟨q11, o10, none⟩ ∧
            0 ≤ (i_2 : Int) ∧
            (i_2 : Int) < (l7.n : Nat) ∧
            ∃ p2 : Option Addr,
            cellH H9 ⟨q11, o10 + Int.toNat i_2, none⟩ = some (.pointer p2) ∧
            ptrm p2 fun q12 o11 =>
            ∃ s1 : ByteArray,
            cellH H9 ⟨q12, o11, none⟩ = some (.string s1) ∧
            br (Op.bytesLess s1.toList m_5.toList) (
              SelfEq ([.v (.pointer (some ⟨g, go, none⟩)), .loc 0 0, .loc 1 0, .v (.pointer (some ⟨q10, 0, none⟩))], [some (34, [.int .i64 m_0, .int .i64 m_1, .int .i64 m_2, .int .i64 m_3, .int .i64 m_4, .string m_5, .string m_6, .slice m_7.p m_7.n m_7.c]), some (48, [.int .i64 n7, .int .i64 n8, .int .i64 n9, .int .i64 n10, .slice l5.p l5.n l5.c])], []) ∧
              I2 (IntKind.wrap .i64 (i_2 + 1)) H9 ∧
              M2 (IntKind.wrap .i64 (i_2 + 1)) H9 < M2 i_2 H9)
             (
              SelfEq ([.v (.pointer (some ⟨g, go, none⟩)), .loc 0 0, .loc 1 0, .v (.pointer (some ⟨q10, 0, none⟩))], [some (34, [.int .i64 m_0, .int .i64 m_1, .int .i64 m_2, .int .i64 m_3, .int .i64 m_4, .string m_5, .string m_6, .slice m_7.p m_7.n m_7.c]), some (48, [.int .i64 n7, .int .i64 n8, .int .i64 n9, .int .i64 n10, .slice l5.p l5.n l5.c])], []) ∧
              J5 i_2 H9))
           (
            SelfEq ([.v (.pointer (some ⟨g, go, none⟩)), .loc 0 0, .loc 1 0, .v (.pointer (some ⟨q10, 0, none⟩))], [some (34, [.int .i64 m_0, .int .i64 m_1, .int .i64 m_2, .int .i64 m_3, .int .i64 m_4, .string m_5, .string m_6, .slice m_7.p m_7.n m_7.c]), some (48, [.int .i64 n7, .int .i64 n8, .int .i64 n9, .int .i64 n10, .slice l5.p l5.n l5.c])], []) ∧
            J5 i_2 H9)) ∧
          ∀ i_3 : Int,
          ∀ H10 : Heap,
          J5 i_3 H10 →
          ∀ q13 : Nat,
          H10 q13 = none →
          letH (Heap.upd H10 q13 (.cells #[] 63 (0, 0))) fun H11 =>
          ∃ l8 : Sl,
          cellH H11 ⟨g, go, none⟩ = some (.slice l8.p l8.n l8.c) ∧
          0 ≤ (i_3 : Int) ∧
          (i_3 : Int) ≤ (l8.c : Nat) ∧
          runH Tryd.prog (Builtin.append_ #[44, 44] 44 #[.slice (some ⟨q13, 0, none⟩) 0 0, .slice (slP l8.p l8.c (0 : Int) 1) (Int.toNat (i_3 - (0 : Int))) (Int.toNat ((l8.c : Nat) - (0 : Int)))]) H11 fun r4 H12 =>
            ∃ l9 : Sl,
            r4 = .slice l9.p l9.n l9.c ∧
            ∀ q14 : Nat,
            H12 q14 = none →
            letH (Heap.upd H12 q14 (.cells #[.pointer (some ⟨q10, 0, none⟩)] 63 (0, 0))) fun H13 =>
            runH Tryd.prog (Builtin.append_ #[44, 44] 44 #[.slice l9.p l9.n l9.c, .slice (some ⟨q14, 0, none⟩) 1 1]) H13 fun r5 H14 =>
              ∃ l10 : Sl,
              r5 = .slice l10.p l10.n l10.c ∧
              ∃ l11 : Sl,
              cellH H14 ⟨g, go, none⟩ = some (.slice l11.p l11.n l11.c) ∧
              0 ≤ (i_3 : Int) ∧
              (i_3 : Int) ≤ (l11.n : Nat) ∧
              runH Tryd.prog (Builtin.append_ #[44, 44] 44 #[.slice l10.p l10.n l10.c, .slice (slP l11.p l11.c i_3 1) (Int.toNat ((l11.n : Nat) - i_3)) (Int.toNat ((l11.c : Nat) - i_3))]) H14 fun r6 H15 =>
                ∃ l12 : Sl,
                r6 = .slice l12.p l12.n l12.c ∧
                (∃ u, cellH H15 ⟨g, go, none⟩ = some u) ∧
                frozenH H15 ⟨g, go, none⟩ = false ∧
                letH (Heap.set H15 ⟨g, go, none⟩ (.slice l12.p l12.n l12.c)) fun H16 =>
                SelfEq ([.loc 0 0, .loc 1 0], [some (34, [.int .i64 m_0, .int .i64 m_1, .int .i64 m_2, .int .i64 m_3, .int .i64 m_4, .string m_5, .string m_6, .slice m_7.p m_7.n m_7.c]), some (48, [.int .i64 n7, .int .i64 n8, .int .i64 n9, .int .i64 n10, .slice l5.p l5.n l5.c])], []) ∧
                J4 (some ⟨q10, 0, none⟩) H16)
         (
          SelfEq ([.loc 0 0, .loc 1 0], [some (34, [.int .i64 m_0, .int .i64 m_1, .int .i64 m_2, .int .i64 m_3, .int .i64 m_4, .string m_5, .string m_6, .slice m_7.p m_7.n m_7.c]), some (48, [.int .i64 n7, .int .i64 n8, .int .i64 n9, .int .i64 n10, .slice l5.p l5.n l5.c])], []) ∧
          J4 p1 H7)) ∧
        ∀ x_1 : Option Addr,
        ∀ H17 : Heap,
        J4 x_1 H17 →
        ∃ J6 : Int → Heap → Prop,
        (br ((m_1 : Int) == 0) (
          ptrm x_1 fun q15 o12 =>
          ∃ n11 : Int,
          cellH H17 ⟨q15, o12 + 2, none⟩ = some (.int .i64 n11) ∧
          ptrm x_1 fun q16 o13 =>
          (∃ u, cellH H17 ⟨q16, o13 + 2, none⟩ = some u) ∧
          frozenH H17 ⟨q16, o13 + 2, none⟩ = false ∧
          letH (Heap.set H17 ⟨q16, o13 + 2, none⟩ (.int .i64 (IntKind.wrap .i64 (n11 + 1)))) fun H18 =>
          ptrm x_1 fun q17 o14 =>
          ∃ n12 : Int,
          cellH H18 ⟨q17, o14 + 2, none⟩ = some (.int .i64 n12) ∧
          ptrm x_1 fun q18 o15 =>
          ∃ l13 : Sl,
          cellH H18 ⟨q18, o15 + 3, none⟩ = some (.slice l13.p l13.n l13.c) ∧
          ∀ q19 : Nat,
          H18 q19 = none →
          letH (Heap.upd H18 q19 (.cells #[.int .i64 n12] 3 (0, 0))) fun H19 =>
          runH Tryd.prog (Builtin.append_ #[22, 22] 22 #[.slice l13.p l13.n l13.c, .slice (some ⟨q19, 0, none⟩) 1 1]) H19 fun r7 H20 =>
            ∃ l14 : Sl,
            r7 = .slice l14.p l14.n l14.c ∧
            ptrm x_1 fun q20 o16 =>
            (∃ u, cellH H20 ⟨q20, o16 + 3, none⟩ = some u) ∧
            frozenH H20 ⟨q20, o16 + 3, none⟩ = false ∧
            letH (Heap.set H20 ⟨q20, o16 + 3, none⟩ (.slice l14.p l14.n l14.c)) fun H21 =>
            SelfEq ([.loc 0 0, .loc 1 0, .v (.pointer x_1)], [some (34, [.int .i64 m_0, .int .i64 m_1, .int .i64 m_2, .int .i64 m_3, .int .i64 m_4, .string m_5, .string m_6, .slice m_7.p m_7.n m_7.c]), some (48, [.int .i64 n7, .int .i64 n8, .int .i64 n9, .int .i64 n10, .slice l5.p l5.n l5.c])], []) ∧
            J6 n12 H21)
         (
          SelfEq ([.loc 0 0, .loc 1 0, .v (.pointer x_1)], [some (34, [.int .i64 m_0, .int .i64 m_1, .int .i64 m_2, .int .i64 m_3, .int .i64 m_4, .string m_5, .string m_6, .slice m_7.p m_7.n m_7.c]), some (48, [.int .i64 n7, .int .i64 n8, .int .i64 n9, .int .i64 n10, .slice l5.p l5.n l5.c])], []) ∧
          J6 m_1 H17)) ∧
        ∀ id_1 : Int,
        ∀ H22 : Heap,
        J6 id_1 H22 →
        ∀ q21 : Nat,
        H22 q21 = none →
        letH (Heap.upd H22 q21 (.cells #[] 3 (0, 0))) fun H23 =>
        runH Tryd.prog (Builtin.append_ #[22, 22] 22 #[.slice (some ⟨q21, 0, none⟩) 0 0, .slice m_7.p m_7.n m_7.c]) H23 fun r8 H24 =>
          ∃ l15 : Sl,
          r8 = .slice l15.p l15.n l15.c ∧
          ptrm x_1 fun q22 o17 =>
          (∃ u, cellH H24 ⟨q22, o17 + 4, none⟩ = some u) ∧
          frozenH H24 ⟨q22, o17 + 4, none⟩ = false ∧
          letH (Heap.set H24 ⟨q22, o17 + 4, none⟩ (.slice l15.p l15.n l15.c)) fun H25 =>
          ptrm x_1 fun q23 o18 =>
          ∃ n13 : Int,
          cellH H25 ⟨q23, o18 + 1, none⟩ = some (.int .i64 n13) ∧
          ptrm x_1 fun q24 o19 =>
          (∃ u, cellH H25 ⟨q24, o19 + 1, none⟩ = some u) ∧
          frozenH H25 ⟨q24, o19 + 1, none⟩ = false ∧
          letH (Heap.set H25 ⟨q24, o19 + 1, none⟩ (.int .i64 (IntKind.wrap .i64 (n13 + 1)))) fun H26 =>
          ptrm x_1 fun q25 o20 =>
          ∃ n14 : Int,
          cellH H26 ⟨q25, o20 + 1, none⟩ = some (.int .i64 n14) ∧
          FnH Tryd.prog 38 #[.pointer x_1, .int .i64 id_1] H26 fun r9 H27 =>
            ∃ l16 : Sl,
            r9 = .slice l16.p l16.n l16.c ∧
            Sub H26 H27 ∧
            K (.agg #[.int .i64 0, .int .i64 id_1, .int .i64 n14, .int .i64 0, .slice l16.p l16.n l16.c]) H27)
theorem logboomref15_Groups_join_eq (g : Nat) (go : Nat) (m_0 : Int) (m_1 : Int) (m_2 : Int) (m_3 : Int) (m_4 : Int) (m_5 : ByteArray) (m_6 : ByteArray) (m_7 : Sl) (H : Heap) (K : Value → Heap → Prop) : logboomref15_Groups_join_vc g go m_0 m_1 m_2 m_3 m_4 m_5 m_6 m_7 H K = denFn Tryd.prog logboomref15_Groups_join_ann Tryd.f34 (bodyOf Tryd.f34) [.pointer (some ⟨g, go, none⟩), .agg #[.int .i64 m_0, .int .i64 m_1, .int .i64 m_2, .int .i64 m_3, .int .i64 m_4, .string m_5, .string m_6, .slice m_7.p m_7.n m_7.c]] H K := by kernel_rfl
theorem logboomref15_Groups_join_fn (g : Nat) (go : Nat) (m_0 : Int) (m_1 : Int) (m_2 : Int) (m_3 : Int) (m_4 : Int) (m_5 : ByteArray) (m_6 : ByteArray) (m_7 : Sl) {H : Heap} {K : Value → Heap → Prop} (h : logboomref15_Groups_join_vc g go m_0 m_1 m_2 m_3 m_4 m_5 m_6 m_7 H K) : FnH Tryd.prog 34 #[.pointer (some ⟨g, go, none⟩), .agg #[.int .i64 m_0, .int .i64 m_1, .int .i64 m_2, .int .i64 m_3, .int .i64 m_4, .string m_5, .string m_6, .slice m_7.p m_7.n m_7.c]] H K :=
  denFn_fn Tryd.mixed logboomref15_Groups_join_ann Tryd.func34 (bodyOf_spec (by kernel_rfl)) (logboomref15_Groups_join_eq g go m_0 m_1 m_2 m_3 m_4 m_5 m_6 m_7 H K) h

/-! function 22: (*logboom/logboomref15.Groups).Apply -/
def logboomref15_Groups_Apply_ann : Anns := { hid := [3, 4], loops := [(0, { slots := [(7, .slice), (8, .int .i64)], kept := [3, 4, 5], locs := [], keptL := [0, 1] }), (2, { slots := [(9, .slice), (10, .int .i64)], kept := [3, 4, 5], locs := [], keptL := [0, 1] })], joins := [], mix := [(14, [9]), (15, []), (27, [7]), (31, [11]), (34, []), (36, []), (45, [13, 16]), (46, [9])] }
def logboomref15_Groups_Apply_vc (g : Nat) (go : Nat) (m_0 : Int) (m_1 : Int) (m_2 : Int) (m_3 : Int) (m_4 : Int) (m_5 : ByteArray) (m_6 : ByteArray) (m_7 : Sl) (H : Heap) (K : Value → Heap → Prop) : Prop :=
  br ((m_0 : Int) == 1) (
    FnH Tryd.prog 34 #[.pointer (some ⟨g, go, none⟩), .agg #[.int .i64 m_0, .int .i64 m_1, .int .i64 m_2, .int .i64 m_3, .int .i64 m_4, .string m_5, .string m_6, .slice m_7.p m_7.n m_7.c]] H fun r1 H1 =>
      ∃ n1 : Int,
      ∃ n2 : Int,
      ∃ n3 : Int,
      ∃ n4 : Int,
      ∃ l1 : Sl,
      r1 = .agg #[.int .i64 n1, .int .i64 n2, .int .i64 n3, .int .i64 n4, .slice l1.p l1.n l1.c] ∧
      K (.agg #[.int .i64 n1, .int .i64 n2, .int .i64 n3, .int .i64 n4, .slice l1.p l1.n l1.c]) H1)
   (
    br ((m_0 : Int) == 5) (
      ∃ n5 : Int,
      cellH H ⟨g, go + 1, none⟩ = some (.int .i64 n5) ∧
      br (decide ((m_1 : Int) < n5)) (
        K (.agg #[.int .i64 13, .int .i64 0, .int .i64 0, .int .i64 0, .slice none 0 0]) H)
       (
        (∃ u, cellH H ⟨g, go + 1, none⟩ = some u) ∧
        frozenH H ⟨g, go + 1, none⟩ = false ∧
        letH (Heap.set H ⟨g, go + 1, none⟩ (.int .i64 m_1)) fun H2 =>
        K (.agg #[.int .i64 0, .int .i64 0, .int .i64 m_1, .int .i64 0, .slice none 0 0]) H2))
     (
      br (decide ((m_0 : Int) < 2)) (
        K (.agg #[.int .i64 1, .int .i64 0, .int .i64 0, .int .i64 0, .slice none 0 0]) H)
       (
        br (decide ((m_0 : Int) > 6)) (
          K (.agg #[.int .i64 1, .int .i64 0, .int .i64 0, .int .i64 0, .slice none 0 0]) H)
         (
          FnH Tryd.prog 35 #[.pointer (some ⟨g, go, none⟩), .string m_5] H fun r2 H3 =>
            ∃ p1 : Option Addr,
            r2 = .pointer p1 ∧
            br (Option.isNone p1) (
              K (.agg #[.int .i64 8, .int .i64 0, .int .i64 0, .int .i64 0, .slice none 0 0]) H3)
             (
              br ((m_0 : Int) == 4) (
                ptrm p1 fun q1 o1 =>
                ∃ n6 : Int,
                cellH H3 ⟨q1, o1 + 1, none⟩ = some (.int .i64 n6) ∧
                FnH Tryd.prog 36 #[.pointer p1, .int .i64 m_3] H3 fun r3 H4 =>
                  ∃ n7 : Int,
                  r3 = .int .i64 n7 ∧
                  Sub H3 H4 ∧
                  K (.agg #[.int .i64 0, .int .i64 0, .int .i64 n6, .int .i64 n7, .slice none 0 0]) H4)
               (
                ptrm p1 fun q2 o2 =>
                ∃ l2 : Sl,
                cellH H3 ⟨q2, o2 + 3, none⟩ = some (.slice l2.p l2.n l2.c) ∧
                FnH Tryd.prog 37 #[.slice l2.p l2.n l2.c, .int .i64 m_1] H3 fun r4 H5 =>
                  ∃ b1 : Bool,
                  r4 = .bool b1 ∧
                  Sub H3 H5 ∧
                  br (!b1) (
                    K (.agg #[.int .i64 17, .int .i64 0, .int .i64 0, .int .i64 0, .slice none 0 0]) H5)
                   (
                    br ((m_0 : Int) == 2) (
                      ∃ I1 : Sl → Int → Heap → Prop,
                      ∃ M1 : Sl → Int → Heap → Nat,
                      I1 ⟨none, 0, 0⟩ 0 H5 ∧
                      ∀ l_1 : Sl,
                      ∀ i_1 : Int,
                      ∀ H6 : Heap,
                      I1 l_1 i_1 H6 →
                      ptrm p1 fun q3 o3 =>
                      ∃ l3 : Sl,
                      cellH H6 ⟨q3, o3 + 3, none⟩ = some (.slice l3.p l3.n l3.c) ∧
                      br (decide ((i_1 : Int) < (l3.n : Nat))) (
                        ptrm p1 fun q4 o4 =>
                        ∃ l4 : Sl,
                        cellH H6 ⟨q4, o4 + 3, none⟩ = some (.slice l4.p l4.n l4.c) ∧
                        ∃ q5 : Nat,
                        ∃ o5 : Nat,
                        (l4.p : Option Addr) = some ⟨q5, o5, none⟩ ∧
                        0 ≤ (i_1 : Int) ∧
                        (i_1 : Int) < (l4.n : Nat) ∧
                        ∃ n8 : Int,
                        cellH H6 ⟨q5, o5 + Int.toNat i_1, none⟩ = some (.int .i64 n8) ∧
                        br ((n8 : Int) != m_1) (
                          ptrm p1 fun q6 o6 =>
                          ∃ l5 : Sl,
                          cellH H6 ⟨q6, o6 + 3, none⟩ = some (.slice l5.p l5.n l5.c) ∧
                          ∃ q7 : Nat,
                          ∃ o7 : Nat,
                          (l5.p : Option Addr) = some ⟨q7, o7, none⟩ ∧
                          0 ≤ (i_1 : Int) ∧
                          (i_1 : Int) < (l5.n : Nat) ∧
                          ∃ n9 : Int,
                          cellH H6 ⟨q7, o7 + Int.toNat i_1, none⟩ = some (.int .i64 n9) ∧
                          ∀ q8 : Nat,
                          H6 q8 = none →
                          letH (Heap.upd H6 q8 (.cells #[.int .i64 n9] 3 (0, 0))) fun H7 =>
                          runH Tryd.prog (Builtin.append_ #[22, 22] 22 #[.slice l_1.p l_1.n l_1.c, .slice (some ⟨q8, 0, none⟩) 1 1]) H7 fun r5 H8 =>
                            ∃ l6 : Sl,
                            r5 = .slice l6.p l6.n l6.c ∧
                            SelfEq ([.loc 0 0, .loc 1 0, .v (.pointer p1)], [some (34, [.int .i64 m_0, .int .i64 m_1, .int .i64 m_2, .int .i64 m_3, .int .i64 m_4, .string m_5, .string m_6, .slice m_7.p m_7.n m_7.c]), some (48, [.int .i64 0, .int .i64 0, .int .i64 0, .int .i64 0, .slice none 0 0])], []) ∧
                            I1 l6 (IntKind.wrap .i64 (i_1 + 1)) H8 ∧
                            M1 l6 (IntKind.wrap .i64 (i_1 + 1)) H8 < M1 l_1 i_1 H6)
                         (
                          SelfEq ([.loc 0 0, .loc 1 0, .v (.pointer p1)], [some (34, [.int .i64 m_0, .int .i64 m_1, .int .i64 m_2, .int .i64 m_3, .int .i64 m_4, .string m_5, .string m_6, .slice m_7.p m_7.n m_7.c]), some (48, [.int .i64 0, .int .i64 0, .int .i64 0, .int .i64 0, .slice none 0 0])], []) ∧
                          I1 l_1 (IntKind.wrap .i64 (i_1 + 1)) H6 ∧
                          M1 l_1 (IntKind.wrap .i64 (i_1 + 1)) H6 < M1 l_1 i_1 H6))
                       (
                        ptrm p1 fun q9 o8 =>
                        (∃ u, cellH H6 ⟨q9, o8 + 3, none⟩ = some u) ∧
                        frozenH H6 ⟨q9, o8 + 3, none⟩ = false ∧
                        letH (Heap.set H6 ⟨q9, o8 + 3, none⟩ (.slice l_1.p l_1.n l_1.c)) fun H9 =>
                        ptrm p1 fun q10 o9 =>
                        ∃ n10 : Int,
                        cellH H9 ⟨q10, o9 + 1, none⟩ = some (.int .i64 n10) ∧
                        ptrm p1 fun q11 o10 =>
                        (∃ u, cellH H9 ⟨q11, o10 + 1, none⟩ = some u) ∧
                        frozenH H9 ⟨q11, o10 + 1, none⟩ = false ∧
                        letH (Heap.set H9 ⟨q11, o10 + 1, none⟩ (.int .i64 (IntKind.wrap .i64 (n10 + 1)))) fun H10 =>
                        ptrm p1 fun q12 o11 =>
                        ∃ n11 : Int,
                        cellH H10 ⟨q12, o11 + 1, none⟩ = some (.int .i64 n11) ∧
                        K (.agg #[.int .i64 0, .int .i64 m_1, .int .i64 n11, .int .i64 0, .slice none 0 0]) H10))
                     (
                      ptrm p1 fun q13 o12 =>
                      ∃ n12 : Int,
                      cellH H5 ⟨q13, o12 + 1, none⟩ = some (.int .i64 n12) ∧
                      br ((m_2 : Int) != n12) (
                        K (.agg #[.int .i64 18, .int .i64 0, .int .i64 0, .int .i64 0, .slice none 0 0]) H5)
                       (
                        br ((m_0 : Int) == 6) (
                          ptrm p1 fun q14 o13 =>
                          ∃ n13 : Int,
                          cellH H5 ⟨q14, o13 + 1, none⟩ = some (.int .i64 n13) ∧
                          FnH Tryd.prog 38 #[.pointer p1, .int .i64 m_1] H5 fun r6 H11 =>
                            ∃ l7 : Sl,
                            r6 = .slice l7.p l7.n l7.c ∧
                            Sub H5 H11 ∧
                            K (.agg #[.int .i64 0, .int .i64 m_1, .int .i64 n13, .int .i64 0, .slice l7.p l7.n l7.c]) H11)
                         (
                          br (decide ((m_4 : Int) < 0)) (
                            K (.agg #[.int .i64 1, .int .i64 0, .int .i64 0, .int .i64 0, .slice none 0 0]) H5)
                           (
                            br (decide ((m_4 : Int) > 1000000000)) (
                              K (.agg #[.int .i64 1, .int .i64 0, .int .i64 0, .int .i64 0, .slice none 0 0]) H5)
                             (
                              br (((m_7.n : Nat) : Int) != 1) (
                                K (.agg #[.int .i64 1, .int .i64 0, .int .i64 0, .int .i64 0, .slice none 0 0]) H5)
                               (
                                ∃ q15 : Nat,
                                ∃ o14 : Nat,
                                (m_7.p : Option Addr) = some ⟨q15, o14, none⟩ ∧
                                0 ≤ (0 : Int) ∧
                                (0 : Int) < (m_7.n : Nat) ∧
                                ∃ n14 : Int,
                                cellH H5 ⟨q15, o14 + Int.toNat 0, none⟩ = some (.int .i64 n14) ∧
                                br (decide ((n14 : Int) < 0)) (
                                  K (.agg #[.int .i64 1, .int .i64 0, .int .i64 0, .int .i64 0, .slice none 0 0]) H5)
                                 (
                                  ∃ q16 : Nat,
                                  ∃ o15 : Nat,
                                  (m_7.p : Option Addr) = some ⟨q16, o15, none⟩ ∧
                                  0 ≤ (0 : Int) ∧
                                  (0 : Int) < (m_7.n : Nat) ∧
                                  ∃ n15 : Int,
                                  cellH H5 ⟨q16, o15 + Int.toNat 0, none⟩ = some (.int .i64 n15) ∧
                                  br (decide ((n15 : Int) > 1000000000)) (
                                    K (.agg #[.int .i64 1, .int .i64 0, .int .i64 0, .int .i64 0, .slice none 0 0]) H5)
                                   (
                                    ∃ q17 : Nat,
                                    ∃ o16 : Nat,
                                    (m_7.p : Option Addr) = some ⟨q17, o16, none⟩ ∧
                                    0 ≤ (0 : Int) ∧
                                    (0 : Int) < (m_7.n : Nat) ∧
                                    ∃ n16 : Int,
                                    cellH H5 ⟨q17, o16 + Int.toNat 0, none⟩ = some (.int .i64 n16) ∧
                                    FnH Tryd.prog 39 #[.pointer p1, .int .i64 m_1] H5 fun r7 H12 =>
                                      ∃ n17 : Int,
                                      r7 = .int .i64 n17 ∧
                                      Sub H5 H12 ∧
                                      br (decide ((n16 : Int) ≤ n17)) (
                                        K (.agg #[.int .i64 12, .int .i64 0, .int .i64 0, .int .i64 0, .slice none 0 0]) H12)
                                       (
                                        FnH Tryd.prog 40 #[.pointer p1, .int .i64 m_3] H12 fun r8 H13 =>
                                          ∃ n18 : Int,
                                          r8 = .int .i64 n18 ∧
                                          Sub H12 H13 ∧
                                          br ((n18 : Int) != m_1) (
                                            K (.agg #[.int .i64 19, .int .i64 0, .int .i64 0, .int .i64 0, .slice none 0 0]) H13)
                                           (
                                            ∃ I2 : Sl → Int → Heap → Prop,
                                            ∃ M2 : Sl → Int → Heap → Nat,
                                            I2 ⟨none, 0, 0⟩ 0 H13 ∧
                                            ∀ l_2 : Sl,
                                            ∀ i_2 : Int,
                                            ∀ H14 : Heap,
                                            I2 l_2 i_2 H14 →
                                            ptrm p1 fun q18 o17 =>
                                            ∃ l8 : Sl,
                                            cellH H14 ⟨q18, o17 + 5, none⟩ = some (.slice l8.p l8.n l8.c) ∧
                                            br (decide ((i_2 : Int) < (l8.n : Nat))) (
                                              ptrm p1 fun q19 o18 =>
                                              ∃ l9 : Sl,
                                              cellH H14 ⟨q19, o18 + 5, none⟩ = some (.slice l9.p l9.n l9.c) ∧
                                              ∃ q20 : Nat,
                                              ∃ o19 : Nat,
                                              (l9.p : Option Addr) = some ⟨q20, o19, none⟩ ∧
                                              0 ≤ (i_2 : Int) ∧
                                              (i_2 : Int) < (l9.n : Nat) ∧
                                              ∃ n19 : Int,
                                              cellH H14 ⟨q20, o19 + Int.toNat i_2 * 2, none⟩ = some (.int .i64 n19) ∧
                                              br ((n19 : Int) != m_3) (
                                                ptrm p1 fun q21 o20 =>
                                                ∃ l10 : Sl,
                                                cellH H14 ⟨q21, o20 + 5, none⟩ = some (.slice l10.p l10.n l10.c) ∧
                                                ∃ q22 : Nat,
                                                ∃ o21 : Nat,
                                                (l10.p : Option Addr) = some ⟨q22, o21, none⟩ ∧
                                                0 ≤ (i_2 : Int) ∧
                                                (i_2 : Int) < (l10.n : Nat) ∧
                                                ∃ n20 : Int,
                                                cellH H14 ⟨q22, o21 + Int.toNat i_2 * 2, none⟩ = some (.int .i64 n20) ∧
                                                ∃ n21 : Int,
                                                cellH H14 ⟨q22, o21 + Int.toNat i_2 * 2 + 1, none⟩ = some (.int .i64 n21) ∧
                                                ∀ q23 : Nat,
                                                H14 q23 = none →
                                                letH (Heap.upd H14 q23 (.cells #[.int .i64 n20, .int .i64 n21] 70 (0, 0))) fun H15 =>
                                                runH Tryd.prog (Builtin.append_ #[65, 65] 65 #[.slice l_2.p l_2.n l_2.c, .slice (some ⟨q23, 0, none⟩) 1 1]) H15 fun r9 H16 =>
                                                  ∃ l11 : Sl,
                                                  r9 = .slice l11.p l11.n l11.c ∧
                                                  SelfEq ([.loc 0 0, .loc 1 0, .v (.pointer p1)], [some (34, [.int .i64 m_0, .int .i64 m_1, .int .i64 m_2, .int .i64 m_3, .int .i64 m_4, .string m_5, .string m_6, .slice m_7.p m_7.n m_7.c]), some (48, [.int .i64 0, .int .i64 0, .int .i64 0, .int .i64 0, .slice none 0 0])], []) ∧
                                                  I2 l11 (IntKind.wrap .i64 (i_2 + 1)) H16 ∧
                                                  M2 l11 (IntKind.wrap .i64 (i_2 + 1)) H16 < M2 l_2 i_2 H14)
                                               (
                                                SelfEq ([.loc 0 0, .loc 1 0, .v (.pointer p1)], [some (34, [.int .i64 m_0, .int .i64 m_1, .int .i64 m_2, .int .i64 m_3, .int .i64 m_4, .string m_5, .string m_6, .slice m_7.p m_7.n m_7.c]), some (48, [.int .i64 0, .int .i64 0, .int .i64 0, .int .i64 0, .slice none 0 0])], []) ∧
                                                I2 l_2 (IntKind.wrap .i64 (i_2 + 1)) H14 ∧
                                                M2 l_2 (IntKind.wrap .i64 (i_2 + 1)) H14 < M2 l_2 i_2 H14))
                                             (
                                              ∀ q24 : Nat,
                                              H14 q24 = none →
                                              letH (Heap.upd H14 q24 (.cells #[.int .i64 m_3, .int .i64 m_4] 70 (0, 0))) fun H17 =>
                                              runH Tryd.prog (Builtin.append_ #[65, 65] 65 #[.slice l_2.p l_2.n l_2.c, .slice (some ⟨q24, 0, none⟩) 1 1]) H17 fun r10 H18 =>
                                                ∃ l12 : Sl,
                                                r10 = .slice l12.p l12.n l12.c ∧
                                                ptrm p1 fun q25 o22 =>
                                                (∃ u, cellH H18 ⟨q25, o22 + 5, none⟩ = some u) ∧
                                                frozenH H18 ⟨q25, o22 + 5, none⟩ = false ∧
                                                letH (Heap.set H18 ⟨q25, o22 + 5, none⟩ (.slice l12.p l12.n l12.c)) fun H19 =>
                                                ptrm p1 fun q26 o23 =>
                                                ∃ l13 : Sl,
                                                cellH H19 ⟨q26, o23 + 6, none⟩ = some (.slice l13.p l13.n l13.c) ∧
                                                ∃ q27 : Nat,
                                                ∃ o24 : Nat,
                                                (m_7.p : Option Addr) = some ⟨q27, o24, none⟩ ∧
                                                0 ≤ (0 : Int) ∧
                                                (0 : Int) < (m_7.n : Nat) ∧
                                                ∃ n22 : Int,
                                                cellH H19 ⟨q27, o24 + Int.toNat 0, none⟩ = some (.int .i64 n22) ∧
                                                ∀ q28 : Nat,
                                                H19 q28 = none →
                                                letH (Heap.upd H19 q28 (.cells #[.int .i64 m_1, .int .i64 n22] 70 (0, 0))) fun H20 =>
                                                Sub H19 H20 ∧
                                                runH Tryd.prog (Builtin.append_ #[65, 65] 65 #[.slice l13.p l13.n l13.c, .slice (some ⟨q28, 0, none⟩) 1 1]) H20 fun r11 H21 =>
                                                  ∃ l14 : Sl,
                                                  r11 = .slice l14.p l14.n l14.c ∧
                                                  ptrm p1 fun q29 o25 =>
                                                  (∃ u, cellH H21 ⟨q29, o25 + 6, none⟩ = some u) ∧
                                                  frozenH H21 ⟨q29, o25 + 6, none⟩ = false ∧
                                                  letH (Heap.set H21 ⟨q29, o25 + 6, none⟩ (.slice l14.p l14.n l14.c)) fun H22 =>
                                                  ptrm p1 fun q30 o26 =>
                                                  ∃ n23 : Int,
                                                  cellH H22 ⟨q30, o26 + 1, none⟩ = some (.int .i64 n23) ∧
                                                  K (.agg #[.int .i64 0, .int .i64 m_1, .int .i64 n23, .int .i64 m_4, .slice none 0 0]) H22))))))))))))))))))
theorem logboomref15_Groups_Apply_eq (g : Nat) (go : Nat) (m_0 : Int) (m_1 : Int) (m_2 : Int) (m_3 : Int) (m_4 : Int) (m_5 : ByteArray) (m_6 : ByteArray) (m_7 : Sl) (H : Heap) (K : Value → Heap → Prop) : logboomref15_Groups_Apply_vc g go m_0 m_1 m_2 m_3 m_4 m_5 m_6 m_7 H K = denFn Tryd.prog logboomref15_Groups_Apply_ann Tryd.f22 (bodyOf Tryd.f22) [.pointer (some ⟨g, go, none⟩), .agg #[.int .i64 m_0, .int .i64 m_1, .int .i64 m_2, .int .i64 m_3, .int .i64 m_4, .string m_5, .string m_6, .slice m_7.p m_7.n m_7.c]] H K := by kernel_rfl
theorem logboomref15_Groups_Apply_fn (g : Nat) (go : Nat) (m_0 : Int) (m_1 : Int) (m_2 : Int) (m_3 : Int) (m_4 : Int) (m_5 : ByteArray) (m_6 : ByteArray) (m_7 : Sl) {H : Heap} {K : Value → Heap → Prop} (h : logboomref15_Groups_Apply_vc g go m_0 m_1 m_2 m_3 m_4 m_5 m_6 m_7 H K) : FnH Tryd.prog 22 #[.pointer (some ⟨g, go, none⟩), .agg #[.int .i64 m_0, .int .i64 m_1, .int .i64 m_2, .int .i64 m_3, .int .i64 m_4, .string m_5, .string m_6, .slice m_7.p m_7.n m_7.c]] H K :=
  denFn_fn Tryd.mixed logboomref15_Groups_Apply_ann Tryd.func22 (bodyOf_spec (by kernel_rfl)) (logboomref15_Groups_Apply_eq g go m_0 m_1 m_2 m_3 m_4 m_5 m_6 m_7 H K) h

/-! function 23: logboom/logboomlaw15.alike -/
def logboomlaw15_alike_ann : Anns := { hid := [], loops := [(0, { slots := [(8, .int .i64)], kept := [0, 1, 2, 7], locs := [], keptL := [] }), (2, { slots := [(11, .int .i64)], kept := [0, 1, 2, 7, 8, 9], locs := [], keptL := [] })], joins := [], mix := [(2, []), (8, []), (9, [])] }
def logboomlaw15_alike_vc (g : Nat) (go : Nat) (r : Nat) (ro : Nat) (part : Int) (H : Heap) (K : Value → Heap → Prop) : Prop :=
  FnH Tryd.prog 41 #[.pointer (some ⟨g, go, none⟩)] H fun r1 H1 =>
    ∃ l1 : Sl,
    r1 = .slice l1.p l1.n l1.c ∧
    ∃ l2 : Sl,
    cellH H1 ⟨r, ro, none⟩ = some (.slice l2.p l2.n l2.c) ∧
    br (((l1.n : Nat) : Int) != (l2.n : Nat)) (
      K (.bool false) H1)
     (
      ∃ n1 : Int,
      cellH H1 ⟨r, ro + 1, none⟩ = some (.int .i64 n1) ∧
      FnH Tryd.prog 20 #[.pointer (some ⟨g, go, none⟩)] H1 fun r2 H2 =>
        ∃ n2 : Int,
        r2 = .int .i64 n2 ∧
        Sub H1 H2 ∧
        br ((n2 : Int) != n1) (
          K (.bool false) H2)
         (
          ∃ I1 : Int → Heap → Prop,
          ∃ M1 : Int → Heap → Nat,
          I1 0 H2 ∧
          ∀ i_1 : Int,
          ∀ H3 : Heap,
          I1 i_1 H3 →
          br (decide ((i_1 : Int) < (l1.n : Nat))) (
            ∃ l3 : Sl,
            cellH H3 ⟨r, ro, none⟩ = some (.slice l3.p l3.n l3.c) ∧
            ∃ q1 : Nat,
            ∃ o1 : Nat,
            (l3.p : Option Addr) = some ⟨q1, o1, none⟩ ∧
            0 ≤ (i_1 : Int) ∧
            (i_1 : Int) < (l3.n : Nat) ∧
            ∃ p1 : Option Addr,
            cellH H3 ⟨q1, o1 + Int.toNat i_1, none⟩ = some (.pointer p1) ∧
            ptrm p1 fun q2 o2 =>
            ∃ s1 : ByteArray,
            cellH H3 ⟨q2, o2, none⟩ = some (.string s1) ∧
            ptrm p1 fun q3 o3 =>
            ∃ l4 : Sl,
            cellH H3 ⟨q3, o3 + 3, none⟩ = some (.slice l4.p l4.n l4.c) ∧
            FnH Tryd.prog 17 #[.pointer (some ⟨g, go, none⟩), .string s1] H3 fun r3 H4 =>
              ∃ l5 : Sl,
              r3 = .slice l5.p l5.n l5.c ∧
              Sub H3 H4 ∧
              FnH Tryd.prog 12 #[.slice l5.p l5.n l5.c, .slice l4.p l4.n l4.c] H4 fun r4 H5 =>
                ∃ b1 : Bool,
                r4 = .bool b1 ∧
                Sub H3 H5 ∧
                ∃ q4 : Nat,
                ∃ o4 : Nat,
                (l1.p : Option Addr) = some ⟨q4, o4, none⟩ ∧
                0 ≤ (i_1 : Int) ∧
                (i_1 : Int) < (l1.n : Nat) ∧
                ∃ s2 : ByteArray,
                cellH H5 ⟨q4, o4 + Int.toNat i_1, none⟩ = some (.string s2) ∧
                ptrm p1 fun q5 o5 =>
                ∃ s3 : ByteArray,
                cellH H5 ⟨q5, o5, none⟩ = some (.string s3) ∧
                br (!(s2.toList == s3.toList)) (
                  K (.bool false) H5)
                 (
                  ptrm p1 fun q6 o6 =>
                  ∃ s4 : ByteArray,
                  cellH H5 ⟨q6, o6, none⟩ = some (.string s4) ∧
                  ptrm p1 fun q7 o7 =>
                  ∃ n3 : Int,
                  cellH H5 ⟨q7, o7 + 1, none⟩ = some (.int .i64 n3) ∧
                  FnH Tryd.prog 18 #[.pointer (some ⟨g, go, none⟩), .string s4] H5 fun r5 H6 =>
                    ∃ n4 : Int,
                    r5 = .int .i64 n4 ∧
                    Sub H5 H6 ∧
                    br ((n4 : Int) != n3) (
                      K (.bool false) H6)
                     (
                      br (!b1) (
                        K (.bool false) H6)
                       (
                        ptrm p1 fun q8 o8 =>
                        ∃ s5 : ByteArray,
                        cellH H5 ⟨q8, o8, none⟩ = some (.string s5) ∧
                        FnH Tryd.prog 19 #[.pointer (some ⟨g, go, none⟩), .string s5, .int .i64 part] H6 fun r6 H7 =>
                          ∃ n5 : Int,
                          r6 = .int .i64 n5 ∧
                          Sub H5 H7 ∧
                          FnH Tryd.prog 40 #[.pointer p1, .int .i64 part] H7 fun r7 H8 =>
                            ∃ n6 : Int,
                            r7 = .int .i64 n6 ∧
                            Sub H5 H8 ∧
                            br ((n5 : Int) != n6) (
                              K (.bool false) H8)
                             (
                              ptrm p1 fun q9 o9 =>
                              ∃ s6 : ByteArray,
                              cellH H5 ⟨q9, o9, none⟩ = some (.string s6) ∧
                              FnH Tryd.prog 16 #[.pointer (some ⟨g, go, none⟩), .string s6, .int .i64 part] H8 fun r8 H9 =>
                                ∃ n7 : Int,
                                r8 = .int .i64 n7 ∧
                                Sub H5 H9 ∧
                                FnH Tryd.prog 36 #[.pointer p1, .int .i64 part] H9 fun r9 H10 =>
                                  ∃ n8 : Int,
                                  r9 = .int .i64 n8 ∧
                                  Sub H5 H10 ∧
                                  br ((n7 : Int) != n8) (
                                    K (.bool false) H10)
                                   (
                                    ∃ I2 : Int → Heap → Prop,
                                    ∃ M2 : Int → Heap → Nat,
                                    I2 1 H10 ∧
                                    ∀ p_1 : Int,
                                    ∀ H11 : Heap,
                                    I2 p_1 H11 →
                                    br (decide ((p_1 : Int) ≤ 16)) (
                                      ptrm p1 fun q10 o10 =>
                                      ∃ s7 : ByteArray,
                                      cellH H11 ⟨q10, o10, none⟩ = some (.string s7) ∧
                                      FnH Tryd.prog 19 #[.pointer (some ⟨g, go, none⟩), .string s7, .int .i64 p_1] H11 fun r10 H12 =>
                                        ∃ n9 : Int,
                                        r10 = .int .i64 n9 ∧
                                        FnH Tryd.prog 40 #[.pointer p1, .int .i64 p_1] H12 fun r11 H13 =>
                                          ∃ n10 : Int,
                                          r11 = .int .i64 n10 ∧
                                          br ((n9 : Int) != n10) (
                                            K (.bool false) H13)
                                           (
                                            ptrm p1 fun q11 o11 =>
                                            ∃ s8 : ByteArray,
                                            cellH H13 ⟨q11, o11, none⟩ = some (.string s8) ∧
                                            FnH Tryd.prog 16 #[.pointer (some ⟨g, go, none⟩), .string s8, .int .i64 p_1] H13 fun r12 H14 =>
                                              ∃ n11 : Int,
                                              r12 = .int .i64 n11 ∧
                                              FnH Tryd.prog 36 #[.pointer p1, .int .i64 p_1] H14 fun r13 H15 =>
                                                ∃ n12 : Int,
                                                r13 = .int .i64 n12 ∧
                                                br ((n11 : Int) != n12) (
                                                  K (.bool false) H15)
                                                 (
                                                  SelfEq ([.v (.pointer (some ⟨g, go, none⟩)), .v (.pointer (some ⟨r, ro, none⟩)), .v (.int .i64 part), .v (.slice l1.p l1.n l1.c), .v (.int .i64 i_1), .v (.pointer p1)], [], []) ∧
                                                  I2 (IntKind.wrap .i64 (p_1 + 1)) H15 ∧
                                                  M2 (IntKind.wrap .i64 (p_1 + 1)) H15 < M2 p_1 H11)))
                                     (
                                      SelfEq ([.v (.pointer (some ⟨g, go, none⟩)), .v (.pointer (some ⟨r, ro, none⟩)), .v (.int .i64 part), .v (.slice l1.p l1.n l1.c)], [], []) ∧
                                      I1 (IntKind.wrap .i64 (i_1 + 1)) H11 ∧
                                      M1 (IntKind.wrap .i64 (i_1 + 1)) H11 < M1 i_1 H3)))))))
           (
            FnH Tryd.prog 18 #[.pointer (some ⟨g, go, none⟩), .string (⟨#[110, 111, 32, 115, 117, 99, 104, 32, 103, 114, 111, 117, 112]⟩ : ByteArray)] H3 fun r14 H16 =>
              ∃ n13 : Int,
              r14 = .int .i64 n13 ∧
              br ((n13 : Int) == 0) (
                FnH Tryd.prog 17 #[.pointer (some ⟨g, go, none⟩), .string (⟨#[110, 111, 32, 115, 117, 99, 104, 32, 103, 114, 111, 117, 112]⟩ : ByteArray)] H16 fun r15 H17 =>
                  ∃ l6 : Sl,
                  r15 = .slice l6.p l6.n l6.c ∧
                  br (((l6.n : Nat) : Int) == 0) (
                    FnH Tryd.prog 19 #[.pointer (some ⟨g, go, none⟩), .string (⟨#[110, 111, 32, 115, 117, 99, 104, 32, 103, 114, 111, 117, 112]⟩ : ByteArray), .int .i64 part] H17 fun r16 H18 =>
                      ∃ n14 : Int,
                      r16 = .int .i64 n14 ∧
                      br ((n14 : Int) == 0) (
                        FnH Tryd.prog 16 #[.pointer (some ⟨g, go, none⟩), .string (⟨#[110, 111, 32, 115, 117, 99, 104, 32, 103, 114, 111, 117, 112]⟩ : ByteArray), .int .i64 part] H18 fun r17 H19 =>
                          ∃ n15 : Int,
                          r17 = .int .i64 n15 ∧
                          K (.bool ((n15 : Int) == (-1))) H19)
                       (
                        K (.bool false) H18))
                   (
                    K (.bool false) H17))
               (
                K (.bool false) H16))))
theorem logboomlaw15_alike_eq (g : Nat) (go : Nat) (r : Nat) (ro : Nat) (part : Int) (H : Heap) (K : Value → Heap → Prop) : logboomlaw15_alike_vc g go r ro part H K = denFn Tryd.prog logboomlaw15_alike_ann Tryd.f23 (bodyOf Tryd.f23) [.pointer (some ⟨g, go, none⟩), .pointer (some ⟨r, ro, none⟩), .int .i64 part] H K := by kernel_rfl
theorem logboomlaw15_alike_fn (g : Nat) (go : Nat) (r : Nat) (ro : Nat) (part : Int) {H : Heap} {K : Value → Heap → Prop} (h : logboomlaw15_alike_vc g go r ro part H K) : FnH Tryd.prog 23 #[.pointer (some ⟨g, go, none⟩), .pointer (some ⟨r, ro, none⟩), .int .i64 part] H K :=
  denFn_fn Tryd.mixed logboomlaw15_alike_ann Tryd.func23 (bodyOf_spec (by kernel_rfl)) (logboomlaw15_alike_eq g go r ro part H K) h

end Go.Proofs.YtcbobncipnjbjaaDoor
