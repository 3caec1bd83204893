/- Formulas of functions, printed by this session's vc.py; each is tied to the program by the kernel. -/
import Derived.Test.YtmofinghoacobaaGreatDoorProg
import Derived.KernelRfl
import Derived.Test.YtmofinghoacobaaGreatDoorHlFn
import Derived.Test.YtmofinghoacobaaGreatDoorV7
namespace Go.Proofs.YtmofinghoacobaaGreatDoor
open Go.HL
set_option maxRecDepth 100000
/-! function 15: (*logboom/meta.Image).Topics -/
def meta_Image_Topics_ann : Anns := { hid := [5], loops := [(0, { slots := [(3, .slice), (11, .int .i64)], kept := [9, 10], locs := [], keptL := [] })], joins := [], mix := [] }
def meta_Image_Topics_vc (m : Nat) (mo : Nat) (H : Heap) (K : Value → Heap → Prop) : Prop :=
  ∃ l1 : Sl,
  cellH H ⟨m, mo + 2, none⟩ = some (.slice l1.p l1.n l1.c) ∧
  ∃ I1 : Sl → Int → Heap → Prop,
  ∃ M1 : Sl → Int → Heap → Nat,
  I1 ⟨none, 0, 0⟩ 0 H ∧
  ∀ l_1 : Sl,
  ∀ n_1 : Int,
  ∀ H1 : Heap,
  I1 l_1 n_1 H1 →
  br (decide ((n_1 : Int) < (l1.n : Nat))) (
    ∃ q1 : Nat,
    ∃ o1 : Nat,
    (l1.p : Option Addr) = some ⟨q1, o1, none⟩ ∧
    0 ≤ (n_1 : Int) ∧
    (n_1 : Int) < (l1.n : Nat) ∧
    ∃ s1 : ByteArray,
    cellH H1 ⟨q1, o1 + Int.toNat n_1 * 3, none⟩ = some (.string s1) ∧
    ∃ n1 : Int,
    cellH H1 ⟨q1, o1 + Int.toNat n_1 * 3 + 1, none⟩ = some (.int .i64 n1) ∧
    ∃ n2 : Int,
    cellH H1 ⟨q1, o1 + Int.toNat n_1 * 3 + 2, none⟩ = some (.int .i64 n2) ∧
    ∀ q2 : Nat,
    H1 q2 = none →
    letH (Heap.upd H1 q2 (.cells #[.string s1] 9 (0, 0))) fun H2 =>
    runH Tryz.prog (Builtin.append_ #[37, 37] 37 #[.slice l_1.p l_1.n l_1.c, .slice (some ⟨q2, 0, none⟩) 1 1]) H2 fun r1 H3 =>
      ∃ l2 : Sl,
      r1 = .slice l2.p l2.n l2.c ∧
      SelfEq ([.v (.slice l1.p l1.n l1.c), .v (.int .i64 (l1.n : Nat))], [], []) ∧
      I1 l2 (IntKind.wrap .i64 (n_1 + 1)) H3 ∧
      M1 l2 (IntKind.wrap .i64 (n_1 + 1)) H3 < M1 l_1 n_1 H1)
   (
    FnH Tryz.prog 38 #[.slice l_1.p l_1.n l_1.c] H1 fun r2 H4 =>
      r2 = .tuple #[] ∧
      K (.slice l_1.p l_1.n l_1.c) H4)
theorem meta_Image_Topics_eq (m : Nat) (mo : Nat) (H : Heap) (K : Value → Heap → Prop) : meta_Image_Topics_vc m mo H K = denFn Tryz.prog meta_Image_Topics_ann Tryz.f15 (bodyOf Tryz.f15) [.pointer (some ⟨m, mo, none⟩)] H K := by kernel_rfl
theorem meta_Image_Topics_fn (m : Nat) (mo : Nat) {H : Heap} {K : Value → Heap → Prop} (h : meta_Image_Topics_vc m mo H K) : FnH Tryz.prog 15 #[.pointer (some ⟨m, mo, none⟩)] H K :=
  denFn_fn Tryz.mixed meta_Image_Topics_ann Tryz.func15 (bodyOf_spec (by kernel_rfl)) (meta_Image_Topics_eq m mo H K) h

/-! function 20: logboom/logboomlaw12.rises -/
def logboomlaw12_rises_ann : Anns := { hid := [3, 4], loops := [(0, { slots := [(8, .int .i64)], kept := [2, 3, 4], locs := [], keptL := [0, 1] }), (2, { slots := [(11, .int .i64)], kept := [3, 4], locs := [], keptL := [0, 1] })], joins := [((0, 3), { slots := [(55, .bool)], kept := [2, 3, 4], locs := [], keptL := [0, 1] }), ((0, 14), { slots := [(108, .bool)], kept := [3, 4], locs := [], keptL := [0, 1] })], mix := [(10, []), (11, []), (18, [])] }
def logboomlaw12_rises_vc (p_0 : Int) (p_1 : Int) (p_2 : Int) (p_3 : Int) (p_4 : Sl) (p_5 : Sl) (p_6 : Sl) (p_7 : Sl) (p_8 : Int) (q_0 : Int) (q_1 : Int) (q_2 : Int) (q_3 : Int) (q_4 : Sl) (q_5 : Sl) (q_6 : Sl) (q_7 : Sl) (q_8 : Int) (kind : Int) (H : Heap) (K : Value → Heap → Prop) : Prop :=
  br (decide ((q_3 : Int) < p_3)) (
    K (.bool false) H)
   (
    br (decide ((q_3 : Int) > (IntKind.wrap .i64 (p_3 + 1)))) (
      K (.bool false) H)
     (
      br (decide ((q_2 : Int) < p_2)) (
        K (.bool false) H)
       (
        br (!(((q_1 : Int) != p_1) == (decide ((q_2 : Int) > p_2)))) (
          K (.bool false) H)
         (
          ∃ J1 : Bool → Heap → Prop,
          (br ((q_1 : Int) != 0) (
            SelfEq ([.v (.int .i64 kind), .loc 0 0, .loc 1 0], [some (41, [.int .i64 p_0, .int .i64 p_1, .int .i64 p_2, .int .i64 p_3, .slice p_4.p p_4.n p_4.c, .slice p_5.p p_5.n p_5.c, .slice p_6.p p_6.n p_6.c, .slice p_7.p p_7.n p_7.c, .int .i64 p_8]), some (41, [.int .i64 q_0, .int .i64 q_1, .int .i64 q_2, .int .i64 q_3, .slice q_4.p q_4.n q_4.c, .slice q_5.p q_5.n q_5.c, .slice q_6.p q_6.n q_6.c, .slice q_7.p q_7.n q_7.c, .int .i64 q_8])], []) ∧
            J1 ((q_1 : Int) != p_1) H)
           (
            SelfEq ([.v (.int .i64 kind), .loc 0 0, .loc 1 0], [some (41, [.int .i64 p_0, .int .i64 p_1, .int .i64 p_2, .int .i64 p_3, .slice p_4.p p_4.n p_4.c, .slice p_5.p p_5.n p_5.c, .slice p_6.p p_6.n p_6.c, .slice p_7.p p_7.n p_7.c, .int .i64 p_8]), some (41, [.int .i64 q_0, .int .i64 q_1, .int .i64 q_2, .int .i64 q_3, .slice q_4.p q_4.n q_4.c, .slice q_5.p q_5.n q_5.c, .slice q_6.p q_6.n q_6.c, .slice q_7.p q_7.n q_7.c, .int .i64 q_8])], []) ∧
            J1 false H)) ∧
          ∀ b_1 : Bool,
          ∀ H1 : Heap,
          J1 b_1 H1 →
          br (b_1) (
            FnH Tryz.prog 17 #[.slice p_4.p p_4.n p_4.c, .int .i64 q_1] H1 fun r1 H2 =>
              ∃ b1 : Bool,
              r1 = .bool b1 ∧
              br (!b1) (
                K (.bool false) H2)
               (
                ∃ I1 : Int → Heap → Prop,
                ∃ M1 : Int → Heap → Nat,
                I1 0 H2 ∧
                ∀ i_1 : Int,
                ∀ H3 : Heap,
                I1 i_1 H3 →
                br (decide ((i_1 : Int) < (p_5.n : Nat))) (
                  ∃ q1 : Nat,
                  ∃ o1 : Nat,
                  (p_5.p : Option Addr) = some ⟨q1, o1, none⟩ ∧
                  0 ≤ (i_1 : Int) ∧
                  (i_1 : Int) < (p_5.n : Nat) ∧
                  ∃ n1 : Int,
                  cellH H3 ⟨q1, o1 + Int.toNat i_1, none⟩ = some (.int .i64 n1) ∧
                  FnH Tryz.prog 17 #[.slice q_5.p q_5.n q_5.c, .int .i64 n1] H3 fun r2 H4 =>
                    ∃ b2 : Bool,
                    r2 = .bool b2 ∧
                    Sub H3 H4 ∧
                    ∃ q2 : Nat,
                    ∃ o2 : Nat,
                    (p_5.p : Option Addr) = some ⟨q2, o2, none⟩ ∧
                    0 ≤ (i_1 : Int) ∧
                    (i_1 : Int) < (p_5.n : Nat) ∧
                    ∃ n2 : Int,
                    cellH H4 ⟨q2, o2 + Int.toNat i_1, none⟩ = some (.int .i64 n2) ∧
                    FnH Tryz.prog 17 #[.slice p_6.p p_6.n p_6.c, .int .i64 n2] H4 fun r3 H5 =>
                      ∃ b3 : Bool,
                      r3 = .bool b3 ∧
                      Sub H4 H5 ∧
                      br (!b2) (
                        br ((kind : Int) != 10) (
                          br ((kind : Int) != 7) (
                            K (.bool false) H5)
                           (
                            br (!b3) (
                              K (.bool false) H5)
                             (
                              SelfEq ([.v (.int .i64 kind), .loc 0 0, .loc 1 0], [some (41, [.int .i64 p_0, .int .i64 p_1, .int .i64 p_2, .int .i64 p_3, .slice p_4.p p_4.n p_4.c, .slice p_5.p p_5.n p_5.c, .slice p_6.p p_6.n p_6.c, .slice p_7.p p_7.n p_7.c, .int .i64 p_8]), some (41, [.int .i64 q_0, .int .i64 q_1, .int .i64 q_2, .int .i64 q_3, .slice q_4.p q_4.n q_4.c, .slice q_5.p q_5.n q_5.c, .slice q_6.p q_6.n q_6.c, .slice q_7.p q_7.n q_7.c, .int .i64 q_8])], []) ∧
                              I1 (IntKind.wrap .i64 (i_1 + 1)) H5 ∧
                              M1 (IntKind.wrap .i64 (i_1 + 1)) H5 < M1 i_1 H3)))
                         (
                          SelfEq ([.v (.int .i64 kind), .loc 0 0, .loc 1 0], [some (41, [.int .i64 p_0, .int .i64 p_1, .int .i64 p_2, .int .i64 p_3, .slice p_4.p p_4.n p_4.c, .slice p_5.p p_5.n p_5.c, .slice p_6.p p_6.n p_6.c, .slice p_7.p p_7.n p_7.c, .int .i64 p_8]), some (41, [.int .i64 q_0, .int .i64 q_1, .int .i64 q_2, .int .i64 q_3, .slice q_4.p q_4.n q_4.c, .slice q_5.p q_5.n q_5.c, .slice q_6.p q_6.n q_6.c, .slice q_7.p q_7.n q_7.c, .int .i64 q_8])], []) ∧
                          I1 (IntKind.wrap .i64 (i_1 + 1)) H5 ∧
                          M1 (IntKind.wrap .i64 (i_1 + 1)) H5 < M1 i_1 H3))
                       (
                        SelfEq ([.v (.int .i64 kind), .loc 0 0, .loc 1 0], [some (41, [.int .i64 p_0, .int .i64 p_1, .int .i64 p_2, .int .i64 p_3, .slice p_4.p p_4.n p_4.c, .slice p_5.p p_5.n p_5.c, .slice p_6.p p_6.n p_6.c, .slice p_7.p p_7.n p_7.c, .int .i64 p_8]), some (41, [.int .i64 q_0, .int .i64 q_1, .int .i64 q_2, .int .i64 q_3, .slice q_4.p q_4.n q_4.c, .slice q_5.p q_5.n q_5.c, .slice q_6.p q_6.n q_6.c, .slice q_7.p q_7.n q_7.c, .int .i64 q_8])], []) ∧
                        I1 (IntKind.wrap .i64 (i_1 + 1)) H5 ∧
                        M1 (IntKind.wrap .i64 (i_1 + 1)) H5 < M1 i_1 H3))
                 (
                  ∃ J2 : Bool → Heap → Prop,
                  (br ((kind : Int) == 10) (
                    SelfEq ([.loc 0 0, .loc 1 0], [some (41, [.int .i64 p_0, .int .i64 p_1, .int .i64 p_2, .int .i64 p_3, .slice p_4.p p_4.n p_4.c, .slice p_5.p p_5.n p_5.c, .slice p_6.p p_6.n p_6.c, .slice p_7.p p_7.n p_7.c, .int .i64 p_8]), some (41, [.int .i64 q_0, .int .i64 q_1, .int .i64 q_2, .int .i64 q_3, .slice q_4.p q_4.n q_4.c, .slice q_5.p q_5.n q_5.c, .slice q_6.p q_6.n q_6.c, .slice q_7.p q_7.n q_7.c, .int .i64 q_8])], []) ∧
                    J2 (decide ((q_3 : Int) > p_3)) H3)
                   (
                    SelfEq ([.loc 0 0, .loc 1 0], [some (41, [.int .i64 p_0, .int .i64 p_1, .int .i64 p_2, .int .i64 p_3, .slice p_4.p p_4.n p_4.c, .slice p_5.p p_5.n p_5.c, .slice p_6.p p_6.n p_6.c, .slice p_7.p p_7.n p_7.c, .int .i64 p_8]), some (41, [.int .i64 q_0, .int .i64 q_1, .int .i64 q_2, .int .i64 q_3, .slice q_4.p q_4.n q_4.c, .slice q_5.p q_5.n q_5.c, .slice q_6.p q_6.n q_6.c, .slice q_7.p q_7.n q_7.c, .int .i64 q_8])], []) ∧
                    J2 false H3)) ∧
                  ∀ b_2 : Bool,
                  ∀ H6 : Heap,
                  J2 b_2 H6 →
                  br (b_2) (
                    ∃ I2 : Int → Heap → Prop,
                    ∃ M2 : Int → Heap → Nat,
                    I2 0 H6 ∧
                    ∀ i_2 : Int,
                    ∀ H7 : Heap,
                    I2 i_2 H7 →
                    br (decide ((i_2 : Int) < (q_5.n : Nat))) (
                      ∃ q3 : Nat,
                      ∃ o3 : Nat,
                      (q_5.p : Option Addr) = some ⟨q3, o3, none⟩ ∧
                      0 ≤ (i_2 : Int) ∧
                      (i_2 : Int) < (q_5.n : Nat) ∧
                      ∃ n3 : Int,
                      cellH H7 ⟨q3, o3 + Int.toNat i_2, none⟩ = some (.int .i64 n3) ∧
                      FnH Tryz.prog 17 #[.slice p_4.p p_4.n p_4.c, .int .i64 n3] H7 fun r4 H8 =>
                        ∃ b4 : Bool,
                        r4 = .bool b4 ∧
                        Sub H7 H8 ∧
                        br (!b4) (
                          K (.bool false) H8)
                         (
                          SelfEq ([.loc 0 0, .loc 1 0], [some (41, [.int .i64 p_0, .int .i64 p_1, .int .i64 p_2, .int .i64 p_3, .slice p_4.p p_4.n p_4.c, .slice p_5.p p_5.n p_5.c, .slice p_6.p p_6.n p_6.c, .slice p_7.p p_7.n p_7.c, .int .i64 p_8]), some (41, [.int .i64 q_0, .int .i64 q_1, .int .i64 q_2, .int .i64 q_3, .slice q_4.p q_4.n q_4.c, .slice q_5.p q_5.n q_5.c, .slice q_6.p q_6.n q_6.c, .slice q_7.p q_7.n q_7.c, .int .i64 q_8])], []) ∧
                          I2 (IntKind.wrap .i64 (i_2 + 1)) H8 ∧
                          M2 (IntKind.wrap .i64 (i_2 + 1)) H8 < M2 i_2 H7))
                     (
                      K (.bool true) H7))
                   (
                    K (.bool true) H6))))
           (
            ∃ I3 : Int → Heap → Prop,
            ∃ M3 : Int → Heap → Nat,
            I3 0 H1 ∧
            ∀ i_3 : Int,
            ∀ H9 : Heap,
            I3 i_3 H9 →
            br (decide ((i_3 : Int) < (p_5.n : Nat))) (
              ∃ q4 : Nat,
              ∃ o4 : Nat,
              (p_5.p : Option Addr) = some ⟨q4, o4, none⟩ ∧
              0 ≤ (i_3 : Int) ∧
              (i_3 : Int) < (p_5.n : Nat) ∧
              ∃ n4 : Int,
              cellH H9 ⟨q4, o4 + Int.toNat i_3, none⟩ = some (.int .i64 n4) ∧
              FnH Tryz.prog 17 #[.slice q_5.p q_5.n q_5.c, .int .i64 n4] H9 fun r5 H10 =>
                ∃ b5 : Bool,
                r5 = .bool b5 ∧
                Sub H9 H10 ∧
                ∃ q5 : Nat,
                ∃ o5 : Nat,
                (p_5.p : Option Addr) = some ⟨q5, o5, none⟩ ∧
                0 ≤ (i_3 : Int) ∧
                (i_3 : Int) < (p_5.n : Nat) ∧
                ∃ n5 : Int,
                cellH H10 ⟨q5, o5 + Int.toNat i_3, none⟩ = some (.int .i64 n5) ∧
                FnH Tryz.prog 17 #[.slice p_6.p p_6.n p_6.c, .int .i64 n5] H10 fun r6 H11 =>
                  ∃ b6 : Bool,
                  r6 = .bool b6 ∧
                  Sub H10 H11 ∧
                  br (!b5) (
                    br ((kind : Int) != 10) (
                      br ((kind : Int) != 7) (
                        K (.bool false) H11)
                       (
                        br (!b6) (
                          K (.bool false) H11)
                         (
                          SelfEq ([.v (.int .i64 kind), .loc 0 0, .loc 1 0], [some (41, [.int .i64 p_0, .int .i64 p_1, .int .i64 p_2, .int .i64 p_3, .slice p_4.p p_4.n p_4.c, .slice p_5.p p_5.n p_5.c, .slice p_6.p p_6.n p_6.c, .slice p_7.p p_7.n p_7.c, .int .i64 p_8]), some (41, [.int .i64 q_0, .int .i64 q_1, .int .i64 q_2, .int .i64 q_3, .slice q_4.p q_4.n q_4.c, .slice q_5.p q_5.n q_5.c, .slice q_6.p q_6.n q_6.c, .slice q_7.p q_7.n q_7.c, .int .i64 q_8])], []) ∧
                          I3 (IntKind.wrap .i64 (i_3 + 1)) H11 ∧
                          M3 (IntKind.wrap .i64 (i_3 + 1)) H11 < M3 i_3 H9)))
                     (
                      SelfEq ([.v (.int .i64 kind), .loc 0 0, .loc 1 0], [some (41, [.int .i64 p_0, .int .i64 p_1, .int .i64 p_2, .int .i64 p_3, .slice p_4.p p_4.n p_4.c, .slice p_5.p p_5.n p_5.c, .slice p_6.p p_6.n p_6.c, .slice p_7.p p_7.n p_7.c, .int .i64 p_8]), some (41, [.int .i64 q_0, .int .i64 q_1, .int .i64 q_2, .int .i64 q_3, .slice q_4.p q_4.n q_4.c, .slice q_5.p q_5.n q_5.c, .slice q_6.p q_6.n q_6.c, .slice q_7.p q_7.n q_7.c, .int .i64 q_8])], []) ∧
                      I3 (IntKind.wrap .i64 (i_3 + 1)) H11 ∧
                      M3 (IntKind.wrap .i64 (i_3 + 1)) H11 < M3 i_3 H9))
                   (
                    SelfEq ([.v (.int .i64 kind), .loc 0 0, .loc 1 0], [some (41, [.int .i64 p_0, .int .i64 p_1, .int .i64 p_2, .int .i64 p_3, .slice p_4.p p_4.n p_4.c, .slice p_5.p p_5.n p_5.c, .slice p_6.p p_6.n p_6.c, .slice p_7.p p_7.n p_7.c, .int .i64 p_8]), some (41, [.int .i64 q_0, .int .i64 q_1, .int .i64 q_2, .int .i64 q_3, .slice q_4.p q_4.n q_4.c, .slice q_5.p q_5.n q_5.c, .slice q_6.p q_6.n q_6.c, .slice q_7.p q_7.n q_7.c, .int .i64 q_8])], []) ∧
                    I3 (IntKind.wrap .i64 (i_3 + 1)) H11 ∧
                    M3 (IntKind.wrap .i64 (i_3 + 1)) H11 < M3 i_3 H9))
             (
              ∃ J3 : Bool → Heap → Prop,
              (br ((kind : Int) == 10) (
                SelfEq ([.loc 0 0, .loc 1 0], [some (41, [.int .i64 p_0, .int .i64 p_1, .int .i64 p_2, .int .i64 p_3, .slice p_4.p p_4.n p_4.c, .slice p_5.p p_5.n p_5.c, .slice p_6.p p_6.n p_6.c, .slice p_7.p p_7.n p_7.c, .int .i64 p_8]), some (41, [.int .i64 q_0, .int .i64 q_1, .int .i64 q_2, .int .i64 q_3, .slice q_4.p q_4.n q_4.c, .slice q_5.p q_5.n q_5.c, .slice q_6.p q_6.n q_6.c, .slice q_7.p q_7.n q_7.c, .int .i64 q_8])], []) ∧
                J3 (decide ((q_3 : Int) > p_3)) H9)
               (
                SelfEq ([.loc 0 0, .loc 1 0], [some (41, [.int .i64 p_0, .int .i64 p_1, .int .i64 p_2, .int .i64 p_3, .slice p_4.p p_4.n p_4.c, .slice p_5.p p_5.n p_5.c, .slice p_6.p p_6.n p_6.c, .slice p_7.p p_7.n p_7.c, .int .i64 p_8]), some (41, [.int .i64 q_0, .int .i64 q_1, .int .i64 q_2, .int .i64 q_3, .slice q_4.p q_4.n q_4.c, .slice q_5.p q_5.n q_5.c, .slice q_6.p q_6.n q_6.c, .slice q_7.p q_7.n q_7.c, .int .i64 q_8])], []) ∧
                J3 false H9)) ∧
              ∀ b_3 : Bool,
              ∀ H12 : Heap,
              J3 b_3 H12 →
              br (b_3) (
                ∃ I4 : Int → Heap → Prop,
                ∃ M4 : Int → Heap → Nat,
                I4 0 H12 ∧
                ∀ i_4 : Int,
                ∀ H13 : Heap,
                I4 i_4 H13 →
                br (decide ((i_4 : Int) < (q_5.n : Nat))) (
                  ∃ q6 : Nat,
                  ∃ o6 : Nat,
                  (q_5.p : Option Addr) = some ⟨q6, o6, none⟩ ∧
                  0 ≤ (i_4 : Int) ∧
                  (i_4 : Int) < (q_5.n : Nat) ∧
                  ∃ n6 : Int,
                  cellH H13 ⟨q6, o6 + Int.toNat i_4, none⟩ = some (.int .i64 n6) ∧
                  FnH Tryz.prog 17 #[.slice p_4.p p_4.n p_4.c, .int .i64 n6] H13 fun r7 H14 =>
                    ∃ b7 : Bool,
                    r7 = .bool b7 ∧
                    Sub H13 H14 ∧
                    br (!b7) (
                      K (.bool false) H14)
                     (
                      SelfEq ([.loc 0 0, .loc 1 0], [some (41, [.int .i64 p_0, .int .i64 p_1, .int .i64 p_2, .int .i64 p_3, .slice p_4.p p_4.n p_4.c, .slice p_5.p p_5.n p_5.c, .slice p_6.p p_6.n p_6.c, .slice p_7.p p_7.n p_7.c, .int .i64 p_8]), some (41, [.int .i64 q_0, .int .i64 q_1, .int .i64 q_2, .int .i64 q_3, .slice q_4.p q_4.n q_4.c, .slice q_5.p q_5.n q_5.c, .slice q_6.p q_6.n q_6.c, .slice q_7.p q_7.n q_7.c, .int .i64 q_8])], []) ∧
                      I4 (IntKind.wrap .i64 (i_4 + 1)) H14 ∧
                      M4 (IntKind.wrap .i64 (i_4 + 1)) H14 < M4 i_4 H13))
                 (
                  K (.bool true) H13))
               (
                K (.bool true) H12)))))))
theorem logboomlaw12_rises_eq (p_0 : Int) (p_1 : Int) (p_2 : Int) (p_3 : Int) (p_4 : Sl) (p_5 : Sl) (p_6 : Sl) (p_7 : Sl) (p_8 : Int) (q_0 : Int) (q_1 : Int) (q_2 : Int) (q_3 : Int) (q_4 : Sl) (q_5 : Sl) (q_6 : Sl) (q_7 : Sl) (q_8 : Int) (kind : Int) (H : Heap) (K : Value → Heap → Prop) : logboomlaw12_rises_vc p_0 p_1 p_2 p_3 p_4 p_5 p_6 p_7 p_8 q_0 q_1 q_2 q_3 q_4 q_5 q_6 q_7 q_8 kind H K = denFn Tryz.prog logboomlaw12_rises_ann Tryz.f20 (bodyOf Tryz.f20) [.agg #[.int .i64 p_0, .int .i64 p_1, .int .i64 p_2, .int .i64 p_3, .slice p_4.p p_4.n p_4.c, .slice p_5.p p_5.n p_5.c, .slice p_6.p p_6.n p_6.c, .slice p_7.p p_7.n p_7.c, .int .i64 p_8], .agg #[.int .i64 q_0, .int .i64 q_1, .int .i64 q_2, .int .i64 q_3, .slice q_4.p q_4.n q_4.c, .slice q_5.p q_5.n q_5.c, .slice q_6.p q_6.n q_6.c, .slice q_7.p q_7.n q_7.c, .int .i64 q_8], .int .i64 kind] H K := by kernel_rfl
theorem logboomlaw12_rises_fn (p_0 : Int) (p_1 : Int) (p_2 : Int) (p_3 : Int) (p_4 : Sl) (p_5 : Sl) (p_6 : Sl) (p_7 : Sl) (p_8 : Int) (q_0 : Int) (q_1 : Int) (q_2 : Int) (q_3 : Int) (q_4 : Sl) (q_5 : Sl) (q_6 : Sl) (q_7 : Sl) (q_8 : Int) (kind : Int) {H : Heap} {K : Value → Heap → Prop} (h : logboomlaw12_rises_vc p_0 p_1 p_2 p_3 p_4 p_5 p_6 p_7 p_8 q_0 q_1 q_2 q_3 q_4 q_5 q_6 q_7 q_8 kind H K) : FnH Tryz.prog 20 #[.agg #[.int .i64 p_0, .int .i64 p_1, .int .i64 p_2, .int .i64 p_3, .slice p_4.p p_4.n p_4.c, .slice p_5.p p_5.n p_5.c, .slice p_6.p p_6.n p_6.c, .slice p_7.p p_7.n p_7.c, .int .i64 p_8], .agg #[.int .i64 q_0, .int .i64 q_1, .int .i64 q_2, .int .i64 q_3, .slice q_4.p q_4.n q_4.c, .slice q_5.p q_5.n q_5.c, .slice q_6.p q_6.n q_6.c, .slice q_7.p q_7.n q_7.c, .int .i64 q_8], .int .i64 kind] H K :=
  denFn_fn Tryz.mixed logboomlaw12_rises_ann Tryz.func20 (bodyOf_spec (by kernel_rfl)) (logboomlaw12_rises_eq p_0 p_1 p_2 p_3 p_4 p_5 p_6 p_7 p_8 q_0 q_1 q_2 q_3 q_4 q_5 q_6 q_7 q_8 kind H K) h

/-! function 5: logboom/logboomlaw12.MetaRules -/
def logboomlaw12_MetaRules_ann : Anns := { hid := [], loops := [(0, { slots := [(6, .int .i64)], kept := [0, 4, 5], locs := [], keptL := [] }), (2, { slots := [(14, .int .i64)], kept := [0, 4, 5, 6, 7, 12, 13], locs := [], keptL := [] }), (4, { slots := [(17, .int .i64)], kept := [0, 4, 5, 6, 7, 12], locs := [], keptL := [] })], joins := [], mix := [(20, []), (26, [])] }
def logboomlaw12_MetaRules_vc (script : Sl) (H : Heap) (K : Value → Heap → Prop) : Prop :=
  FnH Tryz.prog 9 #[] H fun r1 H1 =>
    ∃ b1 : Bool,
    r1 = .bool b1 ∧
    FnH Tryz.prog 10 #[] H1 fun r2 H2 =>
      ∃ p1 : Option Addr,
      r2 = .pointer p1 ∧
      FnH Tryz.prog 10 #[] H2 fun r3 H3 =>
        ∃ p2 : Option Addr,
        r3 = .pointer p2 ∧
        br (!b1) (
          K (.bool false) H3)
         (
          br (Option.isNone p1) (
            K (.bool false) H3)
           (
            br (Option.isNone p2) (
              K (.bool false) H3)
             (
              ∃ I1 : Int → Heap → Prop,
              ∃ M1 : Int → Heap → Nat,
              I1 0 H3 ∧
              ∀ i_1 : Int,
              ∀ H4 : Heap,
              I1 i_1 H4 →
              br (decide ((i_1 : Int) < (script.n : Nat))) (
                br (decide ((i_1 : Int) < 120)) (
                  FnH Tryz.prog 14 #[.pointer p1] H4 fun r4 H5 =>
                    ∃ l1 : Sl,
                    r4 = .slice l1.p l1.n l1.c ∧
                    ∃ q1 : Nat,
                    ∃ o1 : Nat,
                    (script.p : Option Addr) = some ⟨q1, o1, none⟩ ∧
                    0 ≤ (i_1 : Int) ∧
                    (i_1 : Int) < (script.n : Nat) ∧
                    ∃ n1 : Int,
                    cellH H5 ⟨q1, o1 + Int.toNat i_1 * 8, none⟩ = some (.int .i64 n1) ∧
                    ∃ n2 : Int,
                    cellH H5 ⟨q1, o1 + Int.toNat i_1 * 8 + 1, none⟩ = some (.int .i64 n2) ∧
                    ∃ n3 : Int,
                    cellH H5 ⟨q1, o1 + Int.toNat i_1 * 8 + 2, none⟩ = some (.int .i64 n3) ∧
                    ∃ n4 : Int,
                    cellH H5 ⟨q1, o1 + Int.toNat i_1 * 8 + 3, none⟩ = some (.int .i64 n4) ∧
                    ∃ n5 : Int,
                    cellH H5 ⟨q1, o1 + Int.toNat i_1 * 8 + 4, none⟩ = some (.int .i64 n5) ∧
                    ∃ s1 : ByteArray,
                    cellH H5 ⟨q1, o1 + Int.toNat i_1 * 8 + 5, none⟩ = some (.string s1) ∧
                    ∃ s2 : ByteArray,
                    cellH H5 ⟨q1, o1 + Int.toNat i_1 * 8 + 6, none⟩ = some (.string s2) ∧
                    ∃ l2 : Sl,
                    cellH H5 ⟨q1, o1 + Int.toNat i_1 * 8 + 7, none⟩ = some (.slice l2.p l2.n l2.c) ∧
                    FnH Tryz.prog 12 #[.pointer p1, .agg #[.int .i64 n1, .int .i64 n2, .int .i64 n3, .int .i64 n4, .int .i64 n5, .string s1, .string s2, .slice l2.p l2.n l2.c]] H5 fun r5 H6 =>
                      ∃ n6 : Int,
                      ∃ n7 : Int,
                      r5 = .tuple #[.int .i64 n6, .int .i64 n7] ∧
                      ∃ q2 : Nat,
                      ∃ o2 : Nat,
                      (script.p : Option Addr) = some ⟨q2, o2, none⟩ ∧
                      0 ≤ (i_1 : Int) ∧
                      (i_1 : Int) < (script.n : Nat) ∧
                      ∃ n8 : Int,
                      cellH H6 ⟨q2, o2 + Int.toNat i_1 * 8, none⟩ = some (.int .i64 n8) ∧
                      ∃ n9 : Int,
                      cellH H6 ⟨q2, o2 + Int.toNat i_1 * 8 + 1, none⟩ = some (.int .i64 n9) ∧
                      ∃ n10 : Int,
                      cellH H6 ⟨q2, o2 + Int.toNat i_1 * 8 + 2, none⟩ = some (.int .i64 n10) ∧
                      ∃ n11 : Int,
                      cellH H6 ⟨q2, o2 + Int.toNat i_1 * 8 + 3, none⟩ = some (.int .i64 n11) ∧
                      ∃ n12 : Int,
                      cellH H6 ⟨q2, o2 + Int.toNat i_1 * 8 + 4, none⟩ = some (.int .i64 n12) ∧
                      ∃ s3 : ByteArray,
                      cellH H6 ⟨q2, o2 + Int.toNat i_1 * 8 + 5, none⟩ = some (.string s3) ∧
                      ∃ s4 : ByteArray,
                      cellH H6 ⟨q2, o2 + Int.toNat i_1 * 8 + 6, none⟩ = some (.string s4) ∧
                      ∃ l3 : Sl,
                      cellH H6 ⟨q2, o2 + Int.toNat i_1 * 8 + 7, none⟩ = some (.slice l3.p l3.n l3.c) ∧
                      FnH Tryz.prog 12 #[.pointer p2, .agg #[.int .i64 n8, .int .i64 n9, .int .i64 n10, .int .i64 n11, .int .i64 n12, .string s3, .string s4, .slice l3.p l3.n l3.c]] H6 fun r6 H7 =>
                        ∃ n13 : Int,
                        ∃ n14 : Int,
                        r6 = .tuple #[.int .i64 n13, .int .i64 n14] ∧
                        FnH Tryz.prog 14 #[.pointer p1] H7 fun r7 H8 =>
                          ∃ l4 : Sl,
                          r7 = .slice l4.p l4.n l4.c ∧
                          br ((n6 : Int) != n13) (
                            K (.bool false) H8)
                           (
                            br ((n7 : Int) != n14) (
                              K (.bool false) H8)
                             (
                              FnH Tryz.prog 18 #[.pointer p1] H8 fun r8 H9 =>
                                ∃ s5 : ByteArray,
                                r8 = .string s5 ∧
                                FnH Tryz.prog 18 #[.pointer p2] H9 fun r9 H10 =>
                                  ∃ s6 : ByteArray,
                                  r9 = .string s6 ∧
                                  br (!(s5.toList == s6.toList)) (
                                    K (.bool false) H10)
                                   (
                                    br (decide (((l4.n : Nat) : Int) < (l1.n : Nat))) (
                                      K (.bool false) H10)
                                     (
                                      FnH Tryz.prog 19 #[.pointer p1] H10 fun r10 H11 =>
                                        ∃ l5 : Sl,
                                        r10 = .slice l5.p l5.n l5.c ∧
                                        ∃ I2 : Int → Heap → Prop,
                                        ∃ M2 : Int → Heap → Nat,
                                        I2 0 H11 ∧
                                        ∀ k_1 : Int,
                                        ∀ H12 : Heap,
                                        I2 k_1 H12 →
                                        br (decide ((k_1 : Int) < (l4.n : Nat))) (
                                          ∃ q3 : Nat,
                                          ∃ o3 : Nat,
                                          (l4.p : Option Addr) = some ⟨q3, o3, none⟩ ∧
                                          0 ≤ (k_1 : Int) ∧
                                          (k_1 : Int) < (l4.n : Nat) ∧
                                          ∃ n15 : Int,
                                          cellH H12 ⟨q3, o3 + Int.toNat k_1 * 9 + 1, none⟩ = some (.int .i64 n15) ∧
                                          FnH Tryz.prog 17 #[.slice l5.p l5.n l5.c, .int .i64 n15] H12 fun r11 H13 =>
                                            ∃ b2 : Bool,
                                            r11 = .bool b2 ∧
                                            ∃ q4 : Nat,
                                            ∃ o4 : Nat,
                                            (l4.p : Option Addr) = some ⟨q4, o4, none⟩ ∧
                                            0 ≤ (k_1 : Int) ∧
                                            (k_1 : Int) < (l4.n : Nat) ∧
                                            ∃ l6 : Sl,
                                            cellH H13 ⟨q4, o4 + Int.toNat k_1 * 9 + 4, none⟩ = some (.slice l6.p l6.n l6.c) ∧
                                            ∃ q5 : Nat,
                                            ∃ o5 : Nat,
                                            (l4.p : Option Addr) = some ⟨q5, o5, none⟩ ∧
                                            0 ≤ (k_1 : Int) ∧
                                            (k_1 : Int) < (l4.n : Nat) ∧
                                            ∃ n16 : Int,
                                            cellH H13 ⟨q5, o5 + Int.toNat k_1 * 9 + 1, none⟩ = some (.int .i64 n16) ∧
                                            FnH Tryz.prog 17 #[.slice l6.p l6.n l6.c, .int .i64 n16] H13 fun r12 H14 =>
                                              ∃ b3 : Bool,
                                              r12 = .bool b3 ∧
                                              Sub H13 H14 ∧
                                              ∃ q6 : Nat,
                                              ∃ o6 : Nat,
                                              (l4.p : Option Addr) = some ⟨q6, o6, none⟩ ∧
                                              0 ≤ (k_1 : Int) ∧
                                              (k_1 : Int) < (l4.n : Nat) ∧
                                              ∃ n17 : Int,
                                              cellH H14 ⟨q6, o6 + Int.toNat k_1 * 9 + 1, none⟩ = some (.int .i64 n17) ∧
                                              br ((n17 : Int) != 0) (
                                                br (!b2) (
                                                  K (.bool false) H14)
                                                 (
                                                  br (!b3) (
                                                    K (.bool false) H14)
                                                   (
                                                    ∃ q7 : Nat,
                                                    ∃ o7 : Nat,
                                                    (l4.p : Option Addr) = some ⟨q7, o7, none⟩ ∧
                                                    0 ≤ (k_1 : Int) ∧
                                                    (k_1 : Int) < (l4.n : Nat) ∧
                                                    ∃ l7 : Sl,
                                                    cellH H14 ⟨q7, o7 + Int.toNat k_1 * 9 + 4, none⟩ = some (.slice l7.p l7.n l7.c) ∧
                                                    br (((l7.n : Nat) : Int) == 0) (
                                                      K (.bool false) H14)
                                                     (
                                                      SelfEq ([.v (.slice script.p script.n script.c), .v (.pointer p1), .v (.pointer p2), .v (.int .i64 i_1), .v (.slice l1.p l1.n l1.c), .v (.slice l4.p l4.n l4.c), .v (.slice l5.p l5.n l5.c)], [], []) ∧
                                                      I2 (IntKind.wrap .i64 (k_1 + 1)) H14 ∧
                                                      M2 (IntKind.wrap .i64 (k_1 + 1)) H14 < M2 k_1 H12))))
                                               (
                                                ∃ q8 : Nat,
                                                ∃ o8 : Nat,
                                                (l4.p : Option Addr) = some ⟨q8, o8, none⟩ ∧
                                                0 ≤ (k_1 : Int) ∧
                                                (k_1 : Int) < (l4.n : Nat) ∧
                                                ∃ l8 : Sl,
                                                cellH H14 ⟨q8, o8 + Int.toNat k_1 * 9 + 4, none⟩ = some (.slice l8.p l8.n l8.c) ∧
                                                br (((l8.n : Nat) : Int) == 0) (
                                                  K (.bool false) H14)
                                                 (
                                                  SelfEq ([.v (.slice script.p script.n script.c), .v (.pointer p1), .v (.pointer p2), .v (.int .i64 i_1), .v (.slice l1.p l1.n l1.c), .v (.slice l4.p l4.n l4.c), .v (.slice l5.p l5.n l5.c)], [], []) ∧
                                                  I2 (IntKind.wrap .i64 (k_1 + 1)) H14 ∧
                                                  M2 (IntKind.wrap .i64 (k_1 + 1)) H14 < M2 k_1 H12)))
                                         (
                                          ∃ I3 : Int → Heap → Prop,
                                          ∃ M3 : Int → Heap → Nat,
                                          I3 0 H12 ∧
                                          ∀ k_2 : Int,
                                          ∀ H15 : Heap,
                                          I3 k_2 H15 →
                                          br (decide ((k_2 : Int) < (l1.n : Nat))) (
                                            ∃ q9 : Nat,
                                            ∃ o9 : Nat,
                                            (l1.p : Option Addr) = some ⟨q9, o9, none⟩ ∧
                                            0 ≤ (k_2 : Int) ∧
                                            (k_2 : Int) < (l1.n : Nat) ∧
                                            ∃ n18 : Int,
                                            cellH H15 ⟨q9, o9 + Int.toNat k_2 * 9, none⟩ = some (.int .i64 n18) ∧
                                            ∃ n19 : Int,
                                            cellH H15 ⟨q9, o9 + Int.toNat k_2 * 9 + 1, none⟩ = some (.int .i64 n19) ∧
                                            ∃ n20 : Int,
                                            cellH H15 ⟨q9, o9 + Int.toNat k_2 * 9 + 2, none⟩ = some (.int .i64 n20) ∧
                                            ∃ n21 : Int,
                                            cellH H15 ⟨q9, o9 + Int.toNat k_2 * 9 + 3, none⟩ = some (.int .i64 n21) ∧
                                            ∃ l9 : Sl,
                                            cellH H15 ⟨q9, o9 + Int.toNat k_2 * 9 + 4, none⟩ = some (.slice l9.p l9.n l9.c) ∧
                                            ∃ l10 : Sl,
                                            cellH H15 ⟨q9, o9 + Int.toNat k_2 * 9 + 5, none⟩ = some (.slice l10.p l10.n l10.c) ∧
                                            ∃ l11 : Sl,
                                            cellH H15 ⟨q9, o9 + Int.toNat k_2 * 9 + 6, none⟩ = some (.slice l11.p l11.n l11.c) ∧
                                            ∃ l12 : Sl,
                                            cellH H15 ⟨q9, o9 + Int.toNat k_2 * 9 + 7, none⟩ = some (.slice l12.p l12.n l12.c) ∧
                                            ∃ n22 : Int,
                                            cellH H15 ⟨q9, o9 + Int.toNat k_2 * 9 + 8, none⟩ = some (.int .i64 n22) ∧
                                            ∃ q10 : Nat,
                                            ∃ o10 : Nat,
                                            (l4.p : Option Addr) = some ⟨q10, o10, none⟩ ∧
                                            0 ≤ (k_2 : Int) ∧
                                            (k_2 : Int) < (l4.n : Nat) ∧
                                            ∃ n23 : Int,
                                            cellH H15 ⟨q10, o10 + Int.toNat k_2 * 9, none⟩ = some (.int .i64 n23) ∧
                                            ∃ n24 : Int,
                                            cellH H15 ⟨q10, o10 + Int.toNat k_2 * 9 + 1, none⟩ = some (.int .i64 n24) ∧
                                            ∃ n25 : Int,
                                            cellH H15 ⟨q10, o10 + Int.toNat k_2 * 9 + 2, none⟩ = some (.int .i64 n25) ∧
                                            ∃ n26 : Int,
                                            cellH H15 ⟨q10, o10 + Int.toNat k_2 * 9 + 3, none⟩ = some (.int .i64 n26) ∧
                                            ∃ l13 : Sl,
                                            cellH H15 ⟨q10, o10 + Int.toNat k_2 * 9 + 4, none⟩ = some (.slice l13.p l13.n l13.c) ∧
                                            ∃ l14 : Sl,
                                            cellH H15 ⟨q10, o10 + Int.toNat k_2 * 9 + 5, none⟩ = some (.slice l14.p l14.n l14.c) ∧
                                            ∃ l15 : Sl,
                                            cellH H15 ⟨q10, o10 + Int.toNat k_2 * 9 + 6, none⟩ = some (.slice l15.p l15.n l15.c) ∧
                                            ∃ l16 : Sl,
                                            cellH H15 ⟨q10, o10 + Int.toNat k_2 * 9 + 7, none⟩ = some (.slice l16.p l16.n l16.c) ∧
                                            ∃ n27 : Int,
                                            cellH H15 ⟨q10, o10 + Int.toNat k_2 * 9 + 8, none⟩ = some (.int .i64 n27) ∧
                                            ∃ q11 : Nat,
                                            ∃ o11 : Nat,
                                            (script.p : Option Addr) = some ⟨q11, o11, none⟩ ∧
                                            0 ≤ (i_1 : Int) ∧
                                            (i_1 : Int) < (script.n : Nat) ∧
                                            ∃ n28 : Int,
                                            cellH H15 ⟨q11, o11 + Int.toNat i_1 * 8, none⟩ = some (.int .i64 n28) ∧
                                            FnH Tryz.prog 20 #[.agg #[.int .i64 n18, .int .i64 n19, .int .i64 n20, .int .i64 n21, .slice l9.p l9.n l9.c, .slice l10.p l10.n l10.c, .slice l11.p l11.n l11.c, .slice l12.p l12.n l12.c, .int .i64 n22], .agg #[.int .i64 n23, .int .i64 n24, .int .i64 n25, .int .i64 n26, .slice l13.p l13.n l13.c, .slice l14.p l14.n l14.c, .slice l15.p l15.n l15.c, .slice l16.p l16.n l16.c, .int .i64 n27], .int .i64 n28] H15 fun r13 H16 =>
                                              ∃ b4 : Bool,
                                              r13 = .bool b4 ∧
                                              Sub H15 H16 ∧
                                              br (!b4) (
                                                K (.bool false) H16)
                                               (
                                                SelfEq ([.v (.slice script.p script.n script.c), .v (.pointer p1), .v (.pointer p2), .v (.int .i64 i_1), .v (.slice l1.p l1.n l1.c), .v (.slice l4.p l4.n l4.c)], [], []) ∧
                                                I3 (IntKind.wrap .i64 (k_2 + 1)) H16 ∧
                                                M3 (IntKind.wrap .i64 (k_2 + 1)) H16 < M3 k_2 H15))
                                           (
                                            SelfEq ([.v (.slice script.p script.n script.c), .v (.pointer p1), .v (.pointer p2)], [], []) ∧
                                            I1 (IntKind.wrap .i64 (i_1 + 1)) H15 ∧
                                            M1 (IntKind.wrap .i64 (i_1 + 1)) H15 < M1 i_1 H4)))))))
                 (
                  K (.bool true) H4))
               (
                K (.bool true) H4))))
theorem logboomlaw12_MetaRules_eq (script : Sl) (H : Heap) (K : Value → Heap → Prop) : logboomlaw12_MetaRules_vc script H K = denFn Tryz.prog logboomlaw12_MetaRules_ann Tryz.f5 (bodyOf Tryz.f5) [.slice script.p script.n script.c] H K := by kernel_rfl
theorem logboomlaw12_MetaRules_fn (script : Sl) {H : Heap} {K : Value → Heap → Prop} (h : logboomlaw12_MetaRules_vc script H K) : FnH Tryz.prog 5 #[.slice script.p script.n script.c] H K :=
  denFn_fn Tryz.mixed logboomlaw12_MetaRules_ann Tryz.func5 (bodyOf_spec (by kernel_rfl)) (logboomlaw12_MetaRules_eq script H K) h

/-! function 4: logboom/logboomlaw12.MetaTopics -/
def logboomlaw12_MetaTopics_ann : Anns := { hid := [10, 17], loops := [(0, { slots := [(8, .int .i64)], kept := [1, 6, 7], locs := [], keptL := [] }), (2, { slots := [(9, .int .i64)], kept := [1, 6, 7], locs := [], keptL := [] }), (4, { slots := [(14, .int .i64), (15, .int .i64)], kept := [6, 7, 11, 12, 13], locs := [], keptL := [] }), (6, { slots := [(11, .int .i64), (16, .int .i64)], kept := [7, 12, 14], locs := [], keptL := [] }), (8, { slots := [(18, .int .i64)], kept := [7, 11, 12, 14, 16, 17], locs := [], keptL := [0] })], joins := [], mix := [(37, [])] }
def logboomlaw12_MetaTopics_vc (brokers : Int) (topics : Sl) (H : Heap) (K : Value → Heap → Prop) : Prop :=
  FnH Tryz.prog 9 #[] H fun r1 H1 =>
    ∃ b1 : Bool,
    r1 = .bool b1 ∧
    FnH Tryz.prog 10 #[] H1 fun r2 H2 =>
      ∃ p1 : Option Addr,
      r2 = .pointer p1 ∧
      br (!b1) (
        K (.bool false) H2)
       (
        br (Option.isNone p1) (
          K (.bool false) H2)
         (
          FnH Tryz.prog 11 #[.int .i64 brokers, .int .i64 7] H2 fun r3 H3 =>
            ∃ n1 : Int,
            r3 = .int .i64 n1 ∧
            ∃ I1 : Int → Heap → Prop,
            ∃ M1 : Int → Heap → Nat,
            I1 1 H3 ∧
            ∀ id_1 : Int,
            ∀ H4 : Heap,
            I1 id_1 H4 →
            br (decide ((id_1 : Int) ≤ (IntKind.wrap .i64 (1 + n1)))) (
              FnH Tryz.prog 13 #[.int .i64 1, .int .i64 id_1, .int .i64 1, .int .i64 0] H4 fun r4 H5 =>
                ∃ n2 : Int,
                ∃ n3 : Int,
                ∃ n4 : Int,
                ∃ n5 : Int,
                ∃ n6 : Int,
                ∃ s1 : ByteArray,
                ∃ s2 : ByteArray,
                ∃ l1 : Sl,
                r4 = .agg #[.int .i64 n2, .int .i64 n3, .int .i64 n4, .int .i64 n5, .int .i64 n6, .string s1, .string s2, .slice l1.p l1.n l1.c] ∧
                FnH Tryz.prog 12 #[.pointer p1, .agg #[.int .i64 n2, .int .i64 n3, .int .i64 n4, .int .i64 n5, .int .i64 n6, .string s1, .string s2, .slice l1.p l1.n l1.c]] H5 fun r5 H6 =>
                  ∃ n7 : Int,
                  ∃ n8 : Int,
                  r5 = .tuple #[.int .i64 n7, .int .i64 n8] ∧
                  FnH Tryz.prog 13 #[.int .i64 3, .int .i64 id_1, .int .i64 1, .int .i64 0] H6 fun r6 H7 =>
                    ∃ n9 : Int,
                    ∃ n10 : Int,
                    ∃ n11 : Int,
                    ∃ n12 : Int,
                    ∃ n13 : Int,
                    ∃ s3 : ByteArray,
                    ∃ s4 : ByteArray,
                    ∃ l2 : Sl,
                    r6 = .agg #[.int .i64 n9, .int .i64 n10, .int .i64 n11, .int .i64 n12, .int .i64 n13, .string s3, .string s4, .slice l2.p l2.n l2.c] ∧
                    FnH Tryz.prog 12 #[.pointer p1, .agg #[.int .i64 n9, .int .i64 n10, .int .i64 n11, .int .i64 n12, .int .i64 n13, .string s3, .string s4, .slice l2.p l2.n l2.c]] H7 fun r7 H8 =>
                      ∃ n14 : Int,
                      ∃ n15 : Int,
                      r7 = .tuple #[.int .i64 n14, .int .i64 n15] ∧
                      SelfEq ([.v (.slice topics.p topics.n topics.c), .v (.pointer p1), .v (.int .i64 (IntKind.wrap .i64 (1 + n1)))], [], []) ∧
                      I1 (IntKind.wrap .i64 (id_1 + 1)) H8 ∧
                      M1 (IntKind.wrap .i64 (id_1 + 1)) H8 < M1 id_1 H4)
             (
              ∃ I2 : Int → Heap → Prop,
              ∃ M2 : Int → Heap → Nat,
              I2 0 H4 ∧
              ∀ i_1 : Int,
              ∀ H9 : Heap,
              I2 i_1 H9 →
              br (decide ((i_1 : Int) < (topics.n : Nat))) (
                br (decide ((i_1 : Int) < 30)) (
                  ∃ q1 : Nat,
                  ∃ o1 : Nat,
                  (topics.p : Option Addr) = some ⟨q1, o1, none⟩ ∧
                  0 ≤ (i_1 : Int) ∧
                  (i_1 : Int) < (topics.n : Nat) ∧
                  ∃ n16 : Int,
                  cellH H9 ⟨q1, o1 + Int.toNat i_1 * 8, none⟩ = some (.int .i64 n16) ∧
                  ∃ n17 : Int,
                  cellH H9 ⟨q1, o1 + Int.toNat i_1 * 8 + 1, none⟩ = some (.int .i64 n17) ∧
                  ∃ n18 : Int,
                  cellH H9 ⟨q1, o1 + Int.toNat i_1 * 8 + 2, none⟩ = some (.int .i64 n18) ∧
                  ∃ n19 : Int,
                  cellH H9 ⟨q1, o1 + Int.toNat i_1 * 8 + 3, none⟩ = some (.int .i64 n19) ∧
                  ∃ n20 : Int,
                  cellH H9 ⟨q1, o1 + Int.toNat i_1 * 8 + 4, none⟩ = some (.int .i64 n20) ∧
                  ∃ s5 : ByteArray,
                  cellH H9 ⟨q1, o1 + Int.toNat i_1 * 8 + 5, none⟩ = some (.string s5) ∧
                  ∃ s6 : ByteArray,
                  cellH H9 ⟨q1, o1 + Int.toNat i_1 * 8 + 6, none⟩ = some (.string s6) ∧
                  ∃ l3 : Sl,
                  cellH H9 ⟨q1, o1 + Int.toNat i_1 * 8 + 7, none⟩ = some (.slice l3.p l3.n l3.c) ∧
                  FnH Tryz.prog 12 #[.pointer p1, .agg #[.int .i64 4, .int .i64 n17, .int .i64 n18, .int .i64 n19, .int .i64 n20, .string s5, .string s6, .slice l3.p l3.n l3.c]] H9 fun r8 H10 =>
                    ∃ n21 : Int,
                    ∃ n22 : Int,
                    r8 = .tuple #[.int .i64 n21, .int .i64 n22] ∧
                    SelfEq ([.v (.slice topics.p topics.n topics.c), .v (.pointer p1), .v (.int .i64 (IntKind.wrap .i64 (1 + n1)))], [], []) ∧
                    I2 (IntKind.wrap .i64 (i_1 + 1)) H10 ∧
                    M2 (IntKind.wrap .i64 (i_1 + 1)) H10 < M2 i_1 H9)
                 (
                  FnH Tryz.prog 14 #[.pointer p1] H9 fun r9 H11 =>
                    ∃ l4 : Sl,
                    r9 = .slice l4.p l4.n l4.c ∧
                    FnH Tryz.prog 15 #[.pointer p1] H11 fun r10 H12 =>
                      ∃ l5 : Sl,
                      r10 = .slice l5.p l5.n l5.c ∧
                      ∃ I3 : Int → Int → Heap → Prop,
                      ∃ M3 : Int → Int → Heap → Nat,
                      I3 0 0 H12 ∧
                      ∀ sum_1 : Int,
                      ∀ i_2 : Int,
                      ∀ H13 : Heap,
                      I3 sum_1 i_2 H13 →
                      br (decide ((i_2 : Int) < (l5.n : Nat))) (
                        ∃ q2 : Nat,
                        ∃ o2 : Nat,
                        (l5.p : Option Addr) = some ⟨q2, o2, none⟩ ∧
                        0 ≤ (i_2 : Int) ∧
                        (i_2 : Int) < (l5.n : Nat) ∧
                        ∃ s7 : ByteArray,
                        cellH H13 ⟨q2, o2 + Int.toNat i_2, none⟩ = some (.string s7) ∧
                        FnH Tryz.prog 16 #[.pointer p1, .string s7] H13 fun r11 H14 =>
                          ∃ l6 : Sl,
                          r11 = .slice l6.p l6.n l6.c ∧
                          br (decide ((i_2 : Int) > 0)) (
                            ∃ q3 : Nat,
                            ∃ o3 : Nat,
                            (l5.p : Option Addr) = some ⟨q3, o3, none⟩ ∧
                            0 ≤ (i_2 : Int) ∧
                            (i_2 : Int) < (l5.n : Nat) ∧
                            ∃ s8 : ByteArray,
                            cellH H14 ⟨q3, o3 + Int.toNat i_2, none⟩ = some (.string s8) ∧
                            ∃ q4 : Nat,
                            ∃ o4 : Nat,
                            (l5.p : Option Addr) = some ⟨q4, o4, none⟩ ∧
                            0 ≤ ((IntKind.wrap .i64 (i_2 - 1)) : Int) ∧
                            ((IntKind.wrap .i64 (i_2 - 1)) : Int) < (l5.n : Nat) ∧
                            ∃ s9 : ByteArray,
                            cellH H14 ⟨q4, o4 + Int.toNat (IntKind.wrap .i64 (i_2 - 1)), none⟩ = some (.string s9) ∧
                            br (Op.bytesLess s8.toList s9.toList || s8.toList == s9.toList) (
                              K (.bool false) H14)
                             (
                              SelfEq ([.v (.pointer p1), .v (.int .i64 (IntKind.wrap .i64 (1 + n1))), .v (.int .i64 1), .v (.slice l4.p l4.n l4.c), .v (.slice l5.p l5.n l5.c)], [], []) ∧
                              I3 (IntKind.wrap .i64 (sum_1 + (l6.n : Nat))) (IntKind.wrap .i64 (i_2 + 1)) H14 ∧
                              M3 (IntKind.wrap .i64 (sum_1 + (l6.n : Nat))) (IntKind.wrap .i64 (i_2 + 1)) H14 < M3 sum_1 i_2 H13))
                           (
                            SelfEq ([.v (.pointer p1), .v (.int .i64 (IntKind.wrap .i64 (1 + n1))), .v (.int .i64 1), .v (.slice l4.p l4.n l4.c), .v (.slice l5.p l5.n l5.c)], [], []) ∧
                            I3 (IntKind.wrap .i64 (sum_1 + (l6.n : Nat))) (IntKind.wrap .i64 (i_2 + 1)) H14 ∧
                            M3 (IntKind.wrap .i64 (sum_1 + (l6.n : Nat))) (IntKind.wrap .i64 (i_2 + 1)) H14 < M3 sum_1 i_2 H13))
                       (
                        ∃ I4 : Int → Int → Heap → Prop,
                        ∃ M4 : Int → Int → Heap → Nat,
                        I4 1 0 H13 ∧
                        ∀ next_1 : Int,
                        ∀ i_3 : Int,
                        ∀ H15 : Heap,
                        I4 next_1 i_3 H15 →
                        br (decide ((i_3 : Int) < (l4.n : Nat))) (
                          ∃ q5 : Nat,
                          ∃ o5 : Nat,
                          (l4.p : Option Addr) = some ⟨q5, o5, none⟩ ∧
                          0 ≤ (i_3 : Int) ∧
                          (i_3 : Int) < (l4.n : Nat) ∧
                          ∃ n23 : Int,
                          cellH H15 ⟨q5, o5 + Int.toNat i_3 * 9, none⟩ = some (.int .i64 n23) ∧
                          ∃ n24 : Int,
                          cellH H15 ⟨q5, o5 + Int.toNat i_3 * 9 + 1, none⟩ = some (.int .i64 n24) ∧
                          ∃ n25 : Int,
                          cellH H15 ⟨q5, o5 + Int.toNat i_3 * 9 + 2, none⟩ = some (.int .i64 n25) ∧
                          ∃ n26 : Int,
                          cellH H15 ⟨q5, o5 + Int.toNat i_3 * 9 + 3, none⟩ = some (.int .i64 n26) ∧
                          ∃ l7 : Sl,
                          cellH H15 ⟨q5, o5 + Int.toNat i_3 * 9 + 4, none⟩ = some (.slice l7.p l7.n l7.c) ∧
                          ∃ l8 : Sl,
                          cellH H15 ⟨q5, o5 + Int.toNat i_3 * 9 + 5, none⟩ = some (.slice l8.p l8.n l8.c) ∧
                          ∃ l9 : Sl,
                          cellH H15 ⟨q5, o5 + Int.toNat i_3 * 9 + 6, none⟩ = some (.slice l9.p l9.n l9.c) ∧
                          ∃ l10 : Sl,
                          cellH H15 ⟨q5, o5 + Int.toNat i_3 * 9 + 7, none⟩ = some (.slice l10.p l10.n l10.c) ∧
                          ∃ n27 : Int,
                          cellH H15 ⟨q5, o5 + Int.toNat i_3 * 9 + 8, none⟩ = some (.int .i64 n27) ∧
                          br ((n23 : Int) != next_1) (
                            K (.bool false) H15)
                           (
                            ∃ q6 : Nat,
                            ∃ o6 : Nat,
                            (l8.p : Option Addr) = some ⟨q6, o6, none⟩ ∧
                            0 ≤ (0 : Int) ∧
                            (0 : Int) < (l8.n : Nat) ∧
                            ∃ n28 : Int,
                            cellH H15 ⟨q6, o6 + Int.toNat 0, none⟩ = some (.int .i64 n28) ∧
                            br ((n24 : Int) != n28) (
                              K (.bool false) H15)
                             (
                              br (decide (((l8.n : Nat) : Int) > (IntKind.wrap .i64 (1 + n1)))) (
                                K (.bool false) H15)
                               (
                                ∃ I5 : Int → Heap → Prop,
                                ∃ M5 : Int → Heap → Nat,
                                I5 0 H15 ∧
                                ∀ k_1 : Int,
                                ∀ H16 : Heap,
                                I5 k_1 H16 →
                                br (decide ((k_1 : Int) < (l8.n : Nat))) (
                                  0 ≤ (k_1 : Int) ∧
                                  (k_1 : Int) ≤ (l8.c : Nat) ∧
                                  ∃ q7 : Nat,
                                  ∃ o7 : Nat,
                                  (l8.p : Option Addr) = some ⟨q7, o7, none⟩ ∧
                                  0 ≤ (k_1 : Int) ∧
                                  (k_1 : Int) < (l8.n : Nat) ∧
                                  ∃ n29 : Int,
                                  cellH H16 ⟨q7, o7 + Int.toNat k_1, none⟩ = some (.int .i64 n29) ∧
                                  FnH Tryz.prog 17 #[.slice (slP l8.p l8.c (0 : Int) 1) (Int.toNat (k_1 - (0 : Int))) (Int.toNat ((l8.c : Nat) - (0 : Int))), .int .i64 n29] H16 fun r12 H17 =>
                                    ∃ b2 : Bool,
                                    r12 = .bool b2 ∧
                                    Sub H16 H17 ∧
                                    br (b2) (
                                      K (.bool false) H17)
                                     (
                                      ∃ q8 : Nat,
                                      ∃ o8 : Nat,
                                      (l8.p : Option Addr) = some ⟨q8, o8, none⟩ ∧
                                      0 ≤ (k_1 : Int) ∧
                                      (k_1 : Int) < (l8.n : Nat) ∧
                                      ∃ n30 : Int,
                                      cellH H17 ⟨q8, o8 + Int.toNat k_1, none⟩ = some (.int .i64 n30) ∧
                                      br (decide ((n30 : Int) < 1)) (
                                        K (.bool false) H17)
                                       (
                                        ∃ q9 : Nat,
                                        ∃ o9 : Nat,
                                        (l8.p : Option Addr) = some ⟨q9, o9, none⟩ ∧
                                        0 ≤ (k_1 : Int) ∧
                                        (k_1 : Int) < (l8.n : Nat) ∧
                                        ∃ n31 : Int,
                                        cellH H17 ⟨q9, o9 + Int.toNat k_1, none⟩ = some (.int .i64 n31) ∧
                                        br (decide ((n31 : Int) > (IntKind.wrap .i64 (1 + n1)))) (
                                          K (.bool false) H17)
                                         (
                                          SelfEq ([.v (.int .i64 (IntKind.wrap .i64 (1 + n1))), .v (.int .i64 (IntKind.wrap .i64 (next_1 + 1))), .v (.slice l4.p l4.n l4.c), .v (.int .i64 sum_1), .v (.int .i64 i_3), .loc 0 0], [some (41, [.int .i64 n23, .int .i64 n24, .int .i64 n25, .int .i64 n26, .slice l7.p l7.n l7.c, .slice l8.p l8.n l8.c, .slice l9.p l9.n l9.c, .slice l10.p l10.n l10.c, .int .i64 n27])], []) ∧
                                          I5 (IntKind.wrap .i64 (k_1 + 1)) H17 ∧
                                          M5 (IntKind.wrap .i64 (k_1 + 1)) H17 < M5 k_1 H16))))
                                 (
                                  SelfEq ([.v (.int .i64 (IntKind.wrap .i64 (1 + n1))), .v (.slice l4.p l4.n l4.c), .v (.int .i64 sum_1)], [], []) ∧
                                  I4 (IntKind.wrap .i64 (next_1 + 1)) (IntKind.wrap .i64 (i_3 + 1)) H16 ∧
                                  M4 (IntKind.wrap .i64 (next_1 + 1)) (IntKind.wrap .i64 (i_3 + 1)) H16 < M4 next_1 i_3 H15)))))
                         (
                          br ((sum_1 : Int) == (l4.n : Nat)) (
                            K (.bool (decide (((l4.n : Nat) : Int) ≤ 16))) H15)
                           (
                            K (.bool false) H15)))))
               (
                FnH Tryz.prog 14 #[.pointer p1] H9 fun r13 H18 =>
                  ∃ l11 : Sl,
                  r13 = .slice l11.p l11.n l11.c ∧
                  FnH Tryz.prog 15 #[.pointer p1] H18 fun r14 H19 =>
                    ∃ l12 : Sl,
                    r14 = .slice l12.p l12.n l12.c ∧
                    ∃ I6 : Int → Int → Heap → Prop,
                    ∃ M6 : Int → Int → Heap → Nat,
                    I6 0 0 H19 ∧
                    ∀ sum_2 : Int,
                    ∀ i_4 : Int,
                    ∀ H20 : Heap,
                    I6 sum_2 i_4 H20 →
                    br (decide ((i_4 : Int) < (l12.n : Nat))) (
                      ∃ q10 : Nat,
                      ∃ o10 : Nat,
                      (l12.p : Option Addr) = some ⟨q10, o10, none⟩ ∧
                      0 ≤ (i_4 : Int) ∧
                      (i_4 : Int) < (l12.n : Nat) ∧
                      ∃ s10 : ByteArray,
                      cellH H20 ⟨q10, o10 + Int.toNat i_4, none⟩ = some (.string s10) ∧
                      FnH Tryz.prog 16 #[.pointer p1, .string s10] H20 fun r15 H21 =>
                        ∃ l13 : Sl,
                        r15 = .slice l13.p l13.n l13.c ∧
                        br (decide ((i_4 : Int) > 0)) (
                          ∃ q11 : Nat,
                          ∃ o11 : Nat,
                          (l12.p : Option Addr) = some ⟨q11, o11, none⟩ ∧
                          0 ≤ (i_4 : Int) ∧
                          (i_4 : Int) < (l12.n : Nat) ∧
                          ∃ s11 : ByteArray,
                          cellH H21 ⟨q11, o11 + Int.toNat i_4, none⟩ = some (.string s11) ∧
                          ∃ q12 : Nat,
                          ∃ o12 : Nat,
                          (l12.p : Option Addr) = some ⟨q12, o12, none⟩ ∧
                          0 ≤ ((IntKind.wrap .i64 (i_4 - 1)) : Int) ∧
                          ((IntKind.wrap .i64 (i_4 - 1)) : Int) < (l12.n : Nat) ∧
                          ∃ s12 : ByteArray,
                          cellH H21 ⟨q12, o12 + Int.toNat (IntKind.wrap .i64 (i_4 - 1)), none⟩ = some (.string s12) ∧
                          br (Op.bytesLess s11.toList s12.toList || s11.toList == s12.toList) (
                            K (.bool false) H21)
                           (
                            SelfEq ([.v (.pointer p1), .v (.int .i64 (IntKind.wrap .i64 (1 + n1))), .v (.int .i64 1), .v (.slice l11.p l11.n l11.c), .v (.slice l12.p l12.n l12.c)], [], []) ∧
                            I6 (IntKind.wrap .i64 (sum_2 + (l13.n : Nat))) (IntKind.wrap .i64 (i_4 + 1)) H21 ∧
                            M6 (IntKind.wrap .i64 (sum_2 + (l13.n : Nat))) (IntKind.wrap .i64 (i_4 + 1)) H21 < M6 sum_2 i_4 H20))
                         (
                          SelfEq ([.v (.pointer p1), .v (.int .i64 (IntKind.wrap .i64 (1 + n1))), .v (.int .i64 1), .v (.slice l11.p l11.n l11.c), .v (.slice l12.p l12.n l12.c)], [], []) ∧
                          I6 (IntKind.wrap .i64 (sum_2 + (l13.n : Nat))) (IntKind.wrap .i64 (i_4 + 1)) H21 ∧
                          M6 (IntKind.wrap .i64 (sum_2 + (l13.n : Nat))) (IntKind.wrap .i64 (i_4 + 1)) H21 < M6 sum_2 i_4 H20))
                     (
                      ∃ I7 : Int → Int → Heap → Prop,
                      ∃ M7 : Int → Int → Heap → Nat,
                      I7 1 0 H20 ∧
                      ∀ next_2 : Int,
                      ∀ i_5 : Int,
                      ∀ H22 : Heap,
                      I7 next_2 i_5 H22 →
                      br (decide ((i_5 : Int) < (l11.n : Nat))) (
                        ∃ q13 : Nat,
                        ∃ o13 : Nat,
                        (l11.p : Option Addr) = some ⟨q13, o13, none⟩ ∧
                        0 ≤ (i_5 : Int) ∧
                        (i_5 : Int) < (l11.n : Nat) ∧
                        ∃ n32 : Int,
                        cellH H22 ⟨q13, o13 + Int.toNat i_5 * 9, none⟩ = some (.int .i64 n32) ∧
                        ∃ n33 : Int,
                        cellH H22 ⟨q13, o13 + Int.toNat i_5 * 9 + 1, none⟩ = some (.int .i64 n33) ∧
                        ∃ n34 : Int,
                        cellH H22 ⟨q13, o13 + Int.toNat i_5 * 9 + 2, none⟩ = some (.int .i64 n34) ∧
                        ∃ n35 : Int,
                        cellH H22 ⟨q13, o13 + Int.toNat i_5 * 9 + 3, none⟩ = some (.int .i64 n35) ∧
                        ∃ l14 : Sl,
                        cellH H22 ⟨q13, o13 + Int.toNat i_5 * 9 + 4, none⟩ = some (.slice l14.p l14.n l14.c) ∧
                        ∃ l15 : Sl,
                        cellH H22 ⟨q13, o13 + Int.toNat i_5 * 9 + 5, none⟩ = some (.slice l15.p l15.n l15.c) ∧
                        ∃ l16 : Sl,
                        cellH H22 ⟨q13, o13 + Int.toNat i_5 * 9 + 6, none⟩ = some (.slice l16.p l16.n l16.c) ∧
                        ∃ l17 : Sl,
                        cellH H22 ⟨q13, o13 + Int.toNat i_5 * 9 + 7, none⟩ = some (.slice l17.p l17.n l17.c) ∧
                        ∃ n36 : Int,
                        cellH H22 ⟨q13, o13 + Int.toNat i_5 * 9 + 8, none⟩ = some (.int .i64 n36) ∧
                        br ((n32 : Int) != next_2) (
                          K (.bool false) H22)
                         (
                          ∃ q14 : Nat,
                          ∃ o14 : Nat,
                          (l15.p : Option Addr) = some ⟨q14, o14, none⟩ ∧
                          0 ≤ (0 : Int) ∧
                          (0 : Int) < (l15.n : Nat) ∧
                          ∃ n37 : Int,
                          cellH H22 ⟨q14, o14 + Int.toNat 0, none⟩ = some (.int .i64 n37) ∧
                          br ((n33 : Int) != n37) (
                            K (.bool false) H22)
                           (
                            br (decide (((l15.n : Nat) : Int) > (IntKind.wrap .i64 (1 + n1)))) (
                              K (.bool false) H22)
                             (
                              ∃ I8 : Int → Heap → Prop,
                              ∃ M8 : Int → Heap → Nat,
                              I8 0 H22 ∧
                              ∀ k_2 : Int,
                              ∀ H23 : Heap,
                              I8 k_2 H23 →
                              br (decide ((k_2 : Int) < (l15.n : Nat))) (
                                0 ≤ (k_2 : Int) ∧
                                (k_2 : Int) ≤ (l15.c : Nat) ∧
                                ∃ q15 : Nat,
                                ∃ o15 : Nat,
                                (l15.p : Option Addr) = some ⟨q15, o15, none⟩ ∧
                                0 ≤ (k_2 : Int) ∧
                                (k_2 : Int) < (l15.n : Nat) ∧
                                ∃ n38 : Int,
                                cellH H23 ⟨q15, o15 + Int.toNat k_2, none⟩ = some (.int .i64 n38) ∧
                                FnH Tryz.prog 17 #[.slice (slP l15.p l15.c (0 : Int) 1) (Int.toNat (k_2 - (0 : Int))) (Int.toNat ((l15.c : Nat) - (0 : Int))), .int .i64 n38] H23 fun r16 H24 =>
                                  ∃ b3 : Bool,
                                  r16 = .bool b3 ∧
                                  Sub H23 H24 ∧
                                  br (b3) (
                                    K (.bool false) H24)
                                   (
                                    ∃ q16 : Nat,
                                    ∃ o16 : Nat,
                                    (l15.p : Option Addr) = some ⟨q16, o16, none⟩ ∧
                                    0 ≤ (k_2 : Int) ∧
                                    (k_2 : Int) < (l15.n : Nat) ∧
                                    ∃ n39 : Int,
                                    cellH H24 ⟨q16, o16 + Int.toNat k_2, none⟩ = some (.int .i64 n39) ∧
                                    br (decide ((n39 : Int) < 1)) (
                                      K (.bool false) H24)
                                     (
                                      ∃ q17 : Nat,
                                      ∃ o17 : Nat,
                                      (l15.p : Option Addr) = some ⟨q17, o17, none⟩ ∧
                                      0 ≤ (k_2 : Int) ∧
                                      (k_2 : Int) < (l15.n : Nat) ∧
                                      ∃ n40 : Int,
                                      cellH H24 ⟨q17, o17 + Int.toNat k_2, none⟩ = some (.int .i64 n40) ∧
                                      br (decide ((n40 : Int) > (IntKind.wrap .i64 (1 + n1)))) (
                                        K (.bool false) H24)
                                       (
                                        SelfEq ([.v (.int .i64 (IntKind.wrap .i64 (1 + n1))), .v (.int .i64 (IntKind.wrap .i64 (next_2 + 1))), .v (.slice l11.p l11.n l11.c), .v (.int .i64 sum_2), .v (.int .i64 i_5), .loc 0 0], [some (41, [.int .i64 n32, .int .i64 n33, .int .i64 n34, .int .i64 n35, .slice l14.p l14.n l14.c, .slice l15.p l15.n l15.c, .slice l16.p l16.n l16.c, .slice l17.p l17.n l17.c, .int .i64 n36])], []) ∧
                                        I8 (IntKind.wrap .i64 (k_2 + 1)) H24 ∧
                                        M8 (IntKind.wrap .i64 (k_2 + 1)) H24 < M8 k_2 H23))))
                               (
                                SelfEq ([.v (.int .i64 (IntKind.wrap .i64 (1 + n1))), .v (.slice l11.p l11.n l11.c), .v (.int .i64 sum_2)], [], []) ∧
                                I7 (IntKind.wrap .i64 (next_2 + 1)) (IntKind.wrap .i64 (i_5 + 1)) H23 ∧
                                M7 (IntKind.wrap .i64 (next_2 + 1)) (IntKind.wrap .i64 (i_5 + 1)) H23 < M7 next_2 i_5 H22)))))
                       (
                        br ((sum_2 : Int) == (l11.n : Nat)) (
                          K (.bool (decide (((l11.n : Nat) : Int) ≤ 16))) H22)
                         (
                          K (.bool false) H22)))))))
theorem logboomlaw12_MetaTopics_eq (brokers : Int) (topics : Sl) (H : Heap) (K : Value → Heap → Prop) : logboomlaw12_MetaTopics_vc brokers topics H K = denFn Tryz.prog logboomlaw12_MetaTopics_ann Tryz.f4 (bodyOf Tryz.f4) [.int .i64 brokers, .slice topics.p topics.n topics.c] H K := by kernel_rfl
theorem logboomlaw12_MetaTopics_fn (brokers : Int) (topics : Sl) {H : Heap} {K : Value → Heap → Prop} (h : logboomlaw12_MetaTopics_vc brokers topics H K) : FnH Tryz.prog 4 #[.int .i64 brokers, .slice topics.p topics.n topics.c] H K :=
  denFn_fn Tryz.mixed logboomlaw12_MetaTopics_ann Tryz.func4 (bodyOf_spec (by kernel_rfl)) (logboomlaw12_MetaTopics_eq brokers topics H K) h

end Go.Proofs.YtmofinghoacobaaGreatDoor
