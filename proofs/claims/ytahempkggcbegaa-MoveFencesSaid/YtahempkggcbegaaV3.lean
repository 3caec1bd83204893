/- Formulas of functions, printed by this session's vc.py; each is tied to the program by the kernel. -/
import Derived.Test.YtahempkggcbegaaProg
import Derived.KernelRfl
import Derived.Test.YtahempkggcbegaaHlFn
import Derived.Test.YtahempkggcbegaaV2
namespace Go.Proofs.Ytahempkggcbegaa
open Go.HL
set_option maxRecDepth 100000
/-! function 9: logboom/reassign.Begin -/
def reassign_Begin_ann : Anns := { hid := [3, 6], loops := [], joins := [((0, 1), { slots := [(8, .bool)], kept := [1, 2, 3, 6], locs := [], keptL := [0, 1] })], mix := [(10, [9, 11]), (11, [4, 6])] }
def reassign_Begin_vc (p_0 : Int) (p_1 : Int) (p_2 : Int) (p_3 : Int) (p_4 : Sl) (p_5 : Sl) (p_6 : Sl) (p_7 : Sl) (p_8 : Int) (targets : Sl) (up : Sl) (H : Heap) (K : Value → Heap → Prop) : Prop :=
  ∃ J1 : Bool → Heap → Prop,
  (FnH Try.prog 8 #[.agg #[.int .i64 p_0, .int .i64 p_1, .int .i64 p_2, .int .i64 p_3, .slice p_4.p p_4.n p_4.c, .slice p_5.p p_5.n p_5.c, .slice p_6.p p_6.n p_6.c, .slice p_7.p p_7.n p_7.c, .int .i64 p_8]] H fun r1 H1 =>
    ∃ b1 : Bool,
    r1 = .bool b1 ∧
    br (!b1) (
      SelfEq ([.v (.slice targets.p targets.n targets.c), .v (.slice up.p up.n up.c), .loc 0 0, .loc 1 0], [some (24, [.int .i64 p_0, .int .i64 p_1, .int .i64 p_2, .int .i64 p_3, .slice p_4.p p_4.n p_4.c, .slice p_5.p p_5.n p_5.c, .slice p_6.p p_6.n p_6.c, .slice p_7.p p_7.n p_7.c, .int .i64 p_8]), some (24, [.int .i64 0, .int .i64 0, .int .i64 0, .int .i64 0, .slice none 0 0, .slice none 0 0, .slice none 0 0, .slice none 0 0, .int .i64 0])], []) ∧
      J1 true H1)
     (
      FnH Try.prog 24 #[.slice targets.p targets.n targets.c] H1 fun r2 H2 =>
        ∃ b2 : Bool,
        r2 = .bool b2 ∧
        br (!b2) (
          SelfEq ([.v (.slice targets.p targets.n targets.c), .v (.slice up.p up.n up.c), .loc 0 0, .loc 1 0], [some (24, [.int .i64 p_0, .int .i64 p_1, .int .i64 p_2, .int .i64 p_3, .slice p_4.p p_4.n p_4.c, .slice p_5.p p_5.n p_5.c, .slice p_6.p p_6.n p_6.c, .slice p_7.p p_7.n p_7.c, .int .i64 p_8]), some (24, [.int .i64 0, .int .i64 0, .int .i64 0, .int .i64 0, .slice none 0 0, .slice none 0 0, .slice none 0 0, .slice none 0 0, .int .i64 0])], []) ∧
          J1 true H2)
         (
          br (((targets.n : Nat) : Int) == 0) (
            SelfEq ([.v (.slice targets.p targets.n targets.c), .v (.slice up.p up.n up.c), .loc 0 0, .loc 1 0], [some (24, [.int .i64 p_0, .int .i64 p_1, .int .i64 p_2, .int .i64 p_3, .slice p_4.p p_4.n p_4.c, .slice p_5.p p_5.n p_5.c, .slice p_6.p p_6.n p_6.c, .slice p_7.p p_7.n p_7.c, .int .i64 p_8]), some (24, [.int .i64 0, .int .i64 0, .int .i64 0, .int .i64 0, .slice none 0 0, .slice none 0 0, .slice none 0 0, .slice none 0 0, .int .i64 0])], []) ∧
            J1 true H2)
           (
            SelfEq ([.v (.slice targets.p targets.n targets.c), .v (.slice up.p up.n up.c), .loc 0 0, .loc 1 0], [some (24, [.int .i64 p_0, .int .i64 p_1, .int .i64 p_2, .int .i64 p_3, .slice p_4.p p_4.n p_4.c, .slice p_5.p p_5.n p_5.c, .slice p_6.p p_6.n p_6.c, .slice p_7.p p_7.n p_7.c, .int .i64 p_8]), some (24, [.int .i64 0, .int .i64 0, .int .i64 0, .int .i64 0, .slice none 0 0, .slice none 0 0, .slice none 0 0, .slice none 0 0, .int .i64 0])], []) ∧
            J1 (decide (((targets.n : Nat) : Int) > 5)) H2)))) ∧
  ∀ b_1 : Bool,
  ∀ H3 : Heap,
  J1 b_1 H3 →
  br (b_1) (
    K (.tuple #[.agg #[.int .i64 0, .int .i64 0, .int .i64 0, .int .i64 0, .slice none 0 0, .slice none 0 0, .slice none 0 0, .slice none 0 0, .int .i64 0], .int .i64 1]) H3)
   (
    FnH Try.prog 28 #[.agg #[.int .i64 p_0, .int .i64 p_1, .int .i64 p_2, .int .i64 p_3, .slice p_4.p p_4.n p_4.c, .slice p_5.p p_5.n p_5.c, .slice p_6.p p_6.n p_6.c, .slice p_7.p p_7.n p_7.c, .int .i64 p_8]] H3 fun r3 H4 =>
      ∃ b3 : Bool,
      r3 = .bool b3 ∧
      br (b3) (
        K (.tuple #[.agg #[.int .i64 0, .int .i64 0, .int .i64 0, .int .i64 0, .slice none 0 0, .slice none 0 0, .slice none 0 0, .slice none 0 0, .int .i64 0], .int .i64 19]) H4)
       (
        FnH Try.prog 29 #[.slice targets.p targets.n targets.c, .slice p_5.p p_5.n p_5.c] H4 fun r4 H5 =>
          ∃ l1 : Sl,
          r4 = .slice l1.p l1.n l1.c ∧
          FnH Try.prog 25 #[.slice l1.p l1.n l1.c, .slice up.p up.n up.c] H5 fun r5 H6 =>
            ∃ b4 : Bool,
            r5 = .bool b4 ∧
            br (!b4) (
              K (.tuple #[.agg #[.int .i64 0, .int .i64 0, .int .i64 0, .int .i64 0, .slice none 0 0, .slice none 0 0, .slice none 0 0, .slice none 0 0, .int .i64 0], .int .i64 8]) H6)
             (
              FnH Try.prog 30 #[.agg #[.int .i64 p_0, .int .i64 p_1, .int .i64 p_2, .int .i64 p_3, .slice p_4.p p_4.n p_4.c, .slice p_5.p p_5.n p_5.c, .slice p_6.p p_6.n p_6.c, .slice p_7.p p_7.n p_7.c, .int .i64 p_8]] H6 fun r6 H7 =>
                ∃ n1 : Int,
                ∃ n2 : Int,
                ∃ n3 : Int,
                ∃ n4 : Int,
                ∃ l2 : Sl,
                ∃ l3 : Sl,
                ∃ l4 : Sl,
                ∃ l5 : Sl,
                ∃ n5 : Int,
                r6 = .agg #[.int .i64 n1, .int .i64 n2, .int .i64 n3, .int .i64 n4, .slice l2.p l2.n l2.c, .slice l3.p l3.n l3.c, .slice l4.p l4.n l4.c, .slice l5.p l5.n l5.c, .int .i64 n5] ∧
                FnH Try.prog 31 #[.slice targets.p targets.n targets.c, .slice l3.p l3.n l3.c] H7 fun r7 H8 =>
                  ∃ b5 : Bool,
                  r7 = .bool b5 ∧
                  br (b5) (
                    K (.tuple #[.agg #[.int .i64 n1, .int .i64 n2, .int .i64 n3, .int .i64 n4, .slice l2.p l2.n l2.c, .slice l3.p l3.n l3.c, .slice l4.p l4.n l4.c, .slice l5.p l5.n l5.c, .int .i64 n5], .int .i64 0]) H8)
                   (
                    FnH Try.prog 29 #[.slice targets.p targets.n targets.c, .slice l3.p l3.n l3.c] H8 fun r8 H9 =>
                      ∃ l6 : Sl,
                      r8 = .slice l6.p l6.n l6.c ∧
                      Sub H8 H9 ∧
                      FnH Try.prog 29 #[.slice l3.p l3.n l3.c, .slice targets.p targets.n targets.c] H9 fun r9 H10 =>
                        ∃ l7 : Sl,
                        r9 = .slice l7.p l7.n l7.c ∧
                        Sub H8 H10 ∧
                        FnH Try.prog 32 #[.slice targets.p targets.n targets.c] H10 fun r10 H11 =>
                          ∃ l8 : Sl,
                          r10 = .slice l8.p l8.n l8.c ∧
                          Sub H10 H11 ∧
                          runH Try.prog (Builtin.append_ #[22, 22] 22 #[.slice l8.p l8.n l8.c, .slice l7.p l7.n l7.c]) H11 fun r11 H12 =>
                            ∃ l9 : Sl,
                            r11 = .slice l9.p l9.n l9.c ∧
                            FnH Try.prog 33 #[.agg #[.int .i64 n1, .int .i64 n2, .int .i64 n3, .int .i64 n4, .slice l2.p l2.n l2.c, .slice l9.p l9.n l9.c, .slice l6.p l6.n l6.c, .slice l7.p l7.n l7.c, .int .i64 n5]] H12 fun r12 H13 =>
                              ∃ n6 : Int,
                              ∃ n7 : Int,
                              ∃ n8 : Int,
                              ∃ n9 : Int,
                              ∃ l10 : Sl,
                              ∃ l11 : Sl,
                              ∃ l12 : Sl,
                              ∃ l13 : Sl,
                              ∃ n10 : Int,
                              ∃ n11 : Int,
                              r12 = .tuple #[.agg #[.int .i64 n6, .int .i64 n7, .int .i64 n8, .int .i64 n9, .slice l10.p l10.n l10.c, .slice l11.p l11.n l11.c, .slice l12.p l12.n l12.c, .slice l13.p l13.n l13.c, .int .i64 n10], .int .i64 n11] ∧
                              K (.tuple #[.agg #[.int .i64 n6, .int .i64 n7, .int .i64 n8, .int .i64 n9, .slice l10.p l10.n l10.c, .slice l11.p l11.n l11.c, .slice l12.p l12.n l12.c, .slice l13.p l13.n l13.c, .int .i64 n10], .int .i64 n11]) H13))))
theorem reassign_Begin_eq (p_0 : Int) (p_1 : Int) (p_2 : Int) (p_3 : Int) (p_4 : Sl) (p_5 : Sl) (p_6 : Sl) (p_7 : Sl) (p_8 : Int) (targets : Sl) (up : Sl) (H : Heap) (K : Value → Heap → Prop) : reassign_Begin_vc p_0 p_1 p_2 p_3 p_4 p_5 p_6 p_7 p_8 targets up H K = denFn Try.prog reassign_Begin_ann Try.f9 (bodyOf Try.f9) [.agg #[.int .i64 p_0, .int .i64 p_1, .int .i64 p_2, .int .i64 p_3, .slice p_4.p p_4.n p_4.c, .slice p_5.p p_5.n p_5.c, .slice p_6.p p_6.n p_6.c, .slice p_7.p p_7.n p_7.c, .int .i64 p_8], .slice targets.p targets.n targets.c, .slice up.p up.n up.c] H K := by kernel_rfl
theorem reassign_Begin_fn (p_0 : Int) (p_1 : Int) (p_2 : Int) (p_3 : Int) (p_4 : Sl) (p_5 : Sl) (p_6 : Sl) (p_7 : Sl) (p_8 : Int) (targets : Sl) (up : Sl) {H : Heap} {K : Value → Heap → Prop} (h : reassign_Begin_vc p_0 p_1 p_2 p_3 p_4 p_5 p_6 p_7 p_8 targets up H K) : FnH Try.prog 9 #[.agg #[.int .i64 p_0, .int .i64 p_1, .int .i64 p_2, .int .i64 p_3, .slice p_4.p p_4.n p_4.c, .slice p_5.p p_5.n p_5.c, .slice p_6.p p_6.n p_6.c, .slice p_7.p p_7.n p_7.c, .int .i64 p_8], .slice targets.p targets.n targets.c, .slice up.p up.n up.c] H K :=
  denFn_sound Try.mixed reassign_Begin_ann Try.func9 (bodyOf_spec (by kernel_rfl)) ((reassign_Begin_eq p_0 p_1 p_2 p_3 p_4 p_5 p_6 p_7 p_8 targets up H K) ▸ h)

/-! function 18: logboom/reassign.Cancel -/
def reassign_Cancel_ann : Anns := { hid := [2, 4], loops := [], joins := [], mix := [(7, [11, 13, 15, 17])] }
def reassign_Cancel_vc (p_0 : Int) (p_1 : Int) (p_2 : Int) (p_3 : Int) (p_4 : Sl) (p_5 : Sl) (p_6 : Sl) (p_7 : Sl) (p_8 : Int) (up : Sl) (H : Heap) (K : Value → Heap → Prop) : Prop :=
  FnH Try.prog 8 #[.agg #[.int .i64 p_0, .int .i64 p_1, .int .i64 p_2, .int .i64 p_3, .slice p_4.p p_4.n p_4.c, .slice p_5.p p_5.n p_5.c, .slice p_6.p p_6.n p_6.c, .slice p_7.p p_7.n p_7.c, .int .i64 p_8]] H fun r1 H1 =>
    ∃ b1 : Bool,
    r1 = .bool b1 ∧
    br (!b1) (
      K (.tuple #[.agg #[.int .i64 0, .int .i64 0, .int .i64 0, .int .i64 0, .slice none 0 0, .slice none 0 0, .slice none 0 0, .slice none 0 0, .int .i64 0], .int .i64 1]) H1)
     (
      FnH Try.prog 28 #[.agg #[.int .i64 p_0, .int .i64 p_1, .int .i64 p_2, .int .i64 p_3, .slice p_4.p p_4.n p_4.c, .slice p_5.p p_5.n p_5.c, .slice p_6.p p_6.n p_6.c, .slice p_7.p p_7.n p_7.c, .int .i64 p_8]] H1 fun r2 H2 =>
        ∃ b2 : Bool,
        r2 = .bool b2 ∧
        br (!b2) (
          K (.tuple #[.agg #[.int .i64 0, .int .i64 0, .int .i64 0, .int .i64 0, .slice none 0 0, .slice none 0 0, .slice none 0 0, .slice none 0 0, .int .i64 0], .int .i64 19]) H2)
         (
          FnH Try.prog 25 #[.slice p_4.p p_4.n p_4.c, .slice p_6.p p_6.n p_6.c] H2 fun r3 H3 =>
            ∃ b3 : Bool,
            r3 = .bool b3 ∧
            br (b3) (
              K (.tuple #[.agg #[.int .i64 0, .int .i64 0, .int .i64 0, .int .i64 0, .slice none 0 0, .slice none 0 0, .slice none 0 0, .slice none 0 0, .int .i64 0], .int .i64 19]) H3)
             (
              FnH Try.prog 30 #[.agg #[.int .i64 p_0, .int .i64 p_1, .int .i64 p_2, .int .i64 p_3, .slice p_4.p p_4.n p_4.c, .slice p_5.p p_5.n p_5.c, .slice p_6.p p_6.n p_6.c, .slice p_7.p p_7.n p_7.c, .int .i64 p_8]] H3 fun r4 H4 =>
                ∃ n1 : Int,
                ∃ n2 : Int,
                ∃ n3 : Int,
                ∃ n4 : Int,
                ∃ l1 : Sl,
                ∃ l2 : Sl,
                ∃ l3 : Sl,
                ∃ l4 : Sl,
                ∃ n5 : Int,
                r4 = .agg #[.int .i64 n1, .int .i64 n2, .int .i64 n3, .int .i64 n4, .slice l1.p l1.n l1.c, .slice l2.p l2.n l2.c, .slice l3.p l3.n l3.c, .slice l4.p l4.n l4.c, .int .i64 n5] ∧
                FnH Try.prog 27 #[.slice l3.p l3.n l3.c, .int .i64 n2] H4 fun r5 H5 =>
                  ∃ b4 : Bool,
                  r5 = .bool b4 ∧
                  FnH Try.prog 29 #[.slice l2.p l2.n l2.c, .slice l3.p l3.n l3.c] H5 fun r6 H6 =>
                    ∃ l5 : Sl,
                    r6 = .slice l5.p l5.n l5.c ∧
                    Sub H5 H6 ∧
                    FnH Try.prog 29 #[.slice l1.p l1.n l1.c, .slice l3.p l3.n l3.c] H6 fun r7 H7 =>
                      ∃ l6 : Sl,
                      r7 = .slice l6.p l6.n l6.c ∧
                      Sub H5 H7 ∧
                      br (b4) (
                        FnH Try.prog 35 #[.slice l5.p l5.n l5.c, .slice l6.p l6.n l6.c, .slice up.p up.n up.c, .int .i64 0] H7 fun r8 H8 =>
                          ∃ n6 : Int,
                          r8 = .int .i64 n6 ∧
                          ∀ q1 : Nat,
                          H8 q1 = none →
                          FnH Try.prog 34 #[.pointer (some ⟨q1, 0, none⟩), .int .i64 n6] (Heap.upd H8 q1 (.cells #[.int .i64 n1, .int .i64 n2, .int .i64 n3, .int .i64 n4, .slice l6.p l6.n l6.c, .slice l5.p l5.n l5.c, .slice none 0 0, .slice none 0 0, .int .i64 n5] 24 (0, 0))) fun r9 H9 =>
                            r9 = .tuple #[] ∧
                            ∃ n7 : Int,
                            ∃ n8 : Int,
                            ∃ n9 : Int,
                            ∃ n10 : Int,
                            ∃ l7 : Sl,
                            ∃ l8 : Sl,
                            ∃ l9 : Sl,
                            ∃ l10 : Sl,
                            ∃ n11 : Int,
                            H9 q1 = some (.cells #[.int .i64 n7, .int .i64 n8, .int .i64 n9, .int .i64 n10, .slice l7.p l7.n l7.c, .slice l8.p l8.n l8.c, .slice l9.p l9.n l9.c, .slice l10.p l10.n l10.c, .int .i64 n11] 24 (0, 0)) ∧
                            letH (Heap.del H9 q1) fun H10 =>
                            FnH Try.prog 33 #[.agg #[.int .i64 n7, .int .i64 n8, .int .i64 n9, .int .i64 n10, .slice l7.p l7.n l7.c, .slice l8.p l8.n l8.c, .slice l9.p l9.n l9.c, .slice l10.p l10.n l10.c, .int .i64 n11]] H10 fun r10 H11 =>
                              ∃ n12 : Int,
                              ∃ n13 : Int,
                              ∃ n14 : Int,
                              ∃ n15 : Int,
                              ∃ l11 : Sl,
                              ∃ l12 : Sl,
                              ∃ l13 : Sl,
                              ∃ l14 : Sl,
                              ∃ n16 : Int,
                              ∃ n17 : Int,
                              r10 = .tuple #[.agg #[.int .i64 n12, .int .i64 n13, .int .i64 n14, .int .i64 n15, .slice l11.p l11.n l11.c, .slice l12.p l12.n l12.c, .slice l13.p l13.n l13.c, .slice l14.p l14.n l14.c, .int .i64 n16], .int .i64 n17] ∧
                              K (.tuple #[.agg #[.int .i64 n12, .int .i64 n13, .int .i64 n14, .int .i64 n15, .slice l11.p l11.n l11.c, .slice l12.p l12.n l12.c, .slice l13.p l13.n l13.c, .slice l14.p l14.n l14.c, .int .i64 n16], .int .i64 n17]) H11)
                       (
                        FnH Try.prog 33 #[.agg #[.int .i64 n1, .int .i64 n2, .int .i64 n3, .int .i64 n4, .slice l6.p l6.n l6.c, .slice l5.p l5.n l5.c, .slice none 0 0, .slice none 0 0, .int .i64 n5]] H7 fun r11 H12 =>
                          ∃ n18 : Int,
                          ∃ n19 : Int,
                          ∃ n20 : Int,
                          ∃ n21 : Int,
                          ∃ l15 : Sl,
                          ∃ l16 : Sl,
                          ∃ l17 : Sl,
                          ∃ l18 : Sl,
                          ∃ n22 : Int,
                          ∃ n23 : Int,
                          r11 = .tuple #[.agg #[.int .i64 n18, .int .i64 n19, .int .i64 n20, .int .i64 n21, .slice l15.p l15.n l15.c, .slice l16.p l16.n l16.c, .slice l17.p l17.n l17.c, .slice l18.p l18.n l18.c, .int .i64 n22], .int .i64 n23] ∧
                          K (.tuple #[.agg #[.int .i64 n18, .int .i64 n19, .int .i64 n20, .int .i64 n21, .slice l15.p l15.n l15.c, .slice l16.p l16.n l16.c, .slice l17.p l17.n l17.c, .slice l18.p l18.n l18.c, .int .i64 n22], .int .i64 n23]) H12))))
theorem reassign_Cancel_eq (p_0 : Int) (p_1 : Int) (p_2 : Int) (p_3 : Int) (p_4 : Sl) (p_5 : Sl) (p_6 : Sl) (p_7 : Sl) (p_8 : Int) (up : Sl) (H : Heap) (K : Value → Heap → Prop) : reassign_Cancel_vc p_0 p_1 p_2 p_3 p_4 p_5 p_6 p_7 p_8 up H K = denFn Try.prog reassign_Cancel_ann Try.f18 (bodyOf Try.f18) [.agg #[.int .i64 p_0, .int .i64 p_1, .int .i64 p_2, .int .i64 p_3, .slice p_4.p p_4.n p_4.c, .slice p_5.p p_5.n p_5.c, .slice p_6.p p_6.n p_6.c, .slice p_7.p p_7.n p_7.c, .int .i64 p_8], .slice up.p up.n up.c] H K := by kernel_rfl
theorem reassign_Cancel_fn (p_0 : Int) (p_1 : Int) (p_2 : Int) (p_3 : Int) (p_4 : Sl) (p_5 : Sl) (p_6 : Sl) (p_7 : Sl) (p_8 : Int) (up : Sl) {H : Heap} {K : Value → Heap → Prop} (h : reassign_Cancel_vc p_0 p_1 p_2 p_3 p_4 p_5 p_6 p_7 p_8 up H K) : FnH Try.prog 18 #[.agg #[.int .i64 p_0, .int .i64 p_1, .int .i64 p_2, .int .i64 p_3, .slice p_4.p p_4.n p_4.c, .slice p_5.p p_5.n p_5.c, .slice p_6.p p_6.n p_6.c, .slice p_7.p p_7.n p_7.c, .int .i64 p_8], .slice up.p up.n up.c] H K :=
  denFn_sound Try.mixed reassign_Cancel_ann Try.func18 (bodyOf_spec (by kernel_rfl)) ((reassign_Cancel_eq p_0 p_1 p_2 p_3 p_4 p_5 p_6 p_7 p_8 up H K) ▸ h)

/-! function 7: logboom/logboomlaw11.shown -/
def logboomlaw11_shown_ann : Anns := { hid := [2, 4, 6, 8, 10, 12, 14], loops := [], joins := [], mix := [] }
def logboomlaw11_shown_vc  (H : Heap) (K : Value → Heap → Prop) : Prop :=
  ∀ q1 : Nat,
  H q1 = none →
  letH (Heap.upd H q1 (.cells #[.int .i64 1, .int .i64 2, .int .i64 3, .int .i64 4] 3 (0, 0))) fun H1 =>
  FnH Try.prog 21 #[] H1 fun r1 H2 =>
    ∃ n1 : Int,
    ∃ n2 : Int,
    ∃ n3 : Int,
    ∃ n4 : Int,
    ∃ l1 : Sl,
    ∃ l2 : Sl,
    ∃ l3 : Sl,
    ∃ l4 : Sl,
    ∃ n5 : Int,
    r1 = .agg #[.int .i64 n1, .int .i64 n2, .int .i64 n3, .int .i64 n4, .slice l1.p l1.n l1.c, .slice l2.p l2.n l2.c, .slice l3.p l3.n l3.c, .slice l4.p l4.n l4.c, .int .i64 n5] ∧
    FnH Try.prog 15 #[.agg #[.int .i64 n1, .int .i64 n2, .int .i64 n3, .int .i64 n4, .slice l1.p l1.n l1.c, .slice l2.p l2.n l2.c, .slice l3.p l3.n l3.c, .slice l4.p l4.n l4.c, .int .i64 n5], .int .i64 1, .slice (some ⟨q1, 0, none⟩) 4 4] H2 fun r2 H3 =>
      ∃ n6 : Int,
      ∃ n7 : Int,
      ∃ n8 : Int,
      ∃ n9 : Int,
      ∃ l5 : Sl,
      ∃ l6 : Sl,
      ∃ l7 : Sl,
      ∃ l8 : Sl,
      ∃ n10 : Int,
      ∃ n11 : Int,
      r2 = .tuple #[.agg #[.int .i64 n6, .int .i64 n7, .int .i64 n8, .int .i64 n9, .slice l5.p l5.n l5.c, .slice l6.p l6.n l6.c, .slice l7.p l7.n l7.c, .slice l8.p l8.n l8.c, .int .i64 n10], .int .i64 n11] ∧
      FnH Try.prog 21 #[] H3 fun r3 H4 =>
        ∃ n12 : Int,
        ∃ n13 : Int,
        ∃ n14 : Int,
        ∃ n15 : Int,
        ∃ l9 : Sl,
        ∃ l10 : Sl,
        ∃ l11 : Sl,
        ∃ l12 : Sl,
        ∃ n16 : Int,
        r3 = .agg #[.int .i64 n12, .int .i64 n13, .int .i64 n14, .int .i64 n15, .slice l9.p l9.n l9.c, .slice l10.p l10.n l10.c, .slice l11.p l11.n l11.c, .slice l12.p l12.n l12.c, .int .i64 n16] ∧
        ∀ q2 : Nat,
        H4 q2 = none →
        letH (Heap.upd H4 q2 (.cells #[.int .i64 3, .int .i64 1, .int .i64 2] 3 (0, 0))) fun H5 =>
        FnH Try.prog 11 #[.agg #[.int .i64 n12, .int .i64 n13, .int .i64 n14, .int .i64 n15, .slice l9.p l9.n l9.c, .slice l10.p l10.n l10.c, .slice l11.p l11.n l11.c, .slice l12.p l12.n l12.c, .int .i64 n16], .int .i64 1, .int .i64 3, .int .i64 5, .slice (some ⟨q2, 0, none⟩) 3 3, .slice (some ⟨q1, 0, none⟩) 4 4] H5 fun r4 H6 =>
          ∃ n17 : Int,
          ∃ n18 : Int,
          ∃ n19 : Int,
          ∃ n20 : Int,
          ∃ l13 : Sl,
          ∃ l14 : Sl,
          ∃ l15 : Sl,
          ∃ l16 : Sl,
          ∃ n21 : Int,
          ∃ n22 : Int,
          r4 = .tuple #[.agg #[.int .i64 n17, .int .i64 n18, .int .i64 n19, .int .i64 n20, .slice l13.p l13.n l13.c, .slice l14.p l14.n l14.c, .slice l15.p l15.n l15.c, .slice l16.p l16.n l16.c, .int .i64 n21], .int .i64 n22] ∧
          FnH Try.prog 21 #[] H6 fun r5 H7 =>
            ∃ n23 : Int,
            ∃ n24 : Int,
            ∃ n25 : Int,
            ∃ n26 : Int,
            ∃ l17 : Sl,
            ∃ l18 : Sl,
            ∃ l19 : Sl,
            ∃ l20 : Sl,
            ∃ n27 : Int,
            r5 = .agg #[.int .i64 n23, .int .i64 n24, .int .i64 n25, .int .i64 n26, .slice l17.p l17.n l17.c, .slice l18.p l18.n l18.c, .slice l19.p l19.n l19.c, .slice l20.p l20.n l20.c, .int .i64 n27] ∧
            ∀ q3 : Nat,
            H7 q3 = none →
            letH (Heap.upd H7 q3 (.cells #[.int .i64 1] 3 (0, 0))) fun H8 =>
            FnH Try.prog 11 #[.agg #[.int .i64 n23, .int .i64 n24, .int .i64 n25, .int .i64 n26, .slice l17.p l17.n l17.c, .slice l18.p l18.n l18.c, .slice l19.p l19.n l19.c, .slice l20.p l20.n l20.c, .int .i64 n27], .int .i64 1, .int .i64 3, .int .i64 4, .slice (some ⟨q3, 0, none⟩) 1 1, .slice (some ⟨q1, 0, none⟩) 4 4] H8 fun r6 H9 =>
              ∃ n28 : Int,
              ∃ n29 : Int,
              ∃ n30 : Int,
              ∃ n31 : Int,
              ∃ l21 : Sl,
              ∃ l22 : Sl,
              ∃ l23 : Sl,
              ∃ l24 : Sl,
              ∃ n32 : Int,
              ∃ n33 : Int,
              r6 = .tuple #[.agg #[.int .i64 n28, .int .i64 n29, .int .i64 n30, .int .i64 n31, .slice l21.p l21.n l21.c, .slice l22.p l22.n l22.c, .slice l23.p l23.n l23.c, .slice l24.p l24.n l24.c, .int .i64 n32], .int .i64 n33] ∧
              FnH Try.prog 21 #[] H9 fun r7 H10 =>
                ∃ n34 : Int,
                ∃ n35 : Int,
                ∃ n36 : Int,
                ∃ n37 : Int,
                ∃ l25 : Sl,
                ∃ l26 : Sl,
                ∃ l27 : Sl,
                ∃ l28 : Sl,
                ∃ n38 : Int,
                r7 = .agg #[.int .i64 n34, .int .i64 n35, .int .i64 n36, .int .i64 n37, .slice l25.p l25.n l25.c, .slice l26.p l26.n l26.c, .slice l27.p l27.n l27.c, .slice l28.p l28.n l28.c, .int .i64 n38] ∧
                ∀ q4 : Nat,
                H10 q4 = none →
                letH (Heap.upd H10 q4 (.cells #[.int .i64 2, .int .i64 4] 3 (0, 0))) fun H11 =>
                FnH Try.prog 9 #[.agg #[.int .i64 n34, .int .i64 n35, .int .i64 n36, .int .i64 n37, .slice l25.p l25.n l25.c, .slice l26.p l26.n l26.c, .slice l27.p l27.n l27.c, .slice l28.p l28.n l28.c, .int .i64 n38], .slice (some ⟨q4, 0, none⟩) 2 2, .slice (some ⟨q1, 0, none⟩) 4 4] H11 fun r8 H12 =>
                  ∃ n39 : Int,
                  ∃ n40 : Int,
                  ∃ n41 : Int,
                  ∃ n42 : Int,
                  ∃ l29 : Sl,
                  ∃ l30 : Sl,
                  ∃ l31 : Sl,
                  ∃ l32 : Sl,
                  ∃ n43 : Int,
                  ∃ n44 : Int,
                  r8 = .tuple #[.agg #[.int .i64 n39, .int .i64 n40, .int .i64 n41, .int .i64 n42, .slice l29.p l29.n l29.c, .slice l30.p l30.n l30.c, .slice l31.p l31.n l31.c, .slice l32.p l32.n l32.c, .int .i64 n43], .int .i64 n44] ∧
                  ∀ q5 : Nat,
                  H12 q5 = none →
                  letH (Heap.upd H12 q5 (.cells #[.int .i64 1, .int .i64 2, .int .i64 4] 3 (0, 0))) fun H13 =>
                  FnH Try.prog 11 #[.agg #[.int .i64 n39, .int .i64 n40, .int .i64 n41, .int .i64 n42, .slice l29.p l29.n l29.c, .slice l30.p l30.n l30.c, .slice l31.p l31.n l31.c, .slice l32.p l32.n l32.c, .int .i64 n43], .int .i64 1, .int .i64 3, .int .i64 6, .slice (some ⟨q5, 0, none⟩) 3 3, .slice (some ⟨q1, 0, none⟩) 4 4] H13 fun r9 H14 =>
                    ∃ n45 : Int,
                    ∃ n46 : Int,
                    ∃ n47 : Int,
                    ∃ n48 : Int,
                    ∃ l33 : Sl,
                    ∃ l34 : Sl,
                    ∃ l35 : Sl,
                    ∃ l36 : Sl,
                    ∃ n49 : Int,
                    ∃ n50 : Int,
                    r9 = .tuple #[.agg #[.int .i64 n45, .int .i64 n46, .int .i64 n47, .int .i64 n48, .slice l33.p l33.n l33.c, .slice l34.p l34.n l34.c, .slice l35.p l35.n l35.c, .slice l36.p l36.n l36.c, .int .i64 n49], .int .i64 n50] ∧
                    FnH Try.prog 12 #[.agg #[.int .i64 n45, .int .i64 n46, .int .i64 n47, .int .i64 n48, .slice l33.p l33.n l33.c, .slice l34.p l34.n l34.c, .slice l35.p l35.n l35.c, .slice l36.p l36.n l36.c, .int .i64 n49], .slice (some ⟨q1, 0, none⟩) 4 4] H14 fun r10 H15 =>
                      ∃ n51 : Int,
                      ∃ n52 : Int,
                      ∃ n53 : Int,
                      ∃ n54 : Int,
                      ∃ l37 : Sl,
                      ∃ l38 : Sl,
                      ∃ l39 : Sl,
                      ∃ l40 : Sl,
                      ∃ n55 : Int,
                      ∃ n56 : Int,
                      r10 = .tuple #[.agg #[.int .i64 n51, .int .i64 n52, .int .i64 n53, .int .i64 n54, .slice l37.p l37.n l37.c, .slice l38.p l38.n l38.c, .slice l39.p l39.n l39.c, .slice l40.p l40.n l40.c, .int .i64 n55], .int .i64 n56] ∧
                      FnH Try.prog 21 #[] H15 fun r11 H16 =>
                        ∃ n57 : Int,
                        ∃ n58 : Int,
                        ∃ n59 : Int,
                        ∃ n60 : Int,
                        ∃ l41 : Sl,
                        ∃ l42 : Sl,
                        ∃ l43 : Sl,
                        ∃ l44 : Sl,
                        ∃ n61 : Int,
                        r11 = .agg #[.int .i64 n57, .int .i64 n58, .int .i64 n59, .int .i64 n60, .slice l41.p l41.n l41.c, .slice l42.p l42.n l42.c, .slice l43.p l43.n l43.c, .slice l44.p l44.n l44.c, .int .i64 n61] ∧
                        FnH Try.prog 22 #[.agg #[.int .i64 n57, .int .i64 n58, .int .i64 n59, .int .i64 n60, .slice l41.p l41.n l41.c, .slice l42.p l42.n l42.c, .slice l43.p l43.n l43.c, .slice l44.p l44.n l44.c, .int .i64 n61], .int .i64 3] H16 fun r12 H17 =>
                          ∃ n62 : Int,
                          ∃ n63 : Int,
                          ∃ n64 : Int,
                          ∃ n65 : Int,
                          ∃ l45 : Sl,
                          ∃ l46 : Sl,
                          ∃ l47 : Sl,
                          ∃ l48 : Sl,
                          ∃ n66 : Int,
                          ∃ n67 : Int,
                          r12 = .tuple #[.agg #[.int .i64 n62, .int .i64 n63, .int .i64 n64, .int .i64 n65, .slice l45.p l45.n l45.c, .slice l46.p l46.n l46.c, .slice l47.p l47.n l47.c, .slice l48.p l48.n l48.c, .int .i64 n66], .int .i64 n67] ∧
                          ∀ q6 : Nat,
                          H17 q6 = none →
                          letH (Heap.upd H17 q6 (.cells #[.int .i64 2] 3 (0, 0))) fun H18 =>
                          FnH Try.prog 10 #[.slice l5.p l5.n l5.c, .slice (some ⟨q6, 0, none⟩) 1 1] H18 fun r13 H19 =>
                            ∃ b1 : Bool,
                            r13 = .bool b1 ∧
                            ∀ q7 : Nat,
                            H19 q7 = none →
                            letH (Heap.upd H19 q7 (.cells #[.int .i64 1, .int .i64 2, .int .i64 3] 3 (0, 0))) fun H20 =>
                            FnH Try.prog 10 #[.slice l13.p l13.n l13.c, .slice (some ⟨q7, 0, none⟩) 3 3] H20 fun r14 H21 =>
                              ∃ b2 : Bool,
                              r14 = .bool b2 ∧
                              ∀ q8 : Nat,
                              H21 q8 = none →
                              letH (Heap.upd H21 q8 (.cells #[.int .i64 2, .int .i64 4, .int .i64 1, .int .i64 3] 3 (0, 0))) fun H22 =>
                              FnH Try.prog 10 #[.slice l30.p l30.n l30.c, .slice (some ⟨q8, 0, none⟩) 4 4] H22 fun r15 H23 =>
                                ∃ b3 : Bool,
                                r15 = .bool b3 ∧
                                ∀ q9 : Nat,
                                H23 q9 = none →
                                letH (Heap.upd H23 q9 (.cells #[.int .i64 2, .int .i64 4] 3 (0, 0))) fun H24 =>
                                FnH Try.prog 10 #[.slice l38.p l38.n l38.c, .slice (some ⟨q9, 0, none⟩) 2 2] H24 fun r16 H25 =>
                                  ∃ b4 : Bool,
                                  r16 = .bool b4 ∧
                                  br ((n11 : Int) == 0) (
                                    br ((n7 : Int) == 2) (
                                      br ((n8 : Int) == 4) (
                                        br ((n9 : Int) == 6) (
                                          br (b1) (
                                            br ((n22 : Int) == 0) (
                                              br (b2) (
                                                br ((n33 : Int) == 13) (
                                                  br ((n44 : Int) == 0) (
                                                    br (b3) (
                                                      br ((n50 : Int) == 0) (
                                                        br ((n46 : Int) == 1) (
                                                          br ((n56 : Int) == 0) (
                                                            br (b4) (
                                                              br ((n52 : Int) == 2) (
                                                                br ((n53 : Int) == 4) (
                                                                  br ((n54 : Int) == 8) (
                                                                    br (((IntKind.wrap .i64 ((l39.n : Nat) + (l40.n : Nat))) : Int) == 0) (
                                                                      K (.bool ((n67 : Int) == 19)) H25)
                                                                     (
                                                                      K (.bool false) H25))
                                                                   (
                                                                    K (.bool false) H25))
                                                                 (
                                                                  K (.bool false) H25))
                                                               (
                                                                K (.bool false) H25))
                                                             (
                                                              K (.bool false) H25))
                                                           (
                                                            K (.bool false) H25))
                                                         (
                                                          K (.bool false) H25))
                                                       (
                                                        K (.bool false) H25))
                                                     (
                                                      K (.bool false) H25))
                                                   (
                                                    K (.bool false) H25))
                                                 (
                                                  K (.bool false) H25))
                                               (
                                                K (.bool false) H25))
                                             (
                                              K (.bool false) H25))
                                           (
                                            K (.bool false) H25))
                                         (
                                          K (.bool false) H25))
                                       (
                                        K (.bool false) H25))
                                     (
                                      K (.bool false) H25))
                                   (
                                    K (.bool false) H25)
theorem logboomlaw11_shown_eq  (H : Heap) (K : Value → Heap → Prop) : logboomlaw11_shown_vc  H K = denFn Try.prog logboomlaw11_shown_ann Try.f7 (bodyOf Try.f7) [] H K := by kernel_rfl
theorem logboomlaw11_shown_fn  {H : Heap} {K : Value → Heap → Prop} (h : logboomlaw11_shown_vc  H K) : FnH Try.prog 7 #[] H K :=
  denFn_sound Try.mixed logboomlaw11_shown_ann Try.func7 (bodyOf_spec (by kernel_rfl)) ((logboomlaw11_shown_eq  H K) ▸ h)

/-! function 3: logboom/logboomlaw11.MoveEnds -/
def logboomlaw11_MoveEnds_ann : Anns := { hid := [2, 8, 11], loops := [], joins := [], mix := [] }
def logboomlaw11_MoveEnds_vc (p_0 : Int) (p_1 : Int) (p_2 : Int) (p_3 : Int) (p_4 : Sl) (p_5 : Sl) (p_6 : Sl) (p_7 : Sl) (p_8 : Int) (targets : Sl) (H : Heap) (K : Value → Heap → Prop) : Prop :=
  FnH Try.prog 7 #[] H fun r1 H1 =>
    ∃ b1 : Bool,
    r1 = .bool b1 ∧
    ∀ q1 : Nat,
    H1 q1 = none →
    letH (Heap.upd H1 q1 (.cells #[.int .i64 1, .int .i64 2, .int .i64 3, .int .i64 4, .int .i64 5, .int .i64 6, .int .i64 7] 3 (0, 0))) fun H2 =>
    FnH Try.prog 8 #[.agg #[.int .i64 p_0, .int .i64 p_1, .int .i64 p_2, .int .i64 p_3, .slice p_4.p p_4.n p_4.c, .slice p_5.p p_5.n p_5.c, .slice p_6.p p_6.n p_6.c, .slice p_7.p p_7.n p_7.c, .int .i64 p_8]] H2 fun r2 H3 =>
      ∃ b2 : Bool,
      r2 = .bool b2 ∧
      br (!b1) (
        K (.bool b1) H3)
       (
        br (!b2) (
          K (.bool b1) H3)
         (
          br (decide (((IntKind.wrap .i64 ((p_6.n : Nat) + (p_7.n : Nat))) : Int) > 0)) (
            K (.bool b1) H3)
           (
            br ((p_1 : Int) == 0) (
              K (.bool b1) H3)
             (
              br (decide ((p_3 : Int) > 999999990)) (
                K (.bool b1) H3)
               (
                br (decide ((p_2 : Int) > 999999990)) (
                  K (.bool b1) H3)
                 (
                  FnH Try.prog 9 #[.agg #[.int .i64 p_0, .int .i64 p_1, .int .i64 p_2, .int .i64 p_3, .slice p_4.p p_4.n p_4.c, .slice p_5.p p_5.n p_5.c, .slice p_6.p p_6.n p_6.c, .slice p_7.p p_7.n p_7.c, .int .i64 p_8], .slice targets.p targets.n targets.c, .slice (some ⟨q1, 0, none⟩) 7 7] H3 fun r3 H4 =>
                    ∃ n1 : Int,
                    ∃ n2 : Int,
                    ∃ n3 : Int,
                    ∃ n4 : Int,
                    ∃ l1 : Sl,
                    ∃ l2 : Sl,
                    ∃ l3 : Sl,
                    ∃ l4 : Sl,
                    ∃ n5 : Int,
                    ∃ n6 : Int,
                    r3 = .tuple #[.agg #[.int .i64 n1, .int .i64 n2, .int .i64 n3, .int .i64 n4, .slice l1.p l1.n l1.c, .slice l2.p l2.n l2.c, .slice l3.p l3.n l3.c, .slice l4.p l4.n l4.c, .int .i64 n5], .int .i64 n6] ∧
                    br ((n6 : Int) != 0) (
                      K (.bool true) H4)
                     (
                      br (((IntKind.wrap .i64 ((l3.n : Nat) + (l4.n : Nat))) : Int) == 0) (
                        FnH Try.prog 10 #[.slice l2.p l2.n l2.c, .slice targets.p targets.n targets.c] H4 fun r4 H5 =>
                          ∃ b3 : Bool,
                          r4 = .bool b3 ∧
                          K (.bool b3) H5)
                       (
                        ∀ q2 : Nat,
                        H4 q2 = none →
                        letH (Heap.upd H4 q2 (.cells #[] 3 (0, 0))) fun H6 =>
                        runH Try.prog (Builtin.append_ #[22, 22] 22 #[.slice (some ⟨q2, 0, none⟩) 0 0, .slice l2.p l2.n l2.c]) H6 fun r5 H7 =>
                          ∃ l5 : Sl,
                          r5 = .slice l5.p l5.n l5.c ∧
                          FnH Try.prog 11 #[.agg #[.int .i64 n1, .int .i64 n2, .int .i64 n3, .int .i64 n4, .slice l1.p l1.n l1.c, .slice l2.p l2.n l2.c, .slice l3.p l3.n l3.c, .slice l4.p l4.n l4.c, .int .i64 n5], .int .i64 n2, .int .i64 n3, .int .i64 n4, .slice l5.p l5.n l5.c, .slice (some ⟨q1, 0, none⟩) 7 7] H7 fun r6 H8 =>
                            ∃ n7 : Int,
                            ∃ n8 : Int,
                            ∃ n9 : Int,
                            ∃ n10 : Int,
                            ∃ l6 : Sl,
                            ∃ l7 : Sl,
                            ∃ l8 : Sl,
                            ∃ l9 : Sl,
                            ∃ n11 : Int,
                            ∃ n12 : Int,
                            r6 = .tuple #[.agg #[.int .i64 n7, .int .i64 n8, .int .i64 n9, .int .i64 n10, .slice l6.p l6.n l6.c, .slice l7.p l7.n l7.c, .slice l8.p l8.n l8.c, .slice l9.p l9.n l9.c, .int .i64 n11], .int .i64 n12] ∧
                            FnH Try.prog 12 #[.agg #[.int .i64 n7, .int .i64 n8, .int .i64 n9, .int .i64 n10, .slice l6.p l6.n l6.c, .slice l7.p l7.n l7.c, .slice l8.p l8.n l8.c, .slice l9.p l9.n l9.c, .int .i64 n11], .slice (some ⟨q1, 0, none⟩) 7 7] H8 fun r7 H9 =>
                              ∃ n13 : Int,
                              ∃ n14 : Int,
                              ∃ n15 : Int,
                              ∃ n16 : Int,
                              ∃ l10 : Sl,
                              ∃ l11 : Sl,
                              ∃ l12 : Sl,
                              ∃ l13 : Sl,
                              ∃ n17 : Int,
                              ∃ n18 : Int,
                              r7 = .tuple #[.agg #[.int .i64 n13, .int .i64 n14, .int .i64 n15, .int .i64 n16, .slice l10.p l10.n l10.c, .slice l11.p l11.n l11.c, .slice l12.p l12.n l12.c, .slice l13.p l13.n l13.c, .int .i64 n17], .int .i64 n18] ∧
                              br ((n12 : Int) != 0) (
                                K (.bool false) H9)
                               (
                                br ((n18 : Int) != 0) (
                                  K (.bool false) H9)
                                 (
                                  FnH Try.prog 10 #[.slice l11.p l11.n l11.c, .slice targets.p targets.n targets.c] H9 fun r8 H10 =>
                                    ∃ b4 : Bool,
                                    r8 = .bool b4 ∧
                                    FnH Try.prog 13 #[.slice targets.p targets.n targets.c, .int .i64 n14] H10 fun r9 H11 =>
                                      ∃ b5 : Bool,
                                      r9 = .bool b5 ∧
                                      br (b4) (
                                        br (b5) (
                                          br (((l10.n : Nat) : Int) == (targets.n : Nat)) (
                                            K (.bool (((IntKind.wrap .i64 ((l12.n : Nat) + (l13.n : Nat))) : Int) == 0)) H11)
                                           (
                                            K (.bool false) H11))
                                         (
                                          K (.bool false) H11))
                                       (
                                        K (.bool false) H11)))))))))))
theorem logboomlaw11_MoveEnds_eq (p_0 : Int) (p_1 : Int) (p_2 : Int) (p_3 : Int) (p_4 : Sl) (p_5 : Sl) (p_6 : Sl) (p_7 : Sl) (p_8 : Int) (targets : Sl) (H : Heap) (K : Value → Heap → Prop) : logboomlaw11_MoveEnds_vc p_0 p_1 p_2 p_3 p_4 p_5 p_6 p_7 p_8 targets H K = denFn Try.prog logboomlaw11_MoveEnds_ann Try.f3 (bodyOf Try.f3) [.agg #[.int .i64 p_0, .int .i64 p_1, .int .i64 p_2, .int .i64 p_3, .slice p_4.p p_4.n p_4.c, .slice p_5.p p_5.n p_5.c, .slice p_6.p p_6.n p_6.c, .slice p_7.p p_7.n p_7.c, .int .i64 p_8], .slice targets.p targets.n targets.c] H K := by kernel_rfl
theorem logboomlaw11_MoveEnds_fn (p_0 : Int) (p_1 : Int) (p_2 : Int) (p_3 : Int) (p_4 : Sl) (p_5 : Sl) (p_6 : Sl) (p_7 : Sl) (p_8 : Int) (targets : Sl) {H : Heap} {K : Value → Heap → Prop} (h : logboomlaw11_MoveEnds_vc p_0 p_1 p_2 p_3 p_4 p_5 p_6 p_7 p_8 targets H K) : FnH Try.prog 3 #[.agg #[.int .i64 p_0, .int .i64 p_1, .int .i64 p_2, .int .i64 p_3, .slice p_4.p p_4.n p_4.c, .slice p_5.p p_5.n p_5.c, .slice p_6.p p_6.n p_6.c, .slice p_7.p p_7.n p_7.c, .int .i64 p_8], .slice targets.p targets.n targets.c] H K :=
  denFn_sound Try.mixed logboomlaw11_MoveEnds_ann Try.func3 (bodyOf_spec (by kernel_rfl)) ((logboomlaw11_MoveEnds_eq p_0 p_1 p_2 p_3 p_4 p_5 p_6 p_7 p_8 targets H K) ▸ h)

/-! function 5: logboom/logboomlaw11.MoveBack -/
def logboomlaw11_MoveBack_ann : Anns := { hid := [3, 9, 12], loops := [(0, { slots := [(14, .int .i64)], kept := [3, 12], locs := [], keptL := [0, 1, 2] })], joins := [], mix := [(17, [])] }
def logboomlaw11_MoveBack_vc (p_0 : Int) (p_1 : Int) (p_2 : Int) (p_3 : Int) (p_4 : Sl) (p_5 : Sl) (p_6 : Sl) (p_7 : Sl) (p_8 : Int) (targets : Sl) (up : Sl) (H : Heap) (K : Value → Heap → Prop) : Prop :=
  FnH Try.prog 7 #[] H fun r1 H1 =>
    ∃ b1 : Bool,
    r1 = .bool b1 ∧
    FnH Try.prog 8 #[.agg #[.int .i64 p_0, .int .i64 p_1, .int .i64 p_2, .int .i64 p_3, .slice p_4.p p_4.n p_4.c, .slice p_5.p p_5.n p_5.c, .slice p_6.p p_6.n p_6.c, .slice p_7.p p_7.n p_7.c, .int .i64 p_8]] H1 fun r2 H2 =>
      ∃ b2 : Bool,
      r2 = .bool b2 ∧
      br (!b1) (
        K (.bool b1) H2)
       (
        br (!b2) (
          K (.bool b1) H2)
         (
          br (decide (((IntKind.wrap .i64 ((p_6.n : Nat) + (p_7.n : Nat))) : Int) > 0)) (
            K (.bool b1) H2)
           (
            FnH Try.prog 9 #[.agg #[.int .i64 p_0, .int .i64 p_1, .int .i64 p_2, .int .i64 p_3, .slice p_4.p p_4.n p_4.c, .slice p_5.p p_5.n p_5.c, .slice p_6.p p_6.n p_6.c, .slice p_7.p p_7.n p_7.c, .int .i64 p_8], .slice targets.p targets.n targets.c, .slice up.p up.n up.c] H2 fun r3 H3 =>
              ∃ n1 : Int,
              ∃ n2 : Int,
              ∃ n3 : Int,
              ∃ n4 : Int,
              ∃ l1 : Sl,
              ∃ l2 : Sl,
              ∃ l3 : Sl,
              ∃ l4 : Sl,
              ∃ n5 : Int,
              ∃ n6 : Int,
              r3 = .tuple #[.agg #[.int .i64 n1, .int .i64 n2, .int .i64 n3, .int .i64 n4, .slice l1.p l1.n l1.c, .slice l2.p l2.n l2.c, .slice l3.p l3.n l3.c, .slice l4.p l4.n l4.c, .int .i64 n5], .int .i64 n6] ∧
              FnH Try.prog 17 #[.agg #[.int .i64 p_0, .int .i64 p_1, .int .i64 p_2, .int .i64 p_3, .slice p_4.p p_4.n p_4.c, .slice p_5.p p_5.n p_5.c, .slice p_6.p p_6.n p_6.c, .slice p_7.p p_7.n p_7.c, .int .i64 p_8], .agg #[.int .i64 n1, .int .i64 n2, .int .i64 n3, .int .i64 n4, .slice l1.p l1.n l1.c, .slice l2.p l2.n l2.c, .slice l3.p l3.n l3.c, .slice l4.p l4.n l4.c, .int .i64 n5]] H3 fun r4 H4 =>
                ∃ b3 : Bool,
                r4 = .bool b3 ∧
                br ((n6 : Int) != 0) (
                  K (.bool true) H4)
                 (
                  br (b3) (
                    K (.bool true) H4)
                   (
                    br (((IntKind.wrap .i64 ((l3.n : Nat) + (l4.n : Nat))) : Int) == 0) (
                      K (.bool true) H4)
                     (
                      FnH Try.prog 18 #[.agg #[.int .i64 n1, .int .i64 n2, .int .i64 n3, .int .i64 n4, .slice l1.p l1.n l1.c, .slice l2.p l2.n l2.c, .slice l3.p l3.n l3.c, .slice l4.p l4.n l4.c, .int .i64 n5], .slice up.p up.n up.c] H4 fun r5 H5 =>
                        ∃ n7 : Int,
                        ∃ n8 : Int,
                        ∃ n9 : Int,
                        ∃ n10 : Int,
                        ∃ l5 : Sl,
                        ∃ l6 : Sl,
                        ∃ l7 : Sl,
                        ∃ l8 : Sl,
                        ∃ n11 : Int,
                        ∃ n12 : Int,
                        r5 = .tuple #[.agg #[.int .i64 n7, .int .i64 n8, .int .i64 n9, .int .i64 n10, .slice l5.p l5.n l5.c, .slice l6.p l6.n l6.c, .slice l7.p l7.n l7.c, .slice l8.p l8.n l8.c, .int .i64 n11], .int .i64 n12] ∧
                        br ((n12 : Int) != 0) (
                          K (.bool (decide ((p_3 : Int) > 999999990))) H5)
                         (
                          br (((l6.n : Nat) : Int) != (p_5.n : Nat)) (
                            K (.bool false) H5)
                           (
                            br (decide (((IntKind.wrap .i64 ((l7.n : Nat) + (l8.n : Nat))) : Int) > 0)) (
                              K (.bool false) H5)
                             (
                              ∃ I1 : Int → Heap → Prop,
                              ∃ M1 : Int → Heap → Nat,
                              I1 0 H5 ∧
                              ∀ i_1 : Int,
                              ∀ H6 : Heap,
                              I1 i_1 H6 →
                              br (decide ((i_1 : Int) < (p_5.n : Nat))) (
                                ∃ q1 : Nat,
                                ∃ o1 : Nat,
                                (p_5.p : Option Addr) = some ⟨q1, o1, none⟩ ∧
                                0 ≤ (i_1 : Int) ∧
                                (i_1 : Int) < (p_5.n : Nat) ∧
                                ∃ n13 : Int,
                                cellH H6 ⟨q1, o1 + Int.toNat i_1, none⟩ = some (.int .i64 n13) ∧
                                FnH Try.prog 13 #[.slice l6.p l6.n l6.c, .int .i64 n13] H6 fun r6 H7 =>
                                  ∃ b4 : Bool,
                                  r6 = .bool b4 ∧
                                  Sub H6 H7 ∧
                                  br (!b4) (
                                    K (.bool false) H7)
                                   (
                                    SelfEq ([.loc 0 0, .loc 2 0], [some (24, [.int .i64 p_0, .int .i64 p_1, .int .i64 p_2, .int .i64 p_3, .slice p_4.p p_4.n p_4.c, .slice p_5.p p_5.n p_5.c, .slice p_6.p p_6.n p_6.c, .slice p_7.p p_7.n p_7.c, .int .i64 p_8]), some (24, [.int .i64 n1, .int .i64 n2, .int .i64 n3, .int .i64 n4, .slice l1.p l1.n l1.c, .slice l2.p l2.n l2.c, .slice l3.p l3.n l3.c, .slice l4.p l4.n l4.c, .int .i64 n5]), some (24, [.int .i64 n7, .int .i64 n8, .int .i64 n9, .int .i64 n10, .slice l5.p l5.n l5.c, .slice l6.p l6.n l6.c, .slice l7.p l7.n l7.c, .slice l8.p l8.n l8.c, .int .i64 n11])], []) ∧
                                    I1 (IntKind.wrap .i64 (i_1 + 1)) H7 ∧
                                    M1 (IntKind.wrap .i64 (i_1 + 1)) H7 < M1 i_1 H6))
                               (
                                FnH Try.prog 10 #[.slice l5.p l5.n l5.c, .slice p_4.p p_4.n p_4.c] H6 fun r7 H8 =>
                                  ∃ b5 : Bool,
                                  r7 = .bool b5 ∧
                                  br (b5) (
                                    br ((n8 : Int) == p_1) (
                                      br ((n9 : Int) == p_2) (
                                        K (.bool ((n10 : Int) == (IntKind.wrap .i64 (p_3 + 2)))) H8)
                                       (
                                        K (.bool false) H8))
                                     (
                                      K (.bool false) H8))
                                   (
                                    K (.bool false) H8)))))))))))
theorem logboomlaw11_MoveBack_eq (p_0 : Int) (p_1 : Int) (p_2 : Int) (p_3 : Int) (p_4 : Sl) (p_5 : Sl) (p_6 : Sl) (p_7 : Sl) (p_8 : Int) (targets : Sl) (up : Sl) (H : Heap) (K : Value → Heap → Prop) : logboomlaw11_MoveBack_vc p_0 p_1 p_2 p_3 p_4 p_5 p_6 p_7 p_8 targets up H K = denFn Try.prog logboomlaw11_MoveBack_ann Try.f5 (bodyOf Try.f5) [.agg #[.int .i64 p_0, .int .i64 p_1, .int .i64 p_2, .int .i64 p_3, .slice p_4.p p_4.n p_4.c, .slice p_5.p p_5.n p_5.c, .slice p_6.p p_6.n p_6.c, .slice p_7.p p_7.n p_7.c, .int .i64 p_8], .slice targets.p targets.n targets.c, .slice up.p up.n up.c] H K := by kernel_rfl
theorem logboomlaw11_MoveBack_fn (p_0 : Int) (p_1 : Int) (p_2 : Int) (p_3 : Int) (p_4 : Sl) (p_5 : Sl) (p_6 : Sl) (p_7 : Sl) (p_8 : Int) (targets : Sl) (up : Sl) {H : Heap} {K : Value → Heap → Prop} (h : logboomlaw11_MoveBack_vc p_0 p_1 p_2 p_3 p_4 p_5 p_6 p_7 p_8 targets up H K) : FnH Try.prog 5 #[.agg #[.int .i64 p_0, .int .i64 p_1, .int .i64 p_2, .int .i64 p_3, .slice p_4.p p_4.n p_4.c, .slice p_5.p p_5.n p_5.c, .slice p_6.p p_6.n p_6.c, .slice p_7.p p_7.n p_7.c, .int .i64 p_8], .slice targets.p targets.n targets.c, .slice up.p up.n up.c] H K :=
  denFn_sound Try.mixed logboomlaw11_MoveBack_ann Try.func5 (bodyOf_spec (by kernel_rfl)) ((logboomlaw11_MoveBack_eq p_0 p_1 p_2 p_3 p_4 p_5 p_6 p_7 p_8 targets up H K) ▸ h)

end Go.Proofs.Ytahempkggcbegaa
