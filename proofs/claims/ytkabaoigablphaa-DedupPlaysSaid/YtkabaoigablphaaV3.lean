/- Formulas of functions, printed by this session's vc.py; each is tied to the program by the kernel. -/
import Derived.Test.YtkabaoigablphaaProg
import Derived.KernelRfl
import Derived.Test.YtkabaoigablphaaHlFn
import Derived.Test.YtkabaoigablphaaV2
namespace Go.Proofs.Ytkabaoigablphaa
open Go.HL
set_option maxRecDepth 100000
/-! function 15: logboom/logboomlaw8.answered -/
def logboomlaw8_answered_ann : Anns := { hid := [5, 14], loops := [(0, { slots := [(9, .int .i64), (10, .int .i64), (11, .int .i64), (12, .int .i64), (13, .int .i64)], kept := [0, 2, 3, 5], locs := [], keptL := [0] })], joins := [((11, 11), { slots := [(9, .int .i64), (10, .int .i64)], kept := [0, 2, 3, 5, 11, 12, 13, 14], locs := [], keptL := [0, 1] }), ((11, 14), { slots := [(11, .int .i64)], kept := [0, 2, 3, 5, 9, 10, 12, 13, 14], locs := [], keptL := [0, 1] }), ((11, 16), { slots := [(12, .int .i64)], kept := [0, 2, 3, 5, 9, 10, 11, 13, 14], locs := [], keptL := [0, 1] })], mix := [] }
def logboomlaw8_answered_vc (log : Sl) (b_0 : Int) (b_1 : Int) (b_2 : Int) (b_3 : Int) (b_4 : Int) (b_5 : Sl) (at0 : Int) (e : Int) (H : Heap) (K : Value → Heap → Prop) : Prop :=
  ∃ I1 : Int → Int → Int → Int → Int → Heap → Prop,
  ∃ M1 : Int → Int → Int → Int → Int → Heap → Nat,
  I1 (-1) 0 0 (-1) (IntKind.wrap .i64 ((log.n : Nat) - 1)) H ∧
  ∀ epoch_1 : Int,
  ∀ behind_1 : Int,
  ∀ count_1 : Int,
  ∀ found_1 : Int,
  ∀ i_1 : Int,
  ∀ H1 : Heap,
  I1 epoch_1 behind_1 count_1 found_1 i_1 H1 →
  br (decide ((i_1 : Int) ≥ 0)) (
    ∃ q1 : Nat,
    ∃ o1 : Nat,
    (log.p : Option Addr) = some ⟨q1, o1, none⟩ ∧
    0 ≤ (i_1 : Int) ∧
    (i_1 : Int) < (log.n : Nat) ∧
    ∃ n1 : Int,
    cellH H1 ⟨q1, o1 + Int.toNat i_1 * 6, none⟩ = some (.int .i64 n1) ∧
    ∃ n2 : Int,
    cellH H1 ⟨q1, o1 + Int.toNat i_1 * 6 + 1, none⟩ = some (.int .i64 n2) ∧
    ∃ n3 : Int,
    cellH H1 ⟨q1, o1 + Int.toNat i_1 * 6 + 2, none⟩ = some (.int .i64 n3) ∧
    ∃ n4 : Int,
    cellH H1 ⟨q1, o1 + Int.toNat i_1 * 6 + 3, none⟩ = some (.int .i64 n4) ∧
    ∃ n5 : Int,
    cellH H1 ⟨q1, o1 + Int.toNat i_1 * 6 + 4, none⟩ = some (.int .i64 n5) ∧
    ∃ l1 : Sl,
    cellH H1 ⟨q1, o1 + Int.toNat i_1 * 6 + 5, none⟩ = some (.slice l1.p l1.n l1.c) ∧
    br ((n3 : Int) != b_2) (
      SelfEq ([.v (.slice log.p log.n log.c), .v (.int .i64 at0), .v (.int .i64 e), .loc 0 0], [some (33, [.int .i64 b_0, .int .i64 b_1, .int .i64 b_2, .int .i64 b_3, .int .i64 b_4, .slice b_5.p b_5.n b_5.c])], []) ∧
      I1 epoch_1 behind_1 count_1 found_1 (IntKind.wrap .i64 (i_1 - 1)) H1 ∧
      M1 epoch_1 behind_1 count_1 found_1 (IntKind.wrap .i64 (i_1 - 1)) H1 < M1 epoch_1 behind_1 count_1 found_1 i_1 H1)
     (
      ∃ J1 : Int → Int → Heap → Prop,
      (br (decide ((epoch_1 : Int) < 0)) (
        SelfEq ([.v (.slice log.p log.n log.c), .v (.int .i64 at0), .v (.int .i64 e), .loc 0 0, .v (.int .i64 count_1), .v (.int .i64 found_1), .v (.int .i64 i_1), .loc 1 0], [some (33, [.int .i64 b_0, .int .i64 b_1, .int .i64 b_2, .int .i64 b_3, .int .i64 b_4, .slice b_5.p b_5.n b_5.c]), some (33, [.int .i64 n1, .int .i64 n2, .int .i64 n3, .int .i64 n4, .int .i64 n5, .slice l1.p l1.n l1.c])], []) ∧
        J1 n4 (IntKind.wrap .i64 (n5 + (l1.n : Nat))) H1)
       (
        SelfEq ([.v (.slice log.p log.n log.c), .v (.int .i64 at0), .v (.int .i64 e), .loc 0 0, .v (.int .i64 count_1), .v (.int .i64 found_1), .v (.int .i64 i_1), .loc 1 0], [some (33, [.int .i64 b_0, .int .i64 b_1, .int .i64 b_2, .int .i64 b_3, .int .i64 b_4, .slice b_5.p b_5.n b_5.c]), some (33, [.int .i64 n1, .int .i64 n2, .int .i64 n3, .int .i64 n4, .int .i64 n5, .slice l1.p l1.n l1.c])], []) ∧
        J1 epoch_1 behind_1 H1)) ∧
      ∀ epoch_2 : Int,
      ∀ behind_2 : Int,
      ∀ H2 : Heap,
      J1 epoch_2 behind_2 H2 →
      ∃ J2 : Int → Heap → Prop,
      (br ((n4 : Int) == epoch_2) (
        SelfEq ([.v (.slice log.p log.n log.c), .v (.int .i64 at0), .v (.int .i64 e), .loc 0 0, .v (.int .i64 epoch_2), .v (.int .i64 behind_2), .v (.int .i64 found_1), .v (.int .i64 i_1), .loc 1 0], [some (33, [.int .i64 b_0, .int .i64 b_1, .int .i64 b_2, .int .i64 b_3, .int .i64 b_4, .slice b_5.p b_5.n b_5.c]), some (33, [.int .i64 n1, .int .i64 n2, .int .i64 n3, .int .i64 n4, .int .i64 n5, .slice l1.p l1.n l1.c])], []) ∧
        J2 (IntKind.wrap .i64 (count_1 + 1)) H2)
       (
        SelfEq ([.v (.slice log.p log.n log.c), .v (.int .i64 at0), .v (.int .i64 e), .loc 0 0, .v (.int .i64 epoch_2), .v (.int .i64 behind_2), .v (.int .i64 found_1), .v (.int .i64 i_1), .loc 1 0], [some (33, [.int .i64 b_0, .int .i64 b_1, .int .i64 b_2, .int .i64 b_3, .int .i64 b_4, .slice b_5.p b_5.n b_5.c]), some (33, [.int .i64 n1, .int .i64 n2, .int .i64 n3, .int .i64 n4, .int .i64 n5, .slice l1.p l1.n l1.c])], []) ∧
        J2 count_1 H2)) ∧
      ∀ count_2 : Int,
      ∀ H3 : Heap,
      J2 count_2 H3 →
      ∃ J3 : Int → Heap → Prop,
      (br ((n4 : Int) == b_3) (
        br ((n5 : Int) == b_4) (
          br (((l1.n : Nat) : Int) == (b_5.n : Nat)) (
            br ((epoch_2 : Int) == b_3) (
              br (decide ((count_2 : Int) ≤ 5)) (
                SelfEq ([.v (.slice log.p log.n log.c), .v (.int .i64 at0), .v (.int .i64 e), .loc 0 0, .v (.int .i64 epoch_2), .v (.int .i64 behind_2), .v (.int .i64 count_2), .v (.int .i64 i_1), .loc 1 0], [some (33, [.int .i64 b_0, .int .i64 b_1, .int .i64 b_2, .int .i64 b_3, .int .i64 b_4, .slice b_5.p b_5.n b_5.c]), some (33, [.int .i64 n1, .int .i64 n2, .int .i64 n3, .int .i64 n4, .int .i64 n5, .slice l1.p l1.n l1.c])], []) ∧
                J3 n1 H3)
               (
                SelfEq ([.v (.slice log.p log.n log.c), .v (.int .i64 at0), .v (.int .i64 e), .loc 0 0, .v (.int .i64 epoch_2), .v (.int .i64 behind_2), .v (.int .i64 count_2), .v (.int .i64 i_1), .loc 1 0], [some (33, [.int .i64 b_0, .int .i64 b_1, .int .i64 b_2, .int .i64 b_3, .int .i64 b_4, .slice b_5.p b_5.n b_5.c]), some (33, [.int .i64 n1, .int .i64 n2, .int .i64 n3, .int .i64 n4, .int .i64 n5, .slice l1.p l1.n l1.c])], []) ∧
                J3 found_1 H3))
             (
              SelfEq ([.v (.slice log.p log.n log.c), .v (.int .i64 at0), .v (.int .i64 e), .loc 0 0, .v (.int .i64 epoch_2), .v (.int .i64 behind_2), .v (.int .i64 count_2), .v (.int .i64 i_1), .loc 1 0], [some (33, [.int .i64 b_0, .int .i64 b_1, .int .i64 b_2, .int .i64 b_3, .int .i64 b_4, .slice b_5.p b_5.n b_5.c]), some (33, [.int .i64 n1, .int .i64 n2, .int .i64 n3, .int .i64 n4, .int .i64 n5, .slice l1.p l1.n l1.c])], []) ∧
              J3 found_1 H3))
           (
            SelfEq ([.v (.slice log.p log.n log.c), .v (.int .i64 at0), .v (.int .i64 e), .loc 0 0, .v (.int .i64 epoch_2), .v (.int .i64 behind_2), .v (.int .i64 count_2), .v (.int .i64 i_1), .loc 1 0], [some (33, [.int .i64 b_0, .int .i64 b_1, .int .i64 b_2, .int .i64 b_3, .int .i64 b_4, .slice b_5.p b_5.n b_5.c]), some (33, [.int .i64 n1, .int .i64 n2, .int .i64 n3, .int .i64 n4, .int .i64 n5, .slice l1.p l1.n l1.c])], []) ∧
            J3 found_1 H3))
         (
          SelfEq ([.v (.slice log.p log.n log.c), .v (.int .i64 at0), .v (.int .i64 e), .loc 0 0, .v (.int .i64 epoch_2), .v (.int .i64 behind_2), .v (.int .i64 count_2), .v (.int .i64 i_1), .loc 1 0], [some (33, [.int .i64 b_0, .int .i64 b_1, .int .i64 b_2, .int .i64 b_3, .int .i64 b_4, .slice b_5.p b_5.n b_5.c]), some (33, [.int .i64 n1, .int .i64 n2, .int .i64 n3, .int .i64 n4, .int .i64 n5, .slice l1.p l1.n l1.c])], []) ∧
          J3 found_1 H3))
       (
        SelfEq ([.v (.slice log.p log.n log.c), .v (.int .i64 at0), .v (.int .i64 e), .loc 0 0, .v (.int .i64 epoch_2), .v (.int .i64 behind_2), .v (.int .i64 count_2), .v (.int .i64 i_1), .loc 1 0], [some (33, [.int .i64 b_0, .int .i64 b_1, .int .i64 b_2, .int .i64 b_3, .int .i64 b_4, .slice b_5.p b_5.n b_5.c]), some (33, [.int .i64 n1, .int .i64 n2, .int .i64 n3, .int .i64 n4, .int .i64 n5, .slice l1.p l1.n l1.c])], []) ∧
        J3 found_1 H3)) ∧
      ∀ found_2 : Int,
      ∀ H4 : Heap,
      J3 found_2 H4 →
      FnH Try.prog 33 #[.agg #[.int .i64 n1, .int .i64 n2, .int .i64 n3, .int .i64 n4, .int .i64 n5, .slice l1.p l1.n l1.c], .agg #[.int .i64 b_0, .int .i64 b_1, .int .i64 b_2, .int .i64 b_3, .int .i64 b_4, .slice b_5.p b_5.n b_5.c]] H4 fun r1 H5 =>
        ∃ b1 : Bool,
        r1 = .bool b1 ∧
        br (b1) (
          br ((e : Int) == 0) (
            br (decide ((at0 : Int) < 0)) (
              K (.bool false) H5)
             (
              SelfEq ([.v (.slice log.p log.n log.c), .v (.int .i64 at0), .v (.int .i64 e), .loc 0 0], [some (33, [.int .i64 b_0, .int .i64 b_1, .int .i64 b_2, .int .i64 b_3, .int .i64 b_4, .slice b_5.p b_5.n b_5.c])], []) ∧
              I1 epoch_2 behind_2 count_2 found_2 (IntKind.wrap .i64 (i_1 - 1)) H5 ∧
              M1 epoch_2 behind_2 count_2 found_2 (IntKind.wrap .i64 (i_1 - 1)) H5 < M1 epoch_1 behind_1 count_1 found_1 i_1 H1))
           (
            SelfEq ([.v (.slice log.p log.n log.c), .v (.int .i64 at0), .v (.int .i64 e), .loc 0 0], [some (33, [.int .i64 b_0, .int .i64 b_1, .int .i64 b_2, .int .i64 b_3, .int .i64 b_4, .slice b_5.p b_5.n b_5.c])], []) ∧
            I1 epoch_2 behind_2 count_2 found_2 (IntKind.wrap .i64 (i_1 - 1)) H5 ∧
            M1 epoch_2 behind_2 count_2 found_2 (IntKind.wrap .i64 (i_1 - 1)) H5 < M1 epoch_1 behind_1 count_1 found_1 i_1 H1))
         (
          SelfEq ([.v (.slice log.p log.n log.c), .v (.int .i64 at0), .v (.int .i64 e), .loc 0 0], [some (33, [.int .i64 b_0, .int .i64 b_1, .int .i64 b_2, .int .i64 b_3, .int .i64 b_4, .slice b_5.p b_5.n b_5.c])], []) ∧
          I1 epoch_2 behind_2 count_2 found_2 (IntKind.wrap .i64 (i_1 - 1)) H5 ∧
          M1 epoch_2 behind_2 count_2 found_2 (IntKind.wrap .i64 (i_1 - 1)) H5 < M1 epoch_1 behind_1 count_1 found_1 i_1 H1)))
   (
    br (decide ((found_1 : Int) ≥ 0)) (
      br ((e : Int) == 0) (
        K (.bool ((at0 : Int) == found_1)) H1)
       (
        K (.bool false) H1))
     (
      br ((e : Int) == 0) (
        br ((at0 : Int) == (-1)) (
          br ((b_3 : Int) == epoch_1) (
            br ((b_4 : Int) == behind_1) (
              K (.bool true) H1)
             (
              br (decide ((b_3 : Int) > epoch_1)) (
                K (.bool ((b_4 : Int) == 0)) H1)
               (
                K (.bool false) H1)))
           (
            br (decide ((b_3 : Int) > epoch_1)) (
              K (.bool ((b_4 : Int) == 0)) H1)
             (
              K (.bool false) H1)))
         (
          K (.bool false) H1))
       (
        br ((e : Int) == 13) (
          K (.bool (decide ((b_3 : Int) < epoch_1))) H1)
         (
          br ((e : Int) == 11) (
            br ((b_3 : Int) == epoch_1) (
              br (decide ((b_4 : Int) > behind_1)) (
                K (.bool true) H1)
               (
                br (decide ((b_3 : Int) > epoch_1)) (
                  K (.bool (decide ((b_4 : Int) > 0))) H1)
                 (
                  K (.bool false) H1)))
             (
              br (decide ((b_3 : Int) > epoch_1)) (
                K (.bool (decide ((b_4 : Int) > 0))) H1)
               (
                K (.bool false) H1)))
           (
            br ((e : Int) == 12) (
              br ((b_3 : Int) == epoch_1) (
                K (.bool (decide ((b_4 : Int) < behind_1))) H1)
               (
                K (.bool false) H1))
             (
              K (.bool false) H1))))))
theorem logboomlaw8_answered_eq (log : Sl) (b_0 : Int) (b_1 : Int) (b_2 : Int) (b_3 : Int) (b_4 : Int) (b_5 : Sl) (at0 : Int) (e : Int) (H : Heap) (K : Value → Heap → Prop) : logboomlaw8_answered_vc log b_0 b_1 b_2 b_3 b_4 b_5 at0 e H K = denFn Try.prog logboomlaw8_answered_ann Try.f15 (bodyOf Try.f15) [.slice log.p log.n log.c, .agg #[.int .i64 b_0, .int .i64 b_1, .int .i64 b_2, .int .i64 b_3, .int .i64 b_4, .slice b_5.p b_5.n b_5.c], .int .i64 at0, .int .i64 e] H K := by kernel_rfl
theorem logboomlaw8_answered_fn (log : Sl) (b_0 : Int) (b_1 : Int) (b_2 : Int) (b_3 : Int) (b_4 : Int) (b_5 : Sl) (at0 : Int) (e : Int) {H : Heap} {K : Value → Heap → Prop} (h : logboomlaw8_answered_vc log b_0 b_1 b_2 b_3 b_4 b_5 at0 e H K) : FnH Try.prog 15 #[.slice log.p log.n log.c, .agg #[.int .i64 b_0, .int .i64 b_1, .int .i64 b_2, .int .i64 b_3, .int .i64 b_4, .slice b_5.p b_5.n b_5.c], .int .i64 at0, .int .i64 e] H K :=
  denFn_fn Try.mixed logboomlaw8_answered_ann Try.func15 (bodyOf_spec (by kernel_rfl)) (logboomlaw8_answered_eq log b_0 b_1 b_2 b_3 b_4 b_5 at0 e H K) h

/-! function 7: logboom/logboomlaw8.shown -/
def logboomlaw8_shown_ann : Anns := { hid := [], loops := [], joins := [], mix := [] }
def logboomlaw8_shown_vc  (H : Heap) (K : Value → Heap → Prop) : Prop :=
  FnH Try.prog 8 #[] H fun r1 H1 =>
    ∃ p1 : Option Addr,
    r1 = .pointer p1 ∧
    br (Option.isNone p1) (
      K (.bool false) H1)
     (
      FnH Try.prog 14 #[.pointer p1, .int .i64 7, .int .i64 0, .int .i64 0, .int .i64 2] H1 fun r2 H2 =>
        ∃ n1 : Int,
        ∃ n2 : Int,
        r2 = .tuple #[.int .i64 n1, .int .i64 n2] ∧
        FnH Try.prog 13 #[.int .i64 7, .int .i64 0, .int .i64 0, .int .i64 2, .int .i64 10] H2 fun r3 H3 =>
          ∃ n3 : Int,
          ∃ n4 : Int,
          ∃ n5 : Int,
          ∃ n6 : Int,
          ∃ n7 : Int,
          ∃ l1 : Sl,
          r3 = .agg #[.int .i64 n3, .int .i64 n4, .int .i64 n5, .int .i64 n6, .int .i64 n7, .slice l1.p l1.n l1.c] ∧
          FnH Try.prog 16 #[.pointer p1, .agg #[.int .i64 n3, .int .i64 n4, .int .i64 n5, .int .i64 n6, .int .i64 n7, .slice l1.p l1.n l1.c]] H3 fun r4 H4 =>
            r4 = .tuple #[] ∧
            FnH Try.prog 14 #[.pointer p1, .int .i64 7, .int .i64 0, .int .i64 0, .int .i64 2] H4 fun r5 H5 =>
              ∃ n8 : Int,
              ∃ n9 : Int,
              r5 = .tuple #[.int .i64 n8, .int .i64 n9] ∧
              FnH Try.prog 14 #[.pointer p1, .int .i64 7, .int .i64 0, .int .i64 2, .int .i64 1] H5 fun r6 H6 =>
                ∃ n10 : Int,
                ∃ n11 : Int,
                r6 = .tuple #[.int .i64 n10, .int .i64 n11] ∧
                FnH Try.prog 14 #[.pointer p1, .int .i64 7, .int .i64 0, .int .i64 3, .int .i64 1] H6 fun r7 H7 =>
                  ∃ n12 : Int,
                  ∃ n13 : Int,
                  r7 = .tuple #[.int .i64 n12, .int .i64 n13] ∧
                  FnH Try.prog 14 #[.pointer p1, .int .i64 7, .int .i64 0, .int .i64 1, .int .i64 1] H7 fun r8 H8 =>
                    ∃ n14 : Int,
                    ∃ n15 : Int,
                    r8 = .tuple #[.int .i64 n14, .int .i64 n15] ∧
                    FnH Try.prog 13 #[.int .i64 7, .int .i64 1, .int .i64 0, .int .i64 1, .int .i64 12] H8 fun r9 H9 =>
                      ∃ n16 : Int,
                      ∃ n17 : Int,
                      ∃ n18 : Int,
                      ∃ n19 : Int,
                      ∃ n20 : Int,
                      ∃ l2 : Sl,
                      r9 = .agg #[.int .i64 n16, .int .i64 n17, .int .i64 n18, .int .i64 n19, .int .i64 n20, .slice l2.p l2.n l2.c] ∧
                      FnH Try.prog 16 #[.pointer p1, .agg #[.int .i64 n16, .int .i64 n17, .int .i64 n18, .int .i64 n19, .int .i64 n20, .slice l2.p l2.n l2.c]] H9 fun r10 H10 =>
                        r10 = .tuple #[] ∧
                        FnH Try.prog 14 #[.pointer p1, .int .i64 7, .int .i64 0, .int .i64 2, .int .i64 1] H10 fun r11 H11 =>
                          ∃ n21 : Int,
                          ∃ n22 : Int,
                          r11 = .tuple #[.int .i64 n21, .int .i64 n22] ∧
                          FnH Try.prog 11 #[.pointer p1, .int .i64 12] H11 fun r12 H12 =>
                            r12 = .tuple #[] ∧
                            FnH Try.prog 14 #[.pointer p1, .int .i64 7, .int .i64 0, .int .i64 2, .int .i64 1] H12 fun r13 H13 =>
                              ∃ n23 : Int,
                              ∃ n24 : Int,
                              r13 = .tuple #[.int .i64 n23, .int .i64 n24] ∧
                              br ((n1 : Int) == (-1)) (
                                br ((n2 : Int) == 0) (
                                  br ((n8 : Int) == 10) (
                                    br ((n9 : Int) == 0) (
                                      br ((n10 : Int) == (-1)) (
                                        br ((n11 : Int) == 0) (
                                          br ((n13 : Int) == 11) (
                                            br ((n15 : Int) == 12) (
                                              br ((n22 : Int) == 13) (
                                                br ((n23 : Int) == (-1)) (
                                                  K (.bool ((n24 : Int) == 0)) H13)
                                                 (
                                                  K (.bool false) H13))
                                               (
                                                K (.bool false) H13))
                                             (
                                              K (.bool false) H13))
                                           (
                                            K (.bool false) H13))
                                         (
                                          K (.bool false) H13))
                                       (
                                        K (.bool false) H13))
                                     (
                                      K (.bool false) H13))
                                   (
                                    K (.bool false) H13))
                                 (
                                  K (.bool false) H13))
                               (
                                K (.bool false) H13))
theorem logboomlaw8_shown_eq  (H : Heap) (K : Value → Heap → Prop) : logboomlaw8_shown_vc  H K = denFn Try.prog logboomlaw8_shown_ann Try.f7 (bodyOf Try.f7) [] H K := by kernel_rfl
theorem logboomlaw8_shown_fn  {H : Heap} {K : Value → Heap → Prop} (h : logboomlaw8_shown_vc  H K) : FnH Try.prog 7 #[] H K :=
  denFn_fn Try.mixed logboomlaw8_shown_ann Try.func7 (bodyOf_spec (by kernel_rfl)) (logboomlaw8_shown_eq  H K) h

/-! function 3: logboom/logboomlaw8.DedupOnce -/
def logboomlaw8_DedupOnce_ann : Anns := { hid := [9, 11], loops := [(0, { slots := [(5, .slice), (6, .int .i64), (7, .int .i64), (8, .int .i64)], kept := [0, 4], locs := [], keptL := [] })], joins := [((0, 24), { slots := [(107, .bool)], kept := [0, 4, 5, 6, 7, 8, 10], locs := [], keptL := [0] }), ((0, 18), { slots := [(75, .bool)], kept := [0, 4, 5, 6, 7, 8, 9, 11], locs := [], keptL := [0, 1] })], mix := [] }
def logboomlaw8_DedupOnce_vc (script : Sl) (H : Heap) (K : Value → Heap → Prop) : Prop :=
  FnH Try.prog 7 #[] H fun r1 H1 =>
    ∃ b1 : Bool,
    r1 = .bool b1 ∧
    FnH Try.prog 8 #[] H1 fun r2 H2 =>
      ∃ p1 : Option Addr,
      r2 = .pointer p1 ∧
      br (!b1) (
        K (.bool false) H2)
       (
        br (Option.isNone p1) (
          K (.bool false) H2)
         (
          ∃ I1 : Sl → Int → Int → Int → Heap → Prop,
          ∃ M1 : Sl → Int → Int → Int → Heap → Nat,
          I1 ⟨none, 0, 0⟩ 0 0 0 H2 ∧
          ∀ log_1 : Sl,
          ∀ start_1 : Int,
          ∀ next_1 : Int,
          ∀ i_1 : Int,
          ∀ H3 : Heap,
          I1 log_1 start_1 next_1 i_1 H3 →
          br (decide ((i_1 : Int) < (script.n : Nat))) (
            br (decide ((i_1 : Int) < 200)) (
              ∃ q1 : Nat,
              ∃ o1 : Nat,
              (script.p : Option Addr) = some ⟨q1, o1, none⟩ ∧
              0 ≤ (i_1 : Int) ∧
              (i_1 : Int) < (script.n : Nat) ∧
              ∃ n1 : Int,
              cellH H3 ⟨q1, o1 + Int.toNat i_1 * 6, none⟩ = some (.int .i64 n1) ∧
              ∃ n2 : Int,
              cellH H3 ⟨q1, o1 + Int.toNat i_1 * 6 + 1, none⟩ = some (.int .i64 n2) ∧
              ∃ n3 : Int,
              cellH H3 ⟨q1, o1 + Int.toNat i_1 * 6 + 2, none⟩ = some (.int .i64 n3) ∧
              ∃ n4 : Int,
              cellH H3 ⟨q1, o1 + Int.toNat i_1 * 6 + 3, none⟩ = some (.int .i64 n4) ∧
              ∃ n5 : Int,
              cellH H3 ⟨q1, o1 + Int.toNat i_1 * 6 + 4, none⟩ = some (.int .i64 n5) ∧
              ∃ n6 : Int,
              cellH H3 ⟨q1, o1 + Int.toNat i_1 * 6 + 5, none⟩ = some (.int .i64 n6) ∧
              FnH Try.prog 9 #[.agg #[.int .i64 n1, .int .i64 n2, .int .i64 n3, .int .i64 n4, .int .i64 n5, .int .i64 n6]] H3 fun r3 H4 =>
                ∃ n7 : Int,
                ∃ n8 : Int,
                ∃ n9 : Int,
                ∃ n10 : Int,
                ∃ n11 : Int,
                ∃ n12 : Int,
                r3 = .agg #[.int .i64 n7, .int .i64 n8, .int .i64 n9, .int .i64 n10, .int .i64 n11, .int .i64 n12] ∧
                br ((n7 : Int) == 6) (
                  FnH Try.prog 10 #[.int .i64 n12, .int .i64 (IntKind.wrap .i64 ((log_1.n : Nat) + 1))] H4 fun r4 H5 =>
                    ∃ n13 : Int,
                    r4 = .int .i64 n13 ∧
                    ∃ J1 : Bool → Heap → Prop,
                    (br (decide ((n13 : Int) < (log_1.n : Nat))) (
                      ∃ q2 : Nat,
                      ∃ o2 : Nat,
                      (log_1.p : Option Addr) = some ⟨q2, o2, none⟩ ∧
                      0 ≤ (n13 : Int) ∧
                      (n13 : Int) < (log_1.n : Nat) ∧
                      ∃ n14 : Int,
                      cellH H5 ⟨q2, o2 + Int.toNat n13 * 6, none⟩ = some (.int .i64 n14) ∧
                      SelfEq ([.v (.slice script.p script.n script.c), .v (.pointer p1), .v (.slice log_1.p log_1.n log_1.c), .v (.int .i64 start_1), .v (.int .i64 next_1), .v (.int .i64 i_1), .v (.int .i64 n13)], [some (28, [.int .i64 n7, .int .i64 n8, .int .i64 n9, .int .i64 n10, .int .i64 n11, .int .i64 n12])], []) ∧
                      J1 (decide ((n14 : Int) ≥ start_1)) H5)
                     (
                      SelfEq ([.v (.slice script.p script.n script.c), .v (.pointer p1), .v (.slice log_1.p log_1.n log_1.c), .v (.int .i64 start_1), .v (.int .i64 next_1), .v (.int .i64 i_1), .v (.int .i64 n13)], [some (28, [.int .i64 n7, .int .i64 n8, .int .i64 n9, .int .i64 n10, .int .i64 n11, .int .i64 n12])], []) ∧
                      J1 false H5)) ∧
                    ∀ b_1 : Bool,
                    ∀ H6 : Heap,
                    J1 b_1 H6 →
                    br (b_1) (
                      ∃ q3 : Nat,
                      ∃ o3 : Nat,
                      (log_1.p : Option Addr) = some ⟨q3, o3, none⟩ ∧
                      0 ≤ (n13 : Int) ∧
                      (n13 : Int) < (log_1.n : Nat) ∧
                      ∃ n15 : Int,
                      cellH H6 ⟨q3, o3 + Int.toNat n13 * 6, none⟩ = some (.int .i64 n15) ∧
                      0 ≤ (n13 : Int) ∧
                      (n13 : Int) ≤ (log_1.c : Nat) ∧
                      FnH Try.prog 11 #[.pointer p1, .int .i64 n15] H6 fun r5 H7 =>
                        r5 = .tuple #[] ∧
                        SelfEq ([.v (.slice script.p script.n script.c), .v (.pointer p1)], [], []) ∧
                        I1 ⟨(slP log_1.p log_1.c (0 : Int) 6), Int.toNat (n13 - (0 : Int)), Int.toNat ((log_1.c : Nat) - (0 : Int))⟩ start_1 n15 (IntKind.wrap .i64 (i_1 + 1)) H7 ∧
                        M1 ⟨(slP log_1.p log_1.c (0 : Int) 6), Int.toNat (n13 - (0 : Int)), Int.toNat ((log_1.c : Nat) - (0 : Int))⟩ start_1 n15 (IntKind.wrap .i64 (i_1 + 1)) H7 < M1 log_1 start_1 next_1 i_1 H3)
                     (
                      SelfEq ([.v (.slice script.p script.n script.c), .v (.pointer p1)], [], []) ∧
                      I1 log_1 start_1 next_1 (IntKind.wrap .i64 (i_1 + 1)) H6 ∧
                      M1 log_1 start_1 next_1 (IntKind.wrap .i64 (i_1 + 1)) H6 < M1 log_1 start_1 next_1 i_1 H3))
                 (
                  br ((n7 : Int) == 7) (
                    FnH Try.prog 10 #[.int .i64 n12, .int .i64 (IntKind.wrap .i64 ((IntKind.wrap .i64 (next_1 - start_1)) + 1))] H4 fun r6 H8 =>
                      ∃ n16 : Int,
                      r6 = .int .i64 n16 ∧
                      FnH Try.prog 12 #[.pointer p1, .int .i64 (IntKind.wrap .i64 (start_1 + n16))] H8 fun r7 H9 =>
                        r7 = .tuple #[] ∧
                        SelfEq ([.v (.slice script.p script.n script.c), .v (.pointer p1)], [], []) ∧
                        I1 log_1 (IntKind.wrap .i64 (start_1 + n16)) next_1 (IntKind.wrap .i64 (i_1 + 1)) H9 ∧
                        M1 log_1 (IntKind.wrap .i64 (start_1 + n16)) next_1 (IntKind.wrap .i64 (i_1 + 1)) H9 < M1 log_1 start_1 next_1 i_1 H3)
                   (
                    FnH Try.prog 13 #[.int .i64 n8, .int .i64 n9, .int .i64 n10, .int .i64 n11, .int .i64 next_1] H4 fun r8 H10 =>
                      ∃ n17 : Int,
                      ∃ n18 : Int,
                      ∃ n19 : Int,
                      ∃ n20 : Int,
                      ∃ n21 : Int,
                      ∃ l1 : Sl,
                      r8 = .agg #[.int .i64 n17, .int .i64 n18, .int .i64 n19, .int .i64 n20, .int .i64 n21, .slice l1.p l1.n l1.c] ∧
                      FnH Try.prog 14 #[.pointer p1, .int .i64 n8, .int .i64 n9, .int .i64 n10, .int .i64 n11] H10 fun r9 H11 =>
                        ∃ n22 : Int,
                        ∃ n23 : Int,
                        r9 = .tuple #[.int .i64 n22, .int .i64 n23] ∧
                        FnH Try.prog 15 #[.slice log_1.p log_1.n log_1.c, .agg #[.int .i64 n17, .int .i64 n18, .int .i64 n19, .int .i64 n20, .int .i64 n21, .slice l1.p l1.n l1.c], .int .i64 n22, .int .i64 n23] H11 fun r10 H12 =>
                          ∃ b2 : Bool,
                          r10 = .bool b2 ∧
                          br (!b2) (
                            K (.bool false) H12)
                           (
                            ∃ J2 : Bool → Heap → Prop,
                            (br ((n23 : Int) == 0) (
                              SelfEq ([.v (.slice script.p script.n script.c), .v (.pointer p1), .v (.slice log_1.p log_1.n log_1.c), .v (.int .i64 start_1), .v (.int .i64 next_1), .v (.int .i64 i_1), .loc 0 0, .loc 1 0], [some (28, [.int .i64 n7, .int .i64 n8, .int .i64 n9, .int .i64 n10, .int .i64 n11, .int .i64 n12]), some (33, [.int .i64 n17, .int .i64 n18, .int .i64 n19, .int .i64 n20, .int .i64 n21, .slice l1.p l1.n l1.c])], []) ∧
                              J2 (decide ((n22 : Int) < 0)) H12)
                             (
                              SelfEq ([.v (.slice script.p script.n script.c), .v (.pointer p1), .v (.slice log_1.p log_1.n log_1.c), .v (.int .i64 start_1), .v (.int .i64 next_1), .v (.int .i64 i_1), .loc 0 0, .loc 1 0], [some (28, [.int .i64 n7, .int .i64 n8, .int .i64 n9, .int .i64 n10, .int .i64 n11, .int .i64 n12]), some (33, [.int .i64 n17, .int .i64 n18, .int .i64 n19, .int .i64 n20, .int .i64 n21, .slice l1.p l1.n l1.c])], []) ∧
                              J2 false H12)) ∧
                            ∀ b_2 : Bool,
                            ∀ H13 : Heap,
                            J2 b_2 H13 →
                            br (b_2) (
                              ∀ q4 : Nat,
                              H13 q4 = none →
                              letH (Heap.upd H13 q4 (.cells #[.int .i64 n17, .int .i64 n18, .int .i64 n19, .int .i64 n20, .int .i64 n21, .slice l1.p l1.n l1.c] 33 (0, 0))) fun H14 =>
                              runH Try.prog (Builtin.append_ #[26, 26] 26 #[.slice log_1.p log_1.n log_1.c, .slice (some ⟨q4, 0, none⟩) 1 1]) H14 fun r11 H15 =>
                                ∃ l2 : Sl,
                                r11 = .slice l2.p l2.n l2.c ∧
                                FnH Try.prog 16 #[.pointer p1, .agg #[.int .i64 n17, .int .i64 n18, .int .i64 n19, .int .i64 n20, .int .i64 n21, .slice l1.p l1.n l1.c]] H15 fun r12 H16 =>
                                  r12 = .tuple #[] ∧
                                  SelfEq ([.v (.slice script.p script.n script.c), .v (.pointer p1)], [], []) ∧
                                  I1 l2 start_1 (IntKind.wrap .i64 (next_1 + n11)) (IntKind.wrap .i64 (i_1 + 1)) H16 ∧
                                  M1 l2 start_1 (IntKind.wrap .i64 (next_1 + n11)) (IntKind.wrap .i64 (i_1 + 1)) H16 < M1 log_1 start_1 next_1 i_1 H3)
                             (
                              SelfEq ([.v (.slice script.p script.n script.c), .v (.pointer p1)], [], []) ∧
                              I1 log_1 start_1 next_1 (IntKind.wrap .i64 (i_1 + 1)) H13 ∧
                              M1 log_1 start_1 next_1 (IntKind.wrap .i64 (i_1 + 1)) H13 < M1 log_1 start_1 next_1 i_1 H3)))))
             (
              K (.bool true) H3))
           (
            K (.bool true) H3)))
theorem logboomlaw8_DedupOnce_eq (script : Sl) (H : Heap) (K : Value → Heap → Prop) : logboomlaw8_DedupOnce_vc script H K = denFn Try.prog logboomlaw8_DedupOnce_ann Try.f3 (bodyOf Try.f3) [.slice script.p script.n script.c] H K := by kernel_rfl
theorem logboomlaw8_DedupOnce_fn (script : Sl) {H : Heap} {K : Value → Heap → Prop} (h : logboomlaw8_DedupOnce_vc script H K) : FnH Try.prog 3 #[.slice script.p script.n script.c] H K :=
  denFn_fn Try.mixed logboomlaw8_DedupOnce_ann Try.func3 (bodyOf_spec (by kernel_rfl)) (logboomlaw8_DedupOnce_eq script H K) h

end Go.Proofs.Ytkabaoigablphaa
