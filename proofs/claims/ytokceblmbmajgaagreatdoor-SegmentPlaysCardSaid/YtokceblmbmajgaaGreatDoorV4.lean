/- Formulas of functions, printed by this session's vc.py; each is tied to the program by the kernel. -/
import Derived.Test.YtokceblmbmajgaaGreatDoorProg
import Derived.KernelRfl
import Derived.Test.YtokceblmbmajgaaGreatDoorHlFn
import Derived.Test.YtokceblmbmajgaaGreatDoorV3
namespace Go.Proofs.YtokceblmbmajgaaGreatDoor
open Go.HL
set_option maxRecDepth 100000
/-! function 14: logboom/logboomlaw5.small -/
def logboomlaw5_small_ann : Anns := { hid := [4, 5], loops := [(0, { slots := [(6, .int .i64)], kept := [1, 4, 5], locs := [(1, [.int .i64, .int .i64, .int .i64, .int .i64, .int .i64, .slice])], keptL := [0] })], joins := [], mix := [] }
def logboomlaw5_small_vc (base : Int) (n : Int) (H : Heap) (K : Value → Heap → Prop) : Prop :=
  ∃ I1 : Int → Int → Int → Int → Int → Int → Sl → Heap → Prop,
  ∃ M1 : Int → Int → Int → Int → Int → Int → Sl → Heap → Nat,
  I1 0 base 1 0 0 0 ⟨none, 0, 0⟩ H ∧
  ∀ i_1 : Int,
  ∀ n1 : Int,
  ∀ n2 : Int,
  ∀ n3 : Int,
  ∀ n4 : Int,
  ∀ n5 : Int,
  ∀ l1 : Sl,
  ∀ H1 : Heap,
  I1 i_1 n1 n2 n3 n4 n5 l1 H1 →
  br (decide ((i_1 : Int) < n)) (
    ∀ q1 : Nat,
    H1 q1 = none →
    letH (Heap.upd H1 q1 (.cells #[.string (⟨#[]⟩ : ByteArray), .string (⟨#[118]⟩ : ByteArray), .int .i64 0] 86 (0, 0))) fun H2 =>
    runH Tryz.prog (Builtin.append_ #[38, 38] 38 #[.slice l1.p l1.n l1.c, .slice (some ⟨q1, 0, none⟩) 1 1]) H2 fun r1 H3 =>
      ∃ l2 : Sl,
      r1 = .slice l2.p l2.n l2.c ∧
      SelfEq ([.v (.int .i64 n), .loc 0 0, .loc 1 0], [some (40, [.int .i64 0, .int .i64 0, .int .i64 0, .int .i64 0, .int .i64 0, .slice none 0 0])], [40]) ∧
      I1 (IntKind.wrap .i64 (i_1 + 1)) n1 n2 n3 n4 n5 l2 H3 ∧
      M1 (IntKind.wrap .i64 (i_1 + 1)) n1 n2 n3 n4 n5 l2 H3 < M1 i_1 n1 n2 n3 n4 n5 l1 H1)
   (
    K (.agg #[.int .i64 n1, .int .i64 n2, .int .i64 n3, .int .i64 n4, .int .i64 n5, .slice l1.p l1.n l1.c]) H1)
theorem logboomlaw5_small_eq (base : Int) (n : Int) (H : Heap) (K : Value → Heap → Prop) : logboomlaw5_small_vc base n H K = denFn Tryz.prog logboomlaw5_small_ann Tryz.f14 (bodyOf Tryz.f14) [.int .i64 base, .int .i64 n] H K := by kernel_rfl
theorem logboomlaw5_small_fn (base : Int) (n : Int) {H : Heap} {K : Value → Heap → Prop} (h : logboomlaw5_small_vc base n H K) : FnH Tryz.prog 14 #[.int .i64 base, .int .i64 n] H K :=
  denFn_fn Tryz.mixed logboomlaw5_small_ann Tryz.func14 (bodyOf_spec (by kernel_rfl)) (logboomlaw5_small_eq base n H K) h

/-! function 5: logboom/logboomlaw5.pick -/
def logboomlaw5_pick_ann : Anns := { hid := [], loops := [], joins := [], mix := [] }
def logboomlaw5_pick_vc (c : Int) (n : Int) (H : Heap) (K : Value → Heap → Prop) : Prop :=
  br (decide ((c : Int) < 0)) (
    (n : Int) ≠ 0 ∧
    K (.int .i64 (Int.tmod (IntKind.wrap .i64 (0 - (IntKind.wrap .i64 (c + 1)))) n)) H)
   (
    (n : Int) ≠ 0 ∧
    K (.int .i64 (Int.tmod c n)) H)
theorem logboomlaw5_pick_eq (c : Int) (n : Int) (H : Heap) (K : Value → Heap → Prop) : logboomlaw5_pick_vc c n H K = denFn Tryz.prog logboomlaw5_pick_ann Tryz.f5 (bodyOf Tryz.f5) [.int .i64 c, .int .i64 n] H K := by kernel_rfl
theorem logboomlaw5_pick_fn (c : Int) (n : Int) {H : Heap} {K : Value → Heap → Prop} (h : logboomlaw5_pick_vc c n H K) : FnH Tryz.prog 5 #[.int .i64 c, .int .i64 n] H K :=
  denFn_fn Tryz.mixed logboomlaw5_pick_ann Tryz.func5 (bodyOf_spec (by kernel_rfl)) (logboomlaw5_pick_eq c n H K) h

/-! function 27: logboom/logboomlaw5.same -/
def logboomlaw5_same_ann : Anns := { hid := [], loops := [(0, { slots := [(5, .int .i64)], kept := [0, 1], locs := [], keptL := [] })], joins := [], mix := [(6, [])] }
def logboomlaw5_same_vc (a : Sl) (b : Sl) (H : Heap) (K : Value → Heap → Prop) : Prop :=
  br (((a.n : Nat) : Int) != (b.n : Nat)) (
    K (.bool false) H)
   (
    ∃ I1 : Int → Heap → Prop,
    ∃ M1 : Int → Heap → Nat,
    I1 0 H ∧
    ∀ i_1 : Int,
    ∀ H1 : Heap,
    I1 i_1 H1 →
    br (decide ((i_1 : Int) < (a.n : Nat))) (
      ∃ q1 : Nat,
      ∃ o1 : Nat,
      (a.p : Option Addr) = some ⟨q1, o1, none⟩ ∧
      0 ≤ (i_1 : Int) ∧
      (i_1 : Int) < (a.n : Nat) ∧
      ∃ n1 : Int,
      cellH H1 ⟨q1, o1 + Int.toNat i_1 * 6, none⟩ = some (.int .i64 n1) ∧
      ∃ n2 : Int,
      cellH H1 ⟨q1, o1 + Int.toNat i_1 * 6 + 1, none⟩ = some (.int .i64 n2) ∧
      ∃ n3 : Int,
      cellH H1 ⟨q1, o1 + Int.toNat i_1 * 6 + 2, none⟩ = some (.int .i64 n3) ∧
      ∃ n4 : Int,
      cellH H1 ⟨q1, o1 + Int.toNat i_1 * 6 + 3, none⟩ = some (.int .i64 n4) ∧
      ∃ n5 : Int,
      cellH H1 ⟨q1, o1 + Int.toNat i_1 * 6 + 4, none⟩ = some (.int .i64 n5) ∧
      ∃ l1 : Sl,
      cellH H1 ⟨q1, o1 + Int.toNat i_1 * 6 + 5, none⟩ = some (.slice l1.p l1.n l1.c) ∧
      ∃ q2 : Nat,
      ∃ o2 : Nat,
      (b.p : Option Addr) = some ⟨q2, o2, none⟩ ∧
      0 ≤ (i_1 : Int) ∧
      (i_1 : Int) < (b.n : Nat) ∧
      ∃ n6 : Int,
      cellH H1 ⟨q2, o2 + Int.toNat i_1 * 6, none⟩ = some (.int .i64 n6) ∧
      ∃ n7 : Int,
      cellH H1 ⟨q2, o2 + Int.toNat i_1 * 6 + 1, none⟩ = some (.int .i64 n7) ∧
      ∃ n8 : Int,
      cellH H1 ⟨q2, o2 + Int.toNat i_1 * 6 + 2, none⟩ = some (.int .i64 n8) ∧
      ∃ n9 : Int,
      cellH H1 ⟨q2, o2 + Int.toNat i_1 * 6 + 3, none⟩ = some (.int .i64 n9) ∧
      ∃ n10 : Int,
      cellH H1 ⟨q2, o2 + Int.toNat i_1 * 6 + 4, none⟩ = some (.int .i64 n10) ∧
      ∃ l2 : Sl,
      cellH H1 ⟨q2, o2 + Int.toNat i_1 * 6 + 5, none⟩ = some (.slice l2.p l2.n l2.c) ∧
      FnH Tryz.prog 61 #[.agg #[.int .i64 n1, .int .i64 n2, .int .i64 n3, .int .i64 n4, .int .i64 n5, .slice l1.p l1.n l1.c], .agg #[.int .i64 n6, .int .i64 n7, .int .i64 n8, .int .i64 n9, .int .i64 n10, .slice l2.p l2.n l2.c]] H1 fun r1 H2 =>
        ∃ b1 : Bool,
        r1 = .bool b1 ∧
        Sub H1 H2 ∧
        br (!b1) (
          K (.bool false) H2)
         (
          SelfEq ([.v (.slice a.p a.n a.c), .v (.slice b.p b.n b.c)], [], []) ∧
          I1 (IntKind.wrap .i64 (i_1 + 1)) H2 ∧
          M1 (IntKind.wrap .i64 (i_1 + 1)) H2 < M1 i_1 H1))
     (
      K (.bool true) H1))
theorem logboomlaw5_same_eq (a : Sl) (b : Sl) (H : Heap) (K : Value → Heap → Prop) : logboomlaw5_same_vc a b H K = denFn Tryz.prog logboomlaw5_same_ann Tryz.f27 (bodyOf Tryz.f27) [.slice a.p a.n a.c, .slice b.p b.n b.c] H K := by kernel_rfl
theorem logboomlaw5_same_fn (a : Sl) (b : Sl) {H : Heap} {K : Value → Heap → Prop} (h : logboomlaw5_same_vc a b H K) : FnH Tryz.prog 27 #[.slice a.p a.n a.c, .slice b.p b.n b.c] H K :=
  denFn_fn Tryz.mixed logboomlaw5_same_ann Tryz.func27 (bodyOf_spec (by kernel_rfl)) (logboomlaw5_same_eq a b H K) h

/-! function 36: logboom/logboomlaw5.sameIndex -/
def logboomlaw5_sameIndex_ann : Anns := { hid := [], loops := [(0, { slots := [(5, .int .i64)], kept := [0, 1], locs := [], keptL := [] })], joins := [], mix := [] }
def logboomlaw5_sameIndex_vc (a : Sl) (b : Sl) (H : Heap) (K : Value → Heap → Prop) : Prop :=
  br (((a.n : Nat) : Int) != (b.n : Nat)) (
    K (.bool false) H)
   (
    ∃ I1 : Int → Heap → Prop,
    ∃ M1 : Int → Heap → Nat,
    I1 0 H ∧
    ∀ i_1 : Int,
    ∀ H1 : Heap,
    I1 i_1 H1 →
    br (decide ((i_1 : Int) < (a.n : Nat))) (
      ∃ q1 : Nat,
      ∃ o1 : Nat,
      (a.p : Option Addr) = some ⟨q1, o1, none⟩ ∧
      0 ≤ (i_1 : Int) ∧
      (i_1 : Int) < (a.n : Nat) ∧
      ∃ n1 : Int,
      cellH H1 ⟨q1, o1 + Int.toNat i_1 * 3, none⟩ = some (.int .i64 n1) ∧
      ∃ n2 : Int,
      cellH H1 ⟨q1, o1 + Int.toNat i_1 * 3 + 1, none⟩ = some (.int .i64 n2) ∧
      ∃ s1 : ByteArray,
      cellH H1 ⟨q1, o1 + Int.toNat i_1 * 3 + 2, none⟩ = some (.string s1) ∧
      ∃ q2 : Nat,
      ∃ o2 : Nat,
      (b.p : Option Addr) = some ⟨q2, o2, none⟩ ∧
      0 ≤ (i_1 : Int) ∧
      (i_1 : Int) < (b.n : Nat) ∧
      ∃ n3 : Int,
      cellH H1 ⟨q2, o2 + Int.toNat i_1 * 3, none⟩ = some (.int .i64 n3) ∧
      ∃ n4 : Int,
      cellH H1 ⟨q2, o2 + Int.toNat i_1 * 3 + 1, none⟩ = some (.int .i64 n4) ∧
      ∃ s2 : ByteArray,
      cellH H1 ⟨q2, o2 + Int.toNat i_1 * 3 + 2, none⟩ = some (.string s2) ∧
      runR Tryz.prog (binOp .neq 94 (.agg #[.int .i64 n1, .int .i64 n2, .string s1]) (.agg #[.int .i64 n3, .int .i64 n4, .string s2])) H1 fun r1 =>
        ∃ b1 : Bool,
        r1 = .bool b1 ∧
        br (b1) (
          K (.bool false) H1)
         (
          SelfEq ([.v (.slice a.p a.n a.c), .v (.slice b.p b.n b.c)], [], []) ∧
          I1 (IntKind.wrap .i64 (i_1 + 1)) H1 ∧
          M1 (IntKind.wrap .i64 (i_1 + 1)) H1 < M1 i_1 H1))
     (
      K (.bool true) H1))
theorem logboomlaw5_sameIndex_eq (a : Sl) (b : Sl) (H : Heap) (K : Value → Heap → Prop) : logboomlaw5_sameIndex_vc a b H K = denFn Tryz.prog logboomlaw5_sameIndex_ann Tryz.f36 (bodyOf Tryz.f36) [.slice a.p a.n a.c, .slice b.p b.n b.c] H K := by kernel_rfl
theorem logboomlaw5_sameIndex_fn (a : Sl) (b : Sl) {H : Heap} {K : Value → Heap → Prop} (h : logboomlaw5_sameIndex_vc a b H K) : FnH Tryz.prog 36 #[.slice a.p a.n a.c, .slice b.p b.n b.c] H K :=
  denFn_fn Tryz.mixed logboomlaw5_sameIndex_ann Tryz.func36 (bodyOf_spec (by kernel_rfl)) (logboomlaw5_sameIndex_eq a b H K) h

/-! function 61: logboom/logboomlaw5.sameBatch -/
def logboomlaw5_sameBatch_ann : Anns := { hid := [2, 3], loops := [(0, { slots := [(5, .int .i64)], kept := [2, 3], locs := [], keptL := [0, 1] })], joins := [], mix := [] }
def logboomlaw5_sameBatch_vc (a_0 : Int) (a_1 : Int) (a_2 : Int) (a_3 : Int) (a_4 : Int) (a_5 : Sl) (b_0 : Int) (b_1 : Int) (b_2 : Int) (b_3 : Int) (b_4 : Int) (b_5 : Sl) (H : Heap) (K : Value → Heap → Prop) : Prop :=
  br ((a_0 : Int) != b_0) (
    K (.bool false) H)
   (
    br ((a_1 : Int) != b_1) (
      K (.bool false) H)
     (
      br ((a_2 : Int) != b_2) (
        K (.bool false) H)
       (
        br ((a_3 : Int) != b_3) (
          K (.bool false) H)
         (
          br ((a_4 : Int) != b_4) (
            K (.bool false) H)
           (
            br (((a_5.n : Nat) : Int) != (b_5.n : Nat)) (
              K (.bool false) H)
             (
              ∃ I1 : Int → Heap → Prop,
              ∃ M1 : Int → Heap → Nat,
              I1 0 H ∧
              ∀ i_1 : Int,
              ∀ H1 : Heap,
              I1 i_1 H1 →
              br (decide ((i_1 : Int) < (a_5.n : Nat))) (
                ∃ q1 : Nat,
                ∃ o1 : Nat,
                (a_5.p : Option Addr) = some ⟨q1, o1, none⟩ ∧
                0 ≤ (i_1 : Int) ∧
                (i_1 : Int) < (a_5.n : Nat) ∧
                ∃ s1 : ByteArray,
                cellH H1 ⟨q1, o1 + Int.toNat i_1 * 3, none⟩ = some (.string s1) ∧
                ∃ s2 : ByteArray,
                cellH H1 ⟨q1, o1 + Int.toNat i_1 * 3 + 1, none⟩ = some (.string s2) ∧
                ∃ n1 : Int,
                cellH H1 ⟨q1, o1 + Int.toNat i_1 * 3 + 2, none⟩ = some (.int .i64 n1) ∧
                ∃ q2 : Nat,
                ∃ o2 : Nat,
                (b_5.p : Option Addr) = some ⟨q2, o2, none⟩ ∧
                0 ≤ (i_1 : Int) ∧
                (i_1 : Int) < (b_5.n : Nat) ∧
                ∃ s3 : ByteArray,
                cellH H1 ⟨q2, o2 + Int.toNat i_1 * 3, none⟩ = some (.string s3) ∧
                ∃ s4 : ByteArray,
                cellH H1 ⟨q2, o2 + Int.toNat i_1 * 3 + 1, none⟩ = some (.string s4) ∧
                ∃ n2 : Int,
                cellH H1 ⟨q2, o2 + Int.toNat i_1 * 3 + 2, none⟩ = some (.int .i64 n2) ∧
                runR Tryz.prog (binOp .neq 86 (.agg #[.string s1, .string s2, .int .i64 n1]) (.agg #[.string s3, .string s4, .int .i64 n2])) H1 fun r1 =>
                  ∃ b1 : Bool,
                  r1 = .bool b1 ∧
                  br (b1) (
                    K (.bool false) H1)
                   (
                    SelfEq ([.loc 0 0, .loc 1 0], [some (40, [.int .i64 a_0, .int .i64 a_1, .int .i64 a_2, .int .i64 a_3, .int .i64 a_4, .slice a_5.p a_5.n a_5.c]), some (40, [.int .i64 b_0, .int .i64 b_1, .int .i64 b_2, .int .i64 b_3, .int .i64 b_4, .slice b_5.p b_5.n b_5.c])], []) ∧
                    I1 (IntKind.wrap .i64 (i_1 + 1)) H1 ∧
                    M1 (IntKind.wrap .i64 (i_1 + 1)) H1 < M1 i_1 H1))
               (
                K (.bool true) H1)))))))
theorem logboomlaw5_sameBatch_eq (a_0 : Int) (a_1 : Int) (a_2 : Int) (a_3 : Int) (a_4 : Int) (a_5 : Sl) (b_0 : Int) (b_1 : Int) (b_2 : Int) (b_3 : Int) (b_4 : Int) (b_5 : Sl) (H : Heap) (K : Value → Heap → Prop) : logboomlaw5_sameBatch_vc a_0 a_1 a_2 a_3 a_4 a_5 b_0 b_1 b_2 b_3 b_4 b_5 H K = denFn Tryz.prog logboomlaw5_sameBatch_ann Tryz.f61 (bodyOf Tryz.f61) [.agg #[.int .i64 a_0, .int .i64 a_1, .int .i64 a_2, .int .i64 a_3, .int .i64 a_4, .slice a_5.p a_5.n a_5.c], .agg #[.int .i64 b_0, .int .i64 b_1, .int .i64 b_2, .int .i64 b_3, .int .i64 b_4, .slice b_5.p b_5.n b_5.c]] H K := by kernel_rfl
theorem logboomlaw5_sameBatch_fn (a_0 : Int) (a_1 : Int) (a_2 : Int) (a_3 : Int) (a_4 : Int) (a_5 : Sl) (b_0 : Int) (b_1 : Int) (b_2 : Int) (b_3 : Int) (b_4 : Int) (b_5 : Sl) {H : Heap} {K : Value → Heap → Prop} (h : logboomlaw5_sameBatch_vc a_0 a_1 a_2 a_3 a_4 a_5 b_0 b_1 b_2 b_3 b_4 b_5 H K) : FnH Tryz.prog 61 #[.agg #[.int .i64 a_0, .int .i64 a_1, .int .i64 a_2, .int .i64 a_3, .int .i64 a_4, .slice a_5.p a_5.n a_5.c], .agg #[.int .i64 b_0, .int .i64 b_1, .int .i64 b_2, .int .i64 b_3, .int .i64 b_4, .slice b_5.p b_5.n b_5.c]] H K :=
  denFn_fn Tryz.mixed logboomlaw5_sameBatch_ann Tryz.func61 (bodyOf_spec (by kernel_rfl)) (logboomlaw5_sameBatch_eq a_0 a_1 a_2 a_3 a_4 a_5 b_0 b_1 b_2 b_3 b_4 b_5 H K) h

/-! function 4: logboom/logboomlaw5.shown -/
def logboomlaw5_shown_ann : Anns := { hid := [], loops := [], joins := [], mix := [] }
def logboomlaw5_shown_vc  (H : Heap) (K : Value → Heap → Prop) : Prop :=
  FnH Tryz.prog 6 #[.int .i64 1000] H fun r1 H1 =>
    ∃ p1 : Option Addr,
    ∃ n1 : Int,
    r1 = .tuple #[.pointer p1, .int .i64 n1] ∧
    br (Option.isNone p1) (
      K (.bool false) H1)
     (
      br ((n1 : Int) != 0) (
        K (.bool false) H1)
       (
        FnH Tryz.prog 11 #[.pointer p1, .string (⟨#[115]⟩ : ByteArray), .int .i64 5] H1 fun r2 H2 =>
          ∃ p2 : Option Addr,
          ∃ n2 : Int,
          ∃ n3 : Int,
          r2 = .tuple #[.pointer p2, .int .i64 n2, .int .i64 n3] ∧
          br (Option.isNone p2) (
            K (.bool false) H2)
           (
            br ((n3 : Int) != 0) (
              K (.bool false) H2)
             (
              br ((n2 : Int) != 0) (
                K (.bool false) H2)
               (
                FnH Tryz.prog 12 #[.pointer p2] H2 fun r3 H3 =>
                  ∃ n4 : Int,
                  r3 = .int .i64 n4 ∧
                  br ((n4 : Int) != 5) (
                    K (.bool false) H3)
                   (
                    FnH Tryz.prog 14 #[.int .i64 5, .int .i64 1] H3 fun r4 H4 =>
                      ∃ n5 : Int,
                      ∃ n6 : Int,
                      ∃ n7 : Int,
                      ∃ n8 : Int,
                      ∃ n9 : Int,
                      ∃ l1 : Sl,
                      r4 = .agg #[.int .i64 n5, .int .i64 n6, .int .i64 n7, .int .i64 n8, .int .i64 n9, .slice l1.p l1.n l1.c] ∧
                      FnH Tryz.prog 13 #[.pointer p2, .agg #[.int .i64 n5, .int .i64 n6, .int .i64 n7, .int .i64 n8, .int .i64 n9, .slice l1.p l1.n l1.c]] H4 fun r5 H5 =>
                        ∃ n10 : Int,
                        r5 = .int .i64 n10 ∧
                        br ((n10 : Int) != 0) (
                          K (.bool false) H5)
                         (
                          FnH Tryz.prog 14 #[.int .i64 5, .int .i64 1] H5 fun r6 H6 =>
                            ∃ n11 : Int,
                            ∃ n12 : Int,
                            ∃ n13 : Int,
                            ∃ n14 : Int,
                            ∃ n15 : Int,
                            ∃ l2 : Sl,
                            r6 = .agg #[.int .i64 n11, .int .i64 n12, .int .i64 n13, .int .i64 n14, .int .i64 n15, .slice l2.p l2.n l2.c] ∧
                            FnH Tryz.prog 13 #[.pointer p2, .agg #[.int .i64 n11, .int .i64 n12, .int .i64 n13, .int .i64 n14, .int .i64 n15, .slice l2.p l2.n l2.c]] H6 fun r7 H7 =>
                              ∃ n16 : Int,
                              r7 = .int .i64 n16 ∧
                              br ((n16 : Int) != 11) (
                                K (.bool false) H7)
                               (
                                FnH Tryz.prog 12 #[.pointer p2] H7 fun r8 H8 =>
                                  ∃ n17 : Int,
                                  r8 = .int .i64 n17 ∧
                                  br ((n17 : Int) != 6) (
                                    K (.bool false) H8)
                                   (
                                    FnH Tryz.prog 15 #[.pointer p2] H8 fun r9 H9 =>
                                      ∃ n18 : Int,
                                      r9 = .int .i64 n18 ∧
                                      br ((n18 : Int) != 5) (
                                        K (.bool false) H9)
                                       (
                                        FnH Tryz.prog 16 #[.pointer p2] H9 fun r10 H10 =>
                                          ∃ n19 : Int,
                                          r10 = .int .i64 n19 ∧
                                          br ((n19 : Int) != 0) (
                                            K (.bool false) H10)
                                           (
                                            FnH Tryz.prog 15 #[.pointer p2] H10 fun r11 H11 =>
                                              ∃ n20 : Int,
                                              r11 = .int .i64 n20 ∧
                                              br ((n20 : Int) != 6) (
                                                K (.bool false) H11)
                                               (
                                                FnH Tryz.prog 17 #[.pointer p2] H11 fun r12 H12 =>
                                                  ∃ n21 : Int,
                                                  r12 = .int .i64 n21 ∧
                                                  FnH Tryz.prog 14 #[.int .i64 6, .int .i64 1] H12 fun r13 H13 =>
                                                    ∃ n22 : Int,
                                                    ∃ n23 : Int,
                                                    ∃ n24 : Int,
                                                    ∃ n25 : Int,
                                                    ∃ n26 : Int,
                                                    ∃ l3 : Sl,
                                                    r13 = .agg #[.int .i64 n22, .int .i64 n23, .int .i64 n24, .int .i64 n25, .int .i64 n26, .slice l3.p l3.n l3.c] ∧
                                                    FnH Tryz.prog 13 #[.pointer p2, .agg #[.int .i64 n22, .int .i64 n23, .int .i64 n24, .int .i64 n25, .int .i64 n26, .slice l3.p l3.n l3.c]] H13 fun r14 H14 =>
                                                      ∃ n27 : Int,
                                                      r14 = .int .i64 n27 ∧
                                                      br ((n27 : Int) != 0) (
                                                        K (.bool false) H14)
                                                       (
                                                        FnH Tryz.prog 17 #[.pointer p2] H14 fun r15 H15 =>
                                                          ∃ n28 : Int,
                                                          r15 = .int .i64 n28 ∧
                                                          br ((n28 : Int) != (IntKind.wrap .i64 (2 * n21))) (
                                                            K (.bool false) H15)
                                                           (
                                                            ∀ q1 : Nat,
                                                            H15 q1 = none →
                                                            letH (Heap.upd H15 q1 (.cells #[.int .i64 (IntKind.wrap .i64 (n21 - 1))] 3 (0, 0))) fun H16 =>
                                                            FnH Tryz.prog 18 #[.pointer p1, .slice (some ⟨q1, 0, none⟩) 1 1] H16 fun r16 H17 =>
                                                              r16 = .tuple #[] ∧
                                                              FnH Tryz.prog 11 #[.pointer p1, .string (⟨#[115]⟩ : ByteArray), .int .i64 5] H17 fun r17 H18 =>
                                                                ∃ p3 : Option Addr,
                                                                ∃ n29 : Int,
                                                                ∃ n30 : Int,
                                                                r17 = .tuple #[.pointer p3, .int .i64 n29, .int .i64 n30] ∧
                                                                br (!(Option.isNone p3)) (
                                                                  br ((n30 : Int) == 0) (
                                                                    br ((n29 : Int) == (IntKind.wrap .i64 (n21 - 1))) (
                                                                      FnH Tryz.prog 12 #[.pointer p3] H18 fun r18 H19 =>
                                                                        ∃ n31 : Int,
                                                                        r18 = .int .i64 n31 ∧
                                                                        br ((n31 : Int) == 6) (
                                                                          FnH Tryz.prog 19 #[.pointer p3, .int .i64 5, .int .i64 1] H19 fun r19 H20 =>
                                                                            ∃ l4 : Sl,
                                                                            r19 = .slice l4.p l4.n l4.c ∧
                                                                            br (((l4.n : Nat) : Int) == 1) (
                                                                              FnH Tryz.prog 19 #[.pointer p3, .int .i64 6, .int .i64 100] H20 fun r20 H21 =>
                                                                                ∃ l5 : Sl,
                                                                                r20 = .slice l5.p l5.n l5.c ∧
                                                                                br (((l5.n : Nat) : Int) == 0) (
                                                                                  FnH Tryz.prog 20 #[.pointer p3] H21 fun r21 H22 =>
                                                                                    ∃ l6 : Sl,
                                                                                    r21 = .slice l6.p l6.n l6.c ∧
                                                                                    K (.bool (((l6.n : Nat) : Int) == 1)) H22)
                                                                                 (
                                                                                  K (.bool false) H21))
                                                                             (
                                                                              K (.bool false) H20))
                                                                         (
                                                                          K (.bool false) H19))
                                                                     (
                                                                      K (.bool false) H18))
                                                                   (
                                                                    K (.bool false) H18))
                                                                 (
                                                                  K (.bool false) H18)))))))))))))))
theorem logboomlaw5_shown_eq  (H : Heap) (K : Value → Heap → Prop) : logboomlaw5_shown_vc  H K = denFn Tryz.prog logboomlaw5_shown_ann Tryz.f4 (bodyOf Tryz.f4) [] H K := by kernel_rfl
theorem logboomlaw5_shown_fn  {H : Heap} {K : Value → Heap → Prop} (h : logboomlaw5_shown_vc  H K) : FnH Tryz.prog 4 #[] H K :=
  denFn_fn Tryz.mixed logboomlaw5_shown_ann Tryz.func4 (bodyOf_spec (by kernel_rfl)) (logboomlaw5_shown_eq  H K) h

end Go.Proofs.YtokceblmbmajgaaGreatDoor
