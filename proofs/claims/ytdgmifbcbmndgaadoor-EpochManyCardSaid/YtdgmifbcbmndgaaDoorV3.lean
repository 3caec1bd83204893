/- Formulas of functions, printed by this session's vc.py; each is tied to the program by the kernel. -/
import Derived.Test.YtdgmifbcbmndgaaDoorProg
import Derived.KernelRfl
import Derived.Test.YtdgmifbcbmndgaaDoorHlFn
import Derived.Test.YtdgmifbcbmndgaaDoorV2
namespace Go.Proofs.YtdgmifbcbmndgaaDoor
open Go.HL
set_option maxRecDepth 100000
/-! function 12: logboom/logboomref7.Read -/
def logboomref7_Read_ann : Anns := { hid := [22, 8], loops := [(0, { slots := [(6, .slice), (7, .int .i64)], kept := [4, 5], locs := [(0, [.str, .bool])], keptL := [] })], joins := [], mix := [(3, [])] }
def logboomref7_Read_vc (s : ByteArray) (H : Heap) (K : Value → Heap → Prop) : Prop :=
  br (decide (((s.size : Nat) : Int) < 4)) (
    K (.tuple #[.slice none 0 0, .int .i64 5]) H)
   (
    0 ≤ (4 : Int) ∧
    (4 : Int) ≤ (s.size : Nat) ∧
    0 ≤ (4 : Int) ∧
    (4 : Int) ≤ (s.size : Nat) ∧
    FnH Tryd.prog 8 #[.string (s.extract (Int.toNat 4) (Int.toNat (s.size : Nat)))] H fun r1 H1 =>
      ∃ n1 : Int,
      r1 = .int .i64 n1 ∧
      Sub H H1 ∧
      FnH Tryd.prog 7 #[.int .i64 n1] H1 fun r2 H2 =>
        ∃ s1 : ByteArray,
        r2 = .string s1 ∧
        Sub H H2 ∧
        br (!(s1.toList == (s.extract (Int.toNat (0 : Int)) (Int.toNat 4)).toList)) (
          K (.tuple #[.slice none 0 0, .int .i64 6]) H2)
         (
          0 ≤ (4 : Int) ∧
          (4 : Int) ≤ (s.size : Nat) ∧
          ∀ q1 : Nat,
          H2 q1 = none →
          FnH Tryd.prog 29 #[.pointer (some ⟨q1, 0, none⟩)] (Heap.upd H2 q1 (.cells #[.string (s.extract (Int.toNat 4) (Int.toNat (s.size : Nat))), .bool false] 72 (0, 0))) fun r3 H3 =>
            ∃ n2 : Int,
            r3 = .int .i64 n2 ∧
            ∃ s2 : ByteArray,
            ∃ b1 : Bool,
            H3 q1 = some (.cells #[.string s2, .bool b1] 72 (0, 0)) ∧
            letH (Heap.del H3 q1) fun H4 =>
            ∃ I1 : Sl → Int → ByteArray → Bool → Heap → Prop,
            ∃ M1 : Sl → Int → ByteArray → Bool → Heap → Nat,
            I1 ⟨none, 0, 0⟩ 0 s2 b1 H4 ∧
            ∀ l_1 : Sl,
            ∀ i_1 : Int,
            ∀ s3 : ByteArray,
            ∀ b2 : Bool,
            ∀ H5 : Heap,
            I1 l_1 i_1 s3 b2 H5 →
            br (decide ((i_1 : Int) < n2)) (
              br (decide ((i_1 : Int) ≤ 200)) (
                br (!b2) (
                  ∀ q2 : Nat,
                  H5 q2 = none →
                  FnH Tryd.prog 29 #[.pointer (some ⟨q2, 0, none⟩)] (Heap.upd H5 q2 (.cells #[.string s3, .bool b2] 72 (0, 0))) fun r4 H6 =>
                    ∃ n3 : Int,
                    r4 = .int .i64 n3 ∧
                    ∃ s4 : ByteArray,
                    ∃ b3 : Bool,
                    H6 q2 = some (.cells #[.string s4, .bool b3] 72 (0, 0)) ∧
                    letH (Heap.del H6 q2) fun H7 =>
                    ∀ q3 : Nat,
                    H7 q3 = none →
                    FnH Tryd.prog 29 #[.pointer (some ⟨q3, 0, none⟩)] (Heap.upd H7 q3 (.cells #[.string s4, .bool b3] 72 (0, 0))) fun r5 H8 =>
                      ∃ n4 : Int,
                      r5 = .int .i64 n4 ∧
                      ∃ s5 : ByteArray,
                      ∃ b4 : Bool,
                      H8 q3 = some (.cells #[.string s5, .bool b4] 72 (0, 0)) ∧
                      letH (Heap.del H8 q3) fun H9 =>
                      br (decide ((n3 : Int) < 0)) (
                        K (.tuple #[.slice none 0 0, .int .i64 4]) H9)
                       (
                        br (decide ((n3 : Int) > 1000000000)) (
                          K (.tuple #[.slice none 0 0, .int .i64 4]) H9)
                         (
                          br (decide ((n4 : Int) < 0)) (
                            K (.tuple #[.slice none 0 0, .int .i64 4]) H9)
                           (
                            br (decide ((n4 : Int) > 1000000000)) (
                              K (.tuple #[.slice none 0 0, .int .i64 4]) H9)
                             (
                              br (decide ((i_1 : Int) > 0)) (
                                ∃ q4 : Nat,
                                ∃ o1 : Nat,
                                (l_1.p : Option Addr) = some ⟨q4, o1, none⟩ ∧
                                0 ≤ ((IntKind.wrap .i64 (i_1 - 1)) : Int) ∧
                                ((IntKind.wrap .i64 (i_1 - 1)) : Int) < (l_1.n : Nat) ∧
                                ∃ n5 : Int,
                                cellH H9 ⟨q4, o1 + Int.toNat (IntKind.wrap .i64 (i_1 - 1)) * 3, none⟩ = some (.int .i64 n5) ∧
                                br (decide ((n3 : Int) ≤ n5)) (
                                  K (.tuple #[.slice none 0 0, .int .i64 4]) H9)
                                 (
                                  ∃ q5 : Nat,
                                  ∃ o2 : Nat,
                                  (l_1.p : Option Addr) = some ⟨q5, o2, none⟩ ∧
                                  0 ≤ ((IntKind.wrap .i64 (i_1 - 1)) : Int) ∧
                                  ((IntKind.wrap .i64 (i_1 - 1)) : Int) < (l_1.n : Nat) ∧
                                  ∃ n6 : Int,
                                  cellH H9 ⟨q5, o2 + Int.toNat (IntKind.wrap .i64 (i_1 - 1)) * 3 + 1, none⟩ = some (.int .i64 n6) ∧
                                  br (decide ((n4 : Int) ≤ n6)) (
                                    K (.tuple #[.slice none 0 0, .int .i64 4]) H9)
                                   (
                                    ∀ q6 : Nat,
                                    H9 q6 = none →
                                    letH (Heap.upd H9 q6 (.cells #[.int .i64 n3, .int .i64 n4, .string (⟨#[]⟩ : ByteArray)] 51 (0, 0))) fun H10 =>
                                    runH Tryd.prog (Builtin.append_ #[34, 34] 34 #[.slice l_1.p l_1.n l_1.c, .slice (some ⟨q6, 0, none⟩) 1 1]) H10 fun r6 H11 =>
                                      ∃ l1 : Sl,
                                      r6 = .slice l1.p l1.n l1.c ∧
                                      SelfEq ([.loc 0 0, .v (.int .i64 n2)], [], [72]) ∧
                                      I1 l1 (IntKind.wrap .i64 (i_1 + 1)) s5 b4 H11 ∧
                                      M1 l1 (IntKind.wrap .i64 (i_1 + 1)) s5 b4 H11 < M1 l_1 i_1 s3 b2 H5)))
                               (
                                ∀ q7 : Nat,
                                H9 q7 = none →
                                letH (Heap.upd H9 q7 (.cells #[.int .i64 n3, .int .i64 n4, .string (⟨#[]⟩ : ByteArray)] 51 (0, 0))) fun H12 =>
                                runH Tryd.prog (Builtin.append_ #[34, 34] 34 #[.slice l_1.p l_1.n l_1.c, .slice (some ⟨q7, 0, none⟩) 1 1]) H12 fun r7 H13 =>
                                  ∃ l2 : Sl,
                                  r7 = .slice l2.p l2.n l2.c ∧
                                  SelfEq ([.loc 0 0, .v (.int .i64 n2)], [], [72]) ∧
                                  I1 l2 (IntKind.wrap .i64 (i_1 + 1)) s5 b4 H13 ∧
                                  M1 l2 (IntKind.wrap .i64 (i_1 + 1)) s5 b4 H13 < M1 l_1 i_1 s3 b2 H5))))))
                 (
                  br (b2) (
                    K (.tuple #[.slice none 0 0, .int .i64 4]) H5)
                   (
                    br (!(s3.toList == (⟨#[]⟩ : ByteArray).toList)) (
                      K (.tuple #[.slice none 0 0, .int .i64 4]) H5)
                     (
                      br (decide ((n2 : Int) < 0)) (
                        K (.tuple #[.slice none 0 0, .int .i64 4]) H5)
                       (
                        br (decide ((n2 : Int) > 200)) (
                          K (.tuple #[.slice none 0 0, .int .i64 4]) H5)
                         (
                          K (.tuple #[.slice l_1.p l_1.n l_1.c, .int .i64 0]) H5))))))
               (
                br (b2) (
                  K (.tuple #[.slice none 0 0, .int .i64 4]) H5)
                 (
                  br (!(s3.toList == (⟨#[]⟩ : ByteArray).toList)) (
                    K (.tuple #[.slice none 0 0, .int .i64 4]) H5)
                   (
                    br (decide ((n2 : Int) < 0)) (
                      K (.tuple #[.slice none 0 0, .int .i64 4]) H5)
                     (
                      br (decide ((n2 : Int) > 200)) (
                        K (.tuple #[.slice none 0 0, .int .i64 4]) H5)
                       (
                        K (.tuple #[.slice l_1.p l_1.n l_1.c, .int .i64 0]) H5))))))
             (
              br (b2) (
                K (.tuple #[.slice none 0 0, .int .i64 4]) H5)
               (
                br (!(s3.toList == (⟨#[]⟩ : ByteArray).toList)) (
                  K (.tuple #[.slice none 0 0, .int .i64 4]) H5)
                 (
                  br (decide ((n2 : Int) < 0)) (
                    K (.tuple #[.slice none 0 0, .int .i64 4]) H5)
                   (
                    br (decide ((n2 : Int) > 200)) (
                      K (.tuple #[.slice none 0 0, .int .i64 4]) H5)
                     (
                      K (.tuple #[.slice l_1.p l_1.n l_1.c, .int .i64 0]) H5)))))))
theorem logboomref7_Read_eq (s : ByteArray) (H : Heap) (K : Value → Heap → Prop) : logboomref7_Read_vc s H K = denFn Tryd.prog logboomref7_Read_ann Tryd.f12 (bodyOf Tryd.f12) [.string s] H K := by kernel_rfl
theorem logboomref7_Read_fn (s : ByteArray) {H : Heap} {K : Value → Heap → Prop} (h : logboomref7_Read_vc s H K) : FnH Tryd.prog 12 #[.string s] H K :=
  denFn_fn Tryd.mixed logboomref7_Read_ann Tryd.func12 (bodyOf_spec (by kernel_rfl)) (logboomref7_Read_eq s H K) h

/-! function 13: logboom/logboomlaw7.same -/
def logboomlaw7_same_ann : Anns := { hid := [], loops := [(0, { slots := [(5, .int .i64)], kept := [0, 1], locs := [], keptL := [] })], joins := [], mix := [] }
def logboomlaw7_same_vc (a : Sl) (b : Sl) (H : Heap) (K : Value → Heap → Prop) : Prop :=
  br (((a.n : Nat) : Int) != (b.n : Nat)) (
    K (.bool false) H)
   (
    ∃ I1 : Int → Heap → Prop,
    ∃ M1 : Int → Heap → Nat,
    I1 0 H ∧
    ∀ i_1 : Int,
    ∀ H1 : Heap,
    I1 i_1 H1 →
    br (decide ((i_1 : Int) < (a.n : Nat))) (
      ∃ q1 : Nat,
      ∃ o1 : Nat,
      (a.p : Option Addr) = some ⟨q1, o1, none⟩ ∧
      0 ≤ (i_1 : Int) ∧
      (i_1 : Int) < (a.n : Nat) ∧
      ∃ n1 : Int,
      cellH H1 ⟨q1, o1 + Int.toNat i_1 * 3, none⟩ = some (.int .i64 n1) ∧
      ∃ n2 : Int,
      cellH H1 ⟨q1, o1 + Int.toNat i_1 * 3 + 1, none⟩ = some (.int .i64 n2) ∧
      ∃ s1 : ByteArray,
      cellH H1 ⟨q1, o1 + Int.toNat i_1 * 3 + 2, none⟩ = some (.string s1) ∧
      ∃ q2 : Nat,
      ∃ o2 : Nat,
      (b.p : Option Addr) = some ⟨q2, o2, none⟩ ∧
      0 ≤ (i_1 : Int) ∧
      (i_1 : Int) < (b.n : Nat) ∧
      ∃ n3 : Int,
      cellH H1 ⟨q2, o2 + Int.toNat i_1 * 3, none⟩ = some (.int .i64 n3) ∧
      ∃ n4 : Int,
      cellH H1 ⟨q2, o2 + Int.toNat i_1 * 3 + 1, none⟩ = some (.int .i64 n4) ∧
      ∃ s2 : ByteArray,
      cellH H1 ⟨q2, o2 + Int.toNat i_1 * 3 + 2, none⟩ = some (.string s2) ∧
      runR Tryd.prog (binOp .neq 51 (.agg #[.int .i64 n1, .int .i64 n2, .string s1]) (.agg #[.int .i64 n3, .int .i64 n4, .string s2])) H1 fun r1 =>
        ∃ b1 : Bool,
        r1 = .bool b1 ∧
        br (b1) (
          K (.bool false) H1)
         (
          SelfEq ([.v (.slice a.p a.n a.c), .v (.slice b.p b.n b.c)], [], []) ∧
          I1 (IntKind.wrap .i64 (i_1 + 1)) H1 ∧
          M1 (IntKind.wrap .i64 (i_1 + 1)) H1 < M1 i_1 H1))
     (
      K (.bool true) H1))
theorem logboomlaw7_same_eq (a : Sl) (b : Sl) (H : Heap) (K : Value → Heap → Prop) : logboomlaw7_same_vc a b H K = denFn Tryd.prog logboomlaw7_same_ann Tryd.f13 (bodyOf Tryd.f13) [.slice a.p a.n a.c, .slice b.p b.n b.c] H K := by kernel_rfl
theorem logboomlaw7_same_fn (a : Sl) (b : Sl) {H : Heap} {K : Value → Heap → Prop} (h : logboomlaw7_same_vc a b H K) : FnH Tryd.prog 13 #[.slice a.p a.n a.c, .slice b.p b.n b.c] H K :=
  denFn_fn Tryd.mixed logboomlaw7_same_ann Tryd.func13 (bodyOf_spec (by kernel_rfl)) (logboomlaw7_same_eq a b H K) h

/-! function 15: logboom/logboomlaw7.opened -/
def logboomlaw7_opened_ann : Anns := { hid := [], loops := [], joins := [], mix := [] }
def logboomlaw7_opened_vc (size : Int) (H : Heap) (K : Value → Heap → Prop) : Prop :=
  FnH Tryd.prog 9 #[.int .i64 size] H fun r1 H1 =>
    ∃ p1 : Option Addr,
    ∃ n1 : Int,
    r1 = .tuple #[.pointer p1, .int .i64 n1] ∧
    br (Option.isNone p1) (
      K (.tuple #[.pointer none, .pointer none]) H1)
     (
      br ((n1 : Int) != 0) (
        K (.tuple #[.pointer none, .pointer none]) H1)
       (
        FnH Tryd.prog 11 #[.pointer p1, .string (⟨#[101, 112, 111, 99, 104, 115]⟩ : ByteArray)] H1 fun r2 H2 =>
          ∃ p2 : Option Addr,
          ∃ n2 : Int,
          r2 = .tuple #[.pointer p2, .int .i64 n2] ∧
          br (Option.isNone p2) (
            K (.tuple #[.pointer none, .pointer none]) H2)
           (
            br ((n2 : Int) != 0) (
              K (.tuple #[.pointer none, .pointer none]) H2)
             (
              K (.tuple #[.pointer p2, .pointer p1]) H2))))
theorem logboomlaw7_opened_eq (size : Int) (H : Heap) (K : Value → Heap → Prop) : logboomlaw7_opened_vc size H K = denFn Tryd.prog logboomlaw7_opened_ann Tryd.f15 (bodyOf Tryd.f15) [.int .i64 size] H K := by kernel_rfl
theorem logboomlaw7_opened_fn (size : Int) {H : Heap} {K : Value → Heap → Prop} (h : logboomlaw7_opened_vc size H K) : FnH Tryd.prog 15 #[.int .i64 size] H K :=
  denFn_fn Tryd.mixed logboomlaw7_opened_ann Tryd.func15 (bodyOf_spec (by kernel_rfl)) (logboomlaw7_opened_eq size H K) h

/-! function 6: logboom/logboomlaw7.shown -/
def logboomlaw7_shown_ann : Anns := { hid := [], loops := [], joins := [], mix := [] }
def logboomlaw7_shown_vc  (H : Heap) (K : Value → Heap → Prop) : Prop :=
  FnH Tryd.prog 15 #[.int .i64 1000] H fun r1 H1 =>
    ∃ p1 : Option Addr,
    ∃ p2 : Option Addr,
    r1 = .tuple #[.pointer p1, .pointer p2] ∧
    br (Option.isNone p1) (
      K (.bool false) H1)
     (
      br (Option.isNone p2) (
        K (.bool false) H1)
       (
        FnH Tryd.prog 18 #[.pointer p1] H1 fun r2 H2 =>
          ∃ n1 : Int,
          r2 = .int .i64 n1 ∧
          br ((n1 : Int) != (-1)) (
            K (.bool false) H2)
           (
            FnH Tryd.prog 17 #[.pointer p1, .int .i64 1, .int .i64 0] H2 fun r3 H3 =>
              ∃ n2 : Int,
              r3 = .int .i64 n2 ∧
              FnH Tryd.prog 17 #[.pointer p1, .int .i64 3, .int .i64 10] H3 fun r4 H4 =>
                ∃ n3 : Int,
                r4 = .int .i64 n3 ∧
                FnH Tryd.prog 17 #[.pointer p1, .int .i64 2, .int .i64 20] H4 fun r5 H5 =>
                  ∃ n4 : Int,
                  r5 = .int .i64 n4 ∧
                  FnH Tryd.prog 17 #[.pointer p1, .int .i64 5, .int .i64 10] H5 fun r6 H6 =>
                    ∃ n5 : Int,
                    r6 = .int .i64 n5 ∧
                    FnH Tryd.prog 17 #[.pointer p1, .int .i64 6, .int .i64 30] H6 fun r7 H7 =>
                      ∃ n6 : Int,
                      r7 = .int .i64 n6 ∧
                      FnH Tryd.prog 21 #[.pointer p1, .int .i64 4, .int .i64 40] H7 fun r8 H8 =>
                        ∃ n7 : Int,
                        ∃ n8 : Int,
                        r8 = .tuple #[.int .i64 n7, .int .i64 n8] ∧
                        FnH Tryd.prog 14 #[.pointer p1] H8 fun r9 H9 =>
                          ∃ l1 : Sl,
                          r9 = .slice l1.p l1.n l1.c ∧
                          ∀ q1 : Nat,
                          H9 q1 = none →
                          letH (Heap.upd H9 q1 (.cells #[.int .i64 1, .int .i64 0, .string (⟨#[]⟩ : ByteArray), .int .i64 5, .int .i64 10, .string (⟨#[]⟩ : ByteArray), .int .i64 6, .int .i64 30, .string (⟨#[]⟩ : ByteArray)] 51 (0, 0))) fun H10 =>
                          FnH Tryd.prog 13 #[.slice l1.p l1.n l1.c, .slice (some ⟨q1, 0, none⟩) 3 3] H10 fun r10 H11 =>
                            ∃ b1 : Bool,
                            r10 = .bool b1 ∧
                            br ((n2 : Int) == 0) (
                              br ((n3 : Int) == 0) (
                                br ((n4 : Int) == 13) (
                                  br ((n5 : Int) == 0) (
                                    br ((n6 : Int) == 0) (
                                      br ((n7 : Int) == 1) (
                                        br ((n8 : Int) == 10) (
                                          br (b1) (
                                            FnH Tryd.prog 18 #[.pointer p1] H11 fun r11 H12 =>
                                              ∃ n9 : Int,
                                              r11 = .int .i64 n9 ∧
                                              br ((n9 : Int) == 6) (
                                                FnH Tryd.prog 23 #[.pointer p2, .string (⟨#[101, 112, 111, 99, 104, 115]⟩ : ByteArray)] H12 fun r12 H13 =>
                                                  ∃ n10 : Int,
                                                  r12 = .int .i64 n10 ∧
                                                  K (.bool (decide ((n10 : Int) > 0))) H13)
                                               (
                                                K (.bool false) H12))
                                           (
                                            K (.bool false) H11))
                                         (
                                          K (.bool false) H11))
                                       (
                                        K (.bool false) H11))
                                     (
                                      K (.bool false) H11))
                                   (
                                    K (.bool false) H11))
                                 (
                                  K (.bool false) H11))
                               (
                                K (.bool false) H11))
                             (
                              K (.bool false) H11))))
theorem logboomlaw7_shown_eq  (H : Heap) (K : Value → Heap → Prop) : logboomlaw7_shown_vc  H K = denFn Tryd.prog logboomlaw7_shown_ann Tryd.f6 (bodyOf Tryd.f6) [] H K := by kernel_rfl
theorem logboomlaw7_shown_fn  {H : Heap} {K : Value → Heap → Prop} (h : logboomlaw7_shown_vc  H K) : FnH Tryd.prog 6 #[] H K :=
  denFn_fn Tryd.mixed logboomlaw7_shown_ann Tryd.func6 (bodyOf_spec (by kernel_rfl)) (logboomlaw7_shown_eq  H K) h

end Go.Proofs.YtdgmifbcbmndgaaDoor
