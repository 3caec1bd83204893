/- Formulas of functions, printed by this session's vc.py; each is tied to the program by the kernel. -/
import Derived.Test.YtmneimfhcjkinaaDoorProg
import Derived.KernelRfl
import Derived.Test.YtmneimfhcjkinaaDoorHlFn
import Derived.Test.YtmneimfhcjkinaaDoorV4
namespace Go.Proofs.YtmneimfhcjkinaaDoor
open Go.HL
set_option maxRecDepth 100000
/-! function 6: logboom/logboomlaw9.shown -/
def logboomlaw9_shown_ann : Anns := { hid := [6], loops := [], joins := [], mix := [] }
def logboomlaw9_shown_vc  (H : Heap) (K : Value → Heap → Prop) : Prop :=
  FnH Tryd.prog 7 #[.int .i64 10000] H fun r1 H1 =>
    ∃ p1 : Option Addr,
    ∃ n1 : Int,
    r1 = .tuple #[.pointer p1, .int .i64 n1] ∧
    br (Option.isNone p1) (
      K (.bool false) H1)
     (
      br ((n1 : Int) != 0) (
        K (.bool false) H1)
       (
        FnH Tryd.prog 8 #[.pointer p1, .string (⟨#[114]⟩ : ByteArray)] H1 fun r2 H2 =>
          ∃ p2 : Option Addr,
          ∃ n2 : Int,
          r2 = .tuple #[.pointer p2, .int .i64 n2] ∧
          br (Option.isNone p2) (
            K (.bool false) H2)
           (
            br ((n2 : Int) != 0) (
              K (.bool false) H2)
             (
              FnH Tryd.prog 21 #[.pointer p2, .int .i64 1, .int .i64 2] H2 fun r3 H3 =>
                ∃ n3 : Int,
                r3 = .int .i64 n3 ∧
                br ((n3 : Int) != 0) (
                  K (.bool false) H3)
                 (
                  FnH Tryd.prog 21 #[.pointer p2, .int .i64 1, .int .i64 3] H3 fun r4 H4 =>
                    ∃ n4 : Int,
                    r4 = .int .i64 n4 ∧
                    br ((n4 : Int) != 19) (
                      K (.bool false) H4)
                     (
                      FnH Tryd.prog 21 #[.pointer p2, .int .i64 0, .int .i64 0] H4 fun r5 H5 =>
                        ∃ n5 : Int,
                        r5 = .int .i64 n5 ∧
                        br ((n5 : Int) != 13) (
                          K (.bool false) H5)
                         (
                          FnH Tryd.prog 21 #[.pointer p2, .int .i64 2, .int .i64 0] H5 fun r6 H6 =>
                            ∃ n6 : Int,
                            r6 = .int .i64 n6 ∧
                            br ((n6 : Int) != 0) (
                              K (.bool false) H6)
                             (
                              ptrm p2 fun q1 o1 =>
                              FnH Tryd.prog 18 #[.pointer (some ⟨q1, o1, none⟩)] H6 fun r7 H7 =>
                                ∃ n7 : Int,
                                r7 = .int .i64 n7 ∧
                                br ((n7 : Int) != 2) (
                                  K (.bool false) H7)
                                 (
                                  ptrm p2 fun q2 o2 =>
                                  FnH Tryd.prog 19 #[.pointer (some ⟨q2, o2, none⟩)] H7 fun r8 H8 =>
                                    ∃ n8 : Int,
                                    r8 = .int .i64 n8 ∧
                                    br ((n8 : Int) != 0) (
                                      K (.bool false) H8)
                                     (
                                      FnH Tryd.prog 20 #[.int .i64 0, .int .i64 2, .int .i64 1] H8 fun r9 H9 =>
                                        ∃ l1 : Sl,
                                        r9 = .slice l1.p l1.n l1.c ∧
                                        FnH Tryd.prog 12 #[.pointer p2, .int .i64 0, .slice l1.p l1.n l1.c] H9 fun r10 H10 =>
                                          ∃ n9 : Int,
                                          r10 = .int .i64 n9 ∧
                                          br ((n9 : Int) != 0) (
                                            K (.bool false) H10)
                                           (
                                            FnH Tryd.prog 20 #[.int .i64 1, .int .i64 1, .int .i64 2] H10 fun r11 H11 =>
                                              ∃ l2 : Sl,
                                              r11 = .slice l2.p l2.n l2.c ∧
                                              FnH Tryd.prog 12 #[.pointer p2, .int .i64 1, .slice l2.p l2.n l2.c] H11 fun r12 H12 =>
                                                ∃ n10 : Int,
                                                r12 = .int .i64 n10 ∧
                                                br ((n10 : Int) != 0) (
                                                  K (.bool false) H12)
                                                 (
                                                  ptrm p2 fun q3 o3 =>
                                                  FnH Tryd.prog 9 #[.pointer (some ⟨q3, o3, none⟩)] H12 fun r13 H13 =>
                                                    ∃ n11 : Int,
                                                    ∃ n12 : Int,
                                                    r13 = .tuple #[.int .i64 n11, .int .i64 n12] ∧
                                                    ptrm p2 fun q4 o4 =>
                                                    FnH Tryd.prog 16 #[.pointer (some ⟨q4, o4, none⟩), .int .i64 2] H13 fun r14 H14 =>
                                                      ∃ n13 : Int,
                                                      ∃ n14 : Int,
                                                      ∃ s1 : ByteArray,
                                                      ∃ b1 : Bool,
                                                      r14 = .tuple #[.agg #[.int .i64 n13, .int .i64 n14, .string s1], .bool b1] ∧
                                                      br ((n11 : Int) != 2) (
                                                        K (.bool false) H14)
                                                       (
                                                        br ((n12 : Int) != 2) (
                                                          K (.bool false) H14)
                                                         (
                                                          br (!b1) (
                                                            K (.bool false) H14)
                                                           (
                                                            br ((n13 : Int) != 2) (
                                                              K (.bool false) H14)
                                                             (
                                                              FnH Tryd.prog 20 #[.int .i64 1, .int .i64 2, .int .i64 2] H14 fun r15 H15 =>
                                                                ∃ l3 : Sl,
                                                                r15 = .slice l3.p l3.n l3.c ∧
                                                                FnH Tryd.prog 12 #[.pointer p2, .int .i64 1, .slice l3.p l3.n l3.c] H15 fun r16 H16 =>
                                                                  ∃ n15 : Int,
                                                                  r16 = .int .i64 n15 ∧
                                                                  br ((n15 : Int) != 0) (
                                                                    K (.bool false) H16)
                                                                   (
                                                                    FnH Tryd.prog 12 #[.pointer p2, .int .i64 5, .slice none 0 0] H16 fun r17 H17 =>
                                                                      ∃ n16 : Int,
                                                                      r17 = .int .i64 n16 ∧
                                                                      br ((n16 : Int) != 10) (
                                                                        K (.bool false) H17)
                                                                       (
                                                                        ptrm p2 fun q5 o5 =>
                                                                        FnH Tryd.prog 14 #[.pointer (some ⟨q5, o5, none⟩), .int .i64 2, .int .i64 9] H17 fun r18 H18 =>
                                                                          ∃ l4 : Sl,
                                                                          r18 = .slice l4.p l4.n l4.c ∧
                                                                          br (((l4.n : Nat) : Int) != 2) (
                                                                            K (.bool false) H18)
                                                                           (
                                                                            FnH Tryd.prog 11 #[.pointer p2, .int .i64 2, .int .i64 2, .string (⟨#[115]⟩ : ByteArray)] H18 fun r19 H19 =>
                                                                              ∃ n17 : Int,
                                                                              r19 = .int .i64 n17 ∧
                                                                              br ((n17 : Int) != 0) (
                                                                                K (.bool false) H19)
                                                                               (
                                                                                ptrm p2 fun q6 o6 =>
                                                                                FnH Tryd.prog 15 #[.pointer (some ⟨q6, o6, none⟩)] H19 fun r20 H20 =>
                                                                                  ∃ n18 : Int,
                                                                                  r20 = .int .i64 n18 ∧
                                                                                  br ((n18 : Int) != 3) (
                                                                                    K (.bool false) H20)
                                                                                   (
                                                                                    ptrm p2 fun q7 o7 =>
                                                                                    FnH Tryd.prog 16 #[.pointer (some ⟨q7, o7, none⟩), .int .i64 2] H20 fun r21 H21 =>
                                                                                      ∃ n19 : Int,
                                                                                      ∃ n20 : Int,
                                                                                      ∃ s2 : ByteArray,
                                                                                      ∃ b2 : Bool,
                                                                                      r21 = .tuple #[.agg #[.int .i64 n19, .int .i64 n20, .string s2], .bool b2] ∧
                                                                                      ptrm p2 fun q8 o8 =>
                                                                                      FnH Tryd.prog 13 #[.pointer (some ⟨q8, o8, none⟩)] H21 fun r22 H22 =>
                                                                                        ∃ n21 : Int,
                                                                                        ∃ n22 : Int,
                                                                                        ∃ s3 : ByteArray,
                                                                                        r22 = .tuple #[.int .i64 n21, .int .i64 n22, .string s3] ∧
                                                                                        br (!b2) (
                                                                                          br ((n21 : Int) == 2) (
                                                                                            br ((n22 : Int) == 2) (
                                                                                              br (s3.toList == (⟨#[115]⟩ : ByteArray).toList) (
                                                                                                FnH Tryd.prog 11 #[.pointer p2, .int .i64 9, .int .i64 5, .string (⟨#[116]⟩ : ByteArray)] H22 fun r23 H23 =>
                                                                                                  ∃ n23 : Int,
                                                                                                  r23 = .int .i64 n23 ∧
                                                                                                  br ((n23 : Int) == 0) (
                                                                                                    ptrm p2 fun q9 o9 =>
                                                                                                    FnH Tryd.prog 14 #[.pointer (some ⟨q9, o9, none⟩), .int .i64 1, .int .i64 9] H23 fun r24 H24 =>
                                                                                                      ∃ l5 : Sl,
                                                                                                      r24 = .slice l5.p l5.n l5.c ∧
                                                                                                      K (.bool (((l5.n : Nat) : Int) == 0)) H24)
                                                                                                   (
                                                                                                    K (.bool false) H23))
                                                                                               (
                                                                                                K (.bool false) H22))
                                                                                             (
                                                                                              K (.bool false) H22))
                                                                                           (
                                                                                            K (.bool false) H22))
                                                                                         (
                                                                                          K (.bool false) H22))))))))))))))))))))))
theorem logboomlaw9_shown_eq  (H : Heap) (K : Value → Heap → Prop) : logboomlaw9_shown_vc  H K = denFn Tryd.prog logboomlaw9_shown_ann Tryd.f6 (bodyOf Tryd.f6) [] H K := by kernel_rfl
theorem logboomlaw9_shown_fn  {H : Heap} {K : Value → Heap → Prop} (h : logboomlaw9_shown_vc  H K) : FnH Tryd.prog 6 #[] H K :=
  denFn_fn Tryd.mixed logboomlaw9_shown_ann Tryd.func6 (bodyOf_spec (by kernel_rfl)) (logboomlaw9_shown_eq  H K) h

/-! function 4: logboom/logboomlaw9.RaftlogFull -/
def logboomlaw9_RaftlogFull_ann : Anns := { hid := [13], loops := [(0, { slots := [(9, .int .i64)], kept := [1, 6, 8], locs := [], keptL := [] })], joins := [], mix := [] }
def logboomlaw9_RaftlogFull_vc (size : Int) (sizes : Sl) (H : Heap) (K : Value → Heap → Prop) : Prop :=
  FnH Tryd.prog 6 #[] H fun r1 H1 =>
    ∃ b1 : Bool,
    r1 = .bool b1 ∧
    FnH Tryd.prog 10 #[.int .i64 size, .int .i64 3000] H1 fun r2 H2 =>
      ∃ n1 : Int,
      r2 = .int .i64 n1 ∧
      FnH Tryd.prog 7 #[.int .i64 (IntKind.wrap .i64 (1 + n1))] H2 fun r3 H3 =>
        ∃ p1 : Option Addr,
        ∃ n2 : Int,
        r3 = .tuple #[.pointer p1, .int .i64 n2] ∧
        br (!b1) (
          K (.bool false) H3)
         (
          br (Option.isNone p1) (
            K (.bool false) H3)
           (
            br ((n2 : Int) != 0) (
              K (.bool false) H3)
             (
              FnH Tryd.prog 8 #[.pointer p1, .string (⟨#[114]⟩ : ByteArray)] H3 fun r4 H4 =>
                ∃ p2 : Option Addr,
                ∃ n3 : Int,
                r4 = .tuple #[.pointer p2, .int .i64 n3] ∧
                br (Option.isNone p2) (
                  K (.bool false) H4)
                 (
                  br ((n3 : Int) != 0) (
                    K (.bool false) H4)
                   (
                    ∃ I1 : Int → Heap → Prop,
                    ∃ M1 : Int → Heap → Nat,
                    I1 0 H4 ∧
                    ∀ i_1 : Int,
                    ∀ H5 : Heap,
                    I1 i_1 H5 →
                    br (decide ((i_1 : Int) < (sizes.n : Nat))) (
                      br (decide ((i_1 : Int) < 40)) (
                        ptrm p2 fun q1 o1 =>
                        FnH Tryd.prog 9 #[.pointer (some ⟨q1, o1, none⟩)] H5 fun r5 H6 =>
                          ∃ n4 : Int,
                          ∃ n5 : Int,
                          r5 = .tuple #[.int .i64 n4, .int .i64 n5] ∧
                          ptrm p2 fun q2 o2 =>
                          FnH Tryd.prog 14 #[.pointer (some ⟨q2, o2, none⟩), .int .i64 1, .int .i64 1000000] H6 fun r6 H7 =>
                            ∃ l1 : Sl,
                            r6 = .slice l1.p l1.n l1.c ∧
                            ∃ q3 : Nat,
                            ∃ o3 : Nat,
                            (sizes.p : Option Addr) = some ⟨q3, o3, none⟩ ∧
                            0 ≤ (i_1 : Int) ∧
                            (i_1 : Int) < (sizes.n : Nat) ∧
                            ∃ n6 : Int,
                            cellH H7 ⟨q3, o3 + Int.toNat i_1, none⟩ = some (.int .i64 n6) ∧
                            FnH Tryd.prog 10 #[.int .i64 n6, .int .i64 300] H7 fun r7 H8 =>
                              ∃ n7 : Int,
                              r7 = .int .i64 n7 ∧
                              runH Tryd.prog (Instr.makeSlice 53 (.int .i64 n7) (.int .i64 n7)) H8 fun r8 H9 =>
                                ∃ l2 : Sl,
                                r8 = .slice l2.p l2.n l2.c ∧
                                runH Tryd.prog (convert 53 9 (.slice l2.p l2.n l2.c)) H9 fun r9 H10 =>
                                  ∃ s1 : ByteArray,
                                  r9 = .string s1 ∧
                                  ∀ q4 : Nat,
                                  H10 q4 = none →
                                  letH (Heap.upd H10 q4 (.cells #[.int .i64 1, .int .i64 (IntKind.wrap .i64 (n4 + 1)), .string s1] 43 (0, 0))) fun H11 =>
                                  FnH Tryd.prog 12 #[.pointer p2, .int .i64 n4, .slice (some ⟨q4, 0, none⟩) 1 1] H11 fun r10 H12 =>
                                    ∃ n8 : Int,
                                    r10 = .int .i64 n8 ∧
                                    ptrm p2 fun q5 o4 =>
                                    FnH Tryd.prog 14 #[.pointer (some ⟨q5, o4, none⟩), .int .i64 1, .int .i64 1000000] H12 fun r11 H13 =>
                                      ∃ l3 : Sl,
                                      r11 = .slice l3.p l3.n l3.c ∧
                                      br ((n8 : Int) == 0) (
                                        ∀ q6 : Nat,
                                        H13 q6 = none →
                                        letH (Heap.upd H13 q6 (.cells #[.int .i64 1, .int .i64 (IntKind.wrap .i64 (n4 + 1)), .string s1] 43 (0, 0))) fun H14 =>
                                        runH Tryd.prog (Builtin.append_ #[31, 31] 31 #[.slice l1.p l1.n l1.c, .slice (some ⟨q6, 0, none⟩) 1 1]) H14 fun r12 H15 =>
                                          ∃ l4 : Sl,
                                          r12 = .slice l4.p l4.n l4.c ∧
                                          FnH Tryd.prog 17 #[.slice l3.p l3.n l3.c, .slice l4.p l4.n l4.c] H15 fun r13 H16 =>
                                            ∃ b2 : Bool,
                                            r13 = .bool b2 ∧
                                            FnH Tryd.prog 8 #[.pointer p1, .string (⟨#[114]⟩ : ByteArray)] H16 fun r14 H17 =>
                                              ∃ p3 : Option Addr,
                                              ∃ n9 : Int,
                                              r14 = .tuple #[.pointer p3, .int .i64 n9] ∧
                                              br (!b2) (
                                                K (.bool false) H17)
                                               (
                                                br (Option.isNone p3) (
                                                  K (.bool false) H17)
                                                 (
                                                  br ((n9 : Int) != 0) (
                                                    K (.bool false) H17)
                                                   (
                                                    ptrm p3 fun q7 o5 =>
                                                    FnH Tryd.prog 14 #[.pointer (some ⟨q7, o5, none⟩), .int .i64 1, .int .i64 1000000] H17 fun r15 H18 =>
                                                      ∃ l5 : Sl,
                                                      r15 = .slice l5.p l5.n l5.c ∧
                                                      FnH Tryd.prog 17 #[.slice l5.p l5.n l5.c, .slice l4.p l4.n l4.c] H18 fun r16 H19 =>
                                                        ∃ b3 : Bool,
                                                        r16 = .bool b3 ∧
                                                        br (!b3) (
                                                          K (.bool false) H19)
                                                         (
                                                          SelfEq ([.v (.slice sizes.p sizes.n sizes.c), .v (.pointer p1), .v (.pointer p2)], [], []) ∧
                                                          I1 (IntKind.wrap .i64 (i_1 + 1)) H19 ∧
                                                          M1 (IntKind.wrap .i64 (i_1 + 1)) H19 < M1 i_1 H5)))))
                                       (
                                        br ((n8 : Int) != 7) (
                                          K (.bool false) H13)
                                         (
                                          FnH Tryd.prog 17 #[.slice l3.p l3.n l3.c, .slice l1.p l1.n l1.c] H13 fun r17 H20 =>
                                            ∃ b4 : Bool,
                                            r17 = .bool b4 ∧
                                            FnH Tryd.prog 8 #[.pointer p1, .string (⟨#[114]⟩ : ByteArray)] H20 fun r18 H21 =>
                                              ∃ p4 : Option Addr,
                                              ∃ n10 : Int,
                                              r18 = .tuple #[.pointer p4, .int .i64 n10] ∧
                                              br (!b4) (
                                                K (.bool false) H21)
                                               (
                                                br (Option.isNone p4) (
                                                  K (.bool false) H21)
                                                 (
                                                  br ((n10 : Int) != 0) (
                                                    K (.bool false) H21)
                                                   (
                                                    ptrm p4 fun q8 o6 =>
                                                    FnH Tryd.prog 14 #[.pointer (some ⟨q8, o6, none⟩), .int .i64 1, .int .i64 1000000] H21 fun r19 H22 =>
                                                      ∃ l6 : Sl,
                                                      r19 = .slice l6.p l6.n l6.c ∧
                                                      FnH Tryd.prog 17 #[.slice l6.p l6.n l6.c, .slice l1.p l1.n l1.c] H22 fun r20 H23 =>
                                                        ∃ b5 : Bool,
                                                        r20 = .bool b5 ∧
                                                        br (!b5) (
                                                          K (.bool false) H23)
                                                         (
                                                          SelfEq ([.v (.slice sizes.p sizes.n sizes.c), .v (.pointer p1), .v (.pointer p2)], [], []) ∧
                                                          I1 (IntKind.wrap .i64 (i_1 + 1)) H23 ∧
                                                          M1 (IntKind.wrap .i64 (i_1 + 1)) H23 < M1 i_1 H5)))))))
                       (
                        K (.bool true) H5))
                     (
                      K (.bool true) H5))))))
theorem logboomlaw9_RaftlogFull_eq (size : Int) (sizes : Sl) (H : Heap) (K : Value → Heap → Prop) : logboomlaw9_RaftlogFull_vc size sizes H K = denFn Tryd.prog logboomlaw9_RaftlogFull_ann Tryd.f4 (bodyOf Tryd.f4) [.int .i64 size, .slice sizes.p sizes.n sizes.c] H K := by kernel_rfl
theorem logboomlaw9_RaftlogFull_fn (size : Int) (sizes : Sl) {H : Heap} {K : Value → Heap → Prop} (h : logboomlaw9_RaftlogFull_vc size sizes H K) : FnH Tryd.prog 4 #[.int .i64 size, .slice sizes.p sizes.n sizes.c] H K :=
  denFn_fn Tryd.mixed logboomlaw9_RaftlogFull_ann Tryd.func4 (bodyOf_spec (by kernel_rfl)) (logboomlaw9_RaftlogFull_eq size sizes H K) h

end Go.Proofs.YtmneimfhcjkinaaDoor
