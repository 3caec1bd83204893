/- Formulas of functions, printed by this session's vc.py; each is tied to the program by the kernel. -/
import Derived.Test.YtcbobncipnjbjaaDoorProg
import Derived.KernelRfl
import Derived.Test.YtcbobncipnjbjaaDoorHlFn
import Derived.Test.YtcbobncipnjbjaaDoorV2
namespace Go.Proofs.YtcbobncipnjbjaaDoor
open Go.HL
set_option maxRecDepth 100000
/-! function 9: logboom/logboomlaw15.shown -/
def logboomlaw15_shown_ann : Anns := { hid := [3, 4, 5, 6, 7, 8, 9, 10, 11], loops := [], joins := [], mix := [] }
def logboomlaw15_shown_vc  (H : Heap) (K : Value → Heap → Prop) : Prop :=
  FnH Tryd.prog 13 #[] H fun r1 H1 =>
    ∃ p1 : Option Addr,
    r1 = .pointer p1 ∧
    br (Option.isNone p1) (
      K (.bool false) H1)
     (
      ∀ q1 : Nat,
      H1 q1 = none →
      letH (Heap.upd H1 q1 (.cells #[.int .i64 1, .int .i64 2, .int .i64 3] 3 (0, 0))) fun H2 =>
      FnH Tryd.prog 14 #[.pointer p1, .agg #[.int .i64 1, .int .i64 0, .int .i64 0, .int .i64 0, .int .i64 0, .string (⟨#[103]⟩ : ByteArray), .string (⟨#[]⟩ : ByteArray), .slice (some ⟨q1, 0, none⟩) 3 3]] H2 fun r2 H3 =>
        ∃ n1 : Int,
        ∃ n2 : Int,
        ∃ n3 : Int,
        ∃ n4 : Int,
        ∃ l1 : Sl,
        r2 = .agg #[.int .i64 n1, .int .i64 n2, .int .i64 n3, .int .i64 n4, .slice l1.p l1.n l1.c] ∧
        FnH Tryd.prog 14 #[.pointer p1, .agg #[.int .i64 1, .int .i64 0, .int .i64 0, .int .i64 0, .int .i64 0, .string (⟨#[103]⟩ : ByteArray), .string (⟨#[]⟩ : ByteArray), .slice (some ⟨q1, 0, none⟩) 3 3]] H3 fun r3 H4 =>
          ∃ n5 : Int,
          ∃ n6 : Int,
          ∃ n7 : Int,
          ∃ n8 : Int,
          ∃ l2 : Sl,
          r3 = .agg #[.int .i64 n5, .int .i64 n6, .int .i64 n7, .int .i64 n8, .slice l2.p l2.n l2.c] ∧
          FnH Tryd.prog 14 #[.pointer p1, .agg #[.int .i64 6, .int .i64 1, .int .i64 2, .int .i64 0, .int .i64 0, .string (⟨#[103]⟩ : ByteArray), .string (⟨#[]⟩ : ByteArray), .slice none 0 0]] H4 fun r4 H5 =>
            ∃ n9 : Int,
            ∃ n10 : Int,
            ∃ n11 : Int,
            ∃ n12 : Int,
            ∃ l3 : Sl,
            r4 = .agg #[.int .i64 n9, .int .i64 n10, .int .i64 n11, .int .i64 n12, .slice l3.p l3.n l3.c] ∧
            FnH Tryd.prog 14 #[.pointer p1, .agg #[.int .i64 6, .int .i64 1, .int .i64 1, .int .i64 0, .int .i64 0, .string (⟨#[103]⟩ : ByteArray), .string (⟨#[]⟩ : ByteArray), .slice none 0 0]] H5 fun r5 H6 =>
              ∃ n13 : Int,
              ∃ n14 : Int,
              ∃ n15 : Int,
              ∃ n16 : Int,
              ∃ l4 : Sl,
              r5 = .agg #[.int .i64 n13, .int .i64 n14, .int .i64 n15, .int .i64 n16, .slice l4.p l4.n l4.c] ∧
              ∀ q2 : Nat,
              H6 q2 = none →
              letH (Heap.upd H6 q2 (.cells #[.int .i64 4] 3 (0, 0))) fun H7 =>
              FnH Tryd.prog 14 #[.pointer p1, .agg #[.int .i64 3, .int .i64 1, .int .i64 2, .int .i64 1, .int .i64 7, .string (⟨#[103]⟩ : ByteArray), .string (⟨#[]⟩ : ByteArray), .slice (some ⟨q2, 0, none⟩) 1 1]] H7 fun r6 H8 =>
                ∃ n17 : Int,
                ∃ n18 : Int,
                ∃ n19 : Int,
                ∃ n20 : Int,
                ∃ l5 : Sl,
                r6 = .agg #[.int .i64 n17, .int .i64 n18, .int .i64 n19, .int .i64 n20, .slice l5.p l5.n l5.c] ∧
                ∀ q3 : Nat,
                H8 q3 = none →
                letH (Heap.upd H8 q3 (.cells #[.int .i64 4] 3 (0, 0))) fun H9 =>
                FnH Tryd.prog 14 #[.pointer p1, .agg #[.int .i64 3, .int .i64 1, .int .i64 2, .int .i64 1, .int .i64 7, .string (⟨#[103]⟩ : ByteArray), .string (⟨#[]⟩ : ByteArray), .slice (some ⟨q3, 0, none⟩) 1 1]] H9 fun r7 H10 =>
                  ∃ n21 : Int,
                  ∃ n22 : Int,
                  ∃ n23 : Int,
                  ∃ n24 : Int,
                  ∃ l6 : Sl,
                  r7 = .agg #[.int .i64 n21, .int .i64 n22, .int .i64 n23, .int .i64 n24, .slice l6.p l6.n l6.c] ∧
                  FnH Tryd.prog 14 #[.pointer p1, .agg #[.int .i64 4, .int .i64 0, .int .i64 0, .int .i64 1, .int .i64 0, .string (⟨#[103]⟩ : ByteArray), .string (⟨#[]⟩ : ByteArray), .slice none 0 0]] H10 fun r8 H11 =>
                    ∃ n25 : Int,
                    ∃ n26 : Int,
                    ∃ n27 : Int,
                    ∃ n28 : Int,
                    ∃ l7 : Sl,
                    r8 = .agg #[.int .i64 n25, .int .i64 n26, .int .i64 n27, .int .i64 n28, .slice l7.p l7.n l7.c] ∧
                    ∀ q4 : Nat,
                    H11 q4 = none →
                    letH (Heap.upd H11 q4 (.cells #[.int .i64 0] 3 (0, 0))) fun H12 =>
                    FnH Tryd.prog 14 #[.pointer p1, .agg #[.int .i64 3, .int .i64 2, .int .i64 2, .int .i64 1, .int .i64 9, .string (⟨#[103]⟩ : ByteArray), .string (⟨#[]⟩ : ByteArray), .slice (some ⟨q4, 0, none⟩) 1 1]] H12 fun r9 H13 =>
                      ∃ n29 : Int,
                      ∃ n30 : Int,
                      ∃ n31 : Int,
                      ∃ n32 : Int,
                      ∃ l8 : Sl,
                      r9 = .agg #[.int .i64 n29, .int .i64 n30, .int .i64 n31, .int .i64 n32, .slice l8.p l8.n l8.c] ∧
                      FnH Tryd.prog 14 #[.pointer p1, .agg #[.int .i64 4, .int .i64 0, .int .i64 0, .int .i64 1, .int .i64 0, .string (⟨#[104]⟩ : ByteArray), .string (⟨#[]⟩ : ByteArray), .slice none 0 0]] H13 fun r10 H14 =>
                        ∃ n33 : Int,
                        ∃ n34 : Int,
                        ∃ n35 : Int,
                        ∃ n36 : Int,
                        ∃ l9 : Sl,
                        r10 = .agg #[.int .i64 n33, .int .i64 n34, .int .i64 n35, .int .i64 n36, .slice l9.p l9.n l9.c] ∧
                        FnH Tryd.prog 12 #[.slice l1.p l1.n l1.c, .slice (some ⟨q1, 0, none⟩) 3 3] H14 fun r11 H15 =>
                          ∃ b1 : Bool,
                          r11 = .bool b1 ∧
                          ∀ q5 : Nat,
                          H15 q5 = none →
                          letH (Heap.upd H15 q5 (.cells #[.int .i64 3] 3 (0, 0))) fun H16 =>
                          FnH Tryd.prog 12 #[.slice l2.p l2.n l2.c, .slice (some ⟨q5, 0, none⟩) 1 1] H16 fun r12 H17 =>
                            ∃ b2 : Bool,
                            r12 = .bool b2 ∧
                            ∀ q6 : Nat,
                            H17 q6 = none →
                            letH (Heap.upd H17 q6 (.cells #[.int .i64 1, .int .i64 2] 3 (0, 0))) fun H18 =>
                            FnH Tryd.prog 12 #[.slice l3.p l3.n l3.c, .slice (some ⟨q6, 0, none⟩) 2 2] H18 fun r13 H19 =>
                              ∃ b3 : Bool,
                              r13 = .bool b3 ∧
                              br ((n2 : Int) == 1) (
                                br ((n3 : Int) == 1) (
                                  br (b1) (
                                    br ((n6 : Int) == 2) (
                                      br ((n7 : Int) == 2) (
                                        br (b2) (
                                          br (b3) (
                                            br ((n13 : Int) == 18) (
                                              br ((n20 : Int) == 7) (
                                                br ((n21 : Int) == 12) (
                                                  br ((n28 : Int) == 7) (
                                                    br ((n29 : Int) == 19) (
                                                      br ((n33 : Int) == 8) (
                                                        FnH Tryd.prog 19 #[.pointer p1, .string (⟨#[103]⟩ : ByteArray), .int .i64 3] H19 fun r14 H20 =>
                                                          ∃ n37 : Int,
                                                          r14 = .int .i64 n37 ∧
                                                          br ((n37 : Int) == 2) (
                                                            FnH Tryd.prog 16 #[.pointer p1, .string (⟨#[103]⟩ : ByteArray), .int .i64 2] H20 fun r15 H21 =>
                                                              ∃ n38 : Int,
                                                              r15 = .int .i64 n38 ∧
                                                              K (.bool ((n38 : Int) == (-1))) H21)
                                                           (
                                                            K (.bool false) H20))
                                                       (
                                                        K (.bool false) H19))
                                                     (
                                                      K (.bool false) H19))
                                                   (
                                                    K (.bool false) H19))
                                                 (
                                                  K (.bool false) H19))
                                               (
                                                K (.bool false) H19))
                                             (
                                              K (.bool false) H19))
                                           (
                                            K (.bool false) H19))
                                         (
                                          K (.bool false) H19))
                                       (
                                        K (.bool false) H19))
                                     (
                                      K (.bool false) H19))
                                   (
                                    K (.bool false) H19))
                                 (
                                  K (.bool false) H19))
                               (
                                K (.bool false) H19))
theorem logboomlaw15_shown_eq  (H : Heap) (K : Value → Heap → Prop) : logboomlaw15_shown_vc  H K = denFn Tryd.prog logboomlaw15_shown_ann Tryd.f9 (bodyOf Tryd.f9) [] H K := by kernel_rfl
theorem logboomlaw15_shown_fn  {H : Heap} {K : Value → Heap → Prop} (h : logboomlaw15_shown_vc  H K) : FnH Tryd.prog 9 #[] H K :=
  denFn_fn Tryd.mixed logboomlaw15_shown_ann Tryd.func9 (bodyOf_spec (by kernel_rfl)) (logboomlaw15_shown_eq  H K) h

/-! function 11: logboom/logboomref15.Assign -/
def logboomref15_Assign_ann : Anns := { hid := [], loops := [(0, { slots := [(5, .slice), (6, .int .i64), (7, .int .i64)], kept := [0, 1], locs := [], keptL := [] })], joins := [], mix := [] }
def logboomref15_Assign_vc (members : Sl) (parts : Sl) (H : Heap) (K : Value → Heap → Prop) : Prop :=
  ∃ I1 : Sl → Int → Int → Heap → Prop,
  ∃ M1 : Sl → Int → Int → Heap → Nat,
  I1 ⟨none, 0, 0⟩ 0 0 H ∧
  ∀ out_1 : Sl,
  ∀ at_1 : Int,
  ∀ i_1 : Int,
  ∀ H1 : Heap,
  I1 out_1 at_1 i_1 H1 →
  br (decide ((i_1 : Int) < (members.n : Nat))) (
    ((members.n : Nat) : Int) ≠ 0 ∧
    ((members.n : Nat) : Int) ≠ 0 ∧
    br (decide ((i_1 : Int) < (Int.tmod (parts.n : Nat) (members.n : Nat)))) (
      ∀ q1 : Nat,
      H1 q1 = none →
      letH (Heap.upd H1 q1 (.cells #[] 3 (0, 0))) fun H2 =>
      0 ≤ (IntKind.wrap .i64 (at_1 + (IntKind.wrap .i64 ((IntKind.wrap .i64 (Int.tdiv (parts.n : Nat) (members.n : Nat))) + 1))) : Int) ∧
      (IntKind.wrap .i64 (at_1 + (IntKind.wrap .i64 ((IntKind.wrap .i64 (Int.tdiv (parts.n : Nat) (members.n : Nat))) + 1))) : Int) ≤ (parts.c : Nat) ∧
      0 ≤ (at_1 : Int) ∧
      (at_1 : Int) ≤ (IntKind.wrap .i64 (at_1 + (IntKind.wrap .i64 ((IntKind.wrap .i64 (Int.tdiv (parts.n : Nat) (members.n : Nat))) + 1)))) ∧
      runH Tryd.prog (Builtin.append_ #[22, 22] 22 #[.slice (some ⟨q1, 0, none⟩) 0 0, .slice (slP parts.p parts.c at_1 1) (Int.toNat ((IntKind.wrap .i64 (at_1 + (IntKind.wrap .i64 ((IntKind.wrap .i64 (Int.tdiv (parts.n : Nat) (members.n : Nat))) + 1)))) - at_1)) (Int.toNat ((parts.c : Nat) - at_1))]) H2 fun r1 H3 =>
        ∃ l1 : Sl,
        r1 = .slice l1.p l1.n l1.c ∧
        ∀ q2 : Nat,
        H3 q2 = none →
        letH (Heap.upd H3 q2 (.cells #[.slice l1.p l1.n l1.c] 22 (0, 0))) fun H4 =>
        runH Tryd.prog (Builtin.append_ #[24, 24] 24 #[.slice out_1.p out_1.n out_1.c, .slice (some ⟨q2, 0, none⟩) 1 1]) H4 fun r2 H5 =>
          ∃ l2 : Sl,
          r2 = .slice l2.p l2.n l2.c ∧
          SelfEq ([.v (.slice members.p members.n members.c), .v (.slice parts.p parts.n parts.c)], [], []) ∧
          I1 l2 (IntKind.wrap .i64 (at_1 + (IntKind.wrap .i64 ((IntKind.wrap .i64 (Int.tdiv (parts.n : Nat) (members.n : Nat))) + 1)))) (IntKind.wrap .i64 (i_1 + 1)) H5 ∧
          M1 l2 (IntKind.wrap .i64 (at_1 + (IntKind.wrap .i64 ((IntKind.wrap .i64 (Int.tdiv (parts.n : Nat) (members.n : Nat))) + 1)))) (IntKind.wrap .i64 (i_1 + 1)) H5 < M1 out_1 at_1 i_1 H1)
     (
      ∀ q3 : Nat,
      H1 q3 = none →
      letH (Heap.upd H1 q3 (.cells #[] 3 (0, 0))) fun H6 =>
      0 ≤ (IntKind.wrap .i64 (at_1 + (IntKind.wrap .i64 (Int.tdiv (parts.n : Nat) (members.n : Nat)))) : Int) ∧
      (IntKind.wrap .i64 (at_1 + (IntKind.wrap .i64 (Int.tdiv (parts.n : Nat) (members.n : Nat)))) : Int) ≤ (parts.c : Nat) ∧
      0 ≤ (at_1 : Int) ∧
      (at_1 : Int) ≤ (IntKind.wrap .i64 (at_1 + (IntKind.wrap .i64 (Int.tdiv (parts.n : Nat) (members.n : Nat))))) ∧
      runH Tryd.prog (Builtin.append_ #[22, 22] 22 #[.slice (some ⟨q3, 0, none⟩) 0 0, .slice (slP parts.p parts.c at_1 1) (Int.toNat ((IntKind.wrap .i64 (at_1 + (IntKind.wrap .i64 (Int.tdiv (parts.n : Nat) (members.n : Nat))))) - at_1)) (Int.toNat ((parts.c : Nat) - at_1))]) H6 fun r3 H7 =>
        ∃ l3 : Sl,
        r3 = .slice l3.p l3.n l3.c ∧
        ∀ q4 : Nat,
        H7 q4 = none →
        letH (Heap.upd H7 q4 (.cells #[.slice l3.p l3.n l3.c] 22 (0, 0))) fun H8 =>
        runH Tryd.prog (Builtin.append_ #[24, 24] 24 #[.slice out_1.p out_1.n out_1.c, .slice (some ⟨q4, 0, none⟩) 1 1]) H8 fun r4 H9 =>
          ∃ l4 : Sl,
          r4 = .slice l4.p l4.n l4.c ∧
          SelfEq ([.v (.slice members.p members.n members.c), .v (.slice parts.p parts.n parts.c)], [], []) ∧
          I1 l4 (IntKind.wrap .i64 (at_1 + (IntKind.wrap .i64 (Int.tdiv (parts.n : Nat) (members.n : Nat))))) (IntKind.wrap .i64 (i_1 + 1)) H9 ∧
          M1 l4 (IntKind.wrap .i64 (at_1 + (IntKind.wrap .i64 (Int.tdiv (parts.n : Nat) (members.n : Nat))))) (IntKind.wrap .i64 (i_1 + 1)) H9 < M1 out_1 at_1 i_1 H1))
   (
    K (.slice out_1.p out_1.n out_1.c) H1)
theorem logboomref15_Assign_eq (members : Sl) (parts : Sl) (H : Heap) (K : Value → Heap → Prop) : logboomref15_Assign_vc members parts H K = denFn Tryd.prog logboomref15_Assign_ann Tryd.f11 (bodyOf Tryd.f11) [.slice members.p members.n members.c, .slice parts.p parts.n parts.c] H K := by kernel_rfl
theorem logboomref15_Assign_fn (members : Sl) (parts : Sl) {H : Heap} {K : Value → Heap → Prop} (h : logboomref15_Assign_vc members parts H K) : FnH Tryd.prog 11 #[.slice members.p members.n members.c, .slice parts.p parts.n parts.c] H K :=
  denFn_fn Tryd.mixed logboomref15_Assign_ann Tryd.func11 (bodyOf_spec (by kernel_rfl)) (logboomref15_Assign_eq members parts H K) h

/-! function 3: logboom/logboomlaw15.GroupAssigns -/
def logboomlaw15_GroupAssigns_ann : Anns := { hid := [], loops := [(0, { slots := [(8, .slice), (9, .int .i64)], kept := [0, 1, 6, 7], locs := [], keptL := [] })], joins := [], mix := [(12, [])] }
def logboomlaw15_GroupAssigns_vc (members : Sl) (parts : Sl) (H : Heap) (K : Value → Heap → Prop) : Prop :=
  FnH Tryd.prog 9 #[] H fun r1 H1 =>
    ∃ b1 : Bool,
    r1 = .bool b1 ∧
    br (decide (((members.n : Nat) : Int) > 200)) (
      K (.bool b1) H1)
     (
      br (decide (((parts.n : Nat) : Int) > 2000)) (
        K (.bool b1) H1)
       (
        FnH Tryd.prog 10 #[.slice members.p members.n members.c, .slice parts.p parts.n parts.c] H1 fun r2 H2 =>
          ∃ l1 : Sl,
          r2 = .slice l1.p l1.n l1.c ∧
          FnH Tryd.prog 11 #[.slice members.p members.n members.c, .slice parts.p parts.n parts.c] H2 fun r3 H3 =>
            ∃ l2 : Sl,
            r3 = .slice l2.p l2.n l2.c ∧
            br (!b1) (
              K (.bool false) H3)
             (
              br (((l1.n : Nat) : Int) != (l2.n : Nat)) (
                K (.bool false) H3)
               (
                br (((l1.n : Nat) : Int) != (members.n : Nat)) (
                  K (.bool false) H3)
                 (
                  ∃ I1 : Sl → Int → Heap → Prop,
                  ∃ M1 : Sl → Int → Heap → Nat,
                  I1 ⟨none, 0, 0⟩ 0 H3 ∧
                  ∀ all_1 : Sl,
                  ∀ i_1 : Int,
                  ∀ H4 : Heap,
                  I1 all_1 i_1 H4 →
                  br (decide ((i_1 : Int) < (l1.n : Nat))) (
                    ∃ q1 : Nat,
                    ∃ o1 : Nat,
                    (l1.p : Option Addr) = some ⟨q1, o1, none⟩ ∧
                    0 ≤ (i_1 : Int) ∧
                    (i_1 : Int) < (l1.n : Nat) ∧
                    ∃ l3 : Sl,
                    cellH H4 ⟨q1, o1 + Int.toNat i_1, none⟩ = some (.slice l3.p l3.n l3.c) ∧
                    ∃ q2 : Nat,
                    ∃ o2 : Nat,
                    (l2.p : Option Addr) = some ⟨q2, o2, none⟩ ∧
                    0 ≤ (i_1 : Int) ∧
                    (i_1 : Int) < (l2.n : Nat) ∧
                    ∃ l4 : Sl,
                    cellH H4 ⟨q2, o2 + Int.toNat i_1, none⟩ = some (.slice l4.p l4.n l4.c) ∧
                    FnH Tryd.prog 12 #[.slice l3.p l3.n l3.c, .slice l4.p l4.n l4.c] H4 fun r4 H5 =>
                      ∃ b2 : Bool,
                      r4 = .bool b2 ∧
                      Sub H4 H5 ∧
                      br (!b2) (
                        K (.bool false) H5)
                       (
                        ∃ q3 : Nat,
                        ∃ o3 : Nat,
                        (l1.p : Option Addr) = some ⟨q3, o3, none⟩ ∧
                        0 ≤ (i_1 : Int) ∧
                        (i_1 : Int) < (l1.n : Nat) ∧
                        ∃ l5 : Sl,
                        cellH H5 ⟨q3, o3 + Int.toNat i_1, none⟩ = some (.slice l5.p l5.n l5.c) ∧
                        ∃ q4 : Nat,
                        ∃ o4 : Nat,
                        (l1.p : Option Addr) = some ⟨q4, o4, none⟩ ∧
                        0 ≤ (0 : Int) ∧
                        (0 : Int) < (l1.n : Nat) ∧
                        ∃ l6 : Sl,
                        cellH H5 ⟨q4, o4 + Int.toNat 0, none⟩ = some (.slice l6.p l6.n l6.c) ∧
                        br (decide (((l5.n : Nat) : Int) > (l6.n : Nat))) (
                          K (.bool false) H5)
                         (
                          ∃ q5 : Nat,
                          ∃ o5 : Nat,
                          (l1.p : Option Addr) = some ⟨q5, o5, none⟩ ∧
                          0 ≤ (i_1 : Int) ∧
                          (i_1 : Int) < (l1.n : Nat) ∧
                          ∃ l7 : Sl,
                          cellH H5 ⟨q5, o5 + Int.toNat i_1, none⟩ = some (.slice l7.p l7.n l7.c) ∧
                          ∃ q6 : Nat,
                          ∃ o6 : Nat,
                          (l1.p : Option Addr) = some ⟨q6, o6, none⟩ ∧
                          0 ≤ (0 : Int) ∧
                          (0 : Int) < (l1.n : Nat) ∧
                          ∃ l8 : Sl,
                          cellH H5 ⟨q6, o6 + Int.toNat 0, none⟩ = some (.slice l8.p l8.n l8.c) ∧
                          br (decide (((l7.n : Nat) : Int) < (IntKind.wrap .i64 ((l8.n : Nat) - 1)))) (
                            K (.bool false) H5)
                           (
                            ∃ q7 : Nat,
                            ∃ o7 : Nat,
                            (l1.p : Option Addr) = some ⟨q7, o7, none⟩ ∧
                            0 ≤ (i_1 : Int) ∧
                            (i_1 : Int) < (l1.n : Nat) ∧
                            ∃ l9 : Sl,
                            cellH H5 ⟨q7, o7 + Int.toNat i_1, none⟩ = some (.slice l9.p l9.n l9.c) ∧
                            runH Tryd.prog (Builtin.append_ #[22, 22] 22 #[.slice all_1.p all_1.n all_1.c, .slice l9.p l9.n l9.c]) H5 fun r5 H6 =>
                              ∃ l10 : Sl,
                              r5 = .slice l10.p l10.n l10.c ∧
                              SelfEq ([.v (.slice members.p members.n members.c), .v (.slice parts.p parts.n parts.c), .v (.slice l1.p l1.n l1.c), .v (.slice l2.p l2.n l2.c)], [], []) ∧
                              I1 l10 (IntKind.wrap .i64 (i_1 + 1)) H6 ∧
                              M1 l10 (IntKind.wrap .i64 (i_1 + 1)) H6 < M1 all_1 i_1 H4))))
                   (
                    br (((members.n : Nat) : Int) == 0) (
                      K (.bool true) H4)
                     (
                      FnH Tryd.prog 12 #[.slice all_1.p all_1.n all_1.c, .slice parts.p parts.n parts.c] H4 fun r6 H7 =>
                        ∃ b3 : Bool,
                        r6 = .bool b3 ∧
                        K (.bool b3) H7)))))))
theorem logboomlaw15_GroupAssigns_eq (members : Sl) (parts : Sl) (H : Heap) (K : Value → Heap → Prop) : logboomlaw15_GroupAssigns_vc members parts H K = denFn Tryd.prog logboomlaw15_GroupAssigns_ann Tryd.f3 (bodyOf Tryd.f3) [.slice members.p members.n members.c, .slice parts.p parts.n parts.c] H K := by kernel_rfl
theorem logboomlaw15_GroupAssigns_fn (members : Sl) (parts : Sl) {H : Heap} {K : Value → Heap → Prop} (h : logboomlaw15_GroupAssigns_vc members parts H K) : FnH Tryd.prog 3 #[.slice members.p members.n members.c, .slice parts.p parts.n parts.c] H K :=
  denFn_fn Tryd.mixed logboomlaw15_GroupAssigns_ann Tryd.func3 (bodyOf_spec (by kernel_rfl)) (logboomlaw15_GroupAssigns_eq members parts H K) h

/-! function 4: logboom/logboomlaw15.GroupOnce -/
def logboomlaw15_GroupOnce_ann : Anns := { hid := [7, 13], loops := [(0, { slots := [(8, .int .i64), (9, .int .i64), (10, .int .i64)], kept := [0, 1, 6, 7], locs := [], keptL := [0] })], joins := [], mix := [] }
def logboomlaw15_GroupOnce_vc (numbers : Sl) (offsets : Sl) (H : Heap) (K : Value → Heap → Prop) : Prop :=
  FnH Tryd.prog 9 #[] H fun r1 H1 =>
    ∃ b1 : Bool,
    r1 = .bool b1 ∧
    FnH Tryd.prog 13 #[] H1 fun r2 H2 =>
      ∃ p1 : Option Addr,
      r2 = .pointer p1 ∧
      br (!b1) (
        K (.bool false) H2)
       (
        br (Option.isNone p1) (
          K (.bool false) H2)
         (
          ∀ q1 : Nat,
          H2 q1 = none →
          letH (Heap.upd H2 q1 (.cells #[.int .i64 1, .int .i64 2] 3 (0, 0))) fun H3 =>
          FnH Tryd.prog 14 #[.pointer p1, .agg #[.int .i64 1, .int .i64 0, .int .i64 0, .int .i64 0, .int .i64 0, .string (⟨#[103]⟩ : ByteArray), .string (⟨#[]⟩ : ByteArray), .slice (some ⟨q1, 0, none⟩) 2 2]] H3 fun r3 H4 =>
            ∃ n1 : Int,
            ∃ n2 : Int,
            ∃ n3 : Int,
            ∃ n4 : Int,
            ∃ l1 : Sl,
            r3 = .agg #[.int .i64 n1, .int .i64 n2, .int .i64 n3, .int .i64 n4, .slice l1.p l1.n l1.c] ∧
            ∃ I1 : Int → Int → Int → Heap → Prop,
            ∃ M1 : Int → Int → Int → Heap → Nat,
            I1 (-1) (-1) 0 H4 ∧
            ∀ last_1 : Int,
            ∀ is_1 : Int,
            ∀ i_1 : Int,
            ∀ H5 : Heap,
            I1 last_1 is_1 i_1 H5 →
            br (decide ((i_1 : Int) < (numbers.n : Nat))) (
              br (decide ((i_1 : Int) < (offsets.n : Nat))) (
                br (decide ((i_1 : Int) < 60)) (
                  ∃ q2 : Nat,
                  ∃ o1 : Nat,
                  (numbers.p : Option Addr) = some ⟨q2, o1, none⟩ ∧
                  0 ≤ (i_1 : Int) ∧
                  (i_1 : Int) < (numbers.n : Nat) ∧
                  ∃ n5 : Int,
                  cellH H5 ⟨q2, o1 + Int.toNat i_1, none⟩ = some (.int .i64 n5) ∧
                  FnH Tryd.prog 15 #[.int .i64 n5, .int .i64 30] H5 fun r4 H6 =>
                    ∃ n6 : Int,
                    r4 = .int .i64 n6 ∧
                    ∃ q3 : Nat,
                    ∃ o2 : Nat,
                    (offsets.p : Option Addr) = some ⟨q3, o2, none⟩ ∧
                    0 ≤ (i_1 : Int) ∧
                    (i_1 : Int) < (offsets.n : Nat) ∧
                    ∃ n7 : Int,
                    cellH H6 ⟨q3, o2 + Int.toNat i_1, none⟩ = some (.int .i64 n7) ∧
                    FnH Tryd.prog 15 #[.int .i64 n7, .int .i64 1000] H6 fun r5 H7 =>
                      ∃ n8 : Int,
                      r5 = .int .i64 n8 ∧
                      ∀ q4 : Nat,
                      H7 q4 = none →
                      letH (Heap.upd H7 q4 (.cells #[.int .i64 n6] 3 (0, 0))) fun H8 =>
                      FnH Tryd.prog 14 #[.pointer p1, .agg #[.int .i64 3, .int .i64 n2, .int .i64 n3, .int .i64 1, .int .i64 n8, .string (⟨#[103]⟩ : ByteArray), .string (⟨#[]⟩ : ByteArray), .slice (some ⟨q4, 0, none⟩) 1 1]] H8 fun r6 H9 =>
                        ∃ n9 : Int,
                        ∃ n10 : Int,
                        ∃ n11 : Int,
                        ∃ n12 : Int,
                        ∃ l2 : Sl,
                        r6 = .agg #[.int .i64 n9, .int .i64 n10, .int .i64 n11, .int .i64 n12, .slice l2.p l2.n l2.c] ∧
                        br (decide ((n6 : Int) > last_1)) (
                          br ((n9 : Int) != 0) (
                            K (.bool false) H9)
                           (
                            FnH Tryd.prog 16 #[.pointer p1, .string (⟨#[103]⟩ : ByteArray), .int .i64 1] H9 fun r7 H10 =>
                              ∃ n13 : Int,
                              r7 = .int .i64 n13 ∧
                              br ((n13 : Int) != n8) (
                                K (.bool false) H10)
                               (
                                SelfEq ([.v (.slice numbers.p numbers.n numbers.c), .v (.slice offsets.p offsets.n offsets.c), .v (.pointer p1), .loc 0 0], [some (31, [.int .i64 n1, .int .i64 n2, .int .i64 n3, .int .i64 n4, .slice l1.p l1.n l1.c])], []) ∧
                                I1 n6 n8 (IntKind.wrap .i64 (i_1 + 1)) H10 ∧
                                M1 n6 n8 (IntKind.wrap .i64 (i_1 + 1)) H10 < M1 last_1 is_1 i_1 H5)))
                         (
                          br ((n9 : Int) != 12) (
                            K (.bool false) H9)
                           (
                            FnH Tryd.prog 16 #[.pointer p1, .string (⟨#[103]⟩ : ByteArray), .int .i64 1] H9 fun r8 H11 =>
                              ∃ n14 : Int,
                              r8 = .int .i64 n14 ∧
                              br ((n14 : Int) != is_1) (
                                K (.bool false) H11)
                               (
                                SelfEq ([.v (.slice numbers.p numbers.n numbers.c), .v (.slice offsets.p offsets.n offsets.c), .v (.pointer p1), .loc 0 0], [some (31, [.int .i64 n1, .int .i64 n2, .int .i64 n3, .int .i64 n4, .slice l1.p l1.n l1.c])], []) ∧
                                I1 last_1 is_1 (IntKind.wrap .i64 (i_1 + 1)) H11 ∧
                                M1 last_1 is_1 (IntKind.wrap .i64 (i_1 + 1)) H11 < M1 last_1 is_1 i_1 H5))))
                 (
                  K (.bool true) H5))
               (
                K (.bool true) H5))
             (
              K (.bool true) H5)))
theorem logboomlaw15_GroupOnce_eq (numbers : Sl) (offsets : Sl) (H : Heap) (K : Value → Heap → Prop) : logboomlaw15_GroupOnce_vc numbers offsets H K = denFn Tryd.prog logboomlaw15_GroupOnce_ann Tryd.f4 (bodyOf Tryd.f4) [.slice numbers.p numbers.n numbers.c, .slice offsets.p offsets.n offsets.c] H K := by kernel_rfl
theorem logboomlaw15_GroupOnce_fn (numbers : Sl) (offsets : Sl) {H : Heap} {K : Value → Heap → Prop} (h : logboomlaw15_GroupOnce_vc numbers offsets H K) : FnH Tryd.prog 4 #[.slice numbers.p numbers.n numbers.c, .slice offsets.p offsets.n offsets.c] H K :=
  denFn_fn Tryd.mixed logboomlaw15_GroupOnce_ann Tryd.func4 (bodyOf_spec (by kernel_rfl)) (logboomlaw15_GroupOnce_eq numbers offsets H K) h

/-! function 5: logboom/logboomlaw15.GroupApart -/
def logboomlaw15_GroupApart_ann : Anns := { hid := [5, 6], loops := [(0, { slots := [(7, .int .i64)], kept := [0, 4, 5], locs := [], keptL := [0, 1] })], joins := [], mix := [(14, []), (15, [])] }
def logboomlaw15_GroupApart_vc (script : Sl) (H : Heap) (K : Value → Heap → Prop) : Prop :=
  FnH Tryd.prog 9 #[] H fun r1 H1 =>
    ∃ b1 : Bool,
    r1 = .bool b1 ∧
    FnH Tryd.prog 13 #[] H1 fun r2 H2 =>
      ∃ p1 : Option Addr,
      r2 = .pointer p1 ∧
      br (!b1) (
        K (.bool false) H2)
       (
        br (Option.isNone p1) (
          K (.bool false) H2)
         (
          ∀ q1 : Nat,
          H2 q1 = none →
          letH (Heap.upd H2 q1 (.cells #[.int .i64 1, .int .i64 2] 3 (0, 0))) fun H3 =>
          FnH Tryd.prog 14 #[.pointer p1, .agg #[.int .i64 1, .int .i64 0, .int .i64 0, .int .i64 0, .int .i64 0, .string (⟨#[109, 105, 110, 101]⟩ : ByteArray), .string (⟨#[]⟩ : ByteArray), .slice (some ⟨q1, 0, none⟩) 2 2]] H3 fun r3 H4 =>
            ∃ n1 : Int,
            ∃ n2 : Int,
            ∃ n3 : Int,
            ∃ n4 : Int,
            ∃ l1 : Sl,
            r3 = .agg #[.int .i64 n1, .int .i64 n2, .int .i64 n3, .int .i64 n4, .slice l1.p l1.n l1.c] ∧
            ∀ q2 : Nat,
            H4 q2 = none →
            letH (Heap.upd H4 q2 (.cells #[.int .i64 0] 3 (0, 0))) fun H5 =>
            FnH Tryd.prog 14 #[.pointer p1, .agg #[.int .i64 3, .int .i64 n2, .int .i64 n3, .int .i64 2, .int .i64 5, .string (⟨#[109, 105, 110, 101]⟩ : ByteArray), .string (⟨#[]⟩ : ByteArray), .slice (some ⟨q2, 0, none⟩) 1 1]] H5 fun r4 H6 =>
              ∃ n5 : Int,
              ∃ n6 : Int,
              ∃ n7 : Int,
              ∃ n8 : Int,
              ∃ l2 : Sl,
              r4 = .agg #[.int .i64 n5, .int .i64 n6, .int .i64 n7, .int .i64 n8, .slice l2.p l2.n l2.c] ∧
              br ((n1 : Int) != 0) (
                K (.bool false) H6)
               (
                br ((n5 : Int) != 0) (
                  K (.bool false) H6)
                 (
                  ∃ I1 : Int → Heap → Prop,
                  ∃ M1 : Int → Heap → Nat,
                  I1 0 H6 ∧
                  ∀ i_1 : Int,
                  ∀ H7 : Heap,
                  I1 i_1 H7 →
                  br (decide ((i_1 : Int) < (script.n : Nat))) (
                    br (decide ((i_1 : Int) < 100)) (
                      ∃ q3 : Nat,
                      ∃ o1 : Nat,
                      (script.p : Option Addr) = some ⟨q3, o1, none⟩ ∧
                      0 ≤ (i_1 : Int) ∧
                      (i_1 : Int) < (script.n : Nat) ∧
                      ∃ s1 : ByteArray,
                      cellH H7 ⟨q3, o1 + Int.toNat i_1 * 8 + 5, none⟩ = some (.string s1) ∧
                      br (s1.toList == (⟨#[109, 105, 110, 101]⟩ : ByteArray).toList) (
                        SelfEq ([.v (.slice script.p script.n script.c), .v (.pointer p1), .loc 0 0], [some (31, [.int .i64 n1, .int .i64 n2, .int .i64 n3, .int .i64 n4, .slice l1.p l1.n l1.c]), some (31, [.int .i64 n5, .int .i64 n6, .int .i64 n7, .int .i64 n8, .slice l2.p l2.n l2.c])], []) ∧
                        I1 (IntKind.wrap .i64 (i_1 + 1)) H7 ∧
                        M1 (IntKind.wrap .i64 (i_1 + 1)) H7 < M1 i_1 H7)
                       (
                        ∃ q4 : Nat,
                        ∃ o2 : Nat,
                        (script.p : Option Addr) = some ⟨q4, o2, none⟩ ∧
                        0 ≤ (i_1 : Int) ∧
                        (i_1 : Int) < (script.n : Nat) ∧
                        ∃ l3 : Sl,
                        cellH H7 ⟨q4, o2 + Int.toNat i_1 * 8 + 7, none⟩ = some (.slice l3.p l3.n l3.c) ∧
                        br (decide (((l3.n : Nat) : Int) > 40)) (
                          SelfEq ([.v (.slice script.p script.n script.c), .v (.pointer p1), .loc 0 0], [some (31, [.int .i64 n1, .int .i64 n2, .int .i64 n3, .int .i64 n4, .slice l1.p l1.n l1.c]), some (31, [.int .i64 n5, .int .i64 n6, .int .i64 n7, .int .i64 n8, .slice l2.p l2.n l2.c])], []) ∧
                          I1 (IntKind.wrap .i64 (i_1 + 1)) H7 ∧
                          M1 (IntKind.wrap .i64 (i_1 + 1)) H7 < M1 i_1 H7)
                         (
                          ∃ q5 : Nat,
                          ∃ o3 : Nat,
                          (script.p : Option Addr) = some ⟨q5, o3, none⟩ ∧
                          0 ≤ (i_1 : Int) ∧
                          (i_1 : Int) < (script.n : Nat) ∧
                          ∃ n9 : Int,
                          cellH H7 ⟨q5, o3 + Int.toNat i_1 * 8, none⟩ = some (.int .i64 n9) ∧
                          ∃ n10 : Int,
                          cellH H7 ⟨q5, o3 + Int.toNat i_1 * 8 + 1, none⟩ = some (.int .i64 n10) ∧
                          ∃ n11 : Int,
                          cellH H7 ⟨q5, o3 + Int.toNat i_1 * 8 + 2, none⟩ = some (.int .i64 n11) ∧
                          ∃ n12 : Int,
                          cellH H7 ⟨q5, o3 + Int.toNat i_1 * 8 + 3, none⟩ = some (.int .i64 n12) ∧
                          ∃ n13 : Int,
                          cellH H7 ⟨q5, o3 + Int.toNat i_1 * 8 + 4, none⟩ = some (.int .i64 n13) ∧
                          ∃ s2 : ByteArray,
                          cellH H7 ⟨q5, o3 + Int.toNat i_1 * 8 + 5, none⟩ = some (.string s2) ∧
                          ∃ s3 : ByteArray,
                          cellH H7 ⟨q5, o3 + Int.toNat i_1 * 8 + 6, none⟩ = some (.string s3) ∧
                          ∃ l4 : Sl,
                          cellH H7 ⟨q5, o3 + Int.toNat i_1 * 8 + 7, none⟩ = some (.slice l4.p l4.n l4.c) ∧
                          FnH Tryd.prog 14 #[.pointer p1, .agg #[.int .i64 n9, .int .i64 n10, .int .i64 n11, .int .i64 n12, .int .i64 n13, .string s2, .string s3, .slice l4.p l4.n l4.c]] H7 fun r5 H8 =>
                            ∃ n14 : Int,
                            ∃ n15 : Int,
                            ∃ n16 : Int,
                            ∃ n17 : Int,
                            ∃ l5 : Sl,
                            r5 = .agg #[.int .i64 n14, .int .i64 n15, .int .i64 n16, .int .i64 n17, .slice l5.p l5.n l5.c] ∧
                            (FnH Tryd.prog 17 #[.pointer p1, .string (⟨#[109, 105, 110, 101]⟩ : ByteArray)] H8 fun r6 H9 =>
                              ∃ l6 : Sl,
                              r6 = .slice l6.p l6.n l6.c ∧
                              Sub H8 H9 ∧
                              ∀ q6 : Nat,
                              H9 q6 = none →
                              letH (Heap.upd H9 q6 (.cells #[.int .i64 n2] 3 (0, 0))) fun H10 =>
                              Sub H8 H10 ∧
                              FnH Tryd.prog 12 #[.slice l6.p l6.n l6.c, .slice (some ⟨q6, 0, none⟩) 1 1] H10 fun r7 H11 =>
                                ∃ b2 : Bool,
                                r7 = .bool b2 ∧
                                Sub H8 H11 ∧
                                br (!b2) (
                                  K (.bool false) H11)
                                 (
                                  FnH Tryd.prog 18 #[.pointer p1, .string (⟨#[109, 105, 110, 101]⟩ : ByteArray)] H11 fun r8 H12 =>
                                    ∃ n18 : Int,
                                    r8 = .int .i64 n18 ∧
                                    Sub H11 H12 ∧
                                    br ((n18 : Int) != n3) (
                                      K (.bool false) H12)
                                     (
                                      FnH Tryd.prog 16 #[.pointer p1, .string (⟨#[109, 105, 110, 101]⟩ : ByteArray), .int .i64 2] H12 fun r9 H13 =>
                                        ∃ n19 : Int,
                                        r9 = .int .i64 n19 ∧
                                        Sub H11 H13 ∧
                                        br ((n19 : Int) != 5) (
                                          K (.bool false) H13)
                                         (
                                          FnH Tryd.prog 19 #[.pointer p1, .string (⟨#[109, 105, 110, 101]⟩ : ByteArray), .int .i64 1] H13 fun r10 H14 =>
                                            ∃ n20 : Int,
                                            r10 = .int .i64 n20 ∧
                                            Sub H11 H14 ∧
                                            br ((n20 : Int) != n2) (
                                              K (.bool false) H14)
                                             (
                                              SelfEq ([.v (.slice script.p script.n script.c), .v (.pointer p1), .loc 0 0], [some (31, [.int .i64 n1, .int .i64 n2, .int .i64 n3, .int .i64 n4, .slice l1.p l1.n l1.c]), some (31, [.int .i64 n5, .int .i64 n6, .int .i64 n7, .int .i64 n8, .slice l2.p l2.n l2.c])], []) ∧
                                              I1 (IntKind.wrap .i64 (i_1 + 1)) H14 ∧
                                              M1 (IntKind.wrap .i64 (i_1 + 1)) H14 < M1 i_1 H7))))) ∧
                            ∀ q7 : Nat,
                            H8 q7 = none →
                            letH (Heap.upd H8 q7 (.cells #[.int .i64 n2] 3 (0, 0))) fun H15 =>
                            Sub H8 H15 ∧
                            FnH Tryd.prog 17 #[.pointer p1, .string (⟨#[109, 105, 110, 101]⟩ : ByteArray)] H15 fun r11 H16 =>
                              ∃ l7 : Sl,
                              r11 = .slice l7.p l7.n l7.c ∧
                              Sub H8 H16 ∧
                              FnH Tryd.prog 12 #[.slice l7.p l7.n l7.c, .slice (some ⟨q7, 0, none⟩) 1 1] H16 fun r12 H17 =>
                                ∃ b3 : Bool,
                                r12 = .bool b3 ∧
                                Sub H8 H17 ∧
                                br (!b3) (
                                  K (.bool false) H17)
                                 (
                                  FnH Tryd.prog 18 #[.pointer p1, .string (⟨#[109, 105, 110, 101]⟩ : ByteArray)] H17 fun r13 H18 =>
                                    ∃ n21 : Int,
                                    r13 = .int .i64 n21 ∧
                                    Sub H17 H18 ∧
                                    br ((n21 : Int) != n3) (
                                      K (.bool false) H18)
                                     (
                                      FnH Tryd.prog 16 #[.pointer p1, .string (⟨#[109, 105, 110, 101]⟩ : ByteArray), .int .i64 2] H18 fun r14 H19 =>
                                        ∃ n22 : Int,
                                        r14 = .int .i64 n22 ∧
                                        Sub H17 H19 ∧
                                        br ((n22 : Int) != 5) (
                                          K (.bool false) H19)
                                         (
                                          FnH Tryd.prog 19 #[.pointer p1, .string (⟨#[109, 105, 110, 101]⟩ : ByteArray), .int .i64 1] H19 fun r15 H20 =>
                                            ∃ n23 : Int,
                                            r15 = .int .i64 n23 ∧
                                            Sub H17 H20 ∧
                                            br ((n23 : Int) != n2) (
                                              K (.bool false) H20)
                                             (
                                              SelfEq ([.v (.slice script.p script.n script.c), .v (.pointer p1), .loc 0 0], [some (31, [.int .i64 n1, .int .i64 n2, .int .i64 n3, .int .i64 n4, .slice l1.p l1.n l1.c]), some (31, [.int .i64 n5, .int .i64 n6, .int .i64 n7, .int .i64 n8, .slice l2.p l2.n l2.c])], []) ∧
                                              I1 (IntKind.wrap .i64 (i_1 + 1)) H20 ∧
                                              M1 (IntKind.wrap .i64 (i_1 + 1)) H20 < M1 i_1 H7)))))))
                     (
                      K (.bool true) H7))
                   (
                    K (.bool true) H7)))))
theorem logboomlaw15_GroupApart_eq (script : Sl) (H : Heap) (K : Value → Heap → Prop) : logboomlaw15_GroupApart_vc script H K = denFn Tryd.prog logboomlaw15_GroupApart_ann Tryd.f5 (bodyOf Tryd.f5) [.slice script.p script.n script.c] H K := by kernel_rfl
theorem logboomlaw15_GroupApart_fn (script : Sl) {H : Heap} {K : Value → Heap → Prop} (h : logboomlaw15_GroupApart_vc script H K) : FnH Tryd.prog 5 #[.slice script.p script.n script.c] H K :=
  denFn_fn Tryd.mixed logboomlaw15_GroupApart_ann Tryd.func5 (bodyOf_spec (by kernel_rfl)) (logboomlaw15_GroupApart_eq script H K) h

end Go.Proofs.YtcbobncipnjbjaaDoor
