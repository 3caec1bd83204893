/- Formulas of functions, printed by this session's vc.py; each is tied to the program by the kernel. -/
import Derived.Test.YtcbobncipnjbjaaDoorProg
import Derived.KernelRfl
import Derived.Test.YtcbobncipnjbjaaDoorHlFn
import Derived.Test.YtcbobncipnjbjaaDoorV7
namespace Go.Proofs.YtcbobncipnjbjaaDoor
open Go.HL
set_option maxRecDepth 100000
/-! function 8: logboom/logboomlaw15.GroupPlays -/
def logboomlaw15_GroupPlays_ann : Anns := { hid := [], loops := [(0, { slots := [(8, .int .i64)], kept := [0, 1, 6, 7], locs := [], keptL := [] })], joins := [], mix := [(10, [5, 11])] }
def logboomlaw15_GroupPlays_vc (script : Sl) (part : Int) (H : Heap) (K : Value → Heap → Prop) : Prop :=
  FnH Tryd.prog 9 #[] H fun r1 H1 =>
    ∃ b1 : Bool,
    r1 = .bool b1 ∧
    FnH Tryd.prog 13 #[] H1 fun r2 H2 =>
      ∃ p1 : Option Addr,
      r2 = .pointer p1 ∧
      ∀ q1 : Nat,
      H2 q1 = none →
      letH (Heap.upd H2 q1 (.cells #[.slice none 0 0, .int .i64 0] 46 (0, 0))) fun H3 =>
      br (!b1) (
        K (.bool false) H3)
       (
        br (Option.isNone p1) (
          K (.bool false) H3)
         (
          ∃ I1 : Int → Heap → Prop,
          ∃ M1 : Int → Heap → Nat,
          I1 0 H3 ∧
          ∀ i_1 : Int,
          ∀ H4 : Heap,
          I1 i_1 H4 →
          br (decide ((i_1 : Int) < (script.n : Nat))) (
            br (decide ((i_1 : Int) < 200)) (
              ∃ q2 : Nat,
              ∃ o1 : Nat,
              (script.p : Option Addr) = some ⟨q2, o1, none⟩ ∧
              0 ≤ (i_1 : Int) ∧
              (i_1 : Int) < (script.n : Nat) ∧
              ∃ l1 : Sl,
              cellH H4 ⟨q2, o1 + Int.toNat i_1 * 8 + 7, none⟩ = some (.slice l1.p l1.n l1.c) ∧
              br (decide (((l1.n : Nat) : Int) > 40)) (
                SelfEq ([.v (.slice script.p script.n script.c), .v (.int .i64 part), .v (.pointer p1), .v (.pointer (some ⟨q1, 0, none⟩))], [], []) ∧
                I1 (IntKind.wrap .i64 (i_1 + 1)) H4 ∧
                M1 (IntKind.wrap .i64 (i_1 + 1)) H4 < M1 i_1 H4)
               (
                ∃ q3 : Nat,
                ∃ o2 : Nat,
                (script.p : Option Addr) = some ⟨q3, o2, none⟩ ∧
                0 ≤ (i_1 : Int) ∧
                (i_1 : Int) < (script.n : Nat) ∧
                ∃ s1 : ByteArray,
                cellH H4 ⟨q3, o2 + Int.toNat i_1 * 8 + 5, none⟩ = some (.string s1) ∧
                br (decide (((s1.size : Nat) : Int) > 100)) (
                  SelfEq ([.v (.slice script.p script.n script.c), .v (.int .i64 part), .v (.pointer p1), .v (.pointer (some ⟨q1, 0, none⟩))], [], []) ∧
                  I1 (IntKind.wrap .i64 (i_1 + 1)) H4 ∧
                  M1 (IntKind.wrap .i64 (i_1 + 1)) H4 < M1 i_1 H4)
                 (
                  ∃ q4 : Nat,
                  ∃ o3 : Nat,
                  (script.p : Option Addr) = some ⟨q4, o3, none⟩ ∧
                  0 ≤ (i_1 : Int) ∧
                  (i_1 : Int) < (script.n : Nat) ∧
                  ∃ n1 : Int,
                  cellH H4 ⟨q4, o3 + Int.toNat i_1 * 8, none⟩ = some (.int .i64 n1) ∧
                  ∃ n2 : Int,
                  cellH H4 ⟨q4, o3 + Int.toNat i_1 * 8 + 1, none⟩ = some (.int .i64 n2) ∧
                  ∃ n3 : Int,
                  cellH H4 ⟨q4, o3 + Int.toNat i_1 * 8 + 2, none⟩ = some (.int .i64 n3) ∧
                  ∃ n4 : Int,
                  cellH H4 ⟨q4, o3 + Int.toNat i_1 * 8 + 3, none⟩ = some (.int .i64 n4) ∧
                  ∃ n5 : Int,
                  cellH H4 ⟨q4, o3 + Int.toNat i_1 * 8 + 4, none⟩ = some (.int .i64 n5) ∧
                  ∃ s2 : ByteArray,
                  cellH H4 ⟨q4, o3 + Int.toNat i_1 * 8 + 5, none⟩ = some (.string s2) ∧
                  ∃ s3 : ByteArray,
                  cellH H4 ⟨q4, o3 + Int.toNat i_1 * 8 + 6, none⟩ = some (.string s3) ∧
                  ∃ l2 : Sl,
                  cellH H4 ⟨q4, o3 + Int.toNat i_1 * 8 + 7, none⟩ = some (.slice l2.p l2.n l2.c) ∧
                  ∃ q5 : Nat,
                  ∃ o4 : Nat,
                  (script.p : Option Addr) = some ⟨q5, o4, none⟩ ∧
                  0 ≤ (i_1 : Int) ∧
                  (i_1 : Int) < (script.n : Nat) ∧
                  (FnH Tryd.prog 14 #[.pointer p1, .agg #[.int .i64 n1, .int .i64 n2, .int .i64 n3, .int .i64 n4, .int .i64 n5, .string s2, .string s3, .slice l2.p l2.n l2.c]] H4 fun r3 H5 =>
                    ∃ n6 : Int,
                    ∃ n7 : Int,
                    ∃ n8 : Int,
                    ∃ n9 : Int,
                    ∃ l3 : Sl,
                    r3 = .agg #[.int .i64 n6, .int .i64 n7, .int .i64 n8, .int .i64 n9, .slice l3.p l3.n l3.c] ∧
                    ∃ n10 : Int,
                    cellH H5 ⟨q5, o4 + Int.toNat i_1 * 8, none⟩ = some (.int .i64 n10) ∧
                    ∃ n11 : Int,
                    cellH H5 ⟨q5, o4 + Int.toNat i_1 * 8 + 1, none⟩ = some (.int .i64 n11) ∧
                    ∃ n12 : Int,
                    cellH H5 ⟨q5, o4 + Int.toNat i_1 * 8 + 2, none⟩ = some (.int .i64 n12) ∧
                    ∃ n13 : Int,
                    cellH H5 ⟨q5, o4 + Int.toNat i_1 * 8 + 3, none⟩ = some (.int .i64 n13) ∧
                    ∃ n14 : Int,
                    cellH H5 ⟨q5, o4 + Int.toNat i_1 * 8 + 4, none⟩ = some (.int .i64 n14) ∧
                    ∃ s4 : ByteArray,
                    cellH H5 ⟨q5, o4 + Int.toNat i_1 * 8 + 5, none⟩ = some (.string s4) ∧
                    ∃ s5 : ByteArray,
                    cellH H5 ⟨q5, o4 + Int.toNat i_1 * 8 + 6, none⟩ = some (.string s5) ∧
                    ∃ l4 : Sl,
                    cellH H5 ⟨q5, o4 + Int.toNat i_1 * 8 + 7, none⟩ = some (.slice l4.p l4.n l4.c) ∧
                    FnH Tryd.prog 22 #[.pointer (some ⟨q1, 0, none⟩), .agg #[.int .i64 n10, .int .i64 n11, .int .i64 n12, .int .i64 n13, .int .i64 n14, .string s4, .string s5, .slice l4.p l4.n l4.c]] H5 fun r4 H6 =>
                      ∃ n15 : Int,
                      ∃ n16 : Int,
                      ∃ n17 : Int,
                      ∃ n18 : Int,
                      ∃ l5 : Sl,
                      r4 = .agg #[.int .i64 n15, .int .i64 n16, .int .i64 n17, .int .i64 n18, .slice l5.p l5.n l5.c] ∧
                      FnH Tryd.prog 21 #[.agg #[.int .i64 n6, .int .i64 n7, .int .i64 n8, .int .i64 n9, .slice l3.p l3.n l3.c], .agg #[.int .i64 n15, .int .i64 n16, .int .i64 n17, .int .i64 n18, .slice l5.p l5.n l5.c]] H6 fun r5 H7 =>
                        ∃ b2 : Bool,
                        r5 = .bool b2 ∧
                        FnH Tryd.prog 23 #[.pointer p1, .pointer (some ⟨q1, 0, none⟩), .int .i64 part] H7 fun r6 H8 =>
                          ∃ b3 : Bool,
                          r6 = .bool b3 ∧
                          br (!b2) (
                            K (.bool false) H8)
                           (
                            br (!b3) (
                              K (.bool false) H8)
                             (
                              SelfEq ([.v (.slice script.p script.n script.c), .v (.int .i64 part), .v (.pointer p1), .v (.pointer (some ⟨q1, 0, none⟩))], [], []) ∧
                              I1 (IntKind.wrap .i64 (i_1 + 1)) H8 ∧
                              M1 (IntKind.wrap .i64 (i_1 + 1)) H8 < M1 i_1 H4))) ∧
                  ∃ n19 : Int,
                  cellH H4 ⟨q5, o4 + Int.toNat i_1 * 8, none⟩ = some (.int .i64 n19) ∧
                  ∃ n20 : Int,
                  cellH H4 ⟨q5, o4 + Int.toNat i_1 * 8 + 1, none⟩ = some (.int .i64 n20) ∧
                  ∃ n21 : Int,
                  cellH H4 ⟨q5, o4 + Int.toNat i_1 * 8 + 2, none⟩ = some (.int .i64 n21) ∧
                  ∃ n22 : Int,
                  cellH H4 ⟨q5, o4 + Int.toNat i_1 * 8 + 3, none⟩ = some (.int .i64 n22) ∧
                  ∃ n23 : Int,
                  cellH H4 ⟨q5, o4 + Int.toNat i_1 * 8 + 4, none⟩ = some (.int .i64 n23) ∧
                  ∃ s6 : ByteArray,
                  cellH H4 ⟨q5, o4 + Int.toNat i_1 * 8 + 5, none⟩ = some (.string s6) ∧
                  ∃ s7 : ByteArray,
                  cellH H4 ⟨q5, o4 + Int.toNat i_1 * 8 + 6, none⟩ = some (.string s7) ∧
                  ∃ l6 : Sl,
                  cellH H4 ⟨q5, o4 + Int.toNat i_1 * 8 + 7, none⟩ = some (.slice l6.p l6.n l6.c) ∧
                  Sub H4 H4 ∧
                  FnH Tryd.prog 14 #[.pointer p1, .agg #[.int .i64 n1, .int .i64 n2, .int .i64 n3, .int .i64 n4, .int .i64 n5, .string s2, .string s3, .slice l2.p l2.n l2.c]] H4 fun r7 H9 =>
                    ∃ n24 : Int,
                    ∃ n25 : Int,
                    ∃ n26 : Int,
                    ∃ n27 : Int,
                    ∃ l7 : Sl,
                    r7 = .agg #[.int .i64 n24, .int .i64 n25, .int .i64 n26, .int .i64 n27, .slice l7.p l7.n l7.c] ∧
                    FnH Tryd.prog 22 #[.pointer (some ⟨q1, 0, none⟩), .agg #[.int .i64 n19, .int .i64 n20, .int .i64 n21, .int .i64 n22, .int .i64 n23, .string s6, .string s7, .slice l6.p l6.n l6.c]] H9 fun r8 H10 =>
                      ∃ n28 : Int,
                      ∃ n29 : Int,
                      ∃ n30 : Int,
                      ∃ n31 : Int,
                      ∃ l8 : Sl,
                      r8 = .agg #[.int .i64 n28, .int .i64 n29, .int .i64 n30, .int .i64 n31, .slice l8.p l8.n l8.c] ∧
                      FnH Tryd.prog 21 #[.agg #[.int .i64 n24, .int .i64 n25, .int .i64 n26, .int .i64 n27, .slice l7.p l7.n l7.c], .agg #[.int .i64 n28, .int .i64 n29, .int .i64 n30, .int .i64 n31, .slice l8.p l8.n l8.c]] H10 fun r9 H11 =>
                        ∃ b4 : Bool,
                        r9 = .bool b4 ∧
                        FnH Tryd.prog 23 #[.pointer p1, .pointer (some ⟨q1, 0, none⟩), .int .i64 part] H11 fun r10 H12 =>
                          ∃ b5 : Bool,
                          r10 = .bool b5 ∧
                          br (!b4) (
                            K (.bool false) H12)
                           (
                            br (!b5) (
                              K (.bool false) H12)
                             (
                              SelfEq ([.v (.slice script.p script.n script.c), .v (.int .i64 part), .v (.pointer p1), .v (.pointer (some ⟨q1, 0, none⟩))], [], []) ∧
                              I1 (IntKind.wrap .i64 (i_1 + 1)) H12 ∧
                              M1 (IntKind.wrap .i64 (i_1 + 1)) H12 < M1 i_1 H4)))))
             (
              K (.bool true) H4))
           (
            K (.bool true) H4)))
theorem logboomlaw15_GroupPlays_eq (script : Sl) (part : Int) (H : Heap) (K : Value → Heap → Prop) : logboomlaw15_GroupPlays_vc script part H K = denFn Tryd.prog logboomlaw15_GroupPlays_ann Tryd.f8 (bodyOf Tryd.f8) [.slice script.p script.n script.c, .int .i64 part] H K := by kernel_rfl
theorem logboomlaw15_GroupPlays_fn (script : Sl) (part : Int) {H : Heap} {K : Value → Heap → Prop} (h : logboomlaw15_GroupPlays_vc script part H K) : FnH Tryd.prog 8 #[.slice script.p script.n script.c, .int .i64 part] H K :=
  denFn_fn Tryd.mixed logboomlaw15_GroupPlays_ann Tryd.func8 (bodyOf_spec (by kernel_rfl)) (logboomlaw15_GroupPlays_eq script part H K) h

end Go.Proofs.YtcbobncipnjbjaaDoor
