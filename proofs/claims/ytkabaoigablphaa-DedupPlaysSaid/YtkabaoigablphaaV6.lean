/- Formulas of functions, printed by this session's vc.py; each is tied to the program by the kernel. -/
import Derived.Test.YtkabaoigablphaaProg
import Derived.KernelRfl
import Derived.Test.YtkabaoigablphaaHlFn
import Derived.Test.YtkabaoigablphaaV5
namespace Go.Proofs.Ytkabaoigablphaa
open Go.HL
set_option maxRecDepth 100000
/-! function 17: logboom/logboomref3.Four -/
def logboomref3_Four_ann : Anns := { hid := [], loops := [], joins := [], mix := [] }
def logboomref3_Four_vc (n : Int) (H : Heap) (K : Value → Heap → Prop) : Prop :=
  (16777216 : Int) ≠ 0 ∧
  (65536 : Int) ≠ 0 ∧
  (256 : Int) ≠ 0 ∧
  (256 : Int) ≠ 0 ∧
  (256 : Int) ≠ 0 ∧
  (256 : Int) ≠ 0 ∧
  ∀ q1 : Nat,
  H q1 = none →
  letH (Heap.upd H q1 (.cells #[.int .u8 (IntKind.wrap .u8 (IntKind.wrap .i64 (Int.tdiv n 16777216))), .int .u8 (IntKind.wrap .u8 (Int.tmod (IntKind.wrap .i64 (Int.tdiv n 65536)) 256)), .int .u8 (IntKind.wrap .u8 (Int.tmod (IntKind.wrap .i64 (Int.tdiv n 256)) 256)), .int .u8 (IntKind.wrap .u8 (Int.tmod n 256))] 5 (0, 0))) fun H1 =>
  runH Try.prog (convert 68 9 (.slice (some ⟨q1, 0, none⟩) 4 4)) H1 fun r1 H2 =>
    ∃ s1 : ByteArray,
    r1 = .string s1 ∧
    K (.string s1) H2
theorem logboomref3_Four_eq (n : Int) (H : Heap) (K : Value → Heap → Prop) : logboomref3_Four_vc n H K = denFn Try.prog logboomref3_Four_ann Try.f17 (bodyOf Try.f17) [.int .i64 n] H K := by kernel_rfl
theorem logboomref3_Four_fn (n : Int) {H : Heap} {K : Value → Heap → Prop} (h : logboomref3_Four_vc n H K) : FnH Try.prog 17 #[.int .i64 n] H K :=
  denFn_fn Try.mixed logboomref3_Four_ann Try.func17 (bodyOf_spec (by kernel_rfl)) (logboomref3_Four_eq n H K) h

/-! function 18: logboom/logboomref3.Crc -/
def logboomref3_Crc_ann : Anns := { hid := [], loops := [(0, { slots := [(3, .int .u32), (4, .int .i64)], kept := [0], locs := [], keptL := [] }), (2, { slots := [(3, .int .u32), (5, .int .i64)], kept := [0, 4], locs := [], keptL := [] })], joins := [], mix := [] }
def logboomref3_Crc_vc (b : ByteArray) (H : Heap) (K : Value → Heap → Prop) : Prop :=
  ∃ I1 : Int → Int → Heap → Prop,
  ∃ M1 : Int → Int → Heap → Nat,
  I1 4294967295 0 H ∧
  ∀ c_1 : Int,
  ∀ i_1 : Int,
  ∀ H1 : Heap,
  I1 c_1 i_1 H1 →
  br (decide ((i_1 : Int) < (b.size : Nat))) (
    0 ≤ (i_1 : Int) ∧
    ∃ c1 : UInt8,
    b[Int.toNat i_1]? = some c1 ∧
    ∃ I2 : Int → Int → Heap → Prop,
    ∃ M2 : Int → Int → Heap → Nat,
    I2 (xorI .u32 c_1 (IntKind.wrap .u32 (c1.toNat : Int))) 0 H1 ∧
    ∀ c_2 : Int,
    ∀ k_1 : Int,
    ∀ H2 : Heap,
    I2 c_2 k_1 H2 →
    br (decide ((k_1 : Int) < 8)) (
      (2 : Int) ≠ 0 ∧
      (2 : Int) ≠ 0 ∧
      br (((Int.tmod c_2 2) : Int) == 1) (
        SelfEq ([.v (.string b), .v (.int .i64 i_1)], [], []) ∧
        I2 (xorI .u32 (IntKind.wrap .u32 (Int.tdiv c_2 2)) 2197175160) (IntKind.wrap .i64 (k_1 + 1)) H2 ∧
        M2 (xorI .u32 (IntKind.wrap .u32 (Int.tdiv c_2 2)) 2197175160) (IntKind.wrap .i64 (k_1 + 1)) H2 < M2 c_2 k_1 H2)
       (
        SelfEq ([.v (.string b), .v (.int .i64 i_1)], [], []) ∧
        I2 (IntKind.wrap .u32 (Int.tdiv c_2 2)) (IntKind.wrap .i64 (k_1 + 1)) H2 ∧
        M2 (IntKind.wrap .u32 (Int.tdiv c_2 2)) (IntKind.wrap .i64 (k_1 + 1)) H2 < M2 c_2 k_1 H2))
     (
      SelfEq ([.v (.string b)], [], []) ∧
      I1 c_2 (IntKind.wrap .i64 (i_1 + 1)) H2 ∧
      M1 c_2 (IntKind.wrap .i64 (i_1 + 1)) H2 < M1 c_1 i_1 H1))
   (
    K (.int .i64 (IntKind.wrap .i64 (xorI .u32 c_1 4294967295))) H1)
theorem logboomref3_Crc_eq (b : ByteArray) (H : Heap) (K : Value → Heap → Prop) : logboomref3_Crc_vc b H K = denFn Try.prog logboomref3_Crc_ann Try.f18 (bodyOf Try.f18) [.string b] H K := by kernel_rfl
theorem logboomref3_Crc_fn (b : ByteArray) {H : Heap} {K : Value → Heap → Prop} (h : logboomref3_Crc_vc b H K) : FnH Try.prog 18 #[.string b] H K :=
  denFn_fn Try.mixed logboomref3_Crc_ann Try.func18 (bodyOf_spec (by kernel_rfl)) (logboomref3_Crc_eq b H K) h

/-! function 23: logboom/logboomref8.New -/
def logboomref8_New_ann : Anns := { hid := [], loops := [], joins := [], mix := [] }
def logboomref8_New_vc  (H : Heap) (K : Value → Heap → Prop) : Prop :=
  ∀ q1 : Nat,
  H q1 = none →
  letH (Heap.upd H q1 (.cells #[.slice none 0 0] 81 (0, 0))) fun H1 =>
  K (.pointer (some ⟨q1, 0, none⟩)) H1
theorem logboomref8_New_eq  (H : Heap) (K : Value → Heap → Prop) : logboomref8_New_vc  H K = denFn Try.prog logboomref8_New_ann Try.f23 (bodyOf Try.f23) [] H K := by kernel_rfl
theorem logboomref8_New_fn  {H : Heap} {K : Value → Heap → Prop} (h : logboomref8_New_vc  H K) : FnH Try.prog 23 #[] H K :=
  denFn_fn Try.mixed logboomref8_New_ann Try.func23 (bodyOf_spec (by kernel_rfl)) (logboomref8_New_eq  H K) h

/-! function 24: (*logboom/logboomref8.Table).Note -/
def logboomref8_Table_Note_ann : Anns := { hid := [3, 9], loops := [(0, { slots := [(10, .slice), (11, .bool), (12, .int .i64)], kept := [0, 3, 9], locs := [], keptL := [0, 1] })], joins := [], mix := [] }
def logboomref8_Table_Note_vc (t : Nat) (to : Nat) (b_0 : Int) (b_1 : Int) (b_2 : Int) (b_3 : Int) (b_4 : Int) (b_5 : Sl) (H : Heap) (K : Value → Heap → Prop) : Prop :=
  FnH Try.prog 46 #[.agg #[.int .i64 b_0, .int .i64 b_1, .int .i64 b_2, .int .i64 b_3, .int .i64 b_4, .slice b_5.p b_5.n b_5.c]] H fun r1 H1 =>
    ∃ n1 : Int,
    r1 = .int .i64 n1 ∧
    br ((b_2 : Int) == 0) (
      K (.tuple #[]) H1)
     (
      br ((n1 : Int) != 0) (
        K (.tuple #[]) H1)
       (
        FnH Try.prog 45 #[.pointer (some ⟨t, to, none⟩), .int .i64 b_2] H1 fun r2 H2 =>
          ∃ l1 : Sl,
          r2 = .slice l1.p l1.n l1.c ∧
          FnH Try.prog 47 #[.slice l1.p l1.n l1.c] H2 fun r3 H3 =>
            ∃ n2 : Int,
            ∃ l2 : Sl,
            ∃ n3 : Int,
            r3 = .tuple #[.int .i64 n2, .slice l2.p l2.n l2.c, .int .i64 n3] ∧
            br (decide (((l1.n : Nat) : Int) > 0)) (
              ∃ q1 : Nat,
              ∃ o1 : Nat,
              (l1.p : Option Addr) = some ⟨q1, o1, none⟩ ∧
              0 ≤ ((IntKind.wrap .i64 ((l1.n : Nat) - 1)) : Int) ∧
              ((IntKind.wrap .i64 ((l1.n : Nat) - 1)) : Int) < (l1.n : Nat) ∧
              ∃ n4 : Int,
              cellH H3 ⟨q1, o1 + Int.toNat (IntKind.wrap .i64 ((l1.n : Nat) - 1)) * 5 + 4, none⟩ = some (.int .i64 n4) ∧
              br (decide ((n4 : Int) ≥ b_0)) (
                K (.tuple #[]) H3)
               (
                br (decide ((b_3 : Int) < n2)) (
                  K (.tuple #[]) H3)
                 (
                  br ((b_3 : Int) == n2) (
                    br (decide ((b_4 : Int) < n3)) (
                      K (.tuple #[]) H3)
                     (
                      ∃ I1 : Sl → Bool → Int → Heap → Prop,
                      ∃ M1 : Sl → Bool → Int → Heap → Nat,
                      I1 ⟨none, 0, 0⟩ false 0 H3 ∧
                      ∀ out_1 : Sl,
                      ∀ placed_1 : Bool,
                      ∀ i_1 : Int,
                      ∀ H4 : Heap,
                      I1 out_1 placed_1 i_1 H4 →
                      ∃ l3 : Sl,
                      cellH H4 ⟨t, to, none⟩ = some (.slice l3.p l3.n l3.c) ∧
                      br (decide ((i_1 : Int) < (l3.n : Nat))) (
                        br (!placed_1) (
                          ∃ l4 : Sl,
                          cellH H4 ⟨t, to, none⟩ = some (.slice l4.p l4.n l4.c) ∧
                          ∃ q2 : Nat,
                          ∃ o2 : Nat,
                          (l4.p : Option Addr) = some ⟨q2, o2, none⟩ ∧
                          0 ≤ (i_1 : Int) ∧
                          (i_1 : Int) < (l4.n : Nat) ∧
                          ∃ n5 : Int,
                          cellH H4 ⟨q2, o2 + Int.toNat i_1 * 5, none⟩ = some (.int .i64 n5) ∧
                          br (decide ((n5 : Int) > b_2)) (
                            ∀ q3 : Nat,
                            H4 q3 = none →
                            letH (Heap.upd H4 q3 (.cells #[.int .i64 b_2, .int .i64 b_3, .int .i64 b_4, .int .i64 (b_5.n : Nat), .int .i64 b_0] 83 (0, 0))) fun H5 =>
                            runH Try.prog (Builtin.append_ #[79, 79] 79 #[.slice out_1.p out_1.n out_1.c, .slice (some ⟨q3, 0, none⟩) 1 1]) H5 fun r4 H6 =>
                              ∃ l5 : Sl,
                              r4 = .slice l5.p l5.n l5.c ∧
                              ∃ l6 : Sl,
                              cellH H6 ⟨t, to, none⟩ = some (.slice l6.p l6.n l6.c) ∧
                              ∃ q4 : Nat,
                              ∃ o3 : Nat,
                              (l6.p : Option Addr) = some ⟨q4, o3, none⟩ ∧
                              0 ≤ (i_1 : Int) ∧
                              (i_1 : Int) < (l6.n : Nat) ∧
                              ∃ n6 : Int,
                              cellH H6 ⟨q4, o3 + Int.toNat i_1 * 5, none⟩ = some (.int .i64 n6) ∧
                              ∃ n7 : Int,
                              cellH H6 ⟨q4, o3 + Int.toNat i_1 * 5 + 1, none⟩ = some (.int .i64 n7) ∧
                              ∃ n8 : Int,
                              cellH H6 ⟨q4, o3 + Int.toNat i_1 * 5 + 2, none⟩ = some (.int .i64 n8) ∧
                              ∃ n9 : Int,
                              cellH H6 ⟨q4, o3 + Int.toNat i_1 * 5 + 3, none⟩ = some (.int .i64 n9) ∧
                              ∃ n10 : Int,
                              cellH H6 ⟨q4, o3 + Int.toNat i_1 * 5 + 4, none⟩ = some (.int .i64 n10) ∧
                              ∀ q5 : Nat,
                              H6 q5 = none →
                              letH (Heap.upd H6 q5 (.cells #[.int .i64 n6, .int .i64 n7, .int .i64 n8, .int .i64 n9, .int .i64 n10] 83 (0, 0))) fun H7 =>
                              runH Try.prog (Builtin.append_ #[79, 79] 79 #[.slice l5.p l5.n l5.c, .slice (some ⟨q5, 0, none⟩) 1 1]) H7 fun r5 H8 =>
                                ∃ l7 : Sl,
                                r5 = .slice l7.p l7.n l7.c ∧
                                SelfEq ([.v (.pointer (some ⟨t, to, none⟩)), .loc 0 0, .loc 1 0], [some (33, [.int .i64 b_0, .int .i64 b_1, .int .i64 b_2, .int .i64 b_3, .int .i64 b_4, .slice b_5.p b_5.n b_5.c]), some (83, [.int .i64 b_2, .int .i64 b_3, .int .i64 b_4, .int .i64 (b_5.n : Nat), .int .i64 b_0])], []) ∧
                                I1 l7 true (IntKind.wrap .i64 (i_1 + 1)) H8 ∧
                                M1 l7 true (IntKind.wrap .i64 (i_1 + 1)) H8 < M1 out_1 placed_1 i_1 H4)
                           (
                            ∃ l8 : Sl,
                            cellH H4 ⟨t, to, none⟩ = some (.slice l8.p l8.n l8.c) ∧
                            ∃ q6 : Nat,
                            ∃ o4 : Nat,
                            (l8.p : Option Addr) = some ⟨q6, o4, none⟩ ∧
                            0 ≤ (i_1 : Int) ∧
                            (i_1 : Int) < (l8.n : Nat) ∧
                            ∃ n11 : Int,
                            cellH H4 ⟨q6, o4 + Int.toNat i_1 * 5, none⟩ = some (.int .i64 n11) ∧
                            ∃ n12 : Int,
                            cellH H4 ⟨q6, o4 + Int.toNat i_1 * 5 + 1, none⟩ = some (.int .i64 n12) ∧
                            ∃ n13 : Int,
                            cellH H4 ⟨q6, o4 + Int.toNat i_1 * 5 + 2, none⟩ = some (.int .i64 n13) ∧
                            ∃ n14 : Int,
                            cellH H4 ⟨q6, o4 + Int.toNat i_1 * 5 + 3, none⟩ = some (.int .i64 n14) ∧
                            ∃ n15 : Int,
                            cellH H4 ⟨q6, o4 + Int.toNat i_1 * 5 + 4, none⟩ = some (.int .i64 n15) ∧
                            ∀ q7 : Nat,
                            H4 q7 = none →
                            letH (Heap.upd H4 q7 (.cells #[.int .i64 n11, .int .i64 n12, .int .i64 n13, .int .i64 n14, .int .i64 n15] 83 (0, 0))) fun H9 =>
                            runH Try.prog (Builtin.append_ #[79, 79] 79 #[.slice out_1.p out_1.n out_1.c, .slice (some ⟨q7, 0, none⟩) 1 1]) H9 fun r6 H10 =>
                              ∃ l9 : Sl,
                              r6 = .slice l9.p l9.n l9.c ∧
                              SelfEq ([.v (.pointer (some ⟨t, to, none⟩)), .loc 0 0, .loc 1 0], [some (33, [.int .i64 b_0, .int .i64 b_1, .int .i64 b_2, .int .i64 b_3, .int .i64 b_4, .slice b_5.p b_5.n b_5.c]), some (83, [.int .i64 b_2, .int .i64 b_3, .int .i64 b_4, .int .i64 (b_5.n : Nat), .int .i64 b_0])], []) ∧
                              I1 l9 placed_1 (IntKind.wrap .i64 (i_1 + 1)) H10 ∧
                              M1 l9 placed_1 (IntKind.wrap .i64 (i_1 + 1)) H10 < M1 out_1 placed_1 i_1 H4))
                         (
                          ∃ l10 : Sl,
                          cellH H4 ⟨t, to, none⟩ = some (.slice l10.p l10.n l10.c) ∧
                          ∃ q8 : Nat,
                          ∃ o5 : Nat,
                          (l10.p : Option Addr) = some ⟨q8, o5, none⟩ ∧
                          0 ≤ (i_1 : Int) ∧
                          (i_1 : Int) < (l10.n : Nat) ∧
                          ∃ n16 : Int,
                          cellH H4 ⟨q8, o5 + Int.toNat i_1 * 5, none⟩ = some (.int .i64 n16) ∧
                          ∃ n17 : Int,
                          cellH H4 ⟨q8, o5 + Int.toNat i_1 * 5 + 1, none⟩ = some (.int .i64 n17) ∧
                          ∃ n18 : Int,
                          cellH H4 ⟨q8, o5 + Int.toNat i_1 * 5 + 2, none⟩ = some (.int .i64 n18) ∧
                          ∃ n19 : Int,
                          cellH H4 ⟨q8, o5 + Int.toNat i_1 * 5 + 3, none⟩ = some (.int .i64 n19) ∧
                          ∃ n20 : Int,
                          cellH H4 ⟨q8, o5 + Int.toNat i_1 * 5 + 4, none⟩ = some (.int .i64 n20) ∧
                          ∀ q9 : Nat,
                          H4 q9 = none →
                          letH (Heap.upd H4 q9 (.cells #[.int .i64 n16, .int .i64 n17, .int .i64 n18, .int .i64 n19, .int .i64 n20] 83 (0, 0))) fun H11 =>
                          runH Try.prog (Builtin.append_ #[79, 79] 79 #[.slice out_1.p out_1.n out_1.c, .slice (some ⟨q9, 0, none⟩) 1 1]) H11 fun r7 H12 =>
                            ∃ l11 : Sl,
                            r7 = .slice l11.p l11.n l11.c ∧
                            SelfEq ([.v (.pointer (some ⟨t, to, none⟩)), .loc 0 0, .loc 1 0], [some (33, [.int .i64 b_0, .int .i64 b_1, .int .i64 b_2, .int .i64 b_3, .int .i64 b_4, .slice b_5.p b_5.n b_5.c]), some (83, [.int .i64 b_2, .int .i64 b_3, .int .i64 b_4, .int .i64 (b_5.n : Nat), .int .i64 b_0])], []) ∧
                            I1 l11 placed_1 (IntKind.wrap .i64 (i_1 + 1)) H12 ∧
                            M1 l11 placed_1 (IntKind.wrap .i64 (i_1 + 1)) H12 < M1 out_1 placed_1 i_1 H4))
                       (
                        br (!placed_1) (
                          ∀ q10 : Nat,
                          H4 q10 = none →
                          letH (Heap.upd H4 q10 (.cells #[.int .i64 b_2, .int .i64 b_3, .int .i64 b_4, .int .i64 (b_5.n : Nat), .int .i64 b_0] 83 (0, 0))) fun H13 =>
                          runH Try.prog (Builtin.append_ #[79, 79] 79 #[.slice out_1.p out_1.n out_1.c, .slice (some ⟨q10, 0, none⟩) 1 1]) H13 fun r8 H14 =>
                            ∃ l12 : Sl,
                            r8 = .slice l12.p l12.n l12.c ∧
                            (∃ u, cellH H14 ⟨t, to, none⟩ = some u) ∧
                            frozenH H14 ⟨t, to, none⟩ = false ∧
                            letH (Heap.set H14 ⟨t, to, none⟩ (.slice l12.p l12.n l12.c)) fun H15 =>
                            K (.tuple #[]) H15)
                         (
                          (∃ u, cellH H4 ⟨t, to, none⟩ = some u) ∧
                          frozenH H4 ⟨t, to, none⟩ = false ∧
                          letH (Heap.set H4 ⟨t, to, none⟩ (.slice out_1.p out_1.n out_1.c)) fun H16 =>
                          K (.tuple #[]) H16))))
                   (
                    ∃ I2 : Sl → Bool → Int → Heap → Prop,
                    ∃ M2 : Sl → Bool → Int → Heap → Nat,
                    I2 ⟨none, 0, 0⟩ false 0 H3 ∧
                    ∀ out_2 : Sl,
                    ∀ placed_2 : Bool,
                    ∀ i_2 : Int,
                    ∀ H17 : Heap,
                    I2 out_2 placed_2 i_2 H17 →
                    ∃ l13 : Sl,
                    cellH H17 ⟨t, to, none⟩ = some (.slice l13.p l13.n l13.c) ∧
                    br (decide ((i_2 : Int) < (l13.n : Nat))) (
                      br (!placed_2) (
                        ∃ l14 : Sl,
                        cellH H17 ⟨t, to, none⟩ = some (.slice l14.p l14.n l14.c) ∧
                        ∃ q11 : Nat,
                        ∃ o6 : Nat,
                        (l14.p : Option Addr) = some ⟨q11, o6, none⟩ ∧
                        0 ≤ (i_2 : Int) ∧
                        (i_2 : Int) < (l14.n : Nat) ∧
                        ∃ n21 : Int,
                        cellH H17 ⟨q11, o6 + Int.toNat i_2 * 5, none⟩ = some (.int .i64 n21) ∧
                        br (decide ((n21 : Int) > b_2)) (
                          ∀ q12 : Nat,
                          H17 q12 = none →
                          letH (Heap.upd H17 q12 (.cells #[.int .i64 b_2, .int .i64 b_3, .int .i64 b_4, .int .i64 (b_5.n : Nat), .int .i64 b_0] 83 (0, 0))) fun H18 =>
                          runH Try.prog (Builtin.append_ #[79, 79] 79 #[.slice out_2.p out_2.n out_2.c, .slice (some ⟨q12, 0, none⟩) 1 1]) H18 fun r9 H19 =>
                            ∃ l15 : Sl,
                            r9 = .slice l15.p l15.n l15.c ∧
                            ∃ l16 : Sl,
                            cellH H19 ⟨t, to, none⟩ = some (.slice l16.p l16.n l16.c) ∧
                            ∃ q13 : Nat,
                            ∃ o7 : Nat,
                            (l16.p : Option Addr) = some ⟨q13, o7, none⟩ ∧
                            0 ≤ (i_2 : Int) ∧
                            (i_2 : Int) < (l16.n : Nat) ∧
                            ∃ n22 : Int,
                            cellH H19 ⟨q13, o7 + Int.toNat i_2 * 5, none⟩ = some (.int .i64 n22) ∧
                            ∃ n23 : Int,
                            cellH H19 ⟨q13, o7 + Int.toNat i_2 * 5 + 1, none⟩ = some (.int .i64 n23) ∧
                            ∃ n24 : Int,
                            cellH H19 ⟨q13, o7 + Int.toNat i_2 * 5 + 2, none⟩ = some (.int .i64 n24) ∧
                            ∃ n25 : Int,
                            cellH H19 ⟨q13, o7 + Int.toNat i_2 * 5 + 3, none⟩ = some (.int .i64 n25) ∧
                            ∃ n26 : Int,
                            cellH H19 ⟨q13, o7 + Int.toNat i_2 * 5 + 4, none⟩ = some (.int .i64 n26) ∧
                            ∀ q14 : Nat,
                            H19 q14 = none →
                            letH (Heap.upd H19 q14 (.cells #[.int .i64 n22, .int .i64 n23, .int .i64 n24, .int .i64 n25, .int .i64 n26] 83 (0, 0))) fun H20 =>
                            runH Try.prog (Builtin.append_ #[79, 79] 79 #[.slice l15.p l15.n l15.c, .slice (some ⟨q14, 0, none⟩) 1 1]) H20 fun r10 H21 =>
                              ∃ l17 : Sl,
                              r10 = .slice l17.p l17.n l17.c ∧
                              SelfEq ([.v (.pointer (some ⟨t, to, none⟩)), .loc 0 0, .loc 1 0], [some (33, [.int .i64 b_0, .int .i64 b_1, .int .i64 b_2, .int .i64 b_3, .int .i64 b_4, .slice b_5.p b_5.n b_5.c]), some (83, [.int .i64 b_2, .int .i64 b_3, .int .i64 b_4, .int .i64 (b_5.n : Nat), .int .i64 b_0])], []) ∧
                              I2 l17 true (IntKind.wrap .i64 (i_2 + 1)) H21 ∧
                              M2 l17 true (IntKind.wrap .i64 (i_2 + 1)) H21 < M2 out_2 placed_2 i_2 H17)
                         (
                          ∃ l18 : Sl,
                          cellH H17 ⟨t, to, none⟩ = some (.slice l18.p l18.n l18.c) ∧
                          ∃ q15 : Nat,
                          ∃ o8 : Nat,
                          (l18.p : Option Addr) = some ⟨q15, o8, none⟩ ∧
                          0 ≤ (i_2 : Int) ∧
                          (i_2 : Int) < (l18.n : Nat) ∧
                          ∃ n27 : Int,
                          cellH H17 ⟨q15, o8 + Int.toNat i_2 * 5, none⟩ = some (.int .i64 n27) ∧
                          ∃ n28 : Int,
                          cellH H17 ⟨q15, o8 + Int.toNat i_2 * 5 + 1, none⟩ = some (.int .i64 n28) ∧
                          ∃ n29 : Int,
                          cellH H17 ⟨q15, o8 + Int.toNat i_2 * 5 + 2, none⟩ = some (.int .i64 n29) ∧
                          ∃ n30 : Int,
                          cellH H17 ⟨q15, o8 + Int.toNat i_2 * 5 + 3, none⟩ = some (.int .i64 n30) ∧
                          ∃ n31 : Int,
                          cellH H17 ⟨q15, o8 + Int.toNat i_2 * 5 + 4, none⟩ = some (.int .i64 n31) ∧
                          ∀ q16 : Nat,
                          H17 q16 = none →
                          letH (Heap.upd H17 q16 (.cells #[.int .i64 n27, .int .i64 n28, .int .i64 n29, .int .i64 n30, .int .i64 n31] 83 (0, 0))) fun H22 =>
                          runH Try.prog (Builtin.append_ #[79, 79] 79 #[.slice out_2.p out_2.n out_2.c, .slice (some ⟨q16, 0, none⟩) 1 1]) H22 fun r11 H23 =>
                            ∃ l19 : Sl,
                            r11 = .slice l19.p l19.n l19.c ∧
                            SelfEq ([.v (.pointer (some ⟨t, to, none⟩)), .loc 0 0, .loc 1 0], [some (33, [.int .i64 b_0, .int .i64 b_1, .int .i64 b_2, .int .i64 b_3, .int .i64 b_4, .slice b_5.p b_5.n b_5.c]), some (83, [.int .i64 b_2, .int .i64 b_3, .int .i64 b_4, .int .i64 (b_5.n : Nat), .int .i64 b_0])], []) ∧
                            I2 l19 placed_2 (IntKind.wrap .i64 (i_2 + 1)) H23 ∧
                            M2 l19 placed_2 (IntKind.wrap .i64 (i_2 + 1)) H23 < M2 out_2 placed_2 i_2 H17))
                       (
                        ∃ l20 : Sl,
                        cellH H17 ⟨t, to, none⟩ = some (.slice l20.p l20.n l20.c) ∧
                        ∃ q17 : Nat,
                        ∃ o9 : Nat,
                        (l20.p : Option Addr) = some ⟨q17, o9, none⟩ ∧
                        0 ≤ (i_2 : Int) ∧
                        (i_2 : Int) < (l20.n : Nat) ∧
                        ∃ n32 : Int,
                        cellH H17 ⟨q17, o9 + Int.toNat i_2 * 5, none⟩ = some (.int .i64 n32) ∧
                        ∃ n33 : Int,
                        cellH H17 ⟨q17, o9 + Int.toNat i_2 * 5 + 1, none⟩ = some (.int .i64 n33) ∧
                        ∃ n34 : Int,
                        cellH H17 ⟨q17, o9 + Int.toNat i_2 * 5 + 2, none⟩ = some (.int .i64 n34) ∧
                        ∃ n35 : Int,
                        cellH H17 ⟨q17, o9 + Int.toNat i_2 * 5 + 3, none⟩ = some (.int .i64 n35) ∧
                        ∃ n36 : Int,
                        cellH H17 ⟨q17, o9 + Int.toNat i_2 * 5 + 4, none⟩ = some (.int .i64 n36) ∧
                        ∀ q18 : Nat,
                        H17 q18 = none →
                        letH (Heap.upd H17 q18 (.cells #[.int .i64 n32, .int .i64 n33, .int .i64 n34, .int .i64 n35, .int .i64 n36] 83 (0, 0))) fun H24 =>
                        runH Try.prog (Builtin.append_ #[79, 79] 79 #[.slice out_2.p out_2.n out_2.c, .slice (some ⟨q18, 0, none⟩) 1 1]) H24 fun r12 H25 =>
                          ∃ l21 : Sl,
                          r12 = .slice l21.p l21.n l21.c ∧
                          SelfEq ([.v (.pointer (some ⟨t, to, none⟩)), .loc 0 0, .loc 1 0], [some (33, [.int .i64 b_0, .int .i64 b_1, .int .i64 b_2, .int .i64 b_3, .int .i64 b_4, .slice b_5.p b_5.n b_5.c]), some (83, [.int .i64 b_2, .int .i64 b_3, .int .i64 b_4, .int .i64 (b_5.n : Nat), .int .i64 b_0])], []) ∧
                          I2 l21 placed_2 (IntKind.wrap .i64 (i_2 + 1)) H25 ∧
                          M2 l21 placed_2 (IntKind.wrap .i64 (i_2 + 1)) H25 < M2 out_2 placed_2 i_2 H17))
                     (
                      br (!placed_2) (
                        ∀ q19 : Nat,
                        H17 q19 = none →
                        letH (Heap.upd H17 q19 (.cells #[.int .i64 b_2, .int .i64 b_3, .int .i64 b_4, .int .i64 (b_5.n : Nat), .int .i64 b_0] 83 (0, 0))) fun H26 =>
                        runH Try.prog (Builtin.append_ #[79, 79] 79 #[.slice out_2.p out_2.n out_2.c, .slice (some ⟨q19, 0, none⟩) 1 1]) H26 fun r13 H27 =>
                          ∃ l22 : Sl,
                          r13 = .slice l22.p l22.n l22.c ∧
                          (∃ u, cellH H27 ⟨t, to, none⟩ = some u) ∧
                          frozenH H27 ⟨t, to, none⟩ = false ∧
                          letH (Heap.set H27 ⟨t, to, none⟩ (.slice l22.p l22.n l22.c)) fun H28 =>
                          K (.tuple #[]) H28)
                       (
                        (∃ u, cellH H17 ⟨t, to, none⟩ = some u) ∧
                        frozenH H17 ⟨t, to, none⟩ = false ∧
                        letH (Heap.set H17 ⟨t, to, none⟩ (.slice out_2.p out_2.n out_2.c)) fun H29 =>
                        K (.tuple #[]) H29))))))
             (
              br (decide ((b_3 : Int) < n2)) (
                K (.tuple #[]) H3)
               (
                br ((b_3 : Int) == n2) (
                  br (decide ((b_4 : Int) < n3)) (
                    K (.tuple #[]) H3)
                   (
                    ∃ I3 : Sl → Bool → Int → Heap → Prop,
                    ∃ M3 : Sl → Bool → Int → Heap → Nat,
                    I3 ⟨none, 0, 0⟩ false 0 H3 ∧
                    ∀ out_3 : Sl,
                    ∀ placed_3 : Bool,
                    ∀ i_3 : Int,
                    ∀ H30 : Heap,
                    I3 out_3 placed_3 i_3 H30 →
                    ∃ l23 : Sl,
                    cellH H30 ⟨t, to, none⟩ = some (.slice l23.p l23.n l23.c) ∧
                    br (decide ((i_3 : Int) < (l23.n : Nat))) (
                      br (!placed_3) (
                        ∃ l24 : Sl,
                        cellH H30 ⟨t, to, none⟩ = some (.slice l24.p l24.n l24.c) ∧
                        ∃ q20 : Nat,
                        ∃ o10 : Nat,
                        (l24.p : Option Addr) = some ⟨q20, o10, none⟩ ∧
                        0 ≤ (i_3 : Int) ∧
                        (i_3 : Int) < (l24.n : Nat) ∧
                        ∃ n37 : Int,
                        cellH H30 ⟨q20, o10 + Int.toNat i_3 * 5, none⟩ = some (.int .i64 n37) ∧
                        br (decide ((n37 : Int) > b_2)) (
                          ∀ q21 : Nat,
                          H30 q21 = none →
                          letH (Heap.upd H30 q21 (.cells #[.int .i64 b_2, .int .i64 b_3, .int .i64 b_4, .int .i64 (b_5.n : Nat), .int .i64 b_0] 83 (0, 0))) fun H31 =>
                          runH Try.prog (Builtin.append_ #[79, 79] 79 #[.slice out_3.p out_3.n out_3.c, .slice (some ⟨q21, 0, none⟩) 1 1]) H31 fun r14 H32 =>
                            ∃ l25 : Sl,
                            r14 = .slice l25.p l25.n l25.c ∧
                            ∃ l26 : Sl,
                            cellH H32 ⟨t, to, none⟩ = some (.slice l26.p l26.n l26.c) ∧
                            ∃ q22 : Nat,
                            ∃ o11 : Nat,
                            (l26.p : Option Addr) = some ⟨q22, o11, none⟩ ∧
                            0 ≤ (i_3 : Int) ∧
                            (i_3 : Int) < (l26.n : Nat) ∧
                            ∃ n38 : Int,
                            cellH H32 ⟨q22, o11 + Int.toNat i_3 * 5, none⟩ = some (.int .i64 n38) ∧
                            ∃ n39 : Int,
                            cellH H32 ⟨q22, o11 + Int.toNat i_3 * 5 + 1, none⟩ = some (.int .i64 n39) ∧
                            ∃ n40 : Int,
                            cellH H32 ⟨q22, o11 + Int.toNat i_3 * 5 + 2, none⟩ = some (.int .i64 n40) ∧
                            ∃ n41 : Int,
                            cellH H32 ⟨q22, o11 + Int.toNat i_3 * 5 + 3, none⟩ = some (.int .i64 n41) ∧
                            ∃ n42 : Int,
                            cellH H32 ⟨q22, o11 + Int.toNat i_3 * 5 + 4, none⟩ = some (.int .i64 n42) ∧
                            ∀ q23 : Nat,
                            H32 q23 = none →
                            letH (Heap.upd H32 q23 (.cells #[.int .i64 n38, .int .i64 n39, .int .i64 n40, .int .i64 n41, .int .i64 n42] 83 (0, 0))) fun H33 =>
                            runH Try.prog (Builtin.append_ #[79, 79] 79 #[.slice l25.p l25.n l25.c, .slice (some ⟨q23, 0, none⟩) 1 1]) H33 fun r15 H34 =>
                              ∃ l27 : Sl,
                              r15 = .slice l27.p l27.n l27.c ∧
                              SelfEq ([.v (.pointer (some ⟨t, to, none⟩)), .loc 0 0, .loc 1 0], [some (33, [.int .i64 b_0, .int .i64 b_1, .int .i64 b_2, .int .i64 b_3, .int .i64 b_4, .slice b_5.p b_5.n b_5.c]), some (83, [.int .i64 b_2, .int .i64 b_3, .int .i64 b_4, .int .i64 (b_5.n : Nat), .int .i64 b_0])], []) ∧
                              I3 l27 true (IntKind.wrap .i64 (i_3 + 1)) H34 ∧
                              M3 l27 true (IntKind.wrap .i64 (i_3 + 1)) H34 < M3 out_3 placed_3 i_3 H30)
                         (
                          ∃ l28 : Sl,
                          cellH H30 ⟨t, to, none⟩ = some (.slice l28.p l28.n l28.c) ∧
                          ∃ q24 : Nat,
                          ∃ o12 : Nat,
                          (l28.p : Option Addr) = some ⟨q24, o12, none⟩ ∧
                          0 ≤ (i_3 : Int) ∧
                          (i_3 : Int) < (l28.n : Nat) ∧
                          ∃ n43 : Int,
                          cellH H30 ⟨q24, o12 + Int.toNat i_3 * 5, none⟩ = some (.int .i64 n43) ∧
                          ∃ n44 : Int,
                          cellH H30 ⟨q24, o12 + Int.toNat i_3 * 5 + 1, none⟩ = some (.int .i64 n44) ∧
                          ∃ n45 : Int,
                          cellH H30 ⟨q24, o12 + Int.toNat i_3 * 5 + 2, none⟩ = some (.int .i64 n45) ∧
                          ∃ n46 : Int,
                          cellH H30 ⟨q24, o12 + Int.toNat i_3 * 5 + 3, none⟩ = some (.int .i64 n46) ∧
                          ∃ n47 : Int,
                          cellH H30 ⟨q24, o12 + Int.toNat i_3 * 5 + 4, none⟩ = some (.int .i64 n47) ∧
                          ∀ q25 : Nat,
                          H30 q25 = none →
                          letH (Heap.upd H30 q25 (.cells #[.int .i64 n43, .int .i64 n44, .int .i64 n45, .int .i64 n46, .int .i64 n47] 83 (0, 0))) fun H35 =>
                          runH Try.prog (Builtin.append_ #[79, 79] 79 #[.slice out_3.p out_3.n out_3.c, .slice (some ⟨q25, 0, none⟩) 1 1]) H35 fun r16 H36 =>
                            ∃ l29 : Sl,
                            r16 = .slice l29.p l29.n l29.c ∧
                            SelfEq ([.v (.pointer (some ⟨t, to, none⟩)), .loc 0 0, .loc 1 0], [some (33, [.int .i64 b_0, .int .i64 b_1, .int .i64 b_2, .int .i64 b_3, .int .i64 b_4, .slice b_5.p b_5.n b_5.c]), some (83, [.int .i64 b_2, .int .i64 b_3, .int .i64 b_4, .int .i64 (b_5.n : Nat), .int .i64 b_0])], []) ∧
                            I3 l29 placed_3 (IntKind.wrap .i64 (i_3 + 1)) H36 ∧
                            M3 l29 placed_3 (IntKind.wrap .i64 (i_3 + 1)) H36 < M3 out_3 placed_3 i_3 H30))
                       (
                        ∃ l30 : Sl,
                        cellH H30 ⟨t, to, none⟩ = some (.slice l30.p l30.n l30.c) ∧
                        ∃ q26 : Nat,
                        ∃ o13 : Nat,
                        (l30.p : Option Addr) = some ⟨q26, o13, none⟩ ∧
                        0 ≤ (i_3 : Int) ∧
                        (i_3 : Int) < (l30.n : Nat) ∧
                        ∃ n48 : Int,
                        cellH H30 ⟨q26, o13 + Int.toNat i_3 * 5, none⟩ = some (.int .i64 n48) ∧
                        ∃ n49 : Int,
                        cellH H30 ⟨q26, o13 + Int.toNat i_3 * 5 + 1, none⟩ = some (.int .i64 n49) ∧
                        ∃ n50 : Int,
                        cellH H30 ⟨q26, o13 + Int.toNat i_3 * 5 + 2, none⟩ = some (.int .i64 n50) ∧
                        ∃ n51 : Int,
                        cellH H30 ⟨q26, o13 + Int.toNat i_3 * 5 + 3, none⟩ = some (.int .i64 n51) ∧
                        ∃ n52 : Int,
                        cellH H30 ⟨q26, o13 + Int.toNat i_3 * 5 + 4, none⟩ = some (.int .i64 n52) ∧
                        ∀ q27 : Nat,
                        H30 q27 = none →
                        letH (Heap.upd H30 q27 (.cells #[.int .i64 n48, .int .i64 n49, .int .i64 n50, .int .i64 n51, .int .i64 n52] 83 (0, 0))) fun H37 =>
                        runH Try.prog (Builtin.append_ #[79, 79] 79 #[.slice out_3.p out_3.n out_3.c, .slice (some ⟨q27, 0, none⟩) 1 1]) H37 fun r17 H38 =>
                          ∃ l31 : Sl,
                          r17 = .slice l31.p l31.n l31.c ∧
                          SelfEq ([.v (.pointer (some ⟨t, to, none⟩)), .loc 0 0, .loc 1 0], [some (33, [.int .i64 b_0, .int .i64 b_1, .int .i64 b_2, .int .i64 b_3, .int .i64 b_4, .slice b_5.p b_5.n b_5.c]), some (83, [.int .i64 b_2, .int .i64 b_3, .int .i64 b_4, .int .i64 (b_5.n : Nat), .int .i64 b_0])], []) ∧
                          I3 l31 placed_3 (IntKind.wrap .i64 (i_3 + 1)) H38 ∧
                          M3 l31 placed_3 (IntKind.wrap .i64 (i_3 + 1)) H38 < M3 out_3 placed_3 i_3 H30))
                     (
                      br (!placed_3) (
                        ∀ q28 : Nat,
                        H30 q28 = none →
                        letH (Heap.upd H30 q28 (.cells #[.int .i64 b_2, .int .i64 b_3, .int .i64 b_4, .int .i64 (b_5.n : Nat), .int .i64 b_0] 83 (0, 0))) fun H39 =>
                        runH Try.prog (Builtin.append_ #[79, 79] 79 #[.slice out_3.p out_3.n out_3.c, .slice (some ⟨q28, 0, none⟩) 1 1]) H39 fun r18 H40 =>
                          ∃ l32 : Sl,
                          r18 = .slice l32.p l32.n l32.c ∧
                          (∃ u, cellH H40 ⟨t, to, none⟩ = some u) ∧
                          frozenH H40 ⟨t, to, none⟩ = false ∧
                          letH (Heap.set H40 ⟨t, to, none⟩ (.slice l32.p l32.n l32.c)) fun H41 =>
                          K (.tuple #[]) H41)
                       (
                        (∃ u, cellH H30 ⟨t, to, none⟩ = some u) ∧
                        frozenH H30 ⟨t, to, none⟩ = false ∧
                        letH (Heap.set H30 ⟨t, to, none⟩ (.slice out_3.p out_3.n out_3.c)) fun H42 =>
                        K (.tuple #[]) H42))))
                 (
                  ∃ I4 : Sl → Bool → Int → Heap → Prop,
                  ∃ M4 : Sl → Bool → Int → Heap → Nat,
                  I4 ⟨none, 0, 0⟩ false 0 H3 ∧
                  ∀ out_4 : Sl,
                  ∀ placed_4 : Bool,
                  ∀ i_4 : Int,
                  ∀ H43 : Heap,
                  I4 out_4 placed_4 i_4 H43 →
                  ∃ l33 : Sl,
                  cellH H43 ⟨t, to, none⟩ = some (.slice l33.p l33.n l33.c) ∧
                  br (decide ((i_4 : Int) < (l33.n : Nat))) (
                    br (!placed_4) (
                      ∃ l34 : Sl,
                      cellH H43 ⟨t, to, none⟩ = some (.slice l34.p l34.n l34.c) ∧
                      ∃ q29 : Nat,
                      ∃ o14 : Nat,
                      (l34.p : Option Addr) = some ⟨q29, o14, none⟩ ∧
                      0 ≤ (i_4 : Int) ∧
                      (i_4 : Int) < (l34.n : Nat) ∧
                      ∃ n53 : Int,
                      cellH H43 ⟨q29, o14 + Int.toNat i_4 * 5, none⟩ = some (.int .i64 n53) ∧
                      br (decide ((n53 : Int) > b_2)) (
                        ∀ q30 : Nat,
                        H43 q30 = none →
                        letH (Heap.upd H43 q30 (.cells #[.int .i64 b_2, .int .i64 b_3, .int .i64 b_4, .int .i64 (b_5.n : Nat), .int .i64 b_0] 83 (0, 0))) fun H44 =>
                        runH Try.prog (Builtin.append_ #[79, 79] 79 #[.slice out_4.p out_4.n out_4.c, .slice (some ⟨q30, 0, none⟩) 1 1]) H44 fun r19 H45 =>
                          ∃ l35 : Sl,
                          r19 = .slice l35.p l35.n l35.c ∧
                          ∃ l36 : Sl,
                          cellH H45 ⟨t, to, none⟩ = some (.slice l36.p l36.n l36.c) ∧
                          ∃ q31 : Nat,
                          ∃ o15 : Nat,
                          (l36.p : Option Addr) = some ⟨q31, o15, none⟩ ∧
                          0 ≤ (i_4 : Int) ∧
                          (i_4 : Int) < (l36.n : Nat) ∧
                          ∃ n54 : Int,
                          cellH H45 ⟨q31, o15 + Int.toNat i_4 * 5, none⟩ = some (.int .i64 n54) ∧
                          ∃ n55 : Int,
                          cellH H45 ⟨q31, o15 + Int.toNat i_4 * 5 + 1, none⟩ = some (.int .i64 n55) ∧
                          ∃ n56 : Int,
                          cellH H45 ⟨q31, o15 + Int.toNat i_4 * 5 + 2, none⟩ = some (.int .i64 n56) ∧
                          ∃ n57 : Int,
                          cellH H45 ⟨q31, o15 + Int.toNat i_4 * 5 + 3, none⟩ = some (.int .i64 n57) ∧
                          ∃ n58 : Int,
                          cellH H45 ⟨q31, o15 + Int.toNat i_4 * 5 + 4, none⟩ = some (.int .i64 n58) ∧
                          ∀ q32 : Nat,
                          H45 q32 = none →
                          letH (Heap.upd H45 q32 (.cells #[.int .i64 n54, .int .i64 n55, .int .i64 n56, .int .i64 n57, .int .i64 n58] 83 (0, 0))) fun H46 =>
                          runH Try.prog (Builtin.append_ #[79, 79] 79 #[.slice l35.p l35.n l35.c, .slice (some ⟨q32, 0, none⟩) 1 1]) H46 fun r20 H47 =>
                            ∃ l37 : Sl,
                            r20 = .slice l37.p l37.n l37.c ∧
                            SelfEq ([.v (.pointer (some ⟨t, to, none⟩)), .loc 0 0, .loc 1 0], [some (33, [.int .i64 b_0, .int .i64 b_1, .int .i64 b_2, .int .i64 b_3, .int .i64 b_4, .slice b_5.p b_5.n b_5.c]), some (83, [.int .i64 b_2, .int .i64 b_3, .int .i64 b_4, .int .i64 (b_5.n : Nat), .int .i64 b_0])], []) ∧
                            I4 l37 true (IntKind.wrap .i64 (i_4 + 1)) H47 ∧
                            M4 l37 true (IntKind.wrap .i64 (i_4 + 1)) H47 < M4 out_4 placed_4 i_4 H43)
                       (
                        ∃ l38 : Sl,
                        cellH H43 ⟨t, to, none⟩ = some (.slice l38.p l38.n l38.c) ∧
                        ∃ q33 : Nat,
                        ∃ o16 : Nat,
                        (l38.p : Option Addr) = some ⟨q33, o16, none⟩ ∧
                        0 ≤ (i_4 : Int) ∧
                        (i_4 : Int) < (l38.n : Nat) ∧
                        ∃ n59 : Int,
                        cellH H43 ⟨q33, o16 + Int.toNat i_4 * 5, none⟩ = some (.int .i64 n59) ∧
                        ∃ n60 : Int,
                        cellH H43 ⟨q33, o16 + Int.toNat i_4 * 5 + 1, none⟩ = some (.int .i64 n60) ∧
                        ∃ n61 : Int,
                        cellH H43 ⟨q33, o16 + Int.toNat i_4 * 5 + 2, none⟩ = some (.int .i64 n61) ∧
                        ∃ n62 : Int,
                        cellH H43 ⟨q33, o16 + Int.toNat i_4 * 5 + 3, none⟩ = some (.int .i64 n62) ∧
                        ∃ n63 : Int,
                        cellH H43 ⟨q33, o16 + Int.toNat i_4 * 5 + 4, none⟩ = some (.int .i64 n63) ∧
                        ∀ q34 : Nat,
                        H43 q34 = none →
                        letH (Heap.upd H43 q34 (.cells #[.int .i64 n59, .int .i64 n60, .int .i64 n61, .int .i64 n62, .int .i64 n63] 83 (0, 0))) fun H48 =>
                        runH Try.prog (Builtin.append_ #[79, 79] 79 #[.slice out_4.p out_4.n out_4.c, .slice (some ⟨q34, 0, none⟩) 1 1]) H48 fun r21 H49 =>
                          ∃ l39 : Sl,
                          r21 = .slice l39.p l39.n l39.c ∧
                          SelfEq ([.v (.pointer (some ⟨t, to, none⟩)), .loc 0 0, .loc 1 0], [some (33, [.int .i64 b_0, .int .i64 b_1, .int .i64 b_2, .int .i64 b_3, .int .i64 b_4, .slice b_5.p b_5.n b_5.c]), some (83, [.int .i64 b_2, .int .i64 b_3, .int .i64 b_4, .int .i64 (b_5.n : Nat), .int .i64 b_0])], []) ∧
                          I4 l39 placed_4 (IntKind.wrap .i64 (i_4 + 1)) H49 ∧
                          M4 l39 placed_4 (IntKind.wrap .i64 (i_4 + 1)) H49 < M4 out_4 placed_4 i_4 H43))
                     (
                      ∃ l40 : Sl,
                      cellH H43 ⟨t, to, none⟩ = some (.slice l40.p l40.n l40.c) ∧
                      ∃ q35 : Nat,
                      ∃ o17 : Nat,
                      (l40.p : Option Addr) = some ⟨q35, o17, none⟩ ∧
                      0 ≤ (i_4 : Int) ∧
                      (i_4 : Int) < (l40.n : Nat) ∧
                      ∃ n64 : Int,
                      cellH H43 ⟨q35, o17 + Int.toNat i_4 * 5, none⟩ = some (.int .i64 n64) ∧
                      ∃ n65 : Int,
                      cellH H43 ⟨q35, o17 + Int.toNat i_4 * 5 + 1, none⟩ = some (.int .i64 n65) ∧
                      ∃ n66 : Int,
                      cellH H43 ⟨q35, o17 + Int.toNat i_4 * 5 + 2, none⟩ = some (.int .i64 n66) ∧
                      ∃ n67 : Int,
                      cellH H43 ⟨q35, o17 + Int.toNat i_4 * 5 + 3, none⟩ = some (.int .i64 n67) ∧
                      ∃ n68 : Int,
                      cellH H43 ⟨q35, o17 + Int.toNat i_4 * 5 + 4, none⟩ = some (.int .i64 n68) ∧
                      ∀ q36 : Nat,
                      H43 q36 = none →
                      letH (Heap.upd H43 q36 (.cells #[.int .i64 n64, .int .i64 n65, .int .i64 n66, .int .i64 n67, .int .i64 n68] 83 (0, 0))) fun H50 =>
                      runH Try.prog (Builtin.append_ #[79, 79] 79 #[.slice out_4.p out_4.n out_4.c, .slice (some ⟨q36, 0, none⟩) 1 1]) H50 fun r22 H51 =>
                        ∃ l41 : Sl,
                        r22 = .slice l41.p l41.n l41.c ∧
                        SelfEq ([.v (.pointer (some ⟨t, to, none⟩)), .loc 0 0, .loc 1 0], [some (33, [.int .i64 b_0, .int .i64 b_1, .int .i64 b_2, .int .i64 b_3, .int .i64 b_4, .slice b_5.p b_5.n b_5.c]), some (83, [.int .i64 b_2, .int .i64 b_3, .int .i64 b_4, .int .i64 (b_5.n : Nat), .int .i64 b_0])], []) ∧
                        I4 l41 placed_4 (IntKind.wrap .i64 (i_4 + 1)) H51 ∧
                        M4 l41 placed_4 (IntKind.wrap .i64 (i_4 + 1)) H51 < M4 out_4 placed_4 i_4 H43))
                   (
                    br (!placed_4) (
                      ∀ q37 : Nat,
                      H43 q37 = none →
                      letH (Heap.upd H43 q37 (.cells #[.int .i64 b_2, .int .i64 b_3, .int .i64 b_4, .int .i64 (b_5.n : Nat), .int .i64 b_0] 83 (0, 0))) fun H52 =>
                      runH Try.prog (Builtin.append_ #[79, 79] 79 #[.slice out_4.p out_4.n out_4.c, .slice (some ⟨q37, 0, none⟩) 1 1]) H52 fun r23 H53 =>
                        ∃ l42 : Sl,
                        r23 = .slice l42.p l42.n l42.c ∧
                        (∃ u, cellH H53 ⟨t, to, none⟩ = some u) ∧
                        frozenH H53 ⟨t, to, none⟩ = false ∧
                        letH (Heap.set H53 ⟨t, to, none⟩ (.slice l42.p l42.n l42.c)) fun H54 =>
                        K (.tuple #[]) H54)
                     (
                      (∃ u, cellH H43 ⟨t, to, none⟩ = some u) ∧
                      frozenH H43 ⟨t, to, none⟩ = false ∧
                      letH (Heap.set H43 ⟨t, to, none⟩ (.slice out_4.p out_4.n out_4.c)) fun H55 =>
                      K (.tuple #[]) H55)))))))
theorem logboomref8_Table_Note_eq (t : Nat) (to : Nat) (b_0 : Int) (b_1 : Int) (b_2 : Int) (b_3 : Int) (b_4 : Int) (b_5 : Sl) (H : Heap) (K : Value → Heap → Prop) : logboomref8_Table_Note_vc t to b_0 b_1 b_2 b_3 b_4 b_5 H K = denFn Try.prog logboomref8_Table_Note_ann Try.f24 (bodyOf Try.f24) [.pointer (some ⟨t, to, none⟩), .agg #[.int .i64 b_0, .int .i64 b_1, .int .i64 b_2, .int .i64 b_3, .int .i64 b_4, .slice b_5.p b_5.n b_5.c]] H K := by kernel_rfl
theorem logboomref8_Table_Note_fn (t : Nat) (to : Nat) (b_0 : Int) (b_1 : Int) (b_2 : Int) (b_3 : Int) (b_4 : Int) (b_5 : Sl) {H : Heap} {K : Value → Heap → Prop} (h : logboomref8_Table_Note_vc t to b_0 b_1 b_2 b_3 b_4 b_5 H K) : FnH Try.prog 24 #[.pointer (some ⟨t, to, none⟩), .agg #[.int .i64 b_0, .int .i64 b_1, .int .i64 b_2, .int .i64 b_3, .int .i64 b_4, .slice b_5.p b_5.n b_5.c]] H K :=
  denFn_fn Try.mixed logboomref8_Table_Note_ann Try.func24 (bodyOf_spec (by kernel_rfl)) (logboomref8_Table_Note_eq t to b_0 b_1 b_2 b_3 b_4 b_5 H K) h

/-! function 25: (*logboom/logboomref8.Table).Ask -/
def logboomref8_Table_Ask_ann : Anns := { hid := [], loops := [(0, { slots := [(18, .int .i64)], kept := [3, 4, 16, 17], locs := [], keptL := [] })], joins := [((0, 20), { slots := [(99, .bool)], kept := [3, 4, 16, 17, 18], locs := [], keptL := [] })], mix := [] }
def logboomref8_Table_Ask_vc (t : Nat) (to : Nat) (pid : Int) (epoch : Int) (seq : Int) (n : Int) (H : Heap) (K : Value → Heap → Prop) : Prop :=
  FnH Try.prog 39 #[.int .i64 pid, .int .i64 1000000000] H fun r1 H1 =>
    ∃ b1 : Bool,
    r1 = .bool b1 ∧
    FnH Try.prog 39 #[.int .i64 epoch, .int .i64 1000000000] H1 fun r2 H2 =>
      ∃ b2 : Bool,
      r2 = .bool b2 ∧
      FnH Try.prog 39 #[.int .i64 seq, .int .i64 1000000000] H2 fun r3 H3 =>
        ∃ b3 : Bool,
        r3 = .bool b3 ∧
        br (!b1) (
          K (.tuple #[.int .i64 (-1), .int .i64 1]) H3)
         (
          br (!b2) (
            K (.tuple #[.int .i64 (-1), .int .i64 1]) H3)
           (
            br (!b3) (
              K (.tuple #[.int .i64 (-1), .int .i64 1]) H3)
             (
              br (decide ((n : Int) < 1)) (
                K (.tuple #[.int .i64 (-1), .int .i64 1]) H3)
               (
                br (decide ((n : Int) > 64)) (
                  K (.tuple #[.int .i64 (-1), .int .i64 1]) H3)
                 (
                  br ((pid : Int) == 0) (
                    br ((epoch : Int) != 0) (
                      K (.tuple #[.int .i64 (-1), .int .i64 1]) H3)
                     (
                      br ((seq : Int) != 0) (
                        K (.tuple #[.int .i64 (-1), .int .i64 1]) H3)
                       (
                        br ((pid : Int) == 0) (
                          K (.tuple #[.int .i64 (-1), .int .i64 0]) H3)
                         (
                          br (decide ((seq : Int) > (IntKind.wrap .i64 (1000000 - (IntKind.wrap .i64 (n - 1)))))) (
                            K (.tuple #[.int .i64 (-1), .int .i64 20]) H3)
                           (
                            FnH Try.prog 45 #[.pointer (some ⟨t, to, none⟩), .int .i64 pid] H3 fun r4 H4 =>
                              ∃ l1 : Sl,
                              r4 = .slice l1.p l1.n l1.c ∧
                              FnH Try.prog 47 #[.slice l1.p l1.n l1.c] H4 fun r5 H5 =>
                                ∃ n1 : Int,
                                ∃ l2 : Sl,
                                ∃ n2 : Int,
                                r5 = .tuple #[.int .i64 n1, .slice l2.p l2.n l2.c, .int .i64 n2] ∧
                                br (decide ((epoch : Int) > n1)) (
                                  br ((seq : Int) != 0) (
                                    K (.tuple #[.int .i64 (-1), .int .i64 11]) H5)
                                   (
                                    K (.tuple #[.int .i64 (-1), .int .i64 0]) H5))
                                 (
                                  br (decide ((epoch : Int) < n1)) (
                                    K (.tuple #[.int .i64 (-1), .int .i64 13]) H5)
                                   (
                                    ∃ I1 : Int → Heap → Prop,
                                    ∃ M1 : Int → Heap → Nat,
                                    I1 0 H5 ∧
                                    ∀ i_1 : Int,
                                    ∀ H6 : Heap,
                                    I1 i_1 H6 →
                                    br (decide ((i_1 : Int) < (l2.n : Nat))) (
                                      ∃ J1 : Bool → Heap → Prop,
                                      (∃ q1 : Nat,
                                      ∃ o1 : Nat,
                                      (l2.p : Option Addr) = some ⟨q1, o1, none⟩ ∧
                                      0 ≤ (i_1 : Int) ∧
                                      (i_1 : Int) < (l2.n : Nat) ∧
                                      ∃ n3 : Int,
                                      cellH H6 ⟨q1, o1 + Int.toNat i_1 * 5 + 2, none⟩ = some (.int .i64 n3) ∧
                                      br ((n3 : Int) == seq) (
                                        ∃ q2 : Nat,
                                        ∃ o2 : Nat,
                                        (l2.p : Option Addr) = some ⟨q2, o2, none⟩ ∧
                                        0 ≤ (i_1 : Int) ∧
                                        (i_1 : Int) < (l2.n : Nat) ∧
                                        ∃ n4 : Int,
                                        cellH H6 ⟨q2, o2 + Int.toNat i_1 * 5 + 3, none⟩ = some (.int .i64 n4) ∧
                                        SelfEq ([.v (.int .i64 seq), .v (.int .i64 n), .v (.slice l2.p l2.n l2.c), .v (.int .i64 n2), .v (.int .i64 i_1)], [], []) ∧
                                        J1 ((n4 : Int) == n) H6)
                                       (
                                        SelfEq ([.v (.int .i64 seq), .v (.int .i64 n), .v (.slice l2.p l2.n l2.c), .v (.int .i64 n2), .v (.int .i64 i_1)], [], []) ∧
                                        J1 false H6)) ∧
                                      ∀ b_1 : Bool,
                                      ∀ H7 : Heap,
                                      J1 b_1 H7 →
                                      br (b_1) (
                                        ∃ q3 : Nat,
                                        ∃ o3 : Nat,
                                        (l2.p : Option Addr) = some ⟨q3, o3, none⟩ ∧
                                        0 ≤ (i_1 : Int) ∧
                                        (i_1 : Int) < (l2.n : Nat) ∧
                                        ∃ n5 : Int,
                                        cellH H7 ⟨q3, o3 + Int.toNat i_1 * 5 + 4, none⟩ = some (.int .i64 n5) ∧
                                        K (.tuple #[.int .i64 n5, .int .i64 0]) H7)
                                       (
                                        SelfEq ([.v (.int .i64 seq), .v (.int .i64 n), .v (.slice l2.p l2.n l2.c), .v (.int .i64 n2)], [], []) ∧
                                        I1 (IntKind.wrap .i64 (i_1 + 1)) H7 ∧
                                        M1 (IntKind.wrap .i64 (i_1 + 1)) H7 < M1 i_1 H6))
                                     (
                                      br ((seq : Int) == n2) (
                                        K (.tuple #[.int .i64 (-1), .int .i64 0]) H6)
                                       (
                                        br (decide ((seq : Int) > n2)) (
                                          K (.tuple #[.int .i64 (-1), .int .i64 11]) H6)
                                         (
                                          K (.tuple #[.int .i64 (-1), .int .i64 12]) H6))))))))))
                   (
                    br ((pid : Int) == 0) (
                      K (.tuple #[.int .i64 (-1), .int .i64 0]) H3)
                     (
                      br (decide ((seq : Int) > (IntKind.wrap .i64 (1000000 - (IntKind.wrap .i64 (n - 1)))))) (
                        K (.tuple #[.int .i64 (-1), .int .i64 20]) H3)
                       (
                        FnH Try.prog 45 #[.pointer (some ⟨t, to, none⟩), .int .i64 pid] H3 fun r6 H8 =>
                          ∃ l3 : Sl,
                          r6 = .slice l3.p l3.n l3.c ∧
                          FnH Try.prog 47 #[.slice l3.p l3.n l3.c] H8 fun r7 H9 =>
                            ∃ n6 : Int,
                            ∃ l4 : Sl,
                            ∃ n7 : Int,
                            r7 = .tuple #[.int .i64 n6, .slice l4.p l4.n l4.c, .int .i64 n7] ∧
                            br (decide ((epoch : Int) > n6)) (
                              br ((seq : Int) != 0) (
                                K (.tuple #[.int .i64 (-1), .int .i64 11]) H9)
                               (
                                K (.tuple #[.int .i64 (-1), .int .i64 0]) H9))
                             (
                              br (decide ((epoch : Int) < n6)) (
                                K (.tuple #[.int .i64 (-1), .int .i64 13]) H9)
                               (
                                ∃ I2 : Int → Heap → Prop,
                                ∃ M2 : Int → Heap → Nat,
                                I2 0 H9 ∧
                                ∀ i_2 : Int,
                                ∀ H10 : Heap,
                                I2 i_2 H10 →
                                br (decide ((i_2 : Int) < (l4.n : Nat))) (
                                  ∃ J2 : Bool → Heap → Prop,
                                  (∃ q4 : Nat,
                                  ∃ o4 : Nat,
                                  (l4.p : Option Addr) = some ⟨q4, o4, none⟩ ∧
                                  0 ≤ (i_2 : Int) ∧
                                  (i_2 : Int) < (l4.n : Nat) ∧
                                  ∃ n8 : Int,
                                  cellH H10 ⟨q4, o4 + Int.toNat i_2 * 5 + 2, none⟩ = some (.int .i64 n8) ∧
                                  br ((n8 : Int) == seq) (
                                    ∃ q5 : Nat,
                                    ∃ o5 : Nat,
                                    (l4.p : Option Addr) = some ⟨q5, o5, none⟩ ∧
                                    0 ≤ (i_2 : Int) ∧
                                    (i_2 : Int) < (l4.n : Nat) ∧
                                    ∃ n9 : Int,
                                    cellH H10 ⟨q5, o5 + Int.toNat i_2 * 5 + 3, none⟩ = some (.int .i64 n9) ∧
                                    SelfEq ([.v (.int .i64 seq), .v (.int .i64 n), .v (.slice l4.p l4.n l4.c), .v (.int .i64 n7), .v (.int .i64 i_2)], [], []) ∧
                                    J2 ((n9 : Int) == n) H10)
                                   (
                                    SelfEq ([.v (.int .i64 seq), .v (.int .i64 n), .v (.slice l4.p l4.n l4.c), .v (.int .i64 n7), .v (.int .i64 i_2)], [], []) ∧
                                    J2 false H10)) ∧
                                  ∀ b_2 : Bool,
                                  ∀ H11 : Heap,
                                  J2 b_2 H11 →
                                  br (b_2) (
                                    ∃ q6 : Nat,
                                    ∃ o6 : Nat,
                                    (l4.p : Option Addr) = some ⟨q6, o6, none⟩ ∧
                                    0 ≤ (i_2 : Int) ∧
                                    (i_2 : Int) < (l4.n : Nat) ∧
                                    ∃ n10 : Int,
                                    cellH H11 ⟨q6, o6 + Int.toNat i_2 * 5 + 4, none⟩ = some (.int .i64 n10) ∧
                                    K (.tuple #[.int .i64 n10, .int .i64 0]) H11)
                                   (
                                    SelfEq ([.v (.int .i64 seq), .v (.int .i64 n), .v (.slice l4.p l4.n l4.c), .v (.int .i64 n7)], [], []) ∧
                                    I2 (IntKind.wrap .i64 (i_2 + 1)) H11 ∧
                                    M2 (IntKind.wrap .i64 (i_2 + 1)) H11 < M2 i_2 H10))
                                 (
                                  br ((seq : Int) == n7) (
                                    K (.tuple #[.int .i64 (-1), .int .i64 0]) H10)
                                   (
                                    br (decide ((seq : Int) > n7)) (
                                      K (.tuple #[.int .i64 (-1), .int .i64 11]) H10)
                                     (
                                      K (.tuple #[.int .i64 (-1), .int .i64 12]) H10)))))))))))))
theorem logboomref8_Table_Ask_eq (t : Nat) (to : Nat) (pid : Int) (epoch : Int) (seq : Int) (n : Int) (H : Heap) (K : Value → Heap → Prop) : logboomref8_Table_Ask_vc t to pid epoch seq n H K = denFn Try.prog logboomref8_Table_Ask_ann Try.f25 (bodyOf Try.f25) [.pointer (some ⟨t, to, none⟩), .int .i64 pid, .int .i64 epoch, .int .i64 seq, .int .i64 n] H K := by kernel_rfl
theorem logboomref8_Table_Ask_fn (t : Nat) (to : Nat) (pid : Int) (epoch : Int) (seq : Int) (n : Int) {H : Heap} {K : Value → Heap → Prop} (h : logboomref8_Table_Ask_vc t to pid epoch seq n H K) : FnH Try.prog 25 #[.pointer (some ⟨t, to, none⟩), .int .i64 pid, .int .i64 epoch, .int .i64 seq, .int .i64 n] H K :=
  denFn_fn Try.mixed logboomref8_Table_Ask_ann Try.func25 (bodyOf_spec (by kernel_rfl)) (logboomref8_Table_Ask_eq t to pid epoch seq n H K) h

/-! function 26: (*logboom/logboomref8.Table).Cut -/
def logboomref8_Table_Cut_ann : Anns := { hid := [], loops := [(0, { slots := [(4, .slice), (5, .int .i64)], kept := [0, 1], locs := [], keptL := [] })], joins := [], mix := [] }
def logboomref8_Table_Cut_vc (t : Nat) (to : Nat) (end0 : Int) (H : Heap) (K : Value → Heap → Prop) : Prop :=
  ∃ I1 : Sl → Int → Heap → Prop,
  ∃ M1 : Sl → Int → Heap → Nat,
  I1 ⟨none, 0, 0⟩ 0 H ∧
  ∀ out_1 : Sl,
  ∀ i_1 : Int,
  ∀ H1 : Heap,
  I1 out_1 i_1 H1 →
  ∃ l1 : Sl,
  cellH H1 ⟨t, to, none⟩ = some (.slice l1.p l1.n l1.c) ∧
  br (decide ((i_1 : Int) < (l1.n : Nat))) (
    ∃ l2 : Sl,
    cellH H1 ⟨t, to, none⟩ = some (.slice l2.p l2.n l2.c) ∧
    ∃ q1 : Nat,
    ∃ o1 : Nat,
    (l2.p : Option Addr) = some ⟨q1, o1, none⟩ ∧
    0 ≤ (i_1 : Int) ∧
    (i_1 : Int) < (l2.n : Nat) ∧
    ∃ n1 : Int,
    cellH H1 ⟨q1, o1 + Int.toNat i_1 * 5 + 4, none⟩ = some (.int .i64 n1) ∧
    br (decide ((n1 : Int) < end0)) (
      ∃ l3 : Sl,
      cellH H1 ⟨t, to, none⟩ = some (.slice l3.p l3.n l3.c) ∧
      ∃ q2 : Nat,
      ∃ o2 : Nat,
      (l3.p : Option Addr) = some ⟨q2, o2, none⟩ ∧
      0 ≤ (i_1 : Int) ∧
      (i_1 : Int) < (l3.n : Nat) ∧
      ∃ n2 : Int,
      cellH H1 ⟨q2, o2 + Int.toNat i_1 * 5, none⟩ = some (.int .i64 n2) ∧
      ∃ n3 : Int,
      cellH H1 ⟨q2, o2 + Int.toNat i_1 * 5 + 1, none⟩ = some (.int .i64 n3) ∧
      ∃ n4 : Int,
      cellH H1 ⟨q2, o2 + Int.toNat i_1 * 5 + 2, none⟩ = some (.int .i64 n4) ∧
      ∃ n5 : Int,
      cellH H1 ⟨q2, o2 + Int.toNat i_1 * 5 + 3, none⟩ = some (.int .i64 n5) ∧
      ∃ n6 : Int,
      cellH H1 ⟨q2, o2 + Int.toNat i_1 * 5 + 4, none⟩ = some (.int .i64 n6) ∧
      ∀ q3 : Nat,
      H1 q3 = none →
      letH (Heap.upd H1 q3 (.cells #[.int .i64 n2, .int .i64 n3, .int .i64 n4, .int .i64 n5, .int .i64 n6] 83 (0, 0))) fun H2 =>
      runH Try.prog (Builtin.append_ #[79, 79] 79 #[.slice out_1.p out_1.n out_1.c, .slice (some ⟨q3, 0, none⟩) 1 1]) H2 fun r1 H3 =>
        ∃ l4 : Sl,
        r1 = .slice l4.p l4.n l4.c ∧
        SelfEq ([.v (.pointer (some ⟨t, to, none⟩)), .v (.int .i64 end0)], [], []) ∧
        I1 l4 (IntKind.wrap .i64 (i_1 + 1)) H3 ∧
        M1 l4 (IntKind.wrap .i64 (i_1 + 1)) H3 < M1 out_1 i_1 H1)
     (
      SelfEq ([.v (.pointer (some ⟨t, to, none⟩)), .v (.int .i64 end0)], [], []) ∧
      I1 out_1 (IntKind.wrap .i64 (i_1 + 1)) H1 ∧
      M1 out_1 (IntKind.wrap .i64 (i_1 + 1)) H1 < M1 out_1 i_1 H1))
   (
    (∃ u, cellH H1 ⟨t, to, none⟩ = some u) ∧
    frozenH H1 ⟨t, to, none⟩ = false ∧
    letH (Heap.set H1 ⟨t, to, none⟩ (.slice out_1.p out_1.n out_1.c)) fun H4 =>
    K (.tuple #[]) H4)
theorem logboomref8_Table_Cut_eq (t : Nat) (to : Nat) (end0 : Int) (H : Heap) (K : Value → Heap → Prop) : logboomref8_Table_Cut_vc t to end0 H K = denFn Try.prog logboomref8_Table_Cut_ann Try.f26 (bodyOf Try.f26) [.pointer (some ⟨t, to, none⟩), .int .i64 end0] H K := by kernel_rfl
theorem logboomref8_Table_Cut_fn (t : Nat) (to : Nat) (end0 : Int) {H : Heap} {K : Value → Heap → Prop} (h : logboomref8_Table_Cut_vc t to end0 H K) : FnH Try.prog 26 #[.pointer (some ⟨t, to, none⟩), .int .i64 end0] H K :=
  denFn_fn Try.mixed logboomref8_Table_Cut_ann Try.func26 (bodyOf_spec (by kernel_rfl)) (logboomref8_Table_Cut_eq t to end0 H K) h

/-! function 27: (*logboom/logboomref8.Table).Delete -/
def logboomref8_Table_Delete_ann : Anns := { hid := [6, 10], loops := [(0, { slots := [(4, .slice), (5, .int .i64)], kept := [0, 1], locs := [], keptL := [] }), (2, { slots := [(7, .int .i64), (8, .bool), (9, .int .i64)], kept := [0, 1, 4, 5, 6], locs := [], keptL := [0] })], joins := [], mix := [] }
def logboomref8_Table_Delete_vc (t : Nat) (to : Nat) (start : Int) (H : Heap) (K : Value → Heap → Prop) : Prop :=
  ∃ I1 : Sl → Int → Heap → Prop,
  ∃ M1 : Sl → Int → Heap → Nat,
  I1 ⟨none, 0, 0⟩ 0 H ∧
  ∀ out_1 : Sl,
  ∀ i_1 : Int,
  ∀ H1 : Heap,
  I1 out_1 i_1 H1 →
  ∃ l1 : Sl,
  cellH H1 ⟨t, to, none⟩ = some (.slice l1.p l1.n l1.c) ∧
  br (decide ((i_1 : Int) < (l1.n : Nat))) (
    ∃ l2 : Sl,
    cellH H1 ⟨t, to, none⟩ = some (.slice l2.p l2.n l2.c) ∧
    ∃ q1 : Nat,
    ∃ o1 : Nat,
    (l2.p : Option Addr) = some ⟨q1, o1, none⟩ ∧
    0 ≤ (i_1 : Int) ∧
    (i_1 : Int) < (l2.n : Nat) ∧
    ∃ n1 : Int,
    cellH H1 ⟨q1, o1 + Int.toNat i_1 * 5, none⟩ = some (.int .i64 n1) ∧
    ∃ n2 : Int,
    cellH H1 ⟨q1, o1 + Int.toNat i_1 * 5 + 1, none⟩ = some (.int .i64 n2) ∧
    ∃ n3 : Int,
    cellH H1 ⟨q1, o1 + Int.toNat i_1 * 5 + 2, none⟩ = some (.int .i64 n3) ∧
    ∃ n4 : Int,
    cellH H1 ⟨q1, o1 + Int.toNat i_1 * 5 + 3, none⟩ = some (.int .i64 n4) ∧
    ∃ n5 : Int,
    cellH H1 ⟨q1, o1 + Int.toNat i_1 * 5 + 4, none⟩ = some (.int .i64 n5) ∧
    ∃ I2 : Int → Bool → Int → Heap → Prop,
    ∃ M2 : Int → Bool → Int → Heap → Nat,
    I2 0 false (IntKind.wrap .i64 (i_1 + 1)) H1 ∧
    ∀ behind_1 : Int,
    ∀ other_1 : Bool,
    ∀ k_1 : Int,
    ∀ H2 : Heap,
    I2 behind_1 other_1 k_1 H2 →
    ∃ l3 : Sl,
    cellH H2 ⟨t, to, none⟩ = some (.slice l3.p l3.n l3.c) ∧
    br (decide ((k_1 : Int) < (l3.n : Nat))) (
      ∃ l4 : Sl,
      cellH H2 ⟨t, to, none⟩ = some (.slice l4.p l4.n l4.c) ∧
      ∃ q2 : Nat,
      ∃ o2 : Nat,
      (l4.p : Option Addr) = some ⟨q2, o2, none⟩ ∧
      0 ≤ (k_1 : Int) ∧
      (k_1 : Int) < (l4.n : Nat) ∧
      ∃ n6 : Int,
      cellH H2 ⟨q2, o2 + Int.toNat k_1 * 5, none⟩ = some (.int .i64 n6) ∧
      ∃ n7 : Int,
      cellH H2 ⟨q2, o2 + Int.toNat k_1 * 5 + 1, none⟩ = some (.int .i64 n7) ∧
      ∃ n8 : Int,
      cellH H2 ⟨q2, o2 + Int.toNat k_1 * 5 + 2, none⟩ = some (.int .i64 n8) ∧
      ∃ n9 : Int,
      cellH H2 ⟨q2, o2 + Int.toNat k_1 * 5 + 3, none⟩ = some (.int .i64 n9) ∧
      ∃ n10 : Int,
      cellH H2 ⟨q2, o2 + Int.toNat k_1 * 5 + 4, none⟩ = some (.int .i64 n10) ∧
      br ((n6 : Int) != n1) (
        SelfEq ([.v (.pointer (some ⟨t, to, none⟩)), .v (.int .i64 start), .v (.slice out_1.p out_1.n out_1.c), .v (.int .i64 i_1), .loc 0 0], [some (83, [.int .i64 n1, .int .i64 n2, .int .i64 n3, .int .i64 n4, .int .i64 n5])], []) ∧
        I2 behind_1 other_1 (IntKind.wrap .i64 (k_1 + 1)) H2 ∧
        M2 behind_1 other_1 (IntKind.wrap .i64 (k_1 + 1)) H2 < M2 behind_1 other_1 k_1 H2)
       (
        br (decide ((n10 : Int) ≥ start)) (
          SelfEq ([.v (.pointer (some ⟨t, to, none⟩)), .v (.int .i64 start), .v (.slice out_1.p out_1.n out_1.c), .v (.int .i64 i_1), .loc 0 0], [some (83, [.int .i64 n1, .int .i64 n2, .int .i64 n3, .int .i64 n4, .int .i64 n5])], []) ∧
          I2 behind_1 other_1 (IntKind.wrap .i64 (k_1 + 1)) H2 ∧
          M2 behind_1 other_1 (IntKind.wrap .i64 (k_1 + 1)) H2 < M2 behind_1 other_1 k_1 H2)
         (
          br (other_1) (
            SelfEq ([.v (.pointer (some ⟨t, to, none⟩)), .v (.int .i64 start), .v (.slice out_1.p out_1.n out_1.c), .v (.int .i64 i_1), .loc 0 0], [some (83, [.int .i64 n1, .int .i64 n2, .int .i64 n3, .int .i64 n4, .int .i64 n5])], []) ∧
            I2 (IntKind.wrap .i64 (behind_1 + 1)) true (IntKind.wrap .i64 (k_1 + 1)) H2 ∧
            M2 (IntKind.wrap .i64 (behind_1 + 1)) true (IntKind.wrap .i64 (k_1 + 1)) H2 < M2 behind_1 other_1 k_1 H2)
           (
            SelfEq ([.v (.pointer (some ⟨t, to, none⟩)), .v (.int .i64 start), .v (.slice out_1.p out_1.n out_1.c), .v (.int .i64 i_1), .loc 0 0], [some (83, [.int .i64 n1, .int .i64 n2, .int .i64 n3, .int .i64 n4, .int .i64 n5])], []) ∧
            I2 (IntKind.wrap .i64 (behind_1 + 1)) ((n7 : Int) != n2) (IntKind.wrap .i64 (k_1 + 1)) H2 ∧
            M2 (IntKind.wrap .i64 (behind_1 + 1)) ((n7 : Int) != n2) (IntKind.wrap .i64 (k_1 + 1)) H2 < M2 behind_1 other_1 k_1 H2))))
     (
      br (decide ((n5 : Int) ≥ start)) (
        ∀ q3 : Nat,
        H2 q3 = none →
        letH (Heap.upd H2 q3 (.cells #[.int .i64 n1, .int .i64 n2, .int .i64 n3, .int .i64 n4, .int .i64 n5] 83 (0, 0))) fun H3 =>
        runH Try.prog (Builtin.append_ #[79, 79] 79 #[.slice out_1.p out_1.n out_1.c, .slice (some ⟨q3, 0, none⟩) 1 1]) H3 fun r1 H4 =>
          ∃ l5 : Sl,
          r1 = .slice l5.p l5.n l5.c ∧
          SelfEq ([.v (.pointer (some ⟨t, to, none⟩)), .v (.int .i64 start)], [], []) ∧
          I1 l5 (IntKind.wrap .i64 (i_1 + 1)) H4 ∧
          M1 l5 (IntKind.wrap .i64 (i_1 + 1)) H4 < M1 out_1 i_1 H1)
       (
        br (!other_1) (
          br (decide ((behind_1 : Int) < 5)) (
            ∀ q4 : Nat,
            H2 q4 = none →
            letH (Heap.upd H2 q4 (.cells #[.int .i64 n1, .int .i64 n2, .int .i64 n3, .int .i64 n4, .int .i64 n5] 83 (0, 0))) fun H5 =>
            runH Try.prog (Builtin.append_ #[79, 79] 79 #[.slice out_1.p out_1.n out_1.c, .slice (some ⟨q4, 0, none⟩) 1 1]) H5 fun r2 H6 =>
              ∃ l6 : Sl,
              r2 = .slice l6.p l6.n l6.c ∧
              SelfEq ([.v (.pointer (some ⟨t, to, none⟩)), .v (.int .i64 start)], [], []) ∧
              I1 l6 (IntKind.wrap .i64 (i_1 + 1)) H6 ∧
              M1 l6 (IntKind.wrap .i64 (i_1 + 1)) H6 < M1 out_1 i_1 H1)
           (
            SelfEq ([.v (.pointer (some ⟨t, to, none⟩)), .v (.int .i64 start)], [], []) ∧
            I1 out_1 (IntKind.wrap .i64 (i_1 + 1)) H2 ∧
            M1 out_1 (IntKind.wrap .i64 (i_1 + 1)) H2 < M1 out_1 i_1 H1))
         (
          SelfEq ([.v (.pointer (some ⟨t, to, none⟩)), .v (.int .i64 start)], [], []) ∧
          I1 out_1 (IntKind.wrap .i64 (i_1 + 1)) H2 ∧
          M1 out_1 (IntKind.wrap .i64 (i_1 + 1)) H2 < M1 out_1 i_1 H1))))
   (
    (∃ u, cellH H1 ⟨t, to, none⟩ = some u) ∧
    frozenH H1 ⟨t, to, none⟩ = false ∧
    letH (Heap.set H1 ⟨t, to, none⟩ (.slice out_1.p out_1.n out_1.c)) fun H7 =>
    K (.tuple #[]) H7)
theorem logboomref8_Table_Delete_eq (t : Nat) (to : Nat) (start : Int) (H : Heap) (K : Value → Heap → Prop) : logboomref8_Table_Delete_vc t to start H K = denFn Try.prog logboomref8_Table_Delete_ann Try.f27 (bodyOf Try.f27) [.pointer (some ⟨t, to, none⟩), .int .i64 start] H K := by kernel_rfl
theorem logboomref8_Table_Delete_fn (t : Nat) (to : Nat) (start : Int) {H : Heap} {K : Value → Heap → Prop} (h : logboomref8_Table_Delete_vc t to start H K) : FnH Try.prog 27 #[.pointer (some ⟨t, to, none⟩), .int .i64 start] H K :=
  denFn_fn Try.mixed logboomref8_Table_Delete_ann Try.func27 (bodyOf_spec (by kernel_rfl)) (logboomref8_Table_Delete_eq t to start H K) h

/-! function 38: (*logboom/logboomref3.Reader).Int -/
def logboomref3_Reader_Int_ann : Anns := { hid := [], loops := [], joins := [], mix := [] }
def logboomref3_Reader_Int_vc (r : Nat) (ro : Nat) (H : Heap) (K : Value → Heap → Prop) : Prop :=
  ∃ s1 : ByteArray,
  cellH H ⟨r, ro, none⟩ = some (.string s1) ∧
  FnH Try.prog 55 #[.string s1] H fun r1 H1 =>
    ∃ n1 : Int,
    ∃ n2 : Int,
    ∃ n3 : Int,
    r1 = .tuple #[.int .i64 n1, .int .i64 n2, .int .i64 n3] ∧
    br ((n3 : Int) != 0) (
      (∃ u, cellH H1 ⟨r, ro + 1, none⟩ = some u) ∧
      frozenH H1 ⟨r, ro + 1, none⟩ = false ∧
      letH (Heap.set H1 ⟨r, ro + 1, none⟩ (.bool true)) fun H2 =>
      (∃ u, cellH H2 ⟨r, ro, none⟩ = some u) ∧
      frozenH H2 ⟨r, ro, none⟩ = false ∧
      letH (Heap.set H2 ⟨r, ro, none⟩ (.string (⟨#[]⟩ : ByteArray))) fun H3 =>
      K (.int .i64 0) H3)
     (
      ∃ s2 : ByteArray,
      cellH H1 ⟨r, ro, none⟩ = some (.string s2) ∧
      0 ≤ (n2 : Int) ∧
      (n2 : Int) ≤ (s2.size : Nat) ∧
      (∃ u, cellH H1 ⟨r, ro, none⟩ = some u) ∧
      frozenH H1 ⟨r, ro, none⟩ = false ∧
      letH (Heap.set H1 ⟨r, ro, none⟩ (.string (s2.extract (Int.toNat n2) (Int.toNat (s2.size : Nat))))) fun H4 =>
      K (.int .i64 n1) H4)
theorem logboomref3_Reader_Int_eq (r : Nat) (ro : Nat) (H : Heap) (K : Value → Heap → Prop) : logboomref3_Reader_Int_vc r ro H K = denFn Try.prog logboomref3_Reader_Int_ann Try.f38 (bodyOf Try.f38) [.pointer (some ⟨r, ro, none⟩)] H K := by kernel_rfl
theorem logboomref3_Reader_Int_fn (r : Nat) (ro : Nat) {H : Heap} {K : Value → Heap → Prop} (h : logboomref3_Reader_Int_vc r ro H K) : FnH Try.prog 38 #[.pointer (some ⟨r, ro, none⟩)] H K :=
  denFn_fn Try.mixed logboomref3_Reader_Int_ann Try.func38 (bodyOf_spec (by kernel_rfl)) (logboomref3_Reader_Int_eq r ro H K) h

/-! function 39: logboom/logboomref8.within -/
def logboomref8_within_ann : Anns := { hid := [], loops := [], joins := [], mix := [] }
def logboomref8_within_vc (n : Int) (most : Int) (H : Heap) (K : Value → Heap → Prop) : Prop :=
  br (decide ((n : Int) ≥ 0)) (
    K (.bool (decide ((n : Int) ≤ most))) H)
   (
    K (.bool false) H)
theorem logboomref8_within_eq (n : Int) (most : Int) (H : Heap) (K : Value → Heap → Prop) : logboomref8_within_vc n most H K = denFn Try.prog logboomref8_within_ann Try.f39 (bodyOf Try.f39) [.int .i64 n, .int .i64 most] H K := by kernel_rfl
theorem logboomref8_within_fn (n : Int) (most : Int) {H : Heap} {K : Value → Heap → Prop} (h : logboomref8_within_vc n most H K) : FnH Try.prog 39 #[.int .i64 n, .int .i64 most] H K :=
  denFn_fn Try.mixed logboomref8_within_ann Try.func39 (bodyOf_spec (by kernel_rfl)) (logboomref8_within_eq n most H K) h

/-! function 44: logboom/logboomref3.Int -/
def logboomref3_Int_ann : Anns := { hid := [], loops := [(0, { slots := [(3, .int .u64), (4, .slice)], kept := [], locs := [], keptL := [] })], joins := [], mix := [] }
def logboomref3_Int_vc (n : Int) (H : Heap) (K : Value → Heap → Prop) : Prop :=
  br (decide ((n : Int) < 0)) (
    ∃ I1 : Int → Sl → Heap → Prop,
    ∃ M1 : Int → Sl → Heap → Nat,
    I1 (IntKind.wrap .u64 ((IntKind.wrap .u64 (2 * (IntKind.wrap .u64 (IntKind.wrap .i64 (0 - (IntKind.wrap .i64 (n + 1))))))) + 1)) ⟨none, 0, 0⟩ H ∧
    ∀ z_1 : Int,
    ∀ b_1 : Sl,
    ∀ H1 : Heap,
    I1 z_1 b_1 H1 →
    br (decide ((z_1 : Int) ≥ 128)) (
      (128 : Int) ≠ 0 ∧
      ∀ q1 : Nat,
      H1 q1 = none →
      letH (Heap.upd H1 q1 (.cells #[.int .u8 (IntKind.wrap .u8 (IntKind.wrap .u64 ((Int.tmod z_1 128) + 128)))] 5 (0, 0))) fun H2 =>
      runH Try.prog (Builtin.append_ #[68, 68] 68 #[.slice b_1.p b_1.n b_1.c, .slice (some ⟨q1, 0, none⟩) 1 1]) H2 fun r1 H3 =>
        ∃ l1 : Sl,
        r1 = .slice l1.p l1.n l1.c ∧
        (128 : Int) ≠ 0 ∧
        SelfEq ([], [], []) ∧
        I1 (IntKind.wrap .u64 (Int.tdiv z_1 128)) l1 H3 ∧
        M1 (IntKind.wrap .u64 (Int.tdiv z_1 128)) l1 H3 < M1 z_1 b_1 H1)
     (
      ∀ q2 : Nat,
      H1 q2 = none →
      letH (Heap.upd H1 q2 (.cells #[.int .u8 (IntKind.wrap .u8 z_1)] 5 (0, 0))) fun H4 =>
      runH Try.prog (Builtin.append_ #[68, 68] 68 #[.slice b_1.p b_1.n b_1.c, .slice (some ⟨q2, 0, none⟩) 1 1]) H4 fun r2 H5 =>
        ∃ l2 : Sl,
        r2 = .slice l2.p l2.n l2.c ∧
        runH Try.prog (convert 68 9 (.slice l2.p l2.n l2.c)) H5 fun r3 H6 =>
          ∃ s1 : ByteArray,
          r3 = .string s1 ∧
          K (.string s1) H6))
   (
    ∃ I2 : Int → Sl → Heap → Prop,
    ∃ M2 : Int → Sl → Heap → Nat,
    I2 (IntKind.wrap .u64 (2 * (IntKind.wrap .u64 n))) ⟨none, 0, 0⟩ H ∧
    ∀ z_2 : Int,
    ∀ b_2 : Sl,
    ∀ H7 : Heap,
    I2 z_2 b_2 H7 →
    br (decide ((z_2 : Int) ≥ 128)) (
      (128 : Int) ≠ 0 ∧
      ∀ q3 : Nat,
      H7 q3 = none →
      letH (Heap.upd H7 q3 (.cells #[.int .u8 (IntKind.wrap .u8 (IntKind.wrap .u64 ((Int.tmod z_2 128) + 128)))] 5 (0, 0))) fun H8 =>
      runH Try.prog (Builtin.append_ #[68, 68] 68 #[.slice b_2.p b_2.n b_2.c, .slice (some ⟨q3, 0, none⟩) 1 1]) H8 fun r4 H9 =>
        ∃ l3 : Sl,
        r4 = .slice l3.p l3.n l3.c ∧
        (128 : Int) ≠ 0 ∧
        SelfEq ([], [], []) ∧
        I2 (IntKind.wrap .u64 (Int.tdiv z_2 128)) l3 H9 ∧
        M2 (IntKind.wrap .u64 (Int.tdiv z_2 128)) l3 H9 < M2 z_2 b_2 H7)
     (
      ∀ q4 : Nat,
      H7 q4 = none →
      letH (Heap.upd H7 q4 (.cells #[.int .u8 (IntKind.wrap .u8 z_2)] 5 (0, 0))) fun H10 =>
      runH Try.prog (Builtin.append_ #[68, 68] 68 #[.slice b_2.p b_2.n b_2.c, .slice (some ⟨q4, 0, none⟩) 1 1]) H10 fun r5 H11 =>
        ∃ l4 : Sl,
        r5 = .slice l4.p l4.n l4.c ∧
        runH Try.prog (convert 68 9 (.slice l4.p l4.n l4.c)) H11 fun r6 H12 =>
          ∃ s2 : ByteArray,
          r6 = .string s2 ∧
          K (.string s2) H12))
theorem logboomref3_Int_eq (n : Int) (H : Heap) (K : Value → Heap → Prop) : logboomref3_Int_vc n H K = denFn Try.prog logboomref3_Int_ann Try.f44 (bodyOf Try.f44) [.int .i64 n] H K := by kernel_rfl
theorem logboomref3_Int_fn (n : Int) {H : Heap} {K : Value → Heap → Prop} (h : logboomref3_Int_vc n H K) : FnH Try.prog 44 #[.int .i64 n] H K :=
  denFn_fn Try.mixed logboomref3_Int_ann Try.func44 (bodyOf_spec (by kernel_rfl)) (logboomref3_Int_eq n H K) h

/-! function 45: (*logboom/logboomref8.Table).of -/
def logboomref8_Table_of_ann : Anns := { hid := [], loops := [(0, { slots := [(5, .slice), (6, .int .i64)], kept := [0, 1], locs := [], keptL := [] })], joins := [], mix := [] }
def logboomref8_Table_of_vc (t : Nat) (to : Nat) (pid : Int) (H : Heap) (K : Value → Heap → Prop) : Prop :=
  ∃ I1 : Sl → Int → Heap → Prop,
  ∃ M1 : Sl → Int → Heap → Nat,
  I1 ⟨none, 0, 0⟩ 0 H ∧
  ∀ out_1 : Sl,
  ∀ i_1 : Int,
  ∀ H1 : Heap,
  I1 out_1 i_1 H1 →
  ∃ l1 : Sl,
  cellH H1 ⟨t, to, none⟩ = some (.slice l1.p l1.n l1.c) ∧
  br (decide ((i_1 : Int) < (l1.n : Nat))) (
    ∃ l2 : Sl,
    cellH H1 ⟨t, to, none⟩ = some (.slice l2.p l2.n l2.c) ∧
    ∃ q1 : Nat,
    ∃ o1 : Nat,
    (l2.p : Option Addr) = some ⟨q1, o1, none⟩ ∧
    0 ≤ (i_1 : Int) ∧
    (i_1 : Int) < (l2.n : Nat) ∧
    ∃ n1 : Int,
    cellH H1 ⟨q1, o1 + Int.toNat i_1 * 5, none⟩ = some (.int .i64 n1) ∧
    br ((n1 : Int) == pid) (
      ∃ l3 : Sl,
      cellH H1 ⟨t, to, none⟩ = some (.slice l3.p l3.n l3.c) ∧
      ∃ q2 : Nat,
      ∃ o2 : Nat,
      (l3.p : Option Addr) = some ⟨q2, o2, none⟩ ∧
      0 ≤ (i_1 : Int) ∧
      (i_1 : Int) < (l3.n : Nat) ∧
      ∃ n2 : Int,
      cellH H1 ⟨q2, o2 + Int.toNat i_1 * 5, none⟩ = some (.int .i64 n2) ∧
      ∃ n3 : Int,
      cellH H1 ⟨q2, o2 + Int.toNat i_1 * 5 + 1, none⟩ = some (.int .i64 n3) ∧
      ∃ n4 : Int,
      cellH H1 ⟨q2, o2 + Int.toNat i_1 * 5 + 2, none⟩ = some (.int .i64 n4) ∧
      ∃ n5 : Int,
      cellH H1 ⟨q2, o2 + Int.toNat i_1 * 5 + 3, none⟩ = some (.int .i64 n5) ∧
      ∃ n6 : Int,
      cellH H1 ⟨q2, o2 + Int.toNat i_1 * 5 + 4, none⟩ = some (.int .i64 n6) ∧
      ∀ q3 : Nat,
      H1 q3 = none →
      letH (Heap.upd H1 q3 (.cells #[.int .i64 n2, .int .i64 n3, .int .i64 n4, .int .i64 n5, .int .i64 n6] 83 (0, 0))) fun H2 =>
      runH Try.prog (Builtin.append_ #[79, 79] 79 #[.slice out_1.p out_1.n out_1.c, .slice (some ⟨q3, 0, none⟩) 1 1]) H2 fun r1 H3 =>
        ∃ l4 : Sl,
        r1 = .slice l4.p l4.n l4.c ∧
        SelfEq ([.v (.pointer (some ⟨t, to, none⟩)), .v (.int .i64 pid)], [], []) ∧
        I1 l4 (IntKind.wrap .i64 (i_1 + 1)) H3 ∧
        M1 l4 (IntKind.wrap .i64 (i_1 + 1)) H3 < M1 out_1 i_1 H1)
     (
      SelfEq ([.v (.pointer (some ⟨t, to, none⟩)), .v (.int .i64 pid)], [], []) ∧
      I1 out_1 (IntKind.wrap .i64 (i_1 + 1)) H1 ∧
      M1 out_1 (IntKind.wrap .i64 (i_1 + 1)) H1 < M1 out_1 i_1 H1))
   (
    K (.slice out_1.p out_1.n out_1.c) H1)
theorem logboomref8_Table_of_eq (t : Nat) (to : Nat) (pid : Int) (H : Heap) (K : Value → Heap → Prop) : logboomref8_Table_of_vc t to pid H K = denFn Try.prog logboomref8_Table_of_ann Try.f45 (bodyOf Try.f45) [.pointer (some ⟨t, to, none⟩), .int .i64 pid] H K := by kernel_rfl
theorem logboomref8_Table_of_fn (t : Nat) (to : Nat) (pid : Int) {H : Heap} {K : Value → Heap → Prop} (h : logboomref8_Table_of_vc t to pid H K) : FnH Try.prog 45 #[.pointer (some ⟨t, to, none⟩), .int .i64 pid] H K :=
  denFn_fn Try.mixed logboomref8_Table_of_ann Try.func45 (bodyOf_spec (by kernel_rfl)) (logboomref8_Table_of_eq t to pid H K) h

/-! function 46: logboom/logboomref3.Right -/
def logboomref3_Right_ann : Anns := { hid := [1], loops := [(0, { slots := [(5, .int .i64)], kept := [1, 3, 4], locs := [], keptL := [0] }), (2, { slots := [(6, .int .i64)], kept := [1, 3], locs := [], keptL := [0] }), (4, { slots := [(7, .int .i64)], kept := [1, 3], locs := [], keptL := [0] })], joins := [], mix := [] }
def logboomref3_Right_vc (b_0 : Int) (b_1 : Int) (b_2 : Int) (b_3 : Int) (b_4 : Int) (b_5 : Sl) (H : Heap) (K : Value → Heap → Prop) : Prop :=
  ∀ q1 : Nat,
  H q1 = none →
  letH (Heap.upd H q1 (.cells #[.int .i64 b_1, .int .i64 b_2, .int .i64 b_3, .int .i64 b_4] 3 (0, 0))) fun H1 =>
  ∃ I1 : Int → Heap → Prop,
  ∃ M1 : Int → Heap → Nat,
  I1 0 H1 ∧
  ∀ i_1 : Int,
  ∀ H2 : Heap,
  I1 i_1 H2 →
  br (decide ((i_1 : Int) < (4 : Nat))) (
    ∃ q2 : Nat,
    ∃ o1 : Nat,
    ((some ⟨q1, 0, none⟩) : Option Addr) = some ⟨q2, o1, none⟩ ∧
    0 ≤ (i_1 : Int) ∧
    (i_1 : Int) < (4 : Nat) ∧
    ∃ n1 : Int,
    cellH H2 ⟨q2, o1 + Int.toNat i_1, none⟩ = some (.int .i64 n1) ∧
    br (decide ((n1 : Int) < 0)) (
      K (.int .i64 1) H2)
     (
      ∃ q3 : Nat,
      ∃ o2 : Nat,
      ((some ⟨q1, 0, none⟩) : Option Addr) = some ⟨q3, o2, none⟩ ∧
      0 ≤ (i_1 : Int) ∧
      (i_1 : Int) < (4 : Nat) ∧
      ∃ n2 : Int,
      cellH H2 ⟨q3, o2 + Int.toNat i_1, none⟩ = some (.int .i64 n2) ∧
      br (decide ((n2 : Int) > 1000000000)) (
        K (.int .i64 1) H2)
       (
        SelfEq ([.loc 0 0, .v (.int .i64 (b_5.n : Nat)), .v (.slice (some ⟨q1, 0, none⟩) 4 4)], [some (33, [.int .i64 b_0, .int .i64 b_1, .int .i64 b_2, .int .i64 b_3, .int .i64 b_4, .slice b_5.p b_5.n b_5.c])], []) ∧
        I1 (IntKind.wrap .i64 (i_1 + 1)) H2 ∧
        M1 (IntKind.wrap .i64 (i_1 + 1)) H2 < M1 i_1 H2)))
   (
    br (decide ((b_0 : Int) < 0)) (
      K (.int .i64 1) H2)
     (
      br ((b_2 : Int) == 0) (
        br ((b_3 : Int) != 0) (
          K (.int .i64 1) H2)
         (
          br ((b_4 : Int) != 0) (
            K (.int .i64 1) H2)
           (
            br (((b_5.n : Nat) : Int) == 0) (
              K (.int .i64 1) H2)
             (
              ∃ I2 : Int → Heap → Prop,
              ∃ M2 : Int → Heap → Nat,
              I2 0 H2 ∧
              ∀ i_2 : Int,
              ∀ H3 : Heap,
              I2 i_2 H3 →
              br (decide ((i_2 : Int) < (b_5.n : Nat))) (
                ∃ q4 : Nat,
                ∃ o3 : Nat,
                (b_5.p : Option Addr) = some ⟨q4, o3, none⟩ ∧
                0 ≤ (i_2 : Int) ∧
                (i_2 : Int) < (b_5.n : Nat) ∧
                ∃ n3 : Int,
                cellH H3 ⟨q4, o3 + Int.toNat i_2 * 3 + 2, none⟩ = some (.int .i64 n3) ∧
                br (decide ((n3 : Int) < 0)) (
                  K (.int .i64 1) H3)
                 (
                  ∃ q5 : Nat,
                  ∃ o4 : Nat,
                  (b_5.p : Option Addr) = some ⟨q5, o4, none⟩ ∧
                  0 ≤ (i_2 : Int) ∧
                  (i_2 : Int) < (b_5.n : Nat) ∧
                  ∃ n4 : Int,
                  cellH H3 ⟨q5, o4 + Int.toNat i_2 * 3 + 2, none⟩ = some (.int .i64 n4) ∧
                  br (decide ((n4 : Int) > 1000000000)) (
                    K (.int .i64 1) H3)
                   (
                    SelfEq ([.loc 0 0, .v (.int .i64 (b_5.n : Nat))], [some (33, [.int .i64 b_0, .int .i64 b_1, .int .i64 b_2, .int .i64 b_3, .int .i64 b_4, .slice b_5.p b_5.n b_5.c])], []) ∧
                    I2 (IntKind.wrap .i64 (i_2 + 1)) H3 ∧
                    M2 (IntKind.wrap .i64 (i_2 + 1)) H3 < M2 i_2 H3)))
               (
                br (decide (((b_5.n : Nat) : Int) > 64)) (
                  K (.int .i64 3) H3)
                 (
                  ∃ I3 : Int → Heap → Prop,
                  ∃ M3 : Int → Heap → Nat,
                  I3 0 H3 ∧
                  ∀ i_3 : Int,
                  ∀ H4 : Heap,
                  I3 i_3 H4 →
                  br (decide ((i_3 : Int) < (b_5.n : Nat))) (
                    ∃ q6 : Nat,
                    ∃ o5 : Nat,
                    (b_5.p : Option Addr) = some ⟨q6, o5, none⟩ ∧
                    0 ≤ (i_3 : Int) ∧
                    (i_3 : Int) < (b_5.n : Nat) ∧
                    ∃ s1 : ByteArray,
                    cellH H4 ⟨q6, o5 + Int.toNat i_3 * 3, none⟩ = some (.string s1) ∧
                    br (decide (((s1.size : Nat) : Int) > 1000)) (
                      K (.int .i64 2) H4)
                     (
                      ∃ q7 : Nat,
                      ∃ o6 : Nat,
                      (b_5.p : Option Addr) = some ⟨q7, o6, none⟩ ∧
                      0 ≤ (i_3 : Int) ∧
                      (i_3 : Int) < (b_5.n : Nat) ∧
                      ∃ s2 : ByteArray,
                      cellH H4 ⟨q7, o6 + Int.toNat i_3 * 3 + 1, none⟩ = some (.string s2) ∧
                      br (decide (((s2.size : Nat) : Int) > 1000)) (
                        K (.int .i64 2) H4)
                       (
                        SelfEq ([.loc 0 0, .v (.int .i64 (b_5.n : Nat))], [some (33, [.int .i64 b_0, .int .i64 b_1, .int .i64 b_2, .int .i64 b_3, .int .i64 b_4, .slice b_5.p b_5.n b_5.c])], []) ∧
                        I3 (IntKind.wrap .i64 (i_3 + 1)) H4 ∧
                        M3 (IntKind.wrap .i64 (i_3 + 1)) H4 < M3 i_3 H4)))
                   (
                    br (decide ((b_0 : Int) > (IntKind.wrap .i64 (1000000000 - (IntKind.wrap .i64 ((b_5.n : Nat) - 1)))))) (
                      K (.int .i64 20) H4)
                     (
                      br (decide ((b_4 : Int) > (IntKind.wrap .i64 (1000000 - (IntKind.wrap .i64 ((b_5.n : Nat) - 1)))))) (
                        K (.int .i64 20) H4)
                       (
                        FnH Try.prog 60 #[.agg #[.int .i64 b_0, .int .i64 b_1, .int .i64 b_2, .int .i64 b_3, .int .i64 b_4, .slice b_5.p b_5.n b_5.c]] H4 fun r1 H5 =>
                          ∃ s3 : ByteArray,
                          r1 = .string s3 ∧
                          br (decide (((IntKind.wrap .i64 ((s3.size : Nat) + 8)) : Int) > 4096)) (
                            K (.int .i64 2) H5)
                           (
                            K (.int .i64 0) H5))))))))))
       (
        br (((b_5.n : Nat) : Int) == 0) (
          K (.int .i64 1) H2)
         (
          ∃ I4 : Int → Heap → Prop,
          ∃ M4 : Int → Heap → Nat,
          I4 0 H2 ∧
          ∀ i_4 : Int,
          ∀ H6 : Heap,
          I4 i_4 H6 →
          br (decide ((i_4 : Int) < (b_5.n : Nat))) (
            ∃ q8 : Nat,
            ∃ o7 : Nat,
            (b_5.p : Option Addr) = some ⟨q8, o7, none⟩ ∧
            0 ≤ (i_4 : Int) ∧
            (i_4 : Int) < (b_5.n : Nat) ∧
            ∃ n5 : Int,
            cellH H6 ⟨q8, o7 + Int.toNat i_4 * 3 + 2, none⟩ = some (.int .i64 n5) ∧
            br (decide ((n5 : Int) < 0)) (
              K (.int .i64 1) H6)
             (
              ∃ q9 : Nat,
              ∃ o8 : Nat,
              (b_5.p : Option Addr) = some ⟨q9, o8, none⟩ ∧
              0 ≤ (i_4 : Int) ∧
              (i_4 : Int) < (b_5.n : Nat) ∧
              ∃ n6 : Int,
              cellH H6 ⟨q9, o8 + Int.toNat i_4 * 3 + 2, none⟩ = some (.int .i64 n6) ∧
              br (decide ((n6 : Int) > 1000000000)) (
                K (.int .i64 1) H6)
               (
                SelfEq ([.loc 0 0, .v (.int .i64 (b_5.n : Nat))], [some (33, [.int .i64 b_0, .int .i64 b_1, .int .i64 b_2, .int .i64 b_3, .int .i64 b_4, .slice b_5.p b_5.n b_5.c])], []) ∧
                I4 (IntKind.wrap .i64 (i_4 + 1)) H6 ∧
                M4 (IntKind.wrap .i64 (i_4 + 1)) H6 < M4 i_4 H6)))
           (
            br (decide (((b_5.n : Nat) : Int) > 64)) (
              K (.int .i64 3) H6)
             (
              ∃ I5 : Int → Heap → Prop,
              ∃ M5 : Int → Heap → Nat,
              I5 0 H6 ∧
              ∀ i_5 : Int,
              ∀ H7 : Heap,
              I5 i_5 H7 →
              br (decide ((i_5 : Int) < (b_5.n : Nat))) (
                ∃ q10 : Nat,
                ∃ o9 : Nat,
                (b_5.p : Option Addr) = some ⟨q10, o9, none⟩ ∧
                0 ≤ (i_5 : Int) ∧
                (i_5 : Int) < (b_5.n : Nat) ∧
                ∃ s4 : ByteArray,
                cellH H7 ⟨q10, o9 + Int.toNat i_5 * 3, none⟩ = some (.string s4) ∧
                br (decide (((s4.size : Nat) : Int) > 1000)) (
                  K (.int .i64 2) H7)
                 (
                  ∃ q11 : Nat,
                  ∃ o10 : Nat,
                  (b_5.p : Option Addr) = some ⟨q11, o10, none⟩ ∧
                  0 ≤ (i_5 : Int) ∧
                  (i_5 : Int) < (b_5.n : Nat) ∧
                  ∃ s5 : ByteArray,
                  cellH H7 ⟨q11, o10 + Int.toNat i_5 * 3 + 1, none⟩ = some (.string s5) ∧
                  br (decide (((s5.size : Nat) : Int) > 1000)) (
                    K (.int .i64 2) H7)
                   (
                    SelfEq ([.loc 0 0, .v (.int .i64 (b_5.n : Nat))], [some (33, [.int .i64 b_0, .int .i64 b_1, .int .i64 b_2, .int .i64 b_3, .int .i64 b_4, .slice b_5.p b_5.n b_5.c])], []) ∧
                    I5 (IntKind.wrap .i64 (i_5 + 1)) H7 ∧
                    M5 (IntKind.wrap .i64 (i_5 + 1)) H7 < M5 i_5 H7)))
               (
                br (decide ((b_0 : Int) > (IntKind.wrap .i64 (1000000000 - (IntKind.wrap .i64 ((b_5.n : Nat) - 1)))))) (
                  K (.int .i64 20) H7)
                 (
                  br (decide ((b_4 : Int) > (IntKind.wrap .i64 (1000000 - (IntKind.wrap .i64 ((b_5.n : Nat) - 1)))))) (
                    K (.int .i64 20) H7)
                   (
                    FnH Try.prog 60 #[.agg #[.int .i64 b_0, .int .i64 b_1, .int .i64 b_2, .int .i64 b_3, .int .i64 b_4, .slice b_5.p b_5.n b_5.c]] H7 fun r2 H8 =>
                      ∃ s6 : ByteArray,
                      r2 = .string s6 ∧
                      br (decide (((IntKind.wrap .i64 ((s6.size : Nat) + 8)) : Int) > 4096)) (
                        K (.int .i64 2) H8)
                       (
                        K (.int .i64 0) H8))))))))))
theorem logboomref3_Right_eq (b_0 : Int) (b_1 : Int) (b_2 : Int) (b_3 : Int) (b_4 : Int) (b_5 : Sl) (H : Heap) (K : Value → Heap → Prop) : logboomref3_Right_vc b_0 b_1 b_2 b_3 b_4 b_5 H K = denFn Try.prog logboomref3_Right_ann Try.f46 (bodyOf Try.f46) [.agg #[.int .i64 b_0, .int .i64 b_1, .int .i64 b_2, .int .i64 b_3, .int .i64 b_4, .slice b_5.p b_5.n b_5.c]] H K := by kernel_rfl
theorem logboomref3_Right_fn (b_0 : Int) (b_1 : Int) (b_2 : Int) (b_3 : Int) (b_4 : Int) (b_5 : Sl) {H : Heap} {K : Value → Heap → Prop} (h : logboomref3_Right_vc b_0 b_1 b_2 b_3 b_4 b_5 H K) : FnH Try.prog 46 #[.agg #[.int .i64 b_0, .int .i64 b_1, .int .i64 b_2, .int .i64 b_3, .int .i64 b_4, .slice b_5.p b_5.n b_5.c]] H K :=
  denFn_fn Try.mixed logboomref3_Right_ann Try.func46 (bodyOf_spec (by kernel_rfl)) (logboomref3_Right_eq b_0 b_1 b_2 b_3 b_4 b_5 H K) h

/-! function 47: logboom/logboomref8.top -/
def logboomref8_top_ann : Anns := { hid := [], loops := [(0, { slots := [(5, .int .i64), (6, .int .i64)], kept := [0], locs := [], keptL := [] }), (2, { slots := [(7, .slice), (8, .int .i64), (9, .int .i64)], kept := [0, 5], locs := [], keptL := [] })], joins := [], mix := [] }
def logboomref8_top_vc (l : Sl) (H : Heap) (K : Value → Heap → Prop) : Prop :=
  ∃ I1 : Int → Int → Heap → Prop,
  ∃ M1 : Int → Int → Heap → Nat,
  I1 (-1) 0 H ∧
  ∀ e_1 : Int,
  ∀ i_1 : Int,
  ∀ H1 : Heap,
  I1 e_1 i_1 H1 →
  br (decide ((i_1 : Int) < (l.n : Nat))) (
    ∃ q1 : Nat,
    ∃ o1 : Nat,
    (l.p : Option Addr) = some ⟨q1, o1, none⟩ ∧
    0 ≤ (i_1 : Int) ∧
    (i_1 : Int) < (l.n : Nat) ∧
    ∃ n1 : Int,
    cellH H1 ⟨q1, o1 + Int.toNat i_1 * 5 + 1, none⟩ = some (.int .i64 n1) ∧
    SelfEq ([.v (.slice l.p l.n l.c)], [], []) ∧
    I1 (if n1 > e_1 then n1 else e_1) (IntKind.wrap .i64 (i_1 + 1)) H1 ∧
    M1 (if n1 > e_1 then n1 else e_1) (IntKind.wrap .i64 (i_1 + 1)) H1 < M1 e_1 i_1 H1)
   (
    ∃ I2 : Sl → Int → Int → Heap → Prop,
    ∃ M2 : Sl → Int → Int → Heap → Nat,
    I2 ⟨none, 0, 0⟩ 0 0 H1 ∧
    ∀ last_1 : Sl,
    ∀ next_1 : Int,
    ∀ i_2 : Int,
    ∀ H2 : Heap,
    I2 last_1 next_1 i_2 H2 →
    br (decide ((i_2 : Int) < (l.n : Nat))) (
      ∃ q2 : Nat,
      ∃ o2 : Nat,
      (l.p : Option Addr) = some ⟨q2, o2, none⟩ ∧
      0 ≤ (i_2 : Int) ∧
      (i_2 : Int) < (l.n : Nat) ∧
      ∃ n2 : Int,
      cellH H2 ⟨q2, o2 + Int.toNat i_2 * 5 + 1, none⟩ = some (.int .i64 n2) ∧
      br ((n2 : Int) == e_1) (
        ∃ q3 : Nat,
        ∃ o3 : Nat,
        (l.p : Option Addr) = some ⟨q3, o3, none⟩ ∧
        0 ≤ (i_2 : Int) ∧
        (i_2 : Int) < (l.n : Nat) ∧
        ∃ n3 : Int,
        cellH H2 ⟨q3, o3 + Int.toNat i_2 * 5, none⟩ = some (.int .i64 n3) ∧
        ∃ n4 : Int,
        cellH H2 ⟨q3, o3 + Int.toNat i_2 * 5 + 1, none⟩ = some (.int .i64 n4) ∧
        ∃ n5 : Int,
        cellH H2 ⟨q3, o3 + Int.toNat i_2 * 5 + 2, none⟩ = some (.int .i64 n5) ∧
        ∃ n6 : Int,
        cellH H2 ⟨q3, o3 + Int.toNat i_2 * 5 + 3, none⟩ = some (.int .i64 n6) ∧
        ∃ n7 : Int,
        cellH H2 ⟨q3, o3 + Int.toNat i_2 * 5 + 4, none⟩ = some (.int .i64 n7) ∧
        ∀ q4 : Nat,
        H2 q4 = none →
        letH (Heap.upd H2 q4 (.cells #[.int .i64 n3, .int .i64 n4, .int .i64 n5, .int .i64 n6, .int .i64 n7] 83 (0, 0))) fun H3 =>
        runH Try.prog (Builtin.append_ #[79, 79] 79 #[.slice last_1.p last_1.n last_1.c, .slice (some ⟨q4, 0, none⟩) 1 1]) H3 fun r1 H4 =>
          ∃ l1 : Sl,
          r1 = .slice l1.p l1.n l1.c ∧
          ∃ q5 : Nat,
          ∃ o4 : Nat,
          (l.p : Option Addr) = some ⟨q5, o4, none⟩ ∧
          0 ≤ (i_2 : Int) ∧
          (i_2 : Int) < (l.n : Nat) ∧
          ∃ n8 : Int,
          cellH H4 ⟨q5, o4 + Int.toNat i_2 * 5 + 2, none⟩ = some (.int .i64 n8) ∧
          ∃ q6 : Nat,
          ∃ o5 : Nat,
          (l.p : Option Addr) = some ⟨q6, o5, none⟩ ∧
          0 ≤ (i_2 : Int) ∧
          (i_2 : Int) < (l.n : Nat) ∧
          ∃ n9 : Int,
          cellH H4 ⟨q6, o5 + Int.toNat i_2 * 5 + 3, none⟩ = some (.int .i64 n9) ∧
          SelfEq ([.v (.slice l.p l.n l.c), .v (.int .i64 e_1)], [], []) ∧
          I2 l1 (IntKind.wrap .i64 (n8 + n9)) (IntKind.wrap .i64 (i_2 + 1)) H4 ∧
          M2 l1 (IntKind.wrap .i64 (n8 + n9)) (IntKind.wrap .i64 (i_2 + 1)) H4 < M2 last_1 next_1 i_2 H2)
       (
        SelfEq ([.v (.slice l.p l.n l.c), .v (.int .i64 e_1)], [], []) ∧
        I2 last_1 next_1 (IntKind.wrap .i64 (i_2 + 1)) H2 ∧
        M2 last_1 next_1 (IntKind.wrap .i64 (i_2 + 1)) H2 < M2 last_1 next_1 i_2 H2))
     (
      br (decide (((last_1.n : Nat) : Int) > 5)) (
        0 ≤ (IntKind.wrap .i64 ((last_1.n : Nat) - 5) : Int) ∧
        (IntKind.wrap .i64 ((last_1.n : Nat) - 5) : Int) ≤ (last_1.n : Nat) ∧
        K (.tuple #[.int .i64 e_1, .slice (slP last_1.p last_1.c (IntKind.wrap .i64 ((last_1.n : Nat) - 5)) 5) (Int.toNat ((last_1.n : Nat) - (IntKind.wrap .i64 ((last_1.n : Nat) - 5)))) (Int.toNat ((last_1.c : Nat) - (IntKind.wrap .i64 ((last_1.n : Nat) - 5)))), .int .i64 next_1]) H2)
       (
        K (.tuple #[.int .i64 e_1, .slice last_1.p last_1.n last_1.c, .int .i64 next_1]) H2)))
theorem logboomref8_top_eq (l : Sl) (H : Heap) (K : Value → Heap → Prop) : logboomref8_top_vc l H K = denFn Try.prog logboomref8_top_ann Try.f47 (bodyOf Try.f47) [.slice l.p l.n l.c] H K := by kernel_rfl
theorem logboomref8_top_fn (l : Sl) {H : Heap} {K : Value → Heap → Prop} (h : logboomref8_top_vc l H K) : FnH Try.prog 47 #[.slice l.p l.n l.c] H K :=
  denFn_fn Try.mixed logboomref8_top_ann Try.func47 (bodyOf_spec (by kernel_rfl)) (logboomref8_top_eq l H K) h

/-! function 55: logboom/logboomref3.ReadInt -/
def logboomref3_ReadInt_ann : Anns := { hid := [], loops := [(0, { slots := [(5, .int .u64), (6, .int .u64), (7, .int .i64)], kept := [0], locs := [], keptL := [] })], joins := [], mix := [] }
def logboomref3_ReadInt_vc (b : ByteArray) (H : Heap) (K : Value → Heap → Prop) : Prop :=
  ∃ I1 : Int → Int → Int → Heap → Prop,
  ∃ M1 : Int → Int → Int → Heap → Nat,
  I1 0 1 0 H ∧
  ∀ z_1 : Int,
  ∀ worth_1 : Int,
  ∀ i_1 : Int,
  ∀ H1 : Heap,
  I1 z_1 worth_1 i_1 H1 →
  br (decide ((i_1 : Int) < 10)) (
    br (decide ((i_1 : Int) ≥ (b.size : Nat))) (
      K (.tuple #[.int .i64 0, .int .i64 0, .int .i64 5]) H1)
     (
      br ((i_1 : Int) == 9) (
        0 ≤ (i_1 : Int) ∧
        ∃ c1 : UInt8,
        b[Int.toNat i_1]? = some c1 ∧
        br (decide (((c1.toNat : Int) : Int) > 1)) (
          K (.tuple #[.int .i64 0, .int .i64 0, .int .i64 4]) H1)
         (
          0 ≤ (i_1 : Int) ∧
          ∃ c2 : UInt8,
          b[Int.toNat i_1]? = some c2 ∧
          (128 : Int) ≠ 0 ∧
          0 ≤ (i_1 : Int) ∧
          ∃ c3 : UInt8,
          b[Int.toNat i_1]? = some c3 ∧
          br (decide (((c3.toNat : Int) : Int) ≥ 128)) (
            SelfEq ([.v (.string b)], [], []) ∧
            I1 (IntKind.wrap .u64 (z_1 + (IntKind.wrap .u64 ((IntKind.wrap .u64 (Int.tmod (c2.toNat : Int) 128)) * worth_1)))) (IntKind.wrap .u64 (worth_1 * 128)) (IntKind.wrap .i64 (i_1 + 1)) H1 ∧
            M1 (IntKind.wrap .u64 (z_1 + (IntKind.wrap .u64 ((IntKind.wrap .u64 (Int.tmod (c2.toNat : Int) 128)) * worth_1)))) (IntKind.wrap .u64 (worth_1 * 128)) (IntKind.wrap .i64 (i_1 + 1)) H1 < M1 z_1 worth_1 i_1 H1)
           (
            br (decide ((i_1 : Int) > 0)) (
              0 ≤ (i_1 : Int) ∧
              ∃ c4 : UInt8,
              b[Int.toNat i_1]? = some c4 ∧
              br (((c4.toNat : Int) : Int) == 0) (
                K (.tuple #[.int .i64 0, .int .i64 0, .int .i64 4]) H1)
               (
                (2 : Int) ≠ 0 ∧
                br (((Int.tmod (IntKind.wrap .u64 (z_1 + (IntKind.wrap .u64 ((IntKind.wrap .u64 (Int.tmod (c2.toNat : Int) 128)) * worth_1)))) 2) : Int) == 1) (
                  (2 : Int) ≠ 0 ∧
                  K (.tuple #[.int .i64 (IntKind.wrap .i64 ((IntKind.wrap .i64 (0 - (IntKind.wrap .i64 (IntKind.wrap .u64 (Int.tdiv (IntKind.wrap .u64 (z_1 + (IntKind.wrap .u64 ((IntKind.wrap .u64 (Int.tmod (c2.toNat : Int) 128)) * worth_1)))) 2))))) - 1)), .int .i64 (IntKind.wrap .i64 (i_1 + 1)), .int .i64 0]) H1)
                 (
                  (2 : Int) ≠ 0 ∧
                  K (.tuple #[.int .i64 (IntKind.wrap .i64 (IntKind.wrap .u64 (Int.tdiv (IntKind.wrap .u64 (z_1 + (IntKind.wrap .u64 ((IntKind.wrap .u64 (Int.tmod (c2.toNat : Int) 128)) * worth_1)))) 2))), .int .i64 (IntKind.wrap .i64 (i_1 + 1)), .int .i64 0]) H1)))
             (
              (2 : Int) ≠ 0 ∧
              br (((Int.tmod (IntKind.wrap .u64 (z_1 + (IntKind.wrap .u64 ((IntKind.wrap .u64 (Int.tmod (c2.toNat : Int) 128)) * worth_1)))) 2) : Int) == 1) (
                (2 : Int) ≠ 0 ∧
                K (.tuple #[.int .i64 (IntKind.wrap .i64 ((IntKind.wrap .i64 (0 - (IntKind.wrap .i64 (IntKind.wrap .u64 (Int.tdiv (IntKind.wrap .u64 (z_1 + (IntKind.wrap .u64 ((IntKind.wrap .u64 (Int.tmod (c2.toNat : Int) 128)) * worth_1)))) 2))))) - 1)), .int .i64 (IntKind.wrap .i64 (i_1 + 1)), .int .i64 0]) H1)
               (
                (2 : Int) ≠ 0 ∧
                K (.tuple #[.int .i64 (IntKind.wrap .i64 (IntKind.wrap .u64 (Int.tdiv (IntKind.wrap .u64 (z_1 + (IntKind.wrap .u64 ((IntKind.wrap .u64 (Int.tmod (c2.toNat : Int) 128)) * worth_1)))) 2))), .int .i64 (IntKind.wrap .i64 (i_1 + 1)), .int .i64 0]) H1)))))
       (
        0 ≤ (i_1 : Int) ∧
        ∃ c5 : UInt8,
        b[Int.toNat i_1]? = some c5 ∧
        (128 : Int) ≠ 0 ∧
        0 ≤ (i_1 : Int) ∧
        ∃ c6 : UInt8,
        b[Int.toNat i_1]? = some c6 ∧
        br (decide (((c6.toNat : Int) : Int) ≥ 128)) (
          SelfEq ([.v (.string b)], [], []) ∧
          I1 (IntKind.wrap .u64 (z_1 + (IntKind.wrap .u64 ((IntKind.wrap .u64 (Int.tmod (c5.toNat : Int) 128)) * worth_1)))) (IntKind.wrap .u64 (worth_1 * 128)) (IntKind.wrap .i64 (i_1 + 1)) H1 ∧
          M1 (IntKind.wrap .u64 (z_1 + (IntKind.wrap .u64 ((IntKind.wrap .u64 (Int.tmod (c5.toNat : Int) 128)) * worth_1)))) (IntKind.wrap .u64 (worth_1 * 128)) (IntKind.wrap .i64 (i_1 + 1)) H1 < M1 z_1 worth_1 i_1 H1)
         (
          br (decide ((i_1 : Int) > 0)) (
            0 ≤ (i_1 : Int) ∧
            ∃ c7 : UInt8,
            b[Int.toNat i_1]? = some c7 ∧
            br (((c7.toNat : Int) : Int) == 0) (
              K (.tuple #[.int .i64 0, .int .i64 0, .int .i64 4]) H1)
             (
              (2 : Int) ≠ 0 ∧
              br (((Int.tmod (IntKind.wrap .u64 (z_1 + (IntKind.wrap .u64 ((IntKind.wrap .u64 (Int.tmod (c5.toNat : Int) 128)) * worth_1)))) 2) : Int) == 1) (
                (2 : Int) ≠ 0 ∧
                K (.tuple #[.int .i64 (IntKind.wrap .i64 ((IntKind.wrap .i64 (0 - (IntKind.wrap .i64 (IntKind.wrap .u64 (Int.tdiv (IntKind.wrap .u64 (z_1 + (IntKind.wrap .u64 ((IntKind.wrap .u64 (Int.tmod (c5.toNat : Int) 128)) * worth_1)))) 2))))) - 1)), .int .i64 (IntKind.wrap .i64 (i_1 + 1)), .int .i64 0]) H1)
               (
                (2 : Int) ≠ 0 ∧
                K (.tuple #[.int .i64 (IntKind.wrap .i64 (IntKind.wrap .u64 (Int.tdiv (IntKind.wrap .u64 (z_1 + (IntKind.wrap .u64 ((IntKind.wrap .u64 (Int.tmod (c5.toNat : Int) 128)) * worth_1)))) 2))), .int .i64 (IntKind.wrap .i64 (i_1 + 1)), .int .i64 0]) H1)))
           (
            (2 : Int) ≠ 0 ∧
            br (((Int.tmod (IntKind.wrap .u64 (z_1 + (IntKind.wrap .u64 ((IntKind.wrap .u64 (Int.tmod (c5.toNat : Int) 128)) * worth_1)))) 2) : Int) == 1) (
              (2 : Int) ≠ 0 ∧
              K (.tuple #[.int .i64 (IntKind.wrap .i64 ((IntKind.wrap .i64 (0 - (IntKind.wrap .i64 (IntKind.wrap .u64 (Int.tdiv (IntKind.wrap .u64 (z_1 + (IntKind.wrap .u64 ((IntKind.wrap .u64 (Int.tmod (c5.toNat : Int) 128)) * worth_1)))) 2))))) - 1)), .int .i64 (IntKind.wrap .i64 (i_1 + 1)), .int .i64 0]) H1)
             (
              (2 : Int) ≠ 0 ∧
              K (.tuple #[.int .i64 (IntKind.wrap .i64 (IntKind.wrap .u64 (Int.tdiv (IntKind.wrap .u64 (z_1 + (IntKind.wrap .u64 ((IntKind.wrap .u64 (Int.tmod (c5.toNat : Int) 128)) * worth_1)))) 2))), .int .i64 (IntKind.wrap .i64 (i_1 + 1)), .int .i64 0]) H1))))))
   (
    K (.tuple #[.int .i64 0, .int .i64 0, .int .i64 4]) H1)
theorem logboomref3_ReadInt_eq (b : ByteArray) (H : Heap) (K : Value → Heap → Prop) : logboomref3_ReadInt_vc b H K = denFn Try.prog logboomref3_ReadInt_ann Try.f55 (bodyOf Try.f55) [.string b] H K := by kernel_rfl
theorem logboomref3_ReadInt_fn (b : ByteArray) {H : Heap} {K : Value → Heap → Prop} (h : logboomref3_ReadInt_vc b H K) : FnH Try.prog 55 #[.string b] H K :=
  denFn_fn Try.mixed logboomref3_ReadInt_ann Try.func55 (bodyOf_spec (by kernel_rfl)) (logboomref3_ReadInt_eq b H K) h

/-! function 60: logboom/logboomref3.body -/
def logboomref3_body_ann : Anns := { hid := [1, 5], loops := [(0, { slots := [(3, .str), (4, .int .i64)], kept := [1], locs := [], keptL := [0] })], joins := [], mix := [(1, []), (6, [])] }
def logboomref3_body_vc (b_0 : Int) (b_1 : Int) (b_2 : Int) (b_3 : Int) (b_4 : Int) (b_5 : Sl) (H : Heap) (K : Value → Heap → Prop) : Prop :=
  FnH Try.prog 44 #[.int .i64 b_0] H fun r1 H1 =>
    ∃ s1 : ByteArray,
    r1 = .string s1 ∧
    Sub H H1 ∧
    FnH Try.prog 44 #[.int .i64 b_1] H1 fun r2 H2 =>
      ∃ s2 : ByteArray,
      r2 = .string s2 ∧
      Sub H H2 ∧
      s1.size + s2.size < 9223372036854775808 ∧
      FnH Try.prog 44 #[.int .i64 b_2] H2 fun r3 H3 =>
        ∃ s3 : ByteArray,
        r3 = .string s3 ∧
        Sub H H3 ∧
        (s1 ++ s2).size + s3.size < 9223372036854775808 ∧
        FnH Try.prog 44 #[.int .i64 b_3] H3 fun r4 H4 =>
          ∃ s4 : ByteArray,
          r4 = .string s4 ∧
          Sub H H4 ∧
          ((s1 ++ s2) ++ s3).size + s4.size < 9223372036854775808 ∧
          FnH Try.prog 44 #[.int .i64 b_4] H4 fun r5 H5 =>
            ∃ s5 : ByteArray,
            r5 = .string s5 ∧
            Sub H H5 ∧
            (((s1 ++ s2) ++ s3) ++ s4).size + s5.size < 9223372036854775808 ∧
            FnH Try.prog 44 #[.int .i64 (b_5.n : Nat)] H5 fun r6 H6 =>
              ∃ s6 : ByteArray,
              r6 = .string s6 ∧
              Sub H H6 ∧
              ((((s1 ++ s2) ++ s3) ++ s4) ++ s5).size + s6.size < 9223372036854775808 ∧
              ∃ I1 : ByteArray → Int → Heap → Prop,
              ∃ M1 : ByteArray → Int → Heap → Nat,
              I1 (((((s1 ++ s2) ++ s3) ++ s4) ++ s5) ++ s6) 0 H6 ∧
              ∀ s_1 : ByteArray,
              ∀ i_1 : Int,
              ∀ H7 : Heap,
              I1 s_1 i_1 H7 →
              br (decide ((i_1 : Int) < (b_5.n : Nat))) (
                ∃ q1 : Nat,
                ∃ o1 : Nat,
                (b_5.p : Option Addr) = some ⟨q1, o1, none⟩ ∧
                0 ≤ (i_1 : Int) ∧
                (i_1 : Int) < (b_5.n : Nat) ∧
                ∃ s7 : ByteArray,
                cellH H7 ⟨q1, o1 + Int.toNat i_1 * 3, none⟩ = some (.string s7) ∧
                ∃ s8 : ByteArray,
                cellH H7 ⟨q1, o1 + Int.toNat i_1 * 3 + 1, none⟩ = some (.string s8) ∧
                ∃ n1 : Int,
                cellH H7 ⟨q1, o1 + Int.toNat i_1 * 3 + 2, none⟩ = some (.int .i64 n1) ∧
                FnH Try.prog 44 #[.int .i64 n1] H7 fun r7 H8 =>
                  ∃ s9 : ByteArray,
                  r7 = .string s9 ∧
                  Sub H7 H8 ∧
                  s_1.size + s9.size < 9223372036854775808 ∧
                  FnH Try.prog 44 #[.int .i64 (s7.size : Nat)] H8 fun r8 H9 =>
                    ∃ s10 : ByteArray,
                    r8 = .string s10 ∧
                    Sub H7 H9 ∧
                    (s_1 ++ s9).size + s10.size < 9223372036854775808 ∧
                    ((s_1 ++ s9) ++ s10).size + s7.size < 9223372036854775808 ∧
                    FnH Try.prog 44 #[.int .i64 (s8.size : Nat)] H9 fun r9 H10 =>
                      ∃ s11 : ByteArray,
                      r9 = .string s11 ∧
                      Sub H7 H10 ∧
                      (((s_1 ++ s9) ++ s10) ++ s7).size + s11.size < 9223372036854775808 ∧
                      ((((s_1 ++ s9) ++ s10) ++ s7) ++ s11).size + s8.size < 9223372036854775808 ∧
                      SelfEq ([.loc 0 0], [some (33, [.int .i64 b_0, .int .i64 b_1, .int .i64 b_2, .int .i64 b_3, .int .i64 b_4, .slice b_5.p b_5.n b_5.c])], []) ∧
                      I1 (((((s_1 ++ s9) ++ s10) ++ s7) ++ s11) ++ s8) (IntKind.wrap .i64 (i_1 + 1)) H10 ∧
                      M1 (((((s_1 ++ s9) ++ s10) ++ s7) ++ s11) ++ s8) (IntKind.wrap .i64 (i_1 + 1)) H10 < M1 s_1 i_1 H7)
               (
                K (.string s_1) H7)
theorem logboomref3_body_eq (b_0 : Int) (b_1 : Int) (b_2 : Int) (b_3 : Int) (b_4 : Int) (b_5 : Sl) (H : Heap) (K : Value → Heap → Prop) : logboomref3_body_vc b_0 b_1 b_2 b_3 b_4 b_5 H K = denFn Try.prog logboomref3_body_ann Try.f60 (bodyOf Try.f60) [.agg #[.int .i64 b_0, .int .i64 b_1, .int .i64 b_2, .int .i64 b_3, .int .i64 b_4, .slice b_5.p b_5.n b_5.c]] H K := by kernel_rfl
theorem logboomref3_body_fn (b_0 : Int) (b_1 : Int) (b_2 : Int) (b_3 : Int) (b_4 : Int) (b_5 : Sl) {H : Heap} {K : Value → Heap → Prop} (h : logboomref3_body_vc b_0 b_1 b_2 b_3 b_4 b_5 H K) : FnH Try.prog 60 #[.agg #[.int .i64 b_0, .int .i64 b_1, .int .i64 b_2, .int .i64 b_3, .int .i64 b_4, .slice b_5.p b_5.n b_5.c]] H K :=
  denFn_fn Try.mixed logboomref3_body_ann Try.func60 (bodyOf_spec (by kernel_rfl)) (logboomref3_body_eq b_0 b_1 b_2 b_3 b_4 b_5 H K) h

end Go.Proofs.Ytkabaoigablphaa
