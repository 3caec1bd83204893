/- Formulas of functions, printed by this session's vc.py; each is tied to the program by the kernel. -/
import Derived.Test.YtkabaoigablphaaProg
import Derived.KernelRfl
import Derived.Test.YtkabaoigablphaaHlFn
import Derived.Test.YtkabaoigablphaaV6
namespace Go.Proofs.Ytkabaoigablphaa
open Go.HL
set_option maxRecDepth 100000
/-! function 20: logboom/logboomref8.Load -/
def logboomref8_Load_ann : Anns := { hid := [27, 11, 13], loops := [(0, { slots := [(7, .int .i64), (8, .int .i64)], kept := [4, 5, 6], locs := [(0, [.str, .bool])], keptL := [] }), (2, { slots := [(12, .int .i64)], kept := [4, 5, 6, 7, 8, 9, 10, 11], locs := [(0, [.str, .bool]), (1, [.int .i64, .int .i64, .int .i64, .int .i64, .int .i64])], keptL := [] })], joins := [], mix := [(3, []), (28, [7, 10])] }
def logboomref8_Load_vc (s : ByteArray) (H : Heap) (K : Value → Heap → Prop) : Prop :=
  br (decide (((s.size : Nat) : Int) < 4)) (
    K (.tuple #[.pointer none, .int .i64 5]) H)
   (
    0 ≤ (4 : Int) ∧
    (4 : Int) ≤ (s.size : Nat) ∧
    0 ≤ (4 : Int) ∧
    (4 : Int) ≤ (s.size : Nat) ∧
    FnH Try.prog 18 #[.string (s.extract (Int.toNat 4) (Int.toNat (s.size : Nat)))] H fun r1 H1 =>
      ∃ n1 : Int,
      r1 = .int .i64 n1 ∧
      Sub H H1 ∧
      FnH Try.prog 17 #[.int .i64 n1] H1 fun r2 H2 =>
        ∃ s1 : ByteArray,
        r2 = .string s1 ∧
        Sub H H2 ∧
        br (!(s1.toList == (s.extract (Int.toNat (0 : Int)) (Int.toNat 4)).toList)) (
          K (.tuple #[.pointer none, .int .i64 6]) H2)
         (
          0 ≤ (4 : Int) ∧
          (4 : Int) ≤ (s.size : Nat) ∧
          ∀ q1 : Nat,
          H2 q1 = none →
          letH (Heap.upd H2 q1 (.cells #[.slice none 0 0] 81 (0, 0))) fun H3 =>
          ∀ q2 : Nat,
          H3 q2 = none →
          FnH Try.prog 38 #[.pointer (some ⟨q2, 0, none⟩)] (Heap.upd H3 q2 (.cells #[.string (s.extract (Int.toNat 4) (Int.toNat (s.size : Nat))), .bool false] 78 (0, 0))) fun r3 H4 =>
            ∃ n2 : Int,
            r3 = .int .i64 n2 ∧
            ∃ s2 : ByteArray,
            ∃ b1 : Bool,
            H4 q2 = some (.cells #[.string s2, .bool b1] 78 (0, 0)) ∧
            letH (Heap.del H4 q2) fun H5 =>
            ∃ I1 : Int → Int → ByteArray → Bool → Heap → Prop,
            ∃ M1 : Int → Int → ByteArray → Bool → Heap → Nat,
            I1 0 0 s2 b1 H5 ∧
            ∀ last_1 : Int,
            ∀ i_1 : Int,
            ∀ s3 : ByteArray,
            ∀ b2 : Bool,
            ∀ H6 : Heap,
            I1 last_1 i_1 s3 b2 H6 →
            br (decide ((i_1 : Int) < n2)) (
              br (!b2) (
                ∀ q3 : Nat,
                H6 q3 = none →
                FnH Try.prog 38 #[.pointer (some ⟨q3, 0, none⟩)] (Heap.upd H6 q3 (.cells #[.string s3, .bool b2] 78 (0, 0))) fun r4 H7 =>
                  ∃ n3 : Int,
                  r4 = .int .i64 n3 ∧
                  ∃ s4 : ByteArray,
                  ∃ b3 : Bool,
                  H7 q3 = some (.cells #[.string s4, .bool b3] 78 (0, 0)) ∧
                  letH (Heap.del H7 q3) fun H8 =>
                  ∀ q4 : Nat,
                  H8 q4 = none →
                  FnH Try.prog 38 #[.pointer (some ⟨q4, 0, none⟩)] (Heap.upd H8 q4 (.cells #[.string s4, .bool b3] 78 (0, 0))) fun r5 H9 =>
                    ∃ n4 : Int,
                    r5 = .int .i64 n4 ∧
                    ∃ s5 : ByteArray,
                    ∃ b4 : Bool,
                    H9 q4 = some (.cells #[.string s5, .bool b4] 78 (0, 0)) ∧
                    letH (Heap.del H9 q4) fun H10 =>
                    br (decide ((n3 : Int) ≤ last_1)) (
                      K (.tuple #[.pointer none, .int .i64 4]) H10)
                     (
                      br (decide ((n3 : Int) > 1000000000)) (
                        K (.tuple #[.pointer none, .int .i64 4]) H10)
                       (
                        br (decide ((n4 : Int) < 1)) (
                          K (.tuple #[.pointer none, .int .i64 4]) H10)
                         (
                          ∃ I2 : Int → ByteArray → Bool → Int → Int → Int → Int → Int → Heap → Prop,
                          ∃ M2 : Int → ByteArray → Bool → Int → Int → Int → Int → Int → Heap → Nat,
                          I2 0 s5 b4 0 0 0 0 (-1) H10 ∧
                          ∀ k_1 : Int,
                          ∀ s6 : ByteArray,
                          ∀ b5 : Bool,
                          ∀ n5 : Int,
                          ∀ n6 : Int,
                          ∀ n7 : Int,
                          ∀ n8 : Int,
                          ∀ n9 : Int,
                          ∀ H11 : Heap,
                          I2 k_1 s6 b5 n5 n6 n7 n8 n9 H11 →
                          br (decide ((k_1 : Int) < n4)) (
                            br (!b5) (
                              ∀ q5 : Nat,
                              H11 q5 = none →
                              FnH Try.prog 38 #[.pointer (some ⟨q5, 0, none⟩)] (Heap.upd H11 q5 (.cells #[.string s6, .bool b5] 78 (0, 0))) fun r6 H12 =>
                                ∃ n10 : Int,
                                r6 = .int .i64 n10 ∧
                                ∃ s7 : ByteArray,
                                ∃ b6 : Bool,
                                H12 q5 = some (.cells #[.string s7, .bool b6] 78 (0, 0)) ∧
                                letH (Heap.del H12 q5) fun H13 =>
                                ∀ q6 : Nat,
                                H13 q6 = none →
                                FnH Try.prog 38 #[.pointer (some ⟨q6, 0, none⟩)] (Heap.upd H13 q6 (.cells #[.string s7, .bool b6] 78 (0, 0))) fun r7 H14 =>
                                  ∃ n11 : Int,
                                  r7 = .int .i64 n11 ∧
                                  ∃ s8 : ByteArray,
                                  ∃ b7 : Bool,
                                  H14 q6 = some (.cells #[.string s8, .bool b7] 78 (0, 0)) ∧
                                  letH (Heap.del H14 q6) fun H15 =>
                                  ∀ q7 : Nat,
                                  H15 q7 = none →
                                  FnH Try.prog 38 #[.pointer (some ⟨q7, 0, none⟩)] (Heap.upd H15 q7 (.cells #[.string s8, .bool b7] 78 (0, 0))) fun r8 H16 =>
                                    ∃ n12 : Int,
                                    r8 = .int .i64 n12 ∧
                                    ∃ s9 : ByteArray,
                                    ∃ b8 : Bool,
                                    H16 q7 = some (.cells #[.string s9, .bool b8] 78 (0, 0)) ∧
                                    letH (Heap.del H16 q7) fun H17 =>
                                    ∀ q8 : Nat,
                                    H17 q8 = none →
                                    FnH Try.prog 38 #[.pointer (some ⟨q8, 0, none⟩)] (Heap.upd H17 q8 (.cells #[.string s9, .bool b8] 78 (0, 0))) fun r9 H18 =>
                                      ∃ n13 : Int,
                                      r9 = .int .i64 n13 ∧
                                      ∃ s10 : ByteArray,
                                      ∃ b9 : Bool,
                                      H18 q8 = some (.cells #[.string s10, .bool b9] 78 (0, 0)) ∧
                                      letH (Heap.del H18 q8) fun H19 =>
                                      br (decide ((n12 : Int) < 1)) (
                                        K (.tuple #[.pointer none, .int .i64 4]) H19)
                                       (
                                        br (decide ((n12 : Int) > 64)) (
                                          K (.tuple #[.pointer none, .int .i64 4]) H19)
                                         (
                                          FnH Try.prog 39 #[.int .i64 n10, .int .i64 1000000000] H19 fun r10 H20 =>
                                            ∃ b10 : Bool,
                                            r10 = .bool b10 ∧
                                            br (!b10) (
                                              K (.tuple #[.pointer none, .int .i64 4]) H20)
                                             (
                                              FnH Try.prog 39 #[.int .i64 n11, .int .i64 (IntKind.wrap .i64 (1000000 - (IntKind.wrap .i64 (n12 - 1))))] H20 fun r11 H21 =>
                                                ∃ b11 : Bool,
                                                r11 = .bool b11 ∧
                                                br (!b11) (
                                                  K (.tuple #[.pointer none, .int .i64 4]) H21)
                                                 (
                                                  FnH Try.prog 39 #[.int .i64 n13, .int .i64 (IntKind.wrap .i64 (1000000000 - (IntKind.wrap .i64 (n12 - 1))))] H21 fun r12 H22 =>
                                                    ∃ b12 : Bool,
                                                    r12 = .bool b12 ∧
                                                    br (!b12) (
                                                      K (.tuple #[.pointer none, .int .i64 4]) H22)
                                                     (
                                                      br (decide ((n13 : Int) ≤ n9)) (
                                                        K (.tuple #[.pointer none, .int .i64 4]) H22)
                                                       (
                                                        br (decide ((n10 : Int) < n6)) (
                                                          K (.tuple #[.pointer none, .int .i64 4]) H22)
                                                         (
                                                          br (decide ((k_1 : Int) > 0)) (
                                                            br ((n10 : Int) == n6) (
                                                              br (decide ((n11 : Int) < (IntKind.wrap .i64 (n7 + n8)))) (
                                                                K (.tuple #[.pointer none, .int .i64 4]) H22)
                                                               (
                                                                ∃ l1 : Sl,
                                                                cellH H22 ⟨q1, 0, none⟩ = some (.slice l1.p l1.n l1.c) ∧
                                                                ∀ q9 : Nat,
                                                                H22 q9 = none →
                                                                letH (Heap.upd H22 q9 (.cells #[.int .i64 n3, .int .i64 n10, .int .i64 n11, .int .i64 n12, .int .i64 n13] 83 (0, 0))) fun H23 =>
                                                                Sub H22 H23 ∧
                                                                runH Try.prog (Builtin.append_ #[79, 79] 79 #[.slice l1.p l1.n l1.c, .slice (some ⟨q9, 0, none⟩) 1 1]) H23 fun r13 H24 =>
                                                                  ∃ l2 : Sl,
                                                                  r13 = .slice l2.p l2.n l2.c ∧
                                                                  (∃ u, cellH H24 ⟨q1, 0, none⟩ = some u) ∧
                                                                  frozenH H24 ⟨q1, 0, none⟩ = false ∧
                                                                  letH (Heap.set H24 ⟨q1, 0, none⟩ (.slice l2.p l2.n l2.c)) fun H25 =>
                                                                  SelfEq ([.loc 0 0, .v (.pointer (some ⟨q1, 0, none⟩)), .v (.int .i64 n2), .v (.int .i64 n3), .v (.int .i64 i_1), .v (.int .i64 n3), .v (.int .i64 n4), .loc 1 0], [], [78, 83]) ∧
                                                                  I2 (IntKind.wrap .i64 (k_1 + 1)) s10 b9 n3 n10 n11 n12 n13 H25 ∧
                                                                  M2 (IntKind.wrap .i64 (k_1 + 1)) s10 b9 n3 n10 n11 n12 n13 H25 < M2 k_1 s6 b5 n5 n6 n7 n8 n9 H11))
                                                             (
                                                              ∃ l3 : Sl,
                                                              cellH H22 ⟨q1, 0, none⟩ = some (.slice l3.p l3.n l3.c) ∧
                                                              ∀ q10 : Nat,
                                                              H22 q10 = none →
                                                              letH (Heap.upd H22 q10 (.cells #[.int .i64 n3, .int .i64 n10, .int .i64 n11, .int .i64 n12, .int .i64 n13] 83 (0, 0))) fun H26 =>
                                                              Sub H22 H26 ∧
                                                              runH Try.prog (Builtin.append_ #[79, 79] 79 #[.slice l3.p l3.n l3.c, .slice (some ⟨q10, 0, none⟩) 1 1]) H26 fun r14 H27 =>
                                                                ∃ l4 : Sl,
                                                                r14 = .slice l4.p l4.n l4.c ∧
                                                                (∃ u, cellH H27 ⟨q1, 0, none⟩ = some u) ∧
                                                                frozenH H27 ⟨q1, 0, none⟩ = false ∧
                                                                letH (Heap.set H27 ⟨q1, 0, none⟩ (.slice l4.p l4.n l4.c)) fun H28 =>
                                                                SelfEq ([.loc 0 0, .v (.pointer (some ⟨q1, 0, none⟩)), .v (.int .i64 n2), .v (.int .i64 n3), .v (.int .i64 i_1), .v (.int .i64 n3), .v (.int .i64 n4), .loc 1 0], [], [78, 83]) ∧
                                                                I2 (IntKind.wrap .i64 (k_1 + 1)) s10 b9 n3 n10 n11 n12 n13 H28 ∧
                                                                M2 (IntKind.wrap .i64 (k_1 + 1)) s10 b9 n3 n10 n11 n12 n13 H28 < M2 k_1 s6 b5 n5 n6 n7 n8 n9 H11))
                                                           (
                                                            ∃ l5 : Sl,
                                                            cellH H22 ⟨q1, 0, none⟩ = some (.slice l5.p l5.n l5.c) ∧
                                                            ∀ q11 : Nat,
                                                            H22 q11 = none →
                                                            letH (Heap.upd H22 q11 (.cells #[.int .i64 n3, .int .i64 n10, .int .i64 n11, .int .i64 n12, .int .i64 n13] 83 (0, 0))) fun H29 =>
                                                            Sub H22 H29 ∧
                                                            runH Try.prog (Builtin.append_ #[79, 79] 79 #[.slice l5.p l5.n l5.c, .slice (some ⟨q11, 0, none⟩) 1 1]) H29 fun r15 H30 =>
                                                              ∃ l6 : Sl,
                                                              r15 = .slice l6.p l6.n l6.c ∧
                                                              (∃ u, cellH H30 ⟨q1, 0, none⟩ = some u) ∧
                                                              frozenH H30 ⟨q1, 0, none⟩ = false ∧
                                                              letH (Heap.set H30 ⟨q1, 0, none⟩ (.slice l6.p l6.n l6.c)) fun H31 =>
                                                              SelfEq ([.loc 0 0, .v (.pointer (some ⟨q1, 0, none⟩)), .v (.int .i64 n2), .v (.int .i64 n3), .v (.int .i64 i_1), .v (.int .i64 n3), .v (.int .i64 n4), .loc 1 0], [], [78, 83]) ∧
                                                              I2 (IntKind.wrap .i64 (k_1 + 1)) s10 b9 n3 n10 n11 n12 n13 H31 ∧
                                                              M2 (IntKind.wrap .i64 (k_1 + 1)) s10 b9 n3 n10 n11 n12 n13 H31 < M2 k_1 s6 b5 n5 n6 n7 n8 n9 H11)))))))))
                             (
                              SelfEq ([.loc 0 0, .v (.pointer (some ⟨q1, 0, none⟩)), .v (.int .i64 n2)], [], [78]) ∧
                              I1 n3 (IntKind.wrap .i64 (i_1 + 1)) s6 b5 H11 ∧
                              M1 n3 (IntKind.wrap .i64 (i_1 + 1)) s6 b5 H11 < M1 last_1 i_1 s3 b2 H6))
                           (
                            SelfEq ([.loc 0 0, .v (.pointer (some ⟨q1, 0, none⟩)), .v (.int .i64 n2)], [], [78]) ∧
                            I1 n3 (IntKind.wrap .i64 (i_1 + 1)) s6 b5 H11 ∧
                            M1 n3 (IntKind.wrap .i64 (i_1 + 1)) s6 b5 H11 < M1 last_1 i_1 s3 b2 H6)))))
               (
                br (b2) (
                  K (.tuple #[.pointer none, .int .i64 4]) H6)
                 (
                  br (!(s3.toList == (⟨#[]⟩ : ByteArray).toList)) (
                    K (.tuple #[.pointer none, .int .i64 4]) H6)
                   (
                    br (decide ((n2 : Int) < 0)) (
                      K (.tuple #[.pointer none, .int .i64 4]) H6)
                     (
                      K (.tuple #[.pointer (some ⟨q1, 0, none⟩), .int .i64 0]) H6)))))
             (
              br (b2) (
                K (.tuple #[.pointer none, .int .i64 4]) H6)
               (
                br (!(s3.toList == (⟨#[]⟩ : ByteArray).toList)) (
                  K (.tuple #[.pointer none, .int .i64 4]) H6)
                 (
                  br (decide ((n2 : Int) < 0)) (
                    K (.tuple #[.pointer none, .int .i64 4]) H6)
                   (
                    K (.tuple #[.pointer (some ⟨q1, 0, none⟩), .int .i64 0]) H6))))))
theorem logboomref8_Load_eq (s : ByteArray) (H : Heap) (K : Value → Heap → Prop) : logboomref8_Load_vc s H K = denFn Try.prog logboomref8_Load_ann Try.f20 (bodyOf Try.f20) [.string s] H K := by kernel_rfl
theorem logboomref8_Load_fn (s : ByteArray) {H : Heap} {K : Value → Heap → Prop} (h : logboomref8_Load_vc s H K) : FnH Try.prog 20 #[.string s] H K :=
  denFn_fn Try.mixed logboomref8_Load_ann Try.func20 (bodyOf_spec (by kernel_rfl)) (logboomref8_Load_eq s H K) h

/-! function 22: (*logboom/logboomref8.Table).Keep -/
def logboomref8_Table_Keep_ann : Anns := { hid := [6], loops := [(0, { slots := [(3, .str), (4, .int .i64), (5, .int .i64)], kept := [0], locs := [], keptL := [] })], joins := [((0, 7), { slots := [(38, .bool)], kept := [0, 3, 4, 5, 6], locs := [], keptL := [0] })], mix := [(9, []), (10, [])] }
def logboomref8_Table_Keep_vc (t : Nat) (to : Nat) (H : Heap) (K : Value → Heap → Prop) : Prop :=
  ∃ I1 : ByteArray → Int → Int → Heap → Prop,
  ∃ M1 : ByteArray → Int → Int → Heap → Nat,
  I1 (⟨#[]⟩ : ByteArray) 0 0 H ∧
  ∀ s_1 : ByteArray,
  ∀ many_1 : Int,
  ∀ i_1 : Int,
  ∀ H1 : Heap,
  I1 s_1 many_1 i_1 H1 →
  ∃ l1 : Sl,
  cellH H1 ⟨t, to, none⟩ = some (.slice l1.p l1.n l1.c) ∧
  br (decide ((i_1 : Int) < (l1.n : Nat))) (
    ∃ l2 : Sl,
    cellH H1 ⟨t, to, none⟩ = some (.slice l2.p l2.n l2.c) ∧
    ∃ q1 : Nat,
    ∃ o1 : Nat,
    (l2.p : Option Addr) = some ⟨q1, o1, none⟩ ∧
    0 ≤ (i_1 : Int) ∧
    (i_1 : Int) < (l2.n : Nat) ∧
    ∃ n1 : Int,
    cellH H1 ⟨q1, o1 + Int.toNat i_1 * 5, none⟩ = some (.int .i64 n1) ∧
    ∃ n2 : Int,
    cellH H1 ⟨q1, o1 + Int.toNat i_1 * 5 + 1, none⟩ = some (.int .i64 n2) ∧
    ∃ n3 : Int,
    cellH H1 ⟨q1, o1 + Int.toNat i_1 * 5 + 2, none⟩ = some (.int .i64 n3) ∧
    ∃ n4 : Int,
    cellH H1 ⟨q1, o1 + Int.toNat i_1 * 5 + 3, none⟩ = some (.int .i64 n4) ∧
    ∃ n5 : Int,
    cellH H1 ⟨q1, o1 + Int.toNat i_1 * 5 + 4, none⟩ = some (.int .i64 n5) ∧
    ∃ J1 : Bool → Heap → Prop,
    (br ((i_1 : Int) == 0) (
      SelfEq ([.v (.pointer (some ⟨t, to, none⟩)), .v (.string s_1), .v (.int .i64 many_1), .v (.int .i64 i_1), .loc 0 0], [some (83, [.int .i64 n1, .int .i64 n2, .int .i64 n3, .int .i64 n4, .int .i64 n5])], []) ∧
      J1 true H1)
     (
      ∃ l3 : Sl,
      cellH H1 ⟨t, to, none⟩ = some (.slice l3.p l3.n l3.c) ∧
      ∃ q2 : Nat,
      ∃ o2 : Nat,
      (l3.p : Option Addr) = some ⟨q2, o2, none⟩ ∧
      0 ≤ ((IntKind.wrap .i64 (i_1 - 1)) : Int) ∧
      ((IntKind.wrap .i64 (i_1 - 1)) : Int) < (l3.n : Nat) ∧
      ∃ n6 : Int,
      cellH H1 ⟨q2, o2 + Int.toNat (IntKind.wrap .i64 (i_1 - 1)) * 5, none⟩ = some (.int .i64 n6) ∧
      SelfEq ([.v (.pointer (some ⟨t, to, none⟩)), .v (.string s_1), .v (.int .i64 many_1), .v (.int .i64 i_1), .loc 0 0], [some (83, [.int .i64 n1, .int .i64 n2, .int .i64 n3, .int .i64 n4, .int .i64 n5])], []) ∧
      J1 ((n6 : Int) != n1) H1)) ∧
    ∀ b_1 : Bool,
    ∀ H2 : Heap,
    J1 b_1 H2 →
    br (b_1) (
      FnH Try.prog 44 #[.int .i64 n1] H2 fun r1 H3 =>
        ∃ s1 : ByteArray,
        r1 = .string s1 ∧
        Sub H2 H3 ∧
        s_1.size + s1.size < 9223372036854775808 ∧
        FnH Try.prog 45 #[.pointer (some ⟨t, to, none⟩), .int .i64 n1] H3 fun r2 H4 =>
          ∃ l4 : Sl,
          r2 = .slice l4.p l4.n l4.c ∧
          Sub H2 H4 ∧
          FnH Try.prog 44 #[.int .i64 (l4.n : Nat)] H4 fun r3 H5 =>
            ∃ s2 : ByteArray,
            r3 = .string s2 ∧
            Sub H2 H5 ∧
            (s_1 ++ s1).size + s2.size < 9223372036854775808 ∧
            FnH Try.prog 44 #[.int .i64 n2] H5 fun r4 H6 =>
              ∃ s3 : ByteArray,
              r4 = .string s3 ∧
              Sub H5 H6 ∧
              ((s_1 ++ s1) ++ s2).size + s3.size < 9223372036854775808 ∧
              FnH Try.prog 44 #[.int .i64 n3] H6 fun r5 H7 =>
                ∃ s4 : ByteArray,
                r5 = .string s4 ∧
                Sub H5 H7 ∧
                (((s_1 ++ s1) ++ s2) ++ s3).size + s4.size < 9223372036854775808 ∧
                FnH Try.prog 44 #[.int .i64 n4] H7 fun r6 H8 =>
                  ∃ s5 : ByteArray,
                  r6 = .string s5 ∧
                  Sub H5 H8 ∧
                  ((((s_1 ++ s1) ++ s2) ++ s3) ++ s4).size + s5.size < 9223372036854775808 ∧
                  FnH Try.prog 44 #[.int .i64 n5] H8 fun r7 H9 =>
                    ∃ s6 : ByteArray,
                    r7 = .string s6 ∧
                    Sub H5 H9 ∧
                    (((((s_1 ++ s1) ++ s2) ++ s3) ++ s4) ++ s5).size + s6.size < 9223372036854775808 ∧
                    SelfEq ([.v (.pointer (some ⟨t, to, none⟩))], [], []) ∧
                    I1 ((((((s_1 ++ s1) ++ s2) ++ s3) ++ s4) ++ s5) ++ s6) (IntKind.wrap .i64 (many_1 + 1)) (IntKind.wrap .i64 (i_1 + 1)) H9 ∧
                    M1 ((((((s_1 ++ s1) ++ s2) ++ s3) ++ s4) ++ s5) ++ s6) (IntKind.wrap .i64 (many_1 + 1)) (IntKind.wrap .i64 (i_1 + 1)) H9 < M1 s_1 many_1 i_1 H1)
     (
      FnH Try.prog 44 #[.int .i64 n2] H2 fun r8 H10 =>
        ∃ s7 : ByteArray,
        r8 = .string s7 ∧
        Sub H2 H10 ∧
        s_1.size + s7.size < 9223372036854775808 ∧
        FnH Try.prog 44 #[.int .i64 n3] H10 fun r9 H11 =>
          ∃ s8 : ByteArray,
          r9 = .string s8 ∧
          Sub H2 H11 ∧
          (s_1 ++ s7).size + s8.size < 9223372036854775808 ∧
          FnH Try.prog 44 #[.int .i64 n4] H11 fun r10 H12 =>
            ∃ s9 : ByteArray,
            r10 = .string s9 ∧
            Sub H2 H12 ∧
            ((s_1 ++ s7) ++ s8).size + s9.size < 9223372036854775808 ∧
            FnH Try.prog 44 #[.int .i64 n5] H12 fun r11 H13 =>
              ∃ s10 : ByteArray,
              r11 = .string s10 ∧
              Sub H2 H13 ∧
              (((s_1 ++ s7) ++ s8) ++ s9).size + s10.size < 9223372036854775808 ∧
              SelfEq ([.v (.pointer (some ⟨t, to, none⟩))], [], []) ∧
              I1 ((((s_1 ++ s7) ++ s8) ++ s9) ++ s10) many_1 (IntKind.wrap .i64 (i_1 + 1)) H13 ∧
              M1 ((((s_1 ++ s7) ++ s8) ++ s9) ++ s10) many_1 (IntKind.wrap .i64 (i_1 + 1)) H13 < M1 s_1 many_1 i_1 H1))
   (
    FnH Try.prog 44 #[.int .i64 many_1] H1 fun r12 H14 =>
      ∃ s11 : ByteArray,
      r12 = .string s11 ∧
      s11.size + s_1.size < 9223372036854775808 ∧
      FnH Try.prog 18 #[.string (s11 ++ s_1)] H14 fun r13 H15 =>
        ∃ n7 : Int,
        r13 = .int .i64 n7 ∧
        FnH Try.prog 17 #[.int .i64 n7] H15 fun r14 H16 =>
          ∃ s12 : ByteArray,
          r14 = .string s12 ∧
          s12.size + (s11 ++ s_1).size < 9223372036854775808 ∧
          K (.string (s12 ++ (s11 ++ s_1))) H16)
theorem logboomref8_Table_Keep_eq (t : Nat) (to : Nat) (H : Heap) (K : Value → Heap → Prop) : logboomref8_Table_Keep_vc t to H K = denFn Try.prog logboomref8_Table_Keep_ann Try.f22 (bodyOf Try.f22) [.pointer (some ⟨t, to, none⟩)] H K := by kernel_rfl
theorem logboomref8_Table_Keep_fn (t : Nat) (to : Nat) {H : Heap} {K : Value → Heap → Prop} (h : logboomref8_Table_Keep_vc t to H K) : FnH Try.prog 22 #[.pointer (some ⟨t, to, none⟩)] H K :=
  denFn_fn Try.mixed logboomref8_Table_Keep_ann Try.func22 (bodyOf_spec (by kernel_rfl)) (logboomref8_Table_Keep_eq t to H K) h

/-! function 4: logboom/logboomlaw8.DedupLoads -/
def logboomlaw8_DedupLoads_ann : Anns := { hid := [], loops := [(0, { slots := [(5, .int .i64)], kept := [3, 4], locs := [], keptL := [] })], joins := [], mix := [(12, [])] }
def logboomlaw8_DedupLoads_vc (s : ByteArray) (H : Heap) (K : Value → Heap → Prop) : Prop :=
  FnH Try.prog 7 #[] H fun r1 H1 =>
    ∃ b1 : Bool,
    r1 = .bool b1 ∧
    br (decide (((s.size : Nat) : Int) > 20000)) (
      K (.bool b1) H1)
     (
      FnH Try.prog 18 #[.string s] H1 fun r2 H2 =>
        ∃ n1 : Int,
        r2 = .int .i64 n1 ∧
        FnH Try.prog 17 #[.int .i64 n1] H2 fun r3 H3 =>
          ∃ s1 : ByteArray,
          r3 = .string s1 ∧
          s1.size + s.size < 9223372036854775808 ∧
          ∀ q1 : Nat,
          H3 q1 = none →
          letH (Heap.upd H3 q1 (.cells #[.string s, .string (s1 ++ s)] 9 (0, 0))) fun H4 =>
          ∃ I1 : Int → Heap → Prop,
          ∃ M1 : Int → Heap → Nat,
          I1 0 H4 ∧
          ∀ i_1 : Int,
          ∀ H5 : Heap,
          I1 i_1 H5 →
          br (decide ((i_1 : Int) < (2 : Nat))) (
            ∃ q2 : Nat,
            ∃ o1 : Nat,
            ((some ⟨q1, 0, none⟩) : Option Addr) = some ⟨q2, o1, none⟩ ∧
            0 ≤ (i_1 : Int) ∧
            (i_1 : Int) < (2 : Nat) ∧
            ∃ s2 : ByteArray,
            cellH H5 ⟨q2, o1 + Int.toNat i_1, none⟩ = some (.string s2) ∧
            FnH Try.prog 19 #[.string s2] H5 fun r4 H6 =>
              ∃ p1 : Option Addr,
              ∃ n2 : Int,
              r4 = .tuple #[.pointer p1, .int .i64 n2] ∧
              ∃ q3 : Nat,
              ∃ o2 : Nat,
              ((some ⟨q1, 0, none⟩) : Option Addr) = some ⟨q3, o2, none⟩ ∧
              0 ≤ (i_1 : Int) ∧
              (i_1 : Int) < (2 : Nat) ∧
              ∃ s3 : ByteArray,
              cellH H6 ⟨q3, o2 + Int.toNat i_1, none⟩ = some (.string s3) ∧
              FnH Try.prog 20 #[.string s3] H6 fun r5 H7 =>
                ∃ p2 : Option Addr,
                ∃ n3 : Int,
                r5 = .tuple #[.pointer p2, .int .i64 n3] ∧
                br ((n2 : Int) != n3) (
                  K (.bool false) H7)
                 (
                  br (!((Option.isNone p1) == ((n3 : Int) != 0))) (
                    K (.bool false) H7)
                   (
                    br ((n3 : Int) == 0) (
                      ∃ q4 : Nat,
                      ∃ o3 : Nat,
                      ((some ⟨q1, 0, none⟩) : Option Addr) = some ⟨q4, o3, none⟩ ∧
                      0 ≤ (i_1 : Int) ∧
                      (i_1 : Int) < (2 : Nat) ∧
                      ∃ s4 : ByteArray,
                      cellH H7 ⟨q4, o3 + Int.toNat i_1, none⟩ = some (.string s4) ∧
                      FnH Try.prog 21 #[.pointer p1] H7 fun r6 H8 =>
                        ∃ s5 : ByteArray,
                        r6 = .string s5 ∧
                        Sub H7 H8 ∧
                        br (!(s5.toList == s4.toList)) (
                          K (.bool false) H8)
                         (
                          ∃ q5 : Nat,
                          ∃ o4 : Nat,
                          ((some ⟨q1, 0, none⟩) : Option Addr) = some ⟨q5, o4, none⟩ ∧
                          0 ≤ (i_1 : Int) ∧
                          (i_1 : Int) < (2 : Nat) ∧
                          ∃ s6 : ByteArray,
                          cellH H7 ⟨q5, o4 + Int.toNat i_1, none⟩ = some (.string s6) ∧
                          FnH Try.prog 22 #[.pointer p2] H8 fun r7 H9 =>
                            ∃ s7 : ByteArray,
                            r7 = .string s7 ∧
                            Sub H7 H9 ∧
                            br (!(s7.toList == s6.toList)) (
                              K (.bool false) H9)
                             (
                              SelfEq ([.v (.bool b1), .v (.slice (some ⟨q1, 0, none⟩) 2 2)], [], []) ∧
                              I1 (IntKind.wrap .i64 (i_1 + 1)) H9 ∧
                              M1 (IntKind.wrap .i64 (i_1 + 1)) H9 < M1 i_1 H5)))
                     (
                      SelfEq ([.v (.bool b1), .v (.slice (some ⟨q1, 0, none⟩) 2 2)], [], []) ∧
                      I1 (IntKind.wrap .i64 (i_1 + 1)) H7 ∧
                      M1 (IntKind.wrap .i64 (i_1 + 1)) H7 < M1 i_1 H5))))
           (
            K (.bool b1) H5))
theorem logboomlaw8_DedupLoads_eq (s : ByteArray) (H : Heap) (K : Value → Heap → Prop) : logboomlaw8_DedupLoads_vc s H K = denFn Try.prog logboomlaw8_DedupLoads_ann Try.f4 (bodyOf Try.f4) [.string s] H K := by kernel_rfl
theorem logboomlaw8_DedupLoads_fn (s : ByteArray) {H : Heap} {K : Value → Heap → Prop} (h : logboomlaw8_DedupLoads_vc s H K) : FnH Try.prog 4 #[.string s] H K :=
  denFn_fn Try.mixed logboomlaw8_DedupLoads_ann Try.func4 (bodyOf_spec (by kernel_rfl)) (logboomlaw8_DedupLoads_eq s H K) h

/-! function 5: logboom/logboomlaw8.DedupPlays -/
def logboomlaw8_DedupPlays_ann : Anns := { hid := [7, 8], loops := [(0, { slots := [(4, .ptr), (6, .int .i64)], kept := [0, 5], locs := [], keptL := [] })], joins := [], mix := [(14, [13])] }
def logboomlaw8_DedupPlays_vc (script : Sl) (H : Heap) (K : Value → Heap → Prop) : Prop :=
  FnH Try.prog 7 #[] H fun r1 H1 =>
    ∃ b1 : Bool,
    r1 = .bool b1 ∧
    FnH Try.prog 8 #[] H1 fun r2 H2 =>
      ∃ p1 : Option Addr,
      r2 = .pointer p1 ∧
      br (!b1) (
        K (.bool false) H2)
       (
        br (Option.isNone p1) (
          K (.bool false) H2)
         (
          FnH Try.prog 23 #[] H2 fun r3 H3 =>
            ∃ p2 : Option Addr,
            r3 = .pointer p2 ∧
            ∃ I1 : Option Addr → Int → Heap → Prop,
            ∃ M1 : Option Addr → Int → Heap → Nat,
            I1 p1 0 H3 ∧
            ∀ t_1 : Option Addr,
            ∀ i_1 : Int,
            ∀ H4 : Heap,
            I1 t_1 i_1 H4 →
            br (decide ((i_1 : Int) < (script.n : Nat))) (
              br (decide ((i_1 : Int) < 300)) (
                ∃ q1 : Nat,
                ∃ o1 : Nat,
                (script.p : Option Addr) = some ⟨q1, o1, none⟩ ∧
                0 ≤ (i_1 : Int) ∧
                (i_1 : Int) < (script.n : Nat) ∧
                ∃ n1 : Int,
                cellH H4 ⟨q1, o1 + Int.toNat i_1 * 6, none⟩ = some (.int .i64 n1) ∧
                ∃ n2 : Int,
                cellH H4 ⟨q1, o1 + Int.toNat i_1 * 6 + 1, none⟩ = some (.int .i64 n2) ∧
                ∃ n3 : Int,
                cellH H4 ⟨q1, o1 + Int.toNat i_1 * 6 + 2, none⟩ = some (.int .i64 n3) ∧
                ∃ n4 : Int,
                cellH H4 ⟨q1, o1 + Int.toNat i_1 * 6 + 3, none⟩ = some (.int .i64 n4) ∧
                ∃ n5 : Int,
                cellH H4 ⟨q1, o1 + Int.toNat i_1 * 6 + 4, none⟩ = some (.int .i64 n5) ∧
                ∃ n6 : Int,
                cellH H4 ⟨q1, o1 + Int.toNat i_1 * 6 + 5, none⟩ = some (.int .i64 n6) ∧
                FnH Try.prog 10 #[.int .i64 n1, .int .i64 9] H4 fun r4 H5 =>
                  ∃ n7 : Int,
                  r4 = .int .i64 n7 ∧
                  br ((n7 : Int) == 0) (
                    br ((n7 : Int) == 0) (
                      (FnH Try.prog 10 #[.int .i64 n5, .int .i64 70] H5 fun r5 H6 =>
                        ∃ n8 : Int,
                        r5 = .int .i64 n8 ∧
                        Sub H5 H6 ∧
                        (FnH Try.prog 13 #[.int .i64 n2, .int .i64 n3, .int .i64 n4, .int .i64 n8, .int .i64 n6] H6 fun r6 H7 =>
                          ∃ n9 : Int,
                          ∃ n10 : Int,
                          ∃ n11 : Int,
                          ∃ n12 : Int,
                          ∃ n13 : Int,
                          ∃ l1 : Sl,
                          r6 = .agg #[.int .i64 n9, .int .i64 n10, .int .i64 n11, .int .i64 n12, .int .i64 n13, .slice l1.p l1.n l1.c] ∧
                          Sub H5 H7 ∧
                          Sub H5 H7 ∧
                          FnH Try.prog 16 #[.pointer t_1, .agg #[.int .i64 n9, .int .i64 n10, .int .i64 n11, .int .i64 n12, .int .i64 n13, .slice l1.p l1.n l1.c]] H7 fun r7 H8 =>
                            r7 = .tuple #[] ∧
                            FnH Try.prog 24 #[.pointer p2, .agg #[.int .i64 n9, .int .i64 n10, .int .i64 n11, .int .i64 n12, .int .i64 n13, .slice l1.p l1.n l1.c]] H8 fun r8 H9 =>
                              r8 = .tuple #[] ∧
                              FnH Try.prog 21 #[.pointer t_1] H9 fun r9 H10 =>
                                ∃ s1 : ByteArray,
                                r9 = .string s1 ∧
                                FnH Try.prog 22 #[.pointer p2] H10 fun r10 H11 =>
                                  ∃ s2 : ByteArray,
                                  r10 = .string s2 ∧
                                  br (!(s1.toList == s2.toList)) (
                                    K (.bool false) H11)
                                   (
                                    SelfEq ([.v (.slice script.p script.n script.c), .v (.pointer p2)], [], []) ∧
                                    I1 t_1 (IntKind.wrap .i64 (i_1 + 1)) H11 ∧
                                    M1 t_1 (IntKind.wrap .i64 (i_1 + 1)) H11 < M1 t_1 i_1 H4)) ∧
                        Sub H5 H6 ∧
                        FnH Try.prog 13 #[.int .i64 n2, .int .i64 n3, .int .i64 n4, .int .i64 n8, .int .i64 n6] H6 fun r11 H12 =>
                          ∃ n14 : Int,
                          ∃ n15 : Int,
                          ∃ n16 : Int,
                          ∃ n17 : Int,
                          ∃ n18 : Int,
                          ∃ l2 : Sl,
                          r11 = .agg #[.int .i64 n14, .int .i64 n15, .int .i64 n16, .int .i64 n17, .int .i64 n18, .slice l2.p l2.n l2.c] ∧
                          Sub H5 H12 ∧
                          FnH Try.prog 16 #[.pointer t_1, .agg #[.int .i64 n14, .int .i64 n15, .int .i64 n16, .int .i64 n17, .int .i64 n18, .slice l2.p l2.n l2.c]] H12 fun r12 H13 =>
                            r12 = .tuple #[] ∧
                            FnH Try.prog 24 #[.pointer p2, .agg #[.int .i64 n14, .int .i64 n15, .int .i64 n16, .int .i64 n17, .int .i64 n18, .slice l2.p l2.n l2.c]] H13 fun r13 H14 =>
                              r13 = .tuple #[] ∧
                              FnH Try.prog 21 #[.pointer t_1] H14 fun r14 H15 =>
                                ∃ s3 : ByteArray,
                                r14 = .string s3 ∧
                                FnH Try.prog 22 #[.pointer p2] H15 fun r15 H16 =>
                                  ∃ s4 : ByteArray,
                                  r15 = .string s4 ∧
                                  br (!(s3.toList == s4.toList)) (
                                    K (.bool false) H16)
                                   (
                                    SelfEq ([.v (.slice script.p script.n script.c), .v (.pointer p2)], [], []) ∧
                                    I1 t_1 (IntKind.wrap .i64 (i_1 + 1)) H16 ∧
                                    M1 t_1 (IntKind.wrap .i64 (i_1 + 1)) H16 < M1 t_1 i_1 H4)) ∧
                      Sub H5 H5 ∧
                      FnH Try.prog 10 #[.int .i64 n5, .int .i64 70] H5 fun r16 H17 =>
                        ∃ n19 : Int,
                        r16 = .int .i64 n19 ∧
                        Sub H5 H17 ∧
                        FnH Try.prog 13 #[.int .i64 n2, .int .i64 n3, .int .i64 n4, .int .i64 n19, .int .i64 n6] H17 fun r17 H18 =>
                          ∃ n20 : Int,
                          ∃ n21 : Int,
                          ∃ n22 : Int,
                          ∃ n23 : Int,
                          ∃ n24 : Int,
                          ∃ l3 : Sl,
                          r17 = .agg #[.int .i64 n20, .int .i64 n21, .int .i64 n22, .int .i64 n23, .int .i64 n24, .slice l3.p l3.n l3.c] ∧
                          Sub H5 H18 ∧
                          FnH Try.prog 16 #[.pointer t_1, .agg #[.int .i64 n20, .int .i64 n21, .int .i64 n22, .int .i64 n23, .int .i64 n24, .slice l3.p l3.n l3.c]] H18 fun r18 H19 =>
                            r18 = .tuple #[] ∧
                            FnH Try.prog 24 #[.pointer p2, .agg #[.int .i64 n20, .int .i64 n21, .int .i64 n22, .int .i64 n23, .int .i64 n24, .slice l3.p l3.n l3.c]] H19 fun r19 H20 =>
                              r19 = .tuple #[] ∧
                              FnH Try.prog 21 #[.pointer t_1] H20 fun r20 H21 =>
                                ∃ s5 : ByteArray,
                                r20 = .string s5 ∧
                                FnH Try.prog 22 #[.pointer p2] H21 fun r21 H22 =>
                                  ∃ s6 : ByteArray,
                                  r21 = .string s6 ∧
                                  br (!(s5.toList == s6.toList)) (
                                    K (.bool false) H22)
                                   (
                                    SelfEq ([.v (.slice script.p script.n script.c), .v (.pointer p2)], [], []) ∧
                                    I1 t_1 (IntKind.wrap .i64 (i_1 + 1)) H22 ∧
                                    M1 t_1 (IntKind.wrap .i64 (i_1 + 1)) H22 < M1 t_1 i_1 H4))
                     (
                      br ((n7 : Int) == 3) (
                        br ((n7 : Int) == 3) (
                          FnH Try.prog 14 #[.pointer t_1, .int .i64 n2, .int .i64 n3, .int .i64 n4, .int .i64 n5] H5 fun r22 H23 =>
                            ∃ n25 : Int,
                            ∃ n26 : Int,
                            r22 = .tuple #[.int .i64 n25, .int .i64 n26] ∧
                            FnH Try.prog 25 #[.pointer p2, .int .i64 n2, .int .i64 n3, .int .i64 n4, .int .i64 n5] H23 fun r23 H24 =>
                              ∃ n27 : Int,
                              ∃ n28 : Int,
                              r23 = .tuple #[.int .i64 n27, .int .i64 n28] ∧
                              br ((n25 : Int) != n27) (
                                K (.bool false) H24)
                               (
                                br ((n26 : Int) != n28) (
                                  K (.bool false) H24)
                                 (
                                  FnH Try.prog 21 #[.pointer t_1] H24 fun r24 H25 =>
                                    ∃ s7 : ByteArray,
                                    r24 = .string s7 ∧
                                    FnH Try.prog 22 #[.pointer p2] H25 fun r25 H26 =>
                                      ∃ s8 : ByteArray,
                                      r25 = .string s8 ∧
                                      br (!(s7.toList == s8.toList)) (
                                        K (.bool false) H26)
                                       (
                                        SelfEq ([.v (.slice script.p script.n script.c), .v (.pointer p2)], [], []) ∧
                                        I1 t_1 (IntKind.wrap .i64 (i_1 + 1)) H26 ∧
                                        M1 t_1 (IntKind.wrap .i64 (i_1 + 1)) H26 < M1 t_1 i_1 H4))))
                         (
                          br ((n7 : Int) == 6) (
                            FnH Try.prog 11 #[.pointer t_1, .int .i64 n6] H5 fun r26 H27 =>
                              r26 = .tuple #[] ∧
                              FnH Try.prog 26 #[.pointer p2, .int .i64 n6] H27 fun r27 H28 =>
                                r27 = .tuple #[] ∧
                                FnH Try.prog 21 #[.pointer t_1] H28 fun r28 H29 =>
                                  ∃ s9 : ByteArray,
                                  r28 = .string s9 ∧
                                  FnH Try.prog 22 #[.pointer p2] H29 fun r29 H30 =>
                                    ∃ s10 : ByteArray,
                                    r29 = .string s10 ∧
                                    br (!(s9.toList == s10.toList)) (
                                      K (.bool false) H30)
                                     (
                                      SelfEq ([.v (.slice script.p script.n script.c), .v (.pointer p2)], [], []) ∧
                                      I1 t_1 (IntKind.wrap .i64 (i_1 + 1)) H30 ∧
                                      M1 t_1 (IntKind.wrap .i64 (i_1 + 1)) H30 < M1 t_1 i_1 H4))
                           (
                            br ((n7 : Int) == 7) (
                              FnH Try.prog 12 #[.pointer t_1, .int .i64 n6] H5 fun r30 H31 =>
                                r30 = .tuple #[] ∧
                                FnH Try.prog 27 #[.pointer p2, .int .i64 n6] H31 fun r31 H32 =>
                                  r31 = .tuple #[] ∧
                                  FnH Try.prog 21 #[.pointer t_1] H32 fun r32 H33 =>
                                    ∃ s11 : ByteArray,
                                    r32 = .string s11 ∧
                                    FnH Try.prog 22 #[.pointer p2] H33 fun r33 H34 =>
                                      ∃ s12 : ByteArray,
                                      r33 = .string s12 ∧
                                      br (!(s11.toList == s12.toList)) (
                                        K (.bool false) H34)
                                       (
                                        SelfEq ([.v (.slice script.p script.n script.c), .v (.pointer p2)], [], []) ∧
                                        I1 t_1 (IntKind.wrap .i64 (i_1 + 1)) H34 ∧
                                        M1 t_1 (IntKind.wrap .i64 (i_1 + 1)) H34 < M1 t_1 i_1 H4))
                             (
                              br ((n7 : Int) == 8) (
                                FnH Try.prog 21 #[.pointer t_1] H5 fun r34 H35 =>
                                  ∃ s13 : ByteArray,
                                  r34 = .string s13 ∧
                                  FnH Try.prog 19 #[.string s13] H35 fun r35 H36 =>
                                    ∃ p3 : Option Addr,
                                    ∃ n29 : Int,
                                    r35 = .tuple #[.pointer p3, .int .i64 n29] ∧
                                    br (Option.isNone p3) (
                                      K (.bool false) H36)
                                     (
                                      br ((n29 : Int) != 0) (
                                        K (.bool false) H36)
                                       (
                                        FnH Try.prog 21 #[.pointer p3] H36 fun r36 H37 =>
                                          ∃ s14 : ByteArray,
                                          r36 = .string s14 ∧
                                          FnH Try.prog 22 #[.pointer p2] H37 fun r37 H38 =>
                                            ∃ s15 : ByteArray,
                                            r37 = .string s15 ∧
                                            br (!(s14.toList == s15.toList)) (
                                              K (.bool false) H38)
                                             (
                                              SelfEq ([.v (.slice script.p script.n script.c), .v (.pointer p2)], [], []) ∧
                                              I1 p3 (IntKind.wrap .i64 (i_1 + 1)) H38 ∧
                                              M1 p3 (IntKind.wrap .i64 (i_1 + 1)) H38 < M1 t_1 i_1 H4))))
                               (
                                FnH Try.prog 21 #[.pointer t_1] H5 fun r38 H39 =>
                                  ∃ s16 : ByteArray,
                                  r38 = .string s16 ∧
                                  FnH Try.prog 22 #[.pointer p2] H39 fun r39 H40 =>
                                    ∃ s17 : ByteArray,
                                    r39 = .string s17 ∧
                                    br (!(s16.toList == s17.toList)) (
                                      K (.bool false) H40)
                                     (
                                      SelfEq ([.v (.slice script.p script.n script.c), .v (.pointer p2)], [], []) ∧
                                      I1 t_1 (IntKind.wrap .i64 (i_1 + 1)) H40 ∧
                                      M1 t_1 (IntKind.wrap .i64 (i_1 + 1)) H40 < M1 t_1 i_1 H4))))))
                       (
                        br ((n7 : Int) == 4) (
                          br ((n7 : Int) == 4) (
                            FnH Try.prog 14 #[.pointer t_1, .int .i64 n2, .int .i64 n3, .int .i64 n4, .int .i64 n5] H5 fun r40 H41 =>
                              ∃ n30 : Int,
                              ∃ n31 : Int,
                              r40 = .tuple #[.int .i64 n30, .int .i64 n31] ∧
                              FnH Try.prog 25 #[.pointer p2, .int .i64 n2, .int .i64 n3, .int .i64 n4, .int .i64 n5] H41 fun r41 H42 =>
                                ∃ n32 : Int,
                                ∃ n33 : Int,
                                r41 = .tuple #[.int .i64 n32, .int .i64 n33] ∧
                                br ((n30 : Int) != n32) (
                                  K (.bool false) H42)
                                 (
                                  br ((n31 : Int) != n33) (
                                    K (.bool false) H42)
                                   (
                                    FnH Try.prog 21 #[.pointer t_1] H42 fun r42 H43 =>
                                      ∃ s18 : ByteArray,
                                      r42 = .string s18 ∧
                                      FnH Try.prog 22 #[.pointer p2] H43 fun r43 H44 =>
                                        ∃ s19 : ByteArray,
                                        r43 = .string s19 ∧
                                        br (!(s18.toList == s19.toList)) (
                                          K (.bool false) H44)
                                         (
                                          SelfEq ([.v (.slice script.p script.n script.c), .v (.pointer p2)], [], []) ∧
                                          I1 t_1 (IntKind.wrap .i64 (i_1 + 1)) H44 ∧
                                          M1 t_1 (IntKind.wrap .i64 (i_1 + 1)) H44 < M1 t_1 i_1 H4))))
                           (
                            br ((n7 : Int) == 6) (
                              FnH Try.prog 11 #[.pointer t_1, .int .i64 n6] H5 fun r44 H45 =>
                                r44 = .tuple #[] ∧
                                FnH Try.prog 26 #[.pointer p2, .int .i64 n6] H45 fun r45 H46 =>
                                  r45 = .tuple #[] ∧
                                  FnH Try.prog 21 #[.pointer t_1] H46 fun r46 H47 =>
                                    ∃ s20 : ByteArray,
                                    r46 = .string s20 ∧
                                    FnH Try.prog 22 #[.pointer p2] H47 fun r47 H48 =>
                                      ∃ s21 : ByteArray,
                                      r47 = .string s21 ∧
                                      br (!(s20.toList == s21.toList)) (
                                        K (.bool false) H48)
                                       (
                                        SelfEq ([.v (.slice script.p script.n script.c), .v (.pointer p2)], [], []) ∧
                                        I1 t_1 (IntKind.wrap .i64 (i_1 + 1)) H48 ∧
                                        M1 t_1 (IntKind.wrap .i64 (i_1 + 1)) H48 < M1 t_1 i_1 H4))
                             (
                              br ((n7 : Int) == 7) (
                                FnH Try.prog 12 #[.pointer t_1, .int .i64 n6] H5 fun r48 H49 =>
                                  r48 = .tuple #[] ∧
                                  FnH Try.prog 27 #[.pointer p2, .int .i64 n6] H49 fun r49 H50 =>
                                    r49 = .tuple #[] ∧
                                    FnH Try.prog 21 #[.pointer t_1] H50 fun r50 H51 =>
                                      ∃ s22 : ByteArray,
                                      r50 = .string s22 ∧
                                      FnH Try.prog 22 #[.pointer p2] H51 fun r51 H52 =>
                                        ∃ s23 : ByteArray,
                                        r51 = .string s23 ∧
                                        br (!(s22.toList == s23.toList)) (
                                          K (.bool false) H52)
                                         (
                                          SelfEq ([.v (.slice script.p script.n script.c), .v (.pointer p2)], [], []) ∧
                                          I1 t_1 (IntKind.wrap .i64 (i_1 + 1)) H52 ∧
                                          M1 t_1 (IntKind.wrap .i64 (i_1 + 1)) H52 < M1 t_1 i_1 H4))
                               (
                                br ((n7 : Int) == 8) (
                                  FnH Try.prog 21 #[.pointer t_1] H5 fun r52 H53 =>
                                    ∃ s24 : ByteArray,
                                    r52 = .string s24 ∧
                                    FnH Try.prog 19 #[.string s24] H53 fun r53 H54 =>
                                      ∃ p4 : Option Addr,
                                      ∃ n34 : Int,
                                      r53 = .tuple #[.pointer p4, .int .i64 n34] ∧
                                      br (Option.isNone p4) (
                                        K (.bool false) H54)
                                       (
                                        br ((n34 : Int) != 0) (
                                          K (.bool false) H54)
                                         (
                                          FnH Try.prog 21 #[.pointer p4] H54 fun r54 H55 =>
                                            ∃ s25 : ByteArray,
                                            r54 = .string s25 ∧
                                            FnH Try.prog 22 #[.pointer p2] H55 fun r55 H56 =>
                                              ∃ s26 : ByteArray,
                                              r55 = .string s26 ∧
                                              br (!(s25.toList == s26.toList)) (
                                                K (.bool false) H56)
                                               (
                                                SelfEq ([.v (.slice script.p script.n script.c), .v (.pointer p2)], [], []) ∧
                                                I1 p4 (IntKind.wrap .i64 (i_1 + 1)) H56 ∧
                                                M1 p4 (IntKind.wrap .i64 (i_1 + 1)) H56 < M1 t_1 i_1 H4))))
                                 (
                                  FnH Try.prog 21 #[.pointer t_1] H5 fun r56 H57 =>
                                    ∃ s27 : ByteArray,
                                    r56 = .string s27 ∧
                                    FnH Try.prog 22 #[.pointer p2] H57 fun r57 H58 =>
                                      ∃ s28 : ByteArray,
                                      r57 = .string s28 ∧
                                      br (!(s27.toList == s28.toList)) (
                                        K (.bool false) H58)
                                       (
                                        SelfEq ([.v (.slice script.p script.n script.c), .v (.pointer p2)], [], []) ∧
                                        I1 t_1 (IntKind.wrap .i64 (i_1 + 1)) H58 ∧
                                        M1 t_1 (IntKind.wrap .i64 (i_1 + 1)) H58 < M1 t_1 i_1 H4))))))
                         (
                          br ((n7 : Int) == 5) (
                            FnH Try.prog 14 #[.pointer t_1, .int .i64 n2, .int .i64 n3, .int .i64 n4, .int .i64 n5] H5 fun r58 H59 =>
                              ∃ n35 : Int,
                              ∃ n36 : Int,
                              r58 = .tuple #[.int .i64 n35, .int .i64 n36] ∧
                              FnH Try.prog 25 #[.pointer p2, .int .i64 n2, .int .i64 n3, .int .i64 n4, .int .i64 n5] H59 fun r59 H60 =>
                                ∃ n37 : Int,
                                ∃ n38 : Int,
                                r59 = .tuple #[.int .i64 n37, .int .i64 n38] ∧
                                br ((n35 : Int) != n37) (
                                  K (.bool false) H60)
                                 (
                                  br ((n36 : Int) != n38) (
                                    K (.bool false) H60)
                                   (
                                    FnH Try.prog 21 #[.pointer t_1] H60 fun r60 H61 =>
                                      ∃ s29 : ByteArray,
                                      r60 = .string s29 ∧
                                      FnH Try.prog 22 #[.pointer p2] H61 fun r61 H62 =>
                                        ∃ s30 : ByteArray,
                                        r61 = .string s30 ∧
                                        br (!(s29.toList == s30.toList)) (
                                          K (.bool false) H62)
                                         (
                                          SelfEq ([.v (.slice script.p script.n script.c), .v (.pointer p2)], [], []) ∧
                                          I1 t_1 (IntKind.wrap .i64 (i_1 + 1)) H62 ∧
                                          M1 t_1 (IntKind.wrap .i64 (i_1 + 1)) H62 < M1 t_1 i_1 H4))))
                           (
                            br ((n7 : Int) == 6) (
                              FnH Try.prog 11 #[.pointer t_1, .int .i64 n6] H5 fun r62 H63 =>
                                r62 = .tuple #[] ∧
                                FnH Try.prog 26 #[.pointer p2, .int .i64 n6] H63 fun r63 H64 =>
                                  r63 = .tuple #[] ∧
                                  FnH Try.prog 21 #[.pointer t_1] H64 fun r64 H65 =>
                                    ∃ s31 : ByteArray,
                                    r64 = .string s31 ∧
                                    FnH Try.prog 22 #[.pointer p2] H65 fun r65 H66 =>
                                      ∃ s32 : ByteArray,
                                      r65 = .string s32 ∧
                                      br (!(s31.toList == s32.toList)) (
                                        K (.bool false) H66)
                                       (
                                        SelfEq ([.v (.slice script.p script.n script.c), .v (.pointer p2)], [], []) ∧
                                        I1 t_1 (IntKind.wrap .i64 (i_1 + 1)) H66 ∧
                                        M1 t_1 (IntKind.wrap .i64 (i_1 + 1)) H66 < M1 t_1 i_1 H4))
                             (
                              br ((n7 : Int) == 7) (
                                FnH Try.prog 12 #[.pointer t_1, .int .i64 n6] H5 fun r66 H67 =>
                                  r66 = .tuple #[] ∧
                                  FnH Try.prog 27 #[.pointer p2, .int .i64 n6] H67 fun r67 H68 =>
                                    r67 = .tuple #[] ∧
                                    FnH Try.prog 21 #[.pointer t_1] H68 fun r68 H69 =>
                                      ∃ s33 : ByteArray,
                                      r68 = .string s33 ∧
                                      FnH Try.prog 22 #[.pointer p2] H69 fun r69 H70 =>
                                        ∃ s34 : ByteArray,
                                        r69 = .string s34 ∧
                                        br (!(s33.toList == s34.toList)) (
                                          K (.bool false) H70)
                                         (
                                          SelfEq ([.v (.slice script.p script.n script.c), .v (.pointer p2)], [], []) ∧
                                          I1 t_1 (IntKind.wrap .i64 (i_1 + 1)) H70 ∧
                                          M1 t_1 (IntKind.wrap .i64 (i_1 + 1)) H70 < M1 t_1 i_1 H4))
                               (
                                br ((n7 : Int) == 8) (
                                  FnH Try.prog 21 #[.pointer t_1] H5 fun r70 H71 =>
                                    ∃ s35 : ByteArray,
                                    r70 = .string s35 ∧
                                    FnH Try.prog 19 #[.string s35] H71 fun r71 H72 =>
                                      ∃ p5 : Option Addr,
                                      ∃ n39 : Int,
                                      r71 = .tuple #[.pointer p5, .int .i64 n39] ∧
                                      br (Option.isNone p5) (
                                        K (.bool false) H72)
                                       (
                                        br ((n39 : Int) != 0) (
                                          K (.bool false) H72)
                                         (
                                          FnH Try.prog 21 #[.pointer p5] H72 fun r72 H73 =>
                                            ∃ s36 : ByteArray,
                                            r72 = .string s36 ∧
                                            FnH Try.prog 22 #[.pointer p2] H73 fun r73 H74 =>
                                              ∃ s37 : ByteArray,
                                              r73 = .string s37 ∧
                                              br (!(s36.toList == s37.toList)) (
                                                K (.bool false) H74)
                                               (
                                                SelfEq ([.v (.slice script.p script.n script.c), .v (.pointer p2)], [], []) ∧
                                                I1 p5 (IntKind.wrap .i64 (i_1 + 1)) H74 ∧
                                                M1 p5 (IntKind.wrap .i64 (i_1 + 1)) H74 < M1 t_1 i_1 H4))))
                                 (
                                  FnH Try.prog 21 #[.pointer t_1] H5 fun r74 H75 =>
                                    ∃ s38 : ByteArray,
                                    r74 = .string s38 ∧
                                    FnH Try.prog 22 #[.pointer p2] H75 fun r75 H76 =>
                                      ∃ s39 : ByteArray,
                                      r75 = .string s39 ∧
                                      br (!(s38.toList == s39.toList)) (
                                        K (.bool false) H76)
                                       (
                                        SelfEq ([.v (.slice script.p script.n script.c), .v (.pointer p2)], [], []) ∧
                                        I1 t_1 (IntKind.wrap .i64 (i_1 + 1)) H76 ∧
                                        M1 t_1 (IntKind.wrap .i64 (i_1 + 1)) H76 < M1 t_1 i_1 H4)))))))))
                   (
                    br ((n7 : Int) == 1) (
                      br ((n7 : Int) == 1) (
                        (FnH Try.prog 10 #[.int .i64 n5, .int .i64 70] H5 fun r76 H77 =>
                          ∃ n40 : Int,
                          r76 = .int .i64 n40 ∧
                          Sub H5 H77 ∧
                          (FnH Try.prog 13 #[.int .i64 n2, .int .i64 n3, .int .i64 n4, .int .i64 n40, .int .i64 n6] H77 fun r77 H78 =>
                            ∃ n41 : Int,
                            ∃ n42 : Int,
                            ∃ n43 : Int,
                            ∃ n44 : Int,
                            ∃ n45 : Int,
                            ∃ l4 : Sl,
                            r77 = .agg #[.int .i64 n41, .int .i64 n42, .int .i64 n43, .int .i64 n44, .int .i64 n45, .slice l4.p l4.n l4.c] ∧
                            Sub H5 H78 ∧
                            Sub H5 H78 ∧
                            FnH Try.prog 16 #[.pointer t_1, .agg #[.int .i64 n41, .int .i64 n42, .int .i64 n43, .int .i64 n44, .int .i64 n45, .slice l4.p l4.n l4.c]] H78 fun r78 H79 =>
                              r78 = .tuple #[] ∧
                              FnH Try.prog 24 #[.pointer p2, .agg #[.int .i64 n41, .int .i64 n42, .int .i64 n43, .int .i64 n44, .int .i64 n45, .slice l4.p l4.n l4.c]] H79 fun r79 H80 =>
                                r79 = .tuple #[] ∧
                                FnH Try.prog 21 #[.pointer t_1] H80 fun r80 H81 =>
                                  ∃ s40 : ByteArray,
                                  r80 = .string s40 ∧
                                  FnH Try.prog 22 #[.pointer p2] H81 fun r81 H82 =>
                                    ∃ s41 : ByteArray,
                                    r81 = .string s41 ∧
                                    br (!(s40.toList == s41.toList)) (
                                      K (.bool false) H82)
                                     (
                                      SelfEq ([.v (.slice script.p script.n script.c), .v (.pointer p2)], [], []) ∧
                                      I1 t_1 (IntKind.wrap .i64 (i_1 + 1)) H82 ∧
                                      M1 t_1 (IntKind.wrap .i64 (i_1 + 1)) H82 < M1 t_1 i_1 H4)) ∧
                          Sub H5 H77 ∧
                          FnH Try.prog 13 #[.int .i64 n2, .int .i64 n3, .int .i64 n4, .int .i64 n40, .int .i64 n6] H77 fun r82 H83 =>
                            ∃ n46 : Int,
                            ∃ n47 : Int,
                            ∃ n48 : Int,
                            ∃ n49 : Int,
                            ∃ n50 : Int,
                            ∃ l5 : Sl,
                            r82 = .agg #[.int .i64 n46, .int .i64 n47, .int .i64 n48, .int .i64 n49, .int .i64 n50, .slice l5.p l5.n l5.c] ∧
                            Sub H5 H83 ∧
                            FnH Try.prog 16 #[.pointer t_1, .agg #[.int .i64 n46, .int .i64 n47, .int .i64 n48, .int .i64 n49, .int .i64 n50, .slice l5.p l5.n l5.c]] H83 fun r83 H84 =>
                              r83 = .tuple #[] ∧
                              FnH Try.prog 24 #[.pointer p2, .agg #[.int .i64 n46, .int .i64 n47, .int .i64 n48, .int .i64 n49, .int .i64 n50, .slice l5.p l5.n l5.c]] H84 fun r84 H85 =>
                                r84 = .tuple #[] ∧
                                FnH Try.prog 21 #[.pointer t_1] H85 fun r85 H86 =>
                                  ∃ s42 : ByteArray,
                                  r85 = .string s42 ∧
                                  FnH Try.prog 22 #[.pointer p2] H86 fun r86 H87 =>
                                    ∃ s43 : ByteArray,
                                    r86 = .string s43 ∧
                                    br (!(s42.toList == s43.toList)) (
                                      K (.bool false) H87)
                                     (
                                      SelfEq ([.v (.slice script.p script.n script.c), .v (.pointer p2)], [], []) ∧
                                      I1 t_1 (IntKind.wrap .i64 (i_1 + 1)) H87 ∧
                                      M1 t_1 (IntKind.wrap .i64 (i_1 + 1)) H87 < M1 t_1 i_1 H4)) ∧
                        Sub H5 H5 ∧
                        FnH Try.prog 10 #[.int .i64 n5, .int .i64 70] H5 fun r87 H88 =>
                          ∃ n51 : Int,
                          r87 = .int .i64 n51 ∧
                          Sub H5 H88 ∧
                          FnH Try.prog 13 #[.int .i64 n2, .int .i64 n3, .int .i64 n4, .int .i64 n51, .int .i64 n6] H88 fun r88 H89 =>
                            ∃ n52 : Int,
                            ∃ n53 : Int,
                            ∃ n54 : Int,
                            ∃ n55 : Int,
                            ∃ n56 : Int,
                            ∃ l6 : Sl,
                            r88 = .agg #[.int .i64 n52, .int .i64 n53, .int .i64 n54, .int .i64 n55, .int .i64 n56, .slice l6.p l6.n l6.c] ∧
                            Sub H5 H89 ∧
                            FnH Try.prog 16 #[.pointer t_1, .agg #[.int .i64 n52, .int .i64 n53, .int .i64 n54, .int .i64 n55, .int .i64 n56, .slice l6.p l6.n l6.c]] H89 fun r89 H90 =>
                              r89 = .tuple #[] ∧
                              FnH Try.prog 24 #[.pointer p2, .agg #[.int .i64 n52, .int .i64 n53, .int .i64 n54, .int .i64 n55, .int .i64 n56, .slice l6.p l6.n l6.c]] H90 fun r90 H91 =>
                                r90 = .tuple #[] ∧
                                FnH Try.prog 21 #[.pointer t_1] H91 fun r91 H92 =>
                                  ∃ s44 : ByteArray,
                                  r91 = .string s44 ∧
                                  FnH Try.prog 22 #[.pointer p2] H92 fun r92 H93 =>
                                    ∃ s45 : ByteArray,
                                    r92 = .string s45 ∧
                                    br (!(s44.toList == s45.toList)) (
                                      K (.bool false) H93)
                                     (
                                      SelfEq ([.v (.slice script.p script.n script.c), .v (.pointer p2)], [], []) ∧
                                      I1 t_1 (IntKind.wrap .i64 (i_1 + 1)) H93 ∧
                                      M1 t_1 (IntKind.wrap .i64 (i_1 + 1)) H93 < M1 t_1 i_1 H4))
                       (
                        br ((n7 : Int) == 3) (
                          br ((n7 : Int) == 3) (
                            FnH Try.prog 14 #[.pointer t_1, .int .i64 n2, .int .i64 n3, .int .i64 n4, .int .i64 n5] H5 fun r93 H94 =>
                              ∃ n57 : Int,
                              ∃ n58 : Int,
                              r93 = .tuple #[.int .i64 n57, .int .i64 n58] ∧
                              FnH Try.prog 25 #[.pointer p2, .int .i64 n2, .int .i64 n3, .int .i64 n4, .int .i64 n5] H94 fun r94 H95 =>
                                ∃ n59 : Int,
                                ∃ n60 : Int,
                                r94 = .tuple #[.int .i64 n59, .int .i64 n60] ∧
                                br ((n57 : Int) != n59) (
                                  K (.bool false) H95)
                                 (
                                  br ((n58 : Int) != n60) (
                                    K (.bool false) H95)
                                   (
                                    FnH Try.prog 21 #[.pointer t_1] H95 fun r95 H96 =>
                                      ∃ s46 : ByteArray,
                                      r95 = .string s46 ∧
                                      FnH Try.prog 22 #[.pointer p2] H96 fun r96 H97 =>
                                        ∃ s47 : ByteArray,
                                        r96 = .string s47 ∧
                                        br (!(s46.toList == s47.toList)) (
                                          K (.bool false) H97)
                                         (
                                          SelfEq ([.v (.slice script.p script.n script.c), .v (.pointer p2)], [], []) ∧
                                          I1 t_1 (IntKind.wrap .i64 (i_1 + 1)) H97 ∧
                                          M1 t_1 (IntKind.wrap .i64 (i_1 + 1)) H97 < M1 t_1 i_1 H4))))
                           (
                            br ((n7 : Int) == 6) (
                              FnH Try.prog 11 #[.pointer t_1, .int .i64 n6] H5 fun r97 H98 =>
                                r97 = .tuple #[] ∧
                                FnH Try.prog 26 #[.pointer p2, .int .i64 n6] H98 fun r98 H99 =>
                                  r98 = .tuple #[] ∧
                                  FnH Try.prog 21 #[.pointer t_1] H99 fun r99 H100 =>
                                    ∃ s48 : ByteArray,
                                    r99 = .string s48 ∧
                                    FnH Try.prog 22 #[.pointer p2] H100 fun r100 H101 =>
                                      ∃ s49 : ByteArray,
                                      r100 = .string s49 ∧
                                      br (!(s48.toList == s49.toList)) (
                                        K (.bool false) H101)
                                       (
                                        SelfEq ([.v (.slice script.p script.n script.c), .v (.pointer p2)], [], []) ∧
                                        I1 t_1 (IntKind.wrap .i64 (i_1 + 1)) H101 ∧
                                        M1 t_1 (IntKind.wrap .i64 (i_1 + 1)) H101 < M1 t_1 i_1 H4))
                             (
                              br ((n7 : Int) == 7) (
                                FnH Try.prog 12 #[.pointer t_1, .int .i64 n6] H5 fun r101 H102 =>
                                  r101 = .tuple #[] ∧
                                  FnH Try.prog 27 #[.pointer p2, .int .i64 n6] H102 fun r102 H103 =>
                                    r102 = .tuple #[] ∧
                                    FnH Try.prog 21 #[.pointer t_1] H103 fun r103 H104 =>
                                      ∃ s50 : ByteArray,
                                      r103 = .string s50 ∧
                                      FnH Try.prog 22 #[.pointer p2] H104 fun r104 H105 =>
                                        ∃ s51 : ByteArray,
                                        r104 = .string s51 ∧
                                        br (!(s50.toList == s51.toList)) (
                                          K (.bool false) H105)
                                         (
                                          SelfEq ([.v (.slice script.p script.n script.c), .v (.pointer p2)], [], []) ∧
                                          I1 t_1 (IntKind.wrap .i64 (i_1 + 1)) H105 ∧
                                          M1 t_1 (IntKind.wrap .i64 (i_1 + 1)) H105 < M1 t_1 i_1 H4))
                               (
                                br ((n7 : Int) == 8) (
                                  FnH Try.prog 21 #[.pointer t_1] H5 fun r105 H106 =>
                                    ∃ s52 : ByteArray,
                                    r105 = .string s52 ∧
                                    FnH Try.prog 19 #[.string s52] H106 fun r106 H107 =>
                                      ∃ p6 : Option Addr,
                                      ∃ n61 : Int,
                                      r106 = .tuple #[.pointer p6, .int .i64 n61] ∧
                                      br (Option.isNone p6) (
                                        K (.bool false) H107)
                                       (
                                        br ((n61 : Int) != 0) (
                                          K (.bool false) H107)
                                         (
                                          FnH Try.prog 21 #[.pointer p6] H107 fun r107 H108 =>
                                            ∃ s53 : ByteArray,
                                            r107 = .string s53 ∧
                                            FnH Try.prog 22 #[.pointer p2] H108 fun r108 H109 =>
                                              ∃ s54 : ByteArray,
                                              r108 = .string s54 ∧
                                              br (!(s53.toList == s54.toList)) (
                                                K (.bool false) H109)
                                               (
                                                SelfEq ([.v (.slice script.p script.n script.c), .v (.pointer p2)], [], []) ∧
                                                I1 p6 (IntKind.wrap .i64 (i_1 + 1)) H109 ∧
                                                M1 p6 (IntKind.wrap .i64 (i_1 + 1)) H109 < M1 t_1 i_1 H4))))
                                 (
                                  FnH Try.prog 21 #[.pointer t_1] H5 fun r109 H110 =>
                                    ∃ s55 : ByteArray,
                                    r109 = .string s55 ∧
                                    FnH Try.prog 22 #[.pointer p2] H110 fun r110 H111 =>
                                      ∃ s56 : ByteArray,
                                      r110 = .string s56 ∧
                                      br (!(s55.toList == s56.toList)) (
                                        K (.bool false) H111)
                                       (
                                        SelfEq ([.v (.slice script.p script.n script.c), .v (.pointer p2)], [], []) ∧
                                        I1 t_1 (IntKind.wrap .i64 (i_1 + 1)) H111 ∧
                                        M1 t_1 (IntKind.wrap .i64 (i_1 + 1)) H111 < M1 t_1 i_1 H4))))))
                         (
                          br ((n7 : Int) == 4) (
                            br ((n7 : Int) == 4) (
                              FnH Try.prog 14 #[.pointer t_1, .int .i64 n2, .int .i64 n3, .int .i64 n4, .int .i64 n5] H5 fun r111 H112 =>
                                ∃ n62 : Int,
                                ∃ n63 : Int,
                                r111 = .tuple #[.int .i64 n62, .int .i64 n63] ∧
                                FnH Try.prog 25 #[.pointer p2, .int .i64 n2, .int .i64 n3, .int .i64 n4, .int .i64 n5] H112 fun r112 H113 =>
                                  ∃ n64 : Int,
                                  ∃ n65 : Int,
                                  r112 = .tuple #[.int .i64 n64, .int .i64 n65] ∧
                                  br ((n62 : Int) != n64) (
                                    K (.bool false) H113)
                                   (
                                    br ((n63 : Int) != n65) (
                                      K (.bool false) H113)
                                     (
                                      FnH Try.prog 21 #[.pointer t_1] H113 fun r113 H114 =>
                                        ∃ s57 : ByteArray,
                                        r113 = .string s57 ∧
                                        FnH Try.prog 22 #[.pointer p2] H114 fun r114 H115 =>
                                          ∃ s58 : ByteArray,
                                          r114 = .string s58 ∧
                                          br (!(s57.toList == s58.toList)) (
                                            K (.bool false) H115)
                                           (
                                            SelfEq ([.v (.slice script.p script.n script.c), .v (.pointer p2)], [], []) ∧
                                            I1 t_1 (IntKind.wrap .i64 (i_1 + 1)) H115 ∧
                                            M1 t_1 (IntKind.wrap .i64 (i_1 + 1)) H115 < M1 t_1 i_1 H4))))
                             (
                              br ((n7 : Int) == 6) (
                                FnH Try.prog 11 #[.pointer t_1, .int .i64 n6] H5 fun r115 H116 =>
                                  r115 = .tuple #[] ∧
                                  FnH Try.prog 26 #[.pointer p2, .int .i64 n6] H116 fun r116 H117 =>
                                    r116 = .tuple #[] ∧
                                    FnH Try.prog 21 #[.pointer t_1] H117 fun r117 H118 =>
                                      ∃ s59 : ByteArray,
                                      r117 = .string s59 ∧
                                      FnH Try.prog 22 #[.pointer p2] H118 fun r118 H119 =>
                                        ∃ s60 : ByteArray,
                                        r118 = .string s60 ∧
                                        br (!(s59.toList == s60.toList)) (
                                          K (.bool false) H119)
                                         (
                                          SelfEq ([.v (.slice script.p script.n script.c), .v (.pointer p2)], [], []) ∧
                                          I1 t_1 (IntKind.wrap .i64 (i_1 + 1)) H119 ∧
                                          M1 t_1 (IntKind.wrap .i64 (i_1 + 1)) H119 < M1 t_1 i_1 H4))
                               (
                                br ((n7 : Int) == 7) (
                                  FnH Try.prog 12 #[.pointer t_1, .int .i64 n6] H5 fun r119 H120 =>
                                    r119 = .tuple #[] ∧
                                    FnH Try.prog 27 #[.pointer p2, .int .i64 n6] H120 fun r120 H121 =>
                                      r120 = .tuple #[] ∧
                                      FnH Try.prog 21 #[.pointer t_1] H121 fun r121 H122 =>
                                        ∃ s61 : ByteArray,
                                        r121 = .string s61 ∧
                                        FnH Try.prog 22 #[.pointer p2] H122 fun r122 H123 =>
                                          ∃ s62 : ByteArray,
                                          r122 = .string s62 ∧
                                          br (!(s61.toList == s62.toList)) (
                                            K (.bool false) H123)
                                           (
                                            SelfEq ([.v (.slice script.p script.n script.c), .v (.pointer p2)], [], []) ∧
                                            I1 t_1 (IntKind.wrap .i64 (i_1 + 1)) H123 ∧
                                            M1 t_1 (IntKind.wrap .i64 (i_1 + 1)) H123 < M1 t_1 i_1 H4))
                                 (
                                  br ((n7 : Int) == 8) (
                                    FnH Try.prog 21 #[.pointer t_1] H5 fun r123 H124 =>
                                      ∃ s63 : ByteArray,
                                      r123 = .string s63 ∧
                                      FnH Try.prog 19 #[.string s63] H124 fun r124 H125 =>
                                        ∃ p7 : Option Addr,
                                        ∃ n66 : Int,
                                        r124 = .tuple #[.pointer p7, .int .i64 n66] ∧
                                        br (Option.isNone p7) (
                                          K (.bool false) H125)
                                         (
                                          br ((n66 : Int) != 0) (
                                            K (.bool false) H125)
                                           (
                                            FnH Try.prog 21 #[.pointer p7] H125 fun r125 H126 =>
                                              ∃ s64 : ByteArray,
                                              r125 = .string s64 ∧
                                              FnH Try.prog 22 #[.pointer p2] H126 fun r126 H127 =>
                                                ∃ s65 : ByteArray,
                                                r126 = .string s65 ∧
                                                br (!(s64.toList == s65.toList)) (
                                                  K (.bool false) H127)
                                                 (
                                                  SelfEq ([.v (.slice script.p script.n script.c), .v (.pointer p2)], [], []) ∧
                                                  I1 p7 (IntKind.wrap .i64 (i_1 + 1)) H127 ∧
                                                  M1 p7 (IntKind.wrap .i64 (i_1 + 1)) H127 < M1 t_1 i_1 H4))))
                                   (
                                    FnH Try.prog 21 #[.pointer t_1] H5 fun r127 H128 =>
                                      ∃ s66 : ByteArray,
                                      r127 = .string s66 ∧
                                      FnH Try.prog 22 #[.pointer p2] H128 fun r128 H129 =>
                                        ∃ s67 : ByteArray,
                                        r128 = .string s67 ∧
                                        br (!(s66.toList == s67.toList)) (
                                          K (.bool false) H129)
                                         (
                                          SelfEq ([.v (.slice script.p script.n script.c), .v (.pointer p2)], [], []) ∧
                                          I1 t_1 (IntKind.wrap .i64 (i_1 + 1)) H129 ∧
                                          M1 t_1 (IntKind.wrap .i64 (i_1 + 1)) H129 < M1 t_1 i_1 H4))))))
                           (
                            br ((n7 : Int) == 5) (
                              FnH Try.prog 14 #[.pointer t_1, .int .i64 n2, .int .i64 n3, .int .i64 n4, .int .i64 n5] H5 fun r129 H130 =>
                                ∃ n67 : Int,
                                ∃ n68 : Int,
                                r129 = .tuple #[.int .i64 n67, .int .i64 n68] ∧
                                FnH Try.prog 25 #[.pointer p2, .int .i64 n2, .int .i64 n3, .int .i64 n4, .int .i64 n5] H130 fun r130 H131 =>
                                  ∃ n69 : Int,
                                  ∃ n70 : Int,
                                  r130 = .tuple #[.int .i64 n69, .int .i64 n70] ∧
                                  br ((n67 : Int) != n69) (
                                    K (.bool false) H131)
                                   (
                                    br ((n68 : Int) != n70) (
                                      K (.bool false) H131)
                                     (
                                      FnH Try.prog 21 #[.pointer t_1] H131 fun r131 H132 =>
                                        ∃ s68 : ByteArray,
                                        r131 = .string s68 ∧
                                        FnH Try.prog 22 #[.pointer p2] H132 fun r132 H133 =>
                                          ∃ s69 : ByteArray,
                                          r132 = .string s69 ∧
                                          br (!(s68.toList == s69.toList)) (
                                            K (.bool false) H133)
                                           (
                                            SelfEq ([.v (.slice script.p script.n script.c), .v (.pointer p2)], [], []) ∧
                                            I1 t_1 (IntKind.wrap .i64 (i_1 + 1)) H133 ∧
                                            M1 t_1 (IntKind.wrap .i64 (i_1 + 1)) H133 < M1 t_1 i_1 H4))))
                             (
                              br ((n7 : Int) == 6) (
                                FnH Try.prog 11 #[.pointer t_1, .int .i64 n6] H5 fun r133 H134 =>
                                  r133 = .tuple #[] ∧
                                  FnH Try.prog 26 #[.pointer p2, .int .i64 n6] H134 fun r134 H135 =>
                                    r134 = .tuple #[] ∧
                                    FnH Try.prog 21 #[.pointer t_1] H135 fun r135 H136 =>
                                      ∃ s70 : ByteArray,
                                      r135 = .string s70 ∧
                                      FnH Try.prog 22 #[.pointer p2] H136 fun r136 H137 =>
                                        ∃ s71 : ByteArray,
                                        r136 = .string s71 ∧
                                        br (!(s70.toList == s71.toList)) (
                                          K (.bool false) H137)
                                         (
                                          SelfEq ([.v (.slice script.p script.n script.c), .v (.pointer p2)], [], []) ∧
                                          I1 t_1 (IntKind.wrap .i64 (i_1 + 1)) H137 ∧
                                          M1 t_1 (IntKind.wrap .i64 (i_1 + 1)) H137 < M1 t_1 i_1 H4))
                               (
                                br ((n7 : Int) == 7) (
                                  FnH Try.prog 12 #[.pointer t_1, .int .i64 n6] H5 fun r137 H138 =>
                                    r137 = .tuple #[] ∧
                                    FnH Try.prog 27 #[.pointer p2, .int .i64 n6] H138 fun r138 H139 =>
                                      r138 = .tuple #[] ∧
                                      FnH Try.prog 21 #[.pointer t_1] H139 fun r139 H140 =>
                                        ∃ s72 : ByteArray,
                                        r139 = .string s72 ∧
                                        FnH Try.prog 22 #[.pointer p2] H140 fun r140 H141 =>
                                          ∃ s73 : ByteArray,
                                          r140 = .string s73 ∧
                                          br (!(s72.toList == s73.toList)) (
                                            K (.bool false) H141)
                                           (
                                            SelfEq ([.v (.slice script.p script.n script.c), .v (.pointer p2)], [], []) ∧
                                            I1 t_1 (IntKind.wrap .i64 (i_1 + 1)) H141 ∧
                                            M1 t_1 (IntKind.wrap .i64 (i_1 + 1)) H141 < M1 t_1 i_1 H4))
                                 (
                                  br ((n7 : Int) == 8) (
                                    FnH Try.prog 21 #[.pointer t_1] H5 fun r141 H142 =>
                                      ∃ s74 : ByteArray,
                                      r141 = .string s74 ∧
                                      FnH Try.prog 19 #[.string s74] H142 fun r142 H143 =>
                                        ∃ p8 : Option Addr,
                                        ∃ n71 : Int,
                                        r142 = .tuple #[.pointer p8, .int .i64 n71] ∧
                                        br (Option.isNone p8) (
                                          K (.bool false) H143)
                                         (
                                          br ((n71 : Int) != 0) (
                                            K (.bool false) H143)
                                           (
                                            FnH Try.prog 21 #[.pointer p8] H143 fun r143 H144 =>
                                              ∃ s75 : ByteArray,
                                              r143 = .string s75 ∧
                                              FnH Try.prog 22 #[.pointer p2] H144 fun r144 H145 =>
                                                ∃ s76 : ByteArray,
                                                r144 = .string s76 ∧
                                                br (!(s75.toList == s76.toList)) (
                                                  K (.bool false) H145)
                                                 (
                                                  SelfEq ([.v (.slice script.p script.n script.c), .v (.pointer p2)], [], []) ∧
                                                  I1 p8 (IntKind.wrap .i64 (i_1 + 1)) H145 ∧
                                                  M1 p8 (IntKind.wrap .i64 (i_1 + 1)) H145 < M1 t_1 i_1 H4))))
                                   (
                                    FnH Try.prog 21 #[.pointer t_1] H5 fun r145 H146 =>
                                      ∃ s77 : ByteArray,
                                      r145 = .string s77 ∧
                                      FnH Try.prog 22 #[.pointer p2] H146 fun r146 H147 =>
                                        ∃ s78 : ByteArray,
                                        r146 = .string s78 ∧
                                        br (!(s77.toList == s78.toList)) (
                                          K (.bool false) H147)
                                         (
                                          SelfEq ([.v (.slice script.p script.n script.c), .v (.pointer p2)], [], []) ∧
                                          I1 t_1 (IntKind.wrap .i64 (i_1 + 1)) H147 ∧
                                          M1 t_1 (IntKind.wrap .i64 (i_1 + 1)) H147 < M1 t_1 i_1 H4)))))))))
                     (
                      br ((n7 : Int) == 2) (
                        (FnH Try.prog 10 #[.int .i64 n5, .int .i64 70] H5 fun r147 H148 =>
                          ∃ n72 : Int,
                          r147 = .int .i64 n72 ∧
                          Sub H5 H148 ∧
                          (FnH Try.prog 13 #[.int .i64 n2, .int .i64 n3, .int .i64 n4, .int .i64 n72, .int .i64 n6] H148 fun r148 H149 =>
                            ∃ n73 : Int,
                            ∃ n74 : Int,
                            ∃ n75 : Int,
                            ∃ n76 : Int,
                            ∃ n77 : Int,
                            ∃ l7 : Sl,
                            r148 = .agg #[.int .i64 n73, .int .i64 n74, .int .i64 n75, .int .i64 n76, .int .i64 n77, .slice l7.p l7.n l7.c] ∧
                            Sub H5 H149 ∧
                            Sub H5 H149 ∧
                            FnH Try.prog 16 #[.pointer t_1, .agg #[.int .i64 n73, .int .i64 n74, .int .i64 n75, .int .i64 n76, .int .i64 n77, .slice l7.p l7.n l7.c]] H149 fun r149 H150 =>
                              r149 = .tuple #[] ∧
                              FnH Try.prog 24 #[.pointer p2, .agg #[.int .i64 n73, .int .i64 n74, .int .i64 n75, .int .i64 n76, .int .i64 n77, .slice l7.p l7.n l7.c]] H150 fun r150 H151 =>
                                r150 = .tuple #[] ∧
                                FnH Try.prog 21 #[.pointer t_1] H151 fun r151 H152 =>
                                  ∃ s79 : ByteArray,
                                  r151 = .string s79 ∧
                                  FnH Try.prog 22 #[.pointer p2] H152 fun r152 H153 =>
                                    ∃ s80 : ByteArray,
                                    r152 = .string s80 ∧
                                    br (!(s79.toList == s80.toList)) (
                                      K (.bool false) H153)
                                     (
                                      SelfEq ([.v (.slice script.p script.n script.c), .v (.pointer p2)], [], []) ∧
                                      I1 t_1 (IntKind.wrap .i64 (i_1 + 1)) H153 ∧
                                      M1 t_1 (IntKind.wrap .i64 (i_1 + 1)) H153 < M1 t_1 i_1 H4)) ∧
                          Sub H5 H148 ∧
                          FnH Try.prog 13 #[.int .i64 n2, .int .i64 n3, .int .i64 n4, .int .i64 n72, .int .i64 n6] H148 fun r153 H154 =>
                            ∃ n78 : Int,
                            ∃ n79 : Int,
                            ∃ n80 : Int,
                            ∃ n81 : Int,
                            ∃ n82 : Int,
                            ∃ l8 : Sl,
                            r153 = .agg #[.int .i64 n78, .int .i64 n79, .int .i64 n80, .int .i64 n81, .int .i64 n82, .slice l8.p l8.n l8.c] ∧
                            Sub H5 H154 ∧
                            FnH Try.prog 16 #[.pointer t_1, .agg #[.int .i64 n78, .int .i64 n79, .int .i64 n80, .int .i64 n81, .int .i64 n82, .slice l8.p l8.n l8.c]] H154 fun r154 H155 =>
                              r154 = .tuple #[] ∧
                              FnH Try.prog 24 #[.pointer p2, .agg #[.int .i64 n78, .int .i64 n79, .int .i64 n80, .int .i64 n81, .int .i64 n82, .slice l8.p l8.n l8.c]] H155 fun r155 H156 =>
                                r155 = .tuple #[] ∧
                                FnH Try.prog 21 #[.pointer t_1] H156 fun r156 H157 =>
                                  ∃ s81 : ByteArray,
                                  r156 = .string s81 ∧
                                  FnH Try.prog 22 #[.pointer p2] H157 fun r157 H158 =>
                                    ∃ s82 : ByteArray,
                                    r157 = .string s82 ∧
                                    br (!(s81.toList == s82.toList)) (
                                      K (.bool false) H158)
                                     (
                                      SelfEq ([.v (.slice script.p script.n script.c), .v (.pointer p2)], [], []) ∧
                                      I1 t_1 (IntKind.wrap .i64 (i_1 + 1)) H158 ∧
                                      M1 t_1 (IntKind.wrap .i64 (i_1 + 1)) H158 < M1 t_1 i_1 H4)) ∧
                        Sub H5 H5 ∧
                        FnH Try.prog 10 #[.int .i64 n5, .int .i64 70] H5 fun r158 H159 =>
                          ∃ n83 : Int,
                          r158 = .int .i64 n83 ∧
                          Sub H5 H159 ∧
                          FnH Try.prog 13 #[.int .i64 n2, .int .i64 n3, .int .i64 n4, .int .i64 n83, .int .i64 n6] H159 fun r159 H160 =>
                            ∃ n84 : Int,
                            ∃ n85 : Int,
                            ∃ n86 : Int,
                            ∃ n87 : Int,
                            ∃ n88 : Int,
                            ∃ l9 : Sl,
                            r159 = .agg #[.int .i64 n84, .int .i64 n85, .int .i64 n86, .int .i64 n87, .int .i64 n88, .slice l9.p l9.n l9.c] ∧
                            Sub H5 H160 ∧
                            FnH Try.prog 16 #[.pointer t_1, .agg #[.int .i64 n84, .int .i64 n85, .int .i64 n86, .int .i64 n87, .int .i64 n88, .slice l9.p l9.n l9.c]] H160 fun r160 H161 =>
                              r160 = .tuple #[] ∧
                              FnH Try.prog 24 #[.pointer p2, .agg #[.int .i64 n84, .int .i64 n85, .int .i64 n86, .int .i64 n87, .int .i64 n88, .slice l9.p l9.n l9.c]] H161 fun r161 H162 =>
                                r161 = .tuple #[] ∧
                                FnH Try.prog 21 #[.pointer t_1] H162 fun r162 H163 =>
                                  ∃ s83 : ByteArray,
                                  r162 = .string s83 ∧
                                  FnH Try.prog 22 #[.pointer p2] H163 fun r163 H164 =>
                                    ∃ s84 : ByteArray,
                                    r163 = .string s84 ∧
                                    br (!(s83.toList == s84.toList)) (
                                      K (.bool false) H164)
                                     (
                                      SelfEq ([.v (.slice script.p script.n script.c), .v (.pointer p2)], [], []) ∧
                                      I1 t_1 (IntKind.wrap .i64 (i_1 + 1)) H164 ∧
                                      M1 t_1 (IntKind.wrap .i64 (i_1 + 1)) H164 < M1 t_1 i_1 H4))
                       (
                        br ((n7 : Int) == 3) (
                          br ((n7 : Int) == 3) (
                            FnH Try.prog 14 #[.pointer t_1, .int .i64 n2, .int .i64 n3, .int .i64 n4, .int .i64 n5] H5 fun r164 H165 =>
                              ∃ n89 : Int,
                              ∃ n90 : Int,
                              r164 = .tuple #[.int .i64 n89, .int .i64 n90] ∧
                              FnH Try.prog 25 #[.pointer p2, .int .i64 n2, .int .i64 n3, .int .i64 n4, .int .i64 n5] H165 fun r165 H166 =>
                                ∃ n91 : Int,
                                ∃ n92 : Int,
                                r165 = .tuple #[.int .i64 n91, .int .i64 n92] ∧
                                br ((n89 : Int) != n91) (
                                  K (.bool false) H166)
                                 (
                                  br ((n90 : Int) != n92) (
                                    K (.bool false) H166)
                                   (
                                    FnH Try.prog 21 #[.pointer t_1] H166 fun r166 H167 =>
                                      ∃ s85 : ByteArray,
                                      r166 = .string s85 ∧
                                      FnH Try.prog 22 #[.pointer p2] H167 fun r167 H168 =>
                                        ∃ s86 : ByteArray,
                                        r167 = .string s86 ∧
                                        br (!(s85.toList == s86.toList)) (
                                          K (.bool false) H168)
                                         (
                                          SelfEq ([.v (.slice script.p script.n script.c), .v (.pointer p2)], [], []) ∧
                                          I1 t_1 (IntKind.wrap .i64 (i_1 + 1)) H168 ∧
                                          M1 t_1 (IntKind.wrap .i64 (i_1 + 1)) H168 < M1 t_1 i_1 H4))))
                           (
                            br ((n7 : Int) == 6) (
                              FnH Try.prog 11 #[.pointer t_1, .int .i64 n6] H5 fun r168 H169 =>
                                r168 = .tuple #[] ∧
                                FnH Try.prog 26 #[.pointer p2, .int .i64 n6] H169 fun r169 H170 =>
                                  r169 = .tuple #[] ∧
                                  FnH Try.prog 21 #[.pointer t_1] H170 fun r170 H171 =>
                                    ∃ s87 : ByteArray,
                                    r170 = .string s87 ∧
                                    FnH Try.prog 22 #[.pointer p2] H171 fun r171 H172 =>
                                      ∃ s88 : ByteArray,
                                      r171 = .string s88 ∧
                                      br (!(s87.toList == s88.toList)) (
                                        K (.bool false) H172)
                                       (
                                        SelfEq ([.v (.slice script.p script.n script.c), .v (.pointer p2)], [], []) ∧
                                        I1 t_1 (IntKind.wrap .i64 (i_1 + 1)) H172 ∧
                                        M1 t_1 (IntKind.wrap .i64 (i_1 + 1)) H172 < M1 t_1 i_1 H4))
                             (
                              br ((n7 : Int) == 7) (
                                FnH Try.prog 12 #[.pointer t_1, .int .i64 n6] H5 fun r172 H173 =>
                                  r172 = .tuple #[] ∧
                                  FnH Try.prog 27 #[.pointer p2, .int .i64 n6] H173 fun r173 H174 =>
                                    r173 = .tuple #[] ∧
                                    FnH Try.prog 21 #[.pointer t_1] H174 fun r174 H175 =>
                                      ∃ s89 : ByteArray,
                                      r174 = .string s89 ∧
                                      FnH Try.prog 22 #[.pointer p2] H175 fun r175 H176 =>
                                        ∃ s90 : ByteArray,
                                        r175 = .string s90 ∧
                                        br (!(s89.toList == s90.toList)) (
                                          K (.bool false) H176)
                                         (
                                          SelfEq ([.v (.slice script.p script.n script.c), .v (.pointer p2)], [], []) ∧
                                          I1 t_1 (IntKind.wrap .i64 (i_1 + 1)) H176 ∧
                                          M1 t_1 (IntKind.wrap .i64 (i_1 + 1)) H176 < M1 t_1 i_1 H4))
                               (
                                br ((n7 : Int) == 8) (
                                  FnH Try.prog 21 #[.pointer t_1] H5 fun r176 H177 =>
                                    ∃ s91 : ByteArray,
                                    r176 = .string s91 ∧
                                    FnH Try.prog 19 #[.string s91] H177 fun r177 H178 =>
                                      ∃ p9 : Option Addr,
                                      ∃ n93 : Int,
                                      r177 = .tuple #[.pointer p9, .int .i64 n93] ∧
                                      br (Option.isNone p9) (
                                        K (.bool false) H178)
                                       (
                                        br ((n93 : Int) != 0) (
                                          K (.bool false) H178)
                                         (
                                          FnH Try.prog 21 #[.pointer p9] H178 fun r178 H179 =>
                                            ∃ s92 : ByteArray,
                                            r178 = .string s92 ∧
                                            FnH Try.prog 22 #[.pointer p2] H179 fun r179 H180 =>
                                              ∃ s93 : ByteArray,
                                              r179 = .string s93 ∧
                                              br (!(s92.toList == s93.toList)) (
                                                K (.bool false) H180)
                                               (
                                                SelfEq ([.v (.slice script.p script.n script.c), .v (.pointer p2)], [], []) ∧
                                                I1 p9 (IntKind.wrap .i64 (i_1 + 1)) H180 ∧
                                                M1 p9 (IntKind.wrap .i64 (i_1 + 1)) H180 < M1 t_1 i_1 H4))))
                                 (
                                  FnH Try.prog 21 #[.pointer t_1] H5 fun r180 H181 =>
                                    ∃ s94 : ByteArray,
                                    r180 = .string s94 ∧
                                    FnH Try.prog 22 #[.pointer p2] H181 fun r181 H182 =>
                                      ∃ s95 : ByteArray,
                                      r181 = .string s95 ∧
                                      br (!(s94.toList == s95.toList)) (
                                        K (.bool false) H182)
                                       (
                                        SelfEq ([.v (.slice script.p script.n script.c), .v (.pointer p2)], [], []) ∧
                                        I1 t_1 (IntKind.wrap .i64 (i_1 + 1)) H182 ∧
                                        M1 t_1 (IntKind.wrap .i64 (i_1 + 1)) H182 < M1 t_1 i_1 H4))))))
                         (
                          br ((n7 : Int) == 4) (
                            br ((n7 : Int) == 4) (
                              FnH Try.prog 14 #[.pointer t_1, .int .i64 n2, .int .i64 n3, .int .i64 n4, .int .i64 n5] H5 fun r182 H183 =>
                                ∃ n94 : Int,
                                ∃ n95 : Int,
                                r182 = .tuple #[.int .i64 n94, .int .i64 n95] ∧
                                FnH Try.prog 25 #[.pointer p2, .int .i64 n2, .int .i64 n3, .int .i64 n4, .int .i64 n5] H183 fun r183 H184 =>
                                  ∃ n96 : Int,
                                  ∃ n97 : Int,
                                  r183 = .tuple #[.int .i64 n96, .int .i64 n97] ∧
                                  br ((n94 : Int) != n96) (
                                    K (.bool false) H184)
                                   (
                                    br ((n95 : Int) != n97) (
                                      K (.bool false) H184)
                                     (
                                      FnH Try.prog 21 #[.pointer t_1] H184 fun r184 H185 =>
                                        ∃ s96 : ByteArray,
                                        r184 = .string s96 ∧
                                        FnH Try.prog 22 #[.pointer p2] H185 fun r185 H186 =>
                                          ∃ s97 : ByteArray,
                                          r185 = .string s97 ∧
                                          br (!(s96.toList == s97.toList)) (
                                            K (.bool false) H186)
                                           (
                                            SelfEq ([.v (.slice script.p script.n script.c), .v (.pointer p2)], [], []) ∧
                                            I1 t_1 (IntKind.wrap .i64 (i_1 + 1)) H186 ∧
                                            M1 t_1 (IntKind.wrap .i64 (i_1 + 1)) H186 < M1 t_1 i_1 H4))))
                             (
                              br ((n7 : Int) == 6) (
                                FnH Try.prog 11 #[.pointer t_1, .int .i64 n6] H5 fun r186 H187 =>
                                  r186 = .tuple #[] ∧
                                  FnH Try.prog 26 #[.pointer p2, .int .i64 n6] H187 fun r187 H188 =>
                                    r187 = .tuple #[] ∧
                                    FnH Try.prog 21 #[.pointer t_1] H188 fun r188 H189 =>
                                      ∃ s98 : ByteArray,
                                      r188 = .string s98 ∧
                                      FnH Try.prog 22 #[.pointer p2] H189 fun r189 H190 =>
                                        ∃ s99 : ByteArray,
                                        r189 = .string s99 ∧
                                        br (!(s98.toList == s99.toList)) (
                                          K (.bool false) H190)
                                         (
                                          SelfEq ([.v (.slice script.p script.n script.c), .v (.pointer p2)], [], []) ∧
                                          I1 t_1 (IntKind.wrap .i64 (i_1 + 1)) H190 ∧
                                          M1 t_1 (IntKind.wrap .i64 (i_1 + 1)) H190 < M1 t_1 i_1 H4))
                               (
                                br ((n7 : Int) == 7) (
                                  FnH Try.prog 12 #[.pointer t_1, .int .i64 n6] H5 fun r190 H191 =>
                                    r190 = .tuple #[] ∧
                                    FnH Try.prog 27 #[.pointer p2, .int .i64 n6] H191 fun r191 H192 =>
                                      r191 = .tuple #[] ∧
                                      FnH Try.prog 21 #[.pointer t_1] H192 fun r192 H193 =>
                                        ∃ s100 : ByteArray,
                                        r192 = .string s100 ∧
                                        FnH Try.prog 22 #[.pointer p2] H193 fun r193 H194 =>
                                          ∃ s101 : ByteArray,
                                          r193 = .string s101 ∧
                                          br (!(s100.toList == s101.toList)) (
                                            K (.bool false) H194)
                                           (
                                            SelfEq ([.v (.slice script.p script.n script.c), .v (.pointer p2)], [], []) ∧
                                            I1 t_1 (IntKind.wrap .i64 (i_1 + 1)) H194 ∧
                                            M1 t_1 (IntKind.wrap .i64 (i_1 + 1)) H194 < M1 t_1 i_1 H4))
                                 (
                                  br ((n7 : Int) == 8) (
                                    FnH Try.prog 21 #[.pointer t_1] H5 fun r194 H195 =>
                                      ∃ s102 : ByteArray,
                                      r194 = .string s102 ∧
                                      FnH Try.prog 19 #[.string s102] H195 fun r195 H196 =>
                                        ∃ p10 : Option Addr,
                                        ∃ n98 : Int,
                                        r195 = .tuple #[.pointer p10, .int .i64 n98] ∧
                                        br (Option.isNone p10) (
                                          K (.bool false) H196)
                                         (
                                          br ((n98 : Int) != 0) (
                                            K (.bool false) H196)
                                           (
                                            FnH Try.prog 21 #[.pointer p10] H196 fun r196 H197 =>
                                              ∃ s103 : ByteArray,
                                              r196 = .string s103 ∧
                                              FnH Try.prog 22 #[.pointer p2] H197 fun r197 H198 =>
                                                ∃ s104 : ByteArray,
                                                r197 = .string s104 ∧
                                                br (!(s103.toList == s104.toList)) (
                                                  K (.bool false) H198)
                                                 (
                                                  SelfEq ([.v (.slice script.p script.n script.c), .v (.pointer p2)], [], []) ∧
                                                  I1 p10 (IntKind.wrap .i64 (i_1 + 1)) H198 ∧
                                                  M1 p10 (IntKind.wrap .i64 (i_1 + 1)) H198 < M1 t_1 i_1 H4))))
                                   (
                                    FnH Try.prog 21 #[.pointer t_1] H5 fun r198 H199 =>
                                      ∃ s105 : ByteArray,
                                      r198 = .string s105 ∧
                                      FnH Try.prog 22 #[.pointer p2] H199 fun r199 H200 =>
                                        ∃ s106 : ByteArray,
                                        r199 = .string s106 ∧
                                        br (!(s105.toList == s106.toList)) (
                                          K (.bool false) H200)
                                         (
                                          SelfEq ([.v (.slice script.p script.n script.c), .v (.pointer p2)], [], []) ∧
                                          I1 t_1 (IntKind.wrap .i64 (i_1 + 1)) H200 ∧
                                          M1 t_1 (IntKind.wrap .i64 (i_1 + 1)) H200 < M1 t_1 i_1 H4))))))
                           (
                            br ((n7 : Int) == 5) (
                              FnH Try.prog 14 #[.pointer t_1, .int .i64 n2, .int .i64 n3, .int .i64 n4, .int .i64 n5] H5 fun r200 H201 =>
                                ∃ n99 : Int,
                                ∃ n100 : Int,
                                r200 = .tuple #[.int .i64 n99, .int .i64 n100] ∧
                                FnH Try.prog 25 #[.pointer p2, .int .i64 n2, .int .i64 n3, .int .i64 n4, .int .i64 n5] H201 fun r201 H202 =>
                                  ∃ n101 : Int,
                                  ∃ n102 : Int,
                                  r201 = .tuple #[.int .i64 n101, .int .i64 n102] ∧
                                  br ((n99 : Int) != n101) (
                                    K (.bool false) H202)
                                   (
                                    br ((n100 : Int) != n102) (
                                      K (.bool false) H202)
                                     (
                                      FnH Try.prog 21 #[.pointer t_1] H202 fun r202 H203 =>
                                        ∃ s107 : ByteArray,
                                        r202 = .string s107 ∧
                                        FnH Try.prog 22 #[.pointer p2] H203 fun r203 H204 =>
                                          ∃ s108 : ByteArray,
                                          r203 = .string s108 ∧
                                          br (!(s107.toList == s108.toList)) (
                                            K (.bool false) H204)
                                           (
                                            SelfEq ([.v (.slice script.p script.n script.c), .v (.pointer p2)], [], []) ∧
                                            I1 t_1 (IntKind.wrap .i64 (i_1 + 1)) H204 ∧
                                            M1 t_1 (IntKind.wrap .i64 (i_1 + 1)) H204 < M1 t_1 i_1 H4))))
                             (
                              br ((n7 : Int) == 6) (
                                FnH Try.prog 11 #[.pointer t_1, .int .i64 n6] H5 fun r204 H205 =>
                                  r204 = .tuple #[] ∧
                                  FnH Try.prog 26 #[.pointer p2, .int .i64 n6] H205 fun r205 H206 =>
                                    r205 = .tuple #[] ∧
                                    FnH Try.prog 21 #[.pointer t_1] H206 fun r206 H207 =>
                                      ∃ s109 : ByteArray,
                                      r206 = .string s109 ∧
                                      FnH Try.prog 22 #[.pointer p2] H207 fun r207 H208 =>
                                        ∃ s110 : ByteArray,
                                        r207 = .string s110 ∧
                                        br (!(s109.toList == s110.toList)) (
                                          K (.bool false) H208)
                                         (
                                          SelfEq ([.v (.slice script.p script.n script.c), .v (.pointer p2)], [], []) ∧
                                          I1 t_1 (IntKind.wrap .i64 (i_1 + 1)) H208 ∧
                                          M1 t_1 (IntKind.wrap .i64 (i_1 + 1)) H208 < M1 t_1 i_1 H4))
                               (
                                br ((n7 : Int) == 7) (
                                  FnH Try.prog 12 #[.pointer t_1, .int .i64 n6] H5 fun r208 H209 =>
                                    r208 = .tuple #[] ∧
                                    FnH Try.prog 27 #[.pointer p2, .int .i64 n6] H209 fun r209 H210 =>
                                      r209 = .tuple #[] ∧
                                      FnH Try.prog 21 #[.pointer t_1] H210 fun r210 H211 =>
                                        ∃ s111 : ByteArray,
                                        r210 = .string s111 ∧
                                        FnH Try.prog 22 #[.pointer p2] H211 fun r211 H212 =>
                                          ∃ s112 : ByteArray,
                                          r211 = .string s112 ∧
                                          br (!(s111.toList == s112.toList)) (
                                            K (.bool false) H212)
                                           (
                                            SelfEq ([.v (.slice script.p script.n script.c), .v (.pointer p2)], [], []) ∧
                                            I1 t_1 (IntKind.wrap .i64 (i_1 + 1)) H212 ∧
                                            M1 t_1 (IntKind.wrap .i64 (i_1 + 1)) H212 < M1 t_1 i_1 H4))
                                 (
                                  br ((n7 : Int) == 8) (
                                    FnH Try.prog 21 #[.pointer t_1] H5 fun r212 H213 =>
                                      ∃ s113 : ByteArray,
                                      r212 = .string s113 ∧
                                      FnH Try.prog 19 #[.string s113] H213 fun r213 H214 =>
                                        ∃ p11 : Option Addr,
                                        ∃ n103 : Int,
                                        r213 = .tuple #[.pointer p11, .int .i64 n103] ∧
                                        br (Option.isNone p11) (
                                          K (.bool false) H214)
                                         (
                                          br ((n103 : Int) != 0) (
                                            K (.bool false) H214)
                                           (
                                            FnH Try.prog 21 #[.pointer p11] H214 fun r214 H215 =>
                                              ∃ s114 : ByteArray,
                                              r214 = .string s114 ∧
                                              FnH Try.prog 22 #[.pointer p2] H215 fun r215 H216 =>
                                                ∃ s115 : ByteArray,
                                                r215 = .string s115 ∧
                                                br (!(s114.toList == s115.toList)) (
                                                  K (.bool false) H216)
                                                 (
                                                  SelfEq ([.v (.slice script.p script.n script.c), .v (.pointer p2)], [], []) ∧
                                                  I1 p11 (IntKind.wrap .i64 (i_1 + 1)) H216 ∧
                                                  M1 p11 (IntKind.wrap .i64 (i_1 + 1)) H216 < M1 t_1 i_1 H4))))
                                   (
                                    FnH Try.prog 21 #[.pointer t_1] H5 fun r216 H217 =>
                                      ∃ s116 : ByteArray,
                                      r216 = .string s116 ∧
                                      FnH Try.prog 22 #[.pointer p2] H217 fun r217 H218 =>
                                        ∃ s117 : ByteArray,
                                        r217 = .string s117 ∧
                                        br (!(s116.toList == s117.toList)) (
                                          K (.bool false) H218)
                                         (
                                          SelfEq ([.v (.slice script.p script.n script.c), .v (.pointer p2)], [], []) ∧
                                          I1 t_1 (IntKind.wrap .i64 (i_1 + 1)) H218 ∧
                                          M1 t_1 (IntKind.wrap .i64 (i_1 + 1)) H218 < M1 t_1 i_1 H4)))))))))))
               (
                K (.bool true) H4))
             (
              K (.bool true) H4)))
theorem logboomlaw8_DedupPlays_eq (script : Sl) (H : Heap) (K : Value → Heap → Prop) : logboomlaw8_DedupPlays_vc script H K = denFn Try.prog logboomlaw8_DedupPlays_ann Try.f5 (bodyOf Try.f5) [.slice script.p script.n script.c] H K := by kernel_rfl
theorem logboomlaw8_DedupPlays_fn (script : Sl) {H : Heap} {K : Value → Heap → Prop} (h : logboomlaw8_DedupPlays_vc script H K) : FnH Try.prog 5 #[.slice script.p script.n script.c] H K :=
  denFn_fn Try.mixed logboomlaw8_DedupPlays_ann Try.func5 (bodyOf_spec (by kernel_rfl)) (logboomlaw8_DedupPlays_eq script H K) h

end Go.Proofs.Ytkabaoigablphaa
