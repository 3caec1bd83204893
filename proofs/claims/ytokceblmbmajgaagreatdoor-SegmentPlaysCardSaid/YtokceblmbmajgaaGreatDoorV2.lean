/- Formulas of functions, printed by this session's vc.py; each is tied to the program by the kernel. -/
import Derived.Test.YtokceblmbmajgaaGreatDoorProg
import Derived.KernelRfl
import Derived.Test.YtokceblmbmajgaaGreatDoorHlFn
import Derived.Test.YtokceblmbmajgaaGreatDoorV1
namespace Go.Proofs.YtokceblmbmajgaaGreatDoor
open Go.HL
set_option maxRecDepth 100000
/-! function 68: logboom/wire.Right -/
def wire_Right_ann : Anns := { hid := [1, 6], loops := [(0, { slots := [(4, .bool), (57, .int .i64)], kept := [1, 3, 55, 56], locs := [], keptL := [0] })], joins := [((0, 16), { slots := [(84, .bool)], kept := [1], locs := [], keptL := [0] })], mix := [] }
def wire_Right_vc (b_0 : Int) (b_1 : Int) (b_2 : Int) (b_3 : Int) (b_4 : Int) (b_5 : Sl) (H : Heap) (K : Value → Heap → Prop) : Prop :=
  br (decide ((b_0 : Int) < 0)) (
    K (.int .i64 1) H)
   (
    FnH Tryz.prog 84 #[.int .i64 b_1, .int .i64 1000000000] H fun r1 H1 =>
      ∃ b1 : Bool,
      r1 = .bool b1 ∧
      br (!b1) (
        K (.int .i64 1) H1)
       (
        FnH Tryz.prog 84 #[.int .i64 b_2, .int .i64 1000000000] H1 fun r2 H2 =>
          ∃ b2 : Bool,
          r2 = .bool b2 ∧
          br (!b2) (
            K (.int .i64 1) H2)
           (
            FnH Tryz.prog 84 #[.int .i64 b_3, .int .i64 1000000000] H2 fun r3 H3 =>
              ∃ b3 : Bool,
              r3 = .bool b3 ∧
              br (!b3) (
                K (.int .i64 1) H3)
               (
                FnH Tryz.prog 84 #[.int .i64 b_4, .int .i64 1000000000] H3 fun r4 H4 =>
                  ∃ b4 : Bool,
                  r4 = .bool b4 ∧
                  br (!b4) (
                    K (.int .i64 1) H4)
                   (
                    br ((b_2 : Int) == 0) (
                      br (((orI .i64 b_3 b_4) : Int) != 0) (
                        K (.int .i64 1) H4)
                       (
                        br (((b_5.n : Nat) : Int) == 0) (
                          K (.int .i64 1) H4)
                         (
                          ∃ I1 : Bool → Int → Heap → Prop,
                          ∃ M1 : Bool → Int → Heap → Nat,
                          I1 false 0 H4 ∧
                          ∀ long_1 : Bool,
                          ∀ n_1 : Int,
                          ∀ H5 : Heap,
                          I1 long_1 n_1 H5 →
                          br (decide ((n_1 : Int) < (b_5.n : Nat))) (
                            ∃ q1 : Nat,
                            ∃ o1 : Nat,
                            (b_5.p : Option Addr) = some ⟨q1, o1, none⟩ ∧
                            0 ≤ (n_1 : Int) ∧
                            (n_1 : Int) < (b_5.n : Nat) ∧
                            ∃ s1 : ByteArray,
                            cellH H5 ⟨q1, o1 + Int.toNat n_1 * 3, none⟩ = some (.string s1) ∧
                            ∃ s2 : ByteArray,
                            cellH H5 ⟨q1, o1 + Int.toNat n_1 * 3 + 1, none⟩ = some (.string s2) ∧
                            ∃ n1 : Int,
                            cellH H5 ⟨q1, o1 + Int.toNat n_1 * 3 + 2, none⟩ = some (.int .i64 n1) ∧
                            FnH Tryz.prog 84 #[.int .i64 n1, .int .i64 1000000000] H5 fun r5 H6 =>
                              ∃ b5 : Bool,
                              r5 = .bool b5 ∧
                              br (!b5) (
                                K (.int .i64 1) H6)
                               (
                                br (long_1) (
                                  SelfEq ([.loc 0 0, .v (.int .i64 (b_5.n : Nat)), .v (.slice b_5.p b_5.n b_5.c), .v (.int .i64 (b_5.n : Nat))], [some (40, [.int .i64 b_0, .int .i64 b_1, .int .i64 b_2, .int .i64 b_3, .int .i64 b_4, .slice b_5.p b_5.n b_5.c])], []) ∧
                                  I1 true (IntKind.wrap .i64 (n_1 + 1)) H6 ∧
                                  M1 true (IntKind.wrap .i64 (n_1 + 1)) H6 < M1 long_1 n_1 H5)
                                 (
                                  br (decide (((s1.size : Nat) : Int) > 1000)) (
                                    SelfEq ([.loc 0 0, .v (.int .i64 (b_5.n : Nat)), .v (.slice b_5.p b_5.n b_5.c), .v (.int .i64 (b_5.n : Nat))], [some (40, [.int .i64 b_0, .int .i64 b_1, .int .i64 b_2, .int .i64 b_3, .int .i64 b_4, .slice b_5.p b_5.n b_5.c])], []) ∧
                                    I1 true (IntKind.wrap .i64 (n_1 + 1)) H6 ∧
                                    M1 true (IntKind.wrap .i64 (n_1 + 1)) H6 < M1 long_1 n_1 H5)
                                   (
                                    SelfEq ([.loc 0 0, .v (.int .i64 (b_5.n : Nat)), .v (.slice b_5.p b_5.n b_5.c), .v (.int .i64 (b_5.n : Nat))], [some (40, [.int .i64 b_0, .int .i64 b_1, .int .i64 b_2, .int .i64 b_3, .int .i64 b_4, .slice b_5.p b_5.n b_5.c])], []) ∧
                                    I1 (decide (((s2.size : Nat) : Int) > 1000)) (IntKind.wrap .i64 (n_1 + 1)) H6 ∧
                                    M1 (decide (((s2.size : Nat) : Int) > 1000)) (IntKind.wrap .i64 (n_1 + 1)) H6 < M1 long_1 n_1 H5))))
                           (
                            br (decide (((b_5.n : Nat) : Int) > 64)) (
                              K (.int .i64 3) H5)
                             (
                              br (long_1) (
                                K (.int .i64 2) H5)
                               (
                                ∃ J1 : Bool → Heap → Prop,
                                (br (decide ((b_0 : Int) > (IntKind.wrap .i64 ((IntKind.wrap .i64 (1000000000 - (b_5.n : Nat))) + 1)))) (
                                  SelfEq ([.loc 0 0], [some (40, [.int .i64 b_0, .int .i64 b_1, .int .i64 b_2, .int .i64 b_3, .int .i64 b_4, .slice b_5.p b_5.n b_5.c])], []) ∧
                                  J1 true H5)
                                 (
                                  SelfEq ([.loc 0 0], [some (40, [.int .i64 b_0, .int .i64 b_1, .int .i64 b_2, .int .i64 b_3, .int .i64 b_4, .slice b_5.p b_5.n b_5.c])], []) ∧
                                  J1 (decide ((b_4 : Int) > (IntKind.wrap .i64 ((IntKind.wrap .i64 (1000000 - (b_5.n : Nat))) + 1)))) H5)) ∧
                                ∀ b_6 : Bool,
                                ∀ H7 : Heap,
                                J1 b_6 H7 →
                                br (b_6) (
                                  K (.int .i64 20) H7)
                                 (
                                  FnH Tryz.prog 69 #[.agg #[.int .i64 b_0, .int .i64 b_1, .int .i64 b_2, .int .i64 b_3, .int .i64 b_4, .slice b_5.p b_5.n b_5.c]] H7 fun r6 H8 =>
                                    ∃ l1 : Sl,
                                    r6 = .slice l1.p l1.n l1.c ∧
                                    br (decide (((l1.n : Nat) : Int) > 4088)) (
                                      K (.int .i64 2) H8)
                                     (
                                      K (.int .i64 0) H8))))))))
                     (
                      br (((b_5.n : Nat) : Int) == 0) (
                        K (.int .i64 1) H4)
                       (
                        ∃ I2 : Bool → Int → Heap → Prop,
                        ∃ M2 : Bool → Int → Heap → Nat,
                        I2 false 0 H4 ∧
                        ∀ long_2 : Bool,
                        ∀ n_2 : Int,
                        ∀ H9 : Heap,
                        I2 long_2 n_2 H9 →
                        br (decide ((n_2 : Int) < (b_5.n : Nat))) (
                          ∃ q2 : Nat,
                          ∃ o2 : Nat,
                          (b_5.p : Option Addr) = some ⟨q2, o2, none⟩ ∧
                          0 ≤ (n_2 : Int) ∧
                          (n_2 : Int) < (b_5.n : Nat) ∧
                          ∃ s3 : ByteArray,
                          cellH H9 ⟨q2, o2 + Int.toNat n_2 * 3, none⟩ = some (.string s3) ∧
                          ∃ s4 : ByteArray,
                          cellH H9 ⟨q2, o2 + Int.toNat n_2 * 3 + 1, none⟩ = some (.string s4) ∧
                          ∃ n2 : Int,
                          cellH H9 ⟨q2, o2 + Int.toNat n_2 * 3 + 2, none⟩ = some (.int .i64 n2) ∧
                          FnH Tryz.prog 84 #[.int .i64 n2, .int .i64 1000000000] H9 fun r7 H10 =>
                            ∃ b6 : Bool,
                            r7 = .bool b6 ∧
                            br (!b6) (
                              K (.int .i64 1) H10)
                             (
                              br (long_2) (
                                SelfEq ([.loc 0 0, .v (.int .i64 (b_5.n : Nat)), .v (.slice b_5.p b_5.n b_5.c), .v (.int .i64 (b_5.n : Nat))], [some (40, [.int .i64 b_0, .int .i64 b_1, .int .i64 b_2, .int .i64 b_3, .int .i64 b_4, .slice b_5.p b_5.n b_5.c])], []) ∧
                                I2 true (IntKind.wrap .i64 (n_2 + 1)) H10 ∧
                                M2 true (IntKind.wrap .i64 (n_2 + 1)) H10 < M2 long_2 n_2 H9)
                               (
                                br (decide (((s3.size : Nat) : Int) > 1000)) (
                                  SelfEq ([.loc 0 0, .v (.int .i64 (b_5.n : Nat)), .v (.slice b_5.p b_5.n b_5.c), .v (.int .i64 (b_5.n : Nat))], [some (40, [.int .i64 b_0, .int .i64 b_1, .int .i64 b_2, .int .i64 b_3, .int .i64 b_4, .slice b_5.p b_5.n b_5.c])], []) ∧
                                  I2 true (IntKind.wrap .i64 (n_2 + 1)) H10 ∧
                                  M2 true (IntKind.wrap .i64 (n_2 + 1)) H10 < M2 long_2 n_2 H9)
                                 (
                                  SelfEq ([.loc 0 0, .v (.int .i64 (b_5.n : Nat)), .v (.slice b_5.p b_5.n b_5.c), .v (.int .i64 (b_5.n : Nat))], [some (40, [.int .i64 b_0, .int .i64 b_1, .int .i64 b_2, .int .i64 b_3, .int .i64 b_4, .slice b_5.p b_5.n b_5.c])], []) ∧
                                  I2 (decide (((s4.size : Nat) : Int) > 1000)) (IntKind.wrap .i64 (n_2 + 1)) H10 ∧
                                  M2 (decide (((s4.size : Nat) : Int) > 1000)) (IntKind.wrap .i64 (n_2 + 1)) H10 < M2 long_2 n_2 H9))))
                         (
                          br (decide (((b_5.n : Nat) : Int) > 64)) (
                            K (.int .i64 3) H9)
                           (
                            br (long_2) (
                              K (.int .i64 2) H9)
                             (
                              ∃ J2 : Bool → Heap → Prop,
                              (br (decide ((b_0 : Int) > (IntKind.wrap .i64 ((IntKind.wrap .i64 (1000000000 - (b_5.n : Nat))) + 1)))) (
                                SelfEq ([.loc 0 0], [some (40, [.int .i64 b_0, .int .i64 b_1, .int .i64 b_2, .int .i64 b_3, .int .i64 b_4, .slice b_5.p b_5.n b_5.c])], []) ∧
                                J2 true H9)
                               (
                                SelfEq ([.loc 0 0], [some (40, [.int .i64 b_0, .int .i64 b_1, .int .i64 b_2, .int .i64 b_3, .int .i64 b_4, .slice b_5.p b_5.n b_5.c])], []) ∧
                                J2 (decide ((b_4 : Int) > (IntKind.wrap .i64 ((IntKind.wrap .i64 (1000000 - (b_5.n : Nat))) + 1)))) H9)) ∧
                              ∀ b_7 : Bool,
                              ∀ H11 : Heap,
                              J2 b_7 H11 →
                              br (b_7) (
                                K (.int .i64 20) H11)
                               (
                                FnH Tryz.prog 69 #[.agg #[.int .i64 b_0, .int .i64 b_1, .int .i64 b_2, .int .i64 b_3, .int .i64 b_4, .slice b_5.p b_5.n b_5.c]] H11 fun r8 H12 =>
                                  ∃ l2 : Sl,
                                  r8 = .slice l2.p l2.n l2.c ∧
                                  br (decide (((l2.n : Nat) : Int) > 4088)) (
                                    K (.int .i64 2) H12)
                                   (
                                    K (.int .i64 0) H12))))))))))))
theorem wire_Right_eq (b_0 : Int) (b_1 : Int) (b_2 : Int) (b_3 : Int) (b_4 : Int) (b_5 : Sl) (H : Heap) (K : Value → Heap → Prop) : wire_Right_vc b_0 b_1 b_2 b_3 b_4 b_5 H K = denFn Tryz.prog wire_Right_ann Tryz.f68 (bodyOf Tryz.f68) [.agg #[.int .i64 b_0, .int .i64 b_1, .int .i64 b_2, .int .i64 b_3, .int .i64 b_4, .slice b_5.p b_5.n b_5.c]] H K := by kernel_rfl
theorem wire_Right_fn (b_0 : Int) (b_1 : Int) (b_2 : Int) (b_3 : Int) (b_4 : Int) (b_5 : Sl) {H : Heap} {K : Value → Heap → Prop} (h : wire_Right_vc b_0 b_1 b_2 b_3 b_4 b_5 H K) : FnH Tryz.prog 68 #[.agg #[.int .i64 b_0, .int .i64 b_1, .int .i64 b_2, .int .i64 b_3, .int .i64 b_4, .slice b_5.p b_5.n b_5.c]] H K :=
  denFn_fn Tryz.mixed wire_Right_ann Tryz.func68 (bodyOf_spec (by kernel_rfl)) (wire_Right_eq b_0 b_1 b_2 b_3 b_4 b_5 H K) h

/-! function 39: logboom/wire.ReadBatch -/
def wire_ReadBatch_ann : Anns := { hid := [2, 45, 11], loops := [(1, { slots := [(52, .int .i64)], kept := [2, 5, 6, 7, 51], locs := [(1, [.str, .bool])], keptL := [0] }), (3, { slots := [(10, .int .i64)], kept := [2, 5, 6, 7], locs := [(1, [.str, .bool])], keptL := [0] })], joins := [], mix := [(8, [])] }
def wire_ReadBatch_vc (s : ByteArray) (H : Heap) (K : Value → Heap → Prop) : Prop :=
  br (decide (((s.size : Nat) : Int) < 8)) (
    K (.tuple #[.agg #[.int .i64 0, .int .i64 0, .int .i64 0, .int .i64 0, .int .i64 0, .slice none 0 0], .int .i64 0, .int .i64 5]) H)
   (
    FnH Tryz.prog 64 #[.string s] H fun r1 H1 =>
      ∃ n1 : Int,
      r1 = .int .i64 n1 ∧
      br (decide ((n1 : Int) > 4088)) (
        K (.tuple #[.agg #[.int .i64 0, .int .i64 0, .int .i64 0, .int .i64 0, .int .i64 0, .slice none 0 0], .int .i64 0, .int .i64 2]) H1)
       (
        br (decide (((IntKind.wrap .i64 ((s.size : Nat) - 8)) : Int) < n1)) (
          K (.tuple #[.agg #[.int .i64 0, .int .i64 0, .int .i64 0, .int .i64 0, .int .i64 0, .slice none 0 0], .int .i64 0, .int .i64 5]) H1)
         (
          0 ≤ (IntKind.wrap .i64 (8 + n1) : Int) ∧
          (IntKind.wrap .i64 (8 + n1) : Int) ≤ (s.size : Nat) ∧
          0 ≤ (8 : Int) ∧
          (8 : Int) ≤ (IntKind.wrap .i64 (8 + n1)) ∧
          0 ≤ (4 : Int) ∧
          (4 : Int) ≤ (s.size : Nat) ∧
          FnH Tryz.prog 65 #[.string (s.extract (Int.toNat 8) (Int.toNat (IntKind.wrap .i64 (8 + n1))))] H1 fun r2 H2 =>
            ∃ n2 : Int,
            r2 = .int .i64 n2 ∧
            Sub H1 H2 ∧
            FnH Tryz.prog 64 #[.string (s.extract (Int.toNat 4) (Int.toNat (s.size : Nat)))] H2 fun r3 H3 =>
              ∃ n3 : Int,
              r3 = .int .i64 n3 ∧
              Sub H1 H3 ∧
              br ((n2 : Int) != n3) (
                K (.tuple #[.agg #[.int .i64 0, .int .i64 0, .int .i64 0, .int .i64 0, .int .i64 0, .slice none 0 0], .int .i64 0, .int .i64 6]) H3)
               (
                0 ≤ (IntKind.wrap .i64 (8 + n1) : Int) ∧
                (IntKind.wrap .i64 (8 + n1) : Int) ≤ (s.size : Nat) ∧
                0 ≤ (8 : Int) ∧
                (8 : Int) ≤ (IntKind.wrap .i64 (8 + n1)) ∧
                ∀ q1 : Nat,
                H3 q1 = none →
                letH (Heap.upd H3 q1 (.cells #[.int .i64 0, .int .i64 0, .int .i64 0, .int .i64 0, .int .i64 0, .slice none 0 0] 40 (0, 0))) fun H4 =>
                ∃ I1 : Int → ByteArray → Bool → Heap → Prop,
                ∃ M1 : Int → ByteArray → Bool → Heap → Nat,
                I1 0 (s.extract (Int.toNat 8) (Int.toNat (IntKind.wrap .i64 (8 + n1)))) true H4 ∧
                ∀ n_1 : Int,
                ∀ s1 : ByteArray,
                ∀ b1 : Bool,
                ∀ H5 : Heap,
                I1 n_1 s1 b1 H5 →
                br (decide ((n_1 : Int) < 5)) (
                  0 ≤ (n_1 : Int) ∧
                  (n_1 : Int) < (5 : Nat) ∧
                  ∃ p1 : Option Addr,
                  (#[.pointer (some ⟨q1, 0, none⟩), .pointer (some ⟨q1, 1, none⟩), .pointer (some ⟨q1, 2, none⟩), .pointer (some ⟨q1, 3, none⟩), .pointer (some ⟨q1, 4, none⟩)] : Array Value)[Int.toNat n_1]? = some (.pointer p1) ∧
                  ∀ q2 : Nat,
                  H5 q2 = none →
                  FnH Tryz.prog 66 #[.pointer (some ⟨q2, 0, none⟩)] (Heap.upd H5 q2 (.cells #[.string s1, .bool b1] 108 (0, 0))) fun r4 H6 =>
                    ∃ n4 : Int,
                    r4 = .int .i64 n4 ∧
                    ∃ s2 : ByteArray,
                    ∃ b2 : Bool,
                    H6 q2 = some (.cells #[.string s2, .bool b2] 108 (0, 0)) ∧
                    letH (Heap.del H6 q2) fun H7 =>
                    ptrm p1 fun q3 o1 =>
                    (∃ u, cellH H7 ⟨q3, o1, none⟩ = some u) ∧
                    frozenH H7 ⟨q3, o1, none⟩ = false ∧
                    letH (Heap.set H7 ⟨q3, o1, none⟩ (.int .i64 n4)) fun H8 =>
                    SelfEq ([.loc 0 0, .v (.int .i64 n1), .loc 1 0, .v (.pointer (some ⟨q1, 0, none⟩)), .v (.agg #[.pointer (some ⟨q1, 0, none⟩), .pointer (some ⟨q1, 1, none⟩), .pointer (some ⟨q1, 2, none⟩), .pointer (some ⟨q1, 3, none⟩), .pointer (some ⟨q1, 4, none⟩)])], [some (40, [.int .i64 0, .int .i64 0, .int .i64 0, .int .i64 0, .int .i64 0, .slice none 0 0])], [108]) ∧
                    I1 (IntKind.wrap .i64 (n_1 + 1)) s2 b2 H8 ∧
                    M1 (IntKind.wrap .i64 (n_1 + 1)) s2 b2 H8 < M1 n_1 s1 b1 H5)
                 (
                  ∀ q4 : Nat,
                  H5 q4 = none →
                  FnH Tryz.prog 66 #[.pointer (some ⟨q4, 0, none⟩)] (Heap.upd H5 q4 (.cells #[.string s1, .bool b1] 108 (0, 0))) fun r5 H9 =>
                    ∃ n5 : Int,
                    r5 = .int .i64 n5 ∧
                    ∃ s3 : ByteArray,
                    ∃ b3 : Bool,
                    H9 q4 = some (.cells #[.string s3, .bool b3] 108 (0, 0)) ∧
                    letH (Heap.del H9 q4) fun H10 =>
                    ∃ I2 : Int → ByteArray → Bool → Heap → Prop,
                    ∃ M2 : Int → ByteArray → Bool → Heap → Nat,
                    I2 n5 s3 b3 H10 ∧
                    ∀ i_1 : Int,
                    ∀ s4 : ByteArray,
                    ∀ b4 : Bool,
                    ∀ H11 : Heap,
                    I2 i_1 s4 b4 H11 →
                    br (decide ((i_1 : Int) > 0)) (
                      br (b4) (
                        ∃ l1 : Sl,
                        cellH H11 ⟨q1, 5, none⟩ = some (.slice l1.p l1.n l1.c) ∧
                        br (decide (((l1.n : Nat) : Int) ≤ 64)) (
                          ∀ q5 : Nat,
                          H11 q5 = none →
                          FnH Tryz.prog 66 #[.pointer (some ⟨q5, 0, none⟩)] (Heap.upd H11 q5 (.cells #[.string s4, .bool b4] 108 (0, 0))) fun r6 H12 =>
                            ∃ n6 : Int,
                            r6 = .int .i64 n6 ∧
                            ∃ s5 : ByteArray,
                            ∃ b5 : Bool,
                            H12 q5 = some (.cells #[.string s5, .bool b5] 108 (0, 0)) ∧
                            letH (Heap.del H12 q5) fun H13 =>
                            ∀ q6 : Nat,
                            H13 q6 = none →
                            FnH Tryz.prog 67 #[.pointer (some ⟨q6, 0, none⟩), .int .i64 1000] (Heap.upd H13 q6 (.cells #[.string s5, .bool b5] 108 (0, 0))) fun r7 H14 =>
                              ∃ s6 : ByteArray,
                              r7 = .string s6 ∧
                              ∃ s7 : ByteArray,
                              ∃ b6 : Bool,
                              H14 q6 = some (.cells #[.string s7, .bool b6] 108 (0, 0)) ∧
                              letH (Heap.del H14 q6) fun H15 =>
                              ∀ q7 : Nat,
                              H15 q7 = none →
                              FnH Tryz.prog 67 #[.pointer (some ⟨q7, 0, none⟩), .int .i64 1000] (Heap.upd H15 q7 (.cells #[.string s7, .bool b6] 108 (0, 0))) fun r8 H16 =>
                                ∃ s8 : ByteArray,
                                r8 = .string s8 ∧
                                ∃ s9 : ByteArray,
                                ∃ b7 : Bool,
                                H16 q7 = some (.cells #[.string s9, .bool b7] 108 (0, 0)) ∧
                                letH (Heap.del H16 q7) fun H17 =>
                                ∃ l2 : Sl,
                                cellH H17 ⟨q1, 5, none⟩ = some (.slice l2.p l2.n l2.c) ∧
                                ∀ q8 : Nat,
                                H17 q8 = none →
                                letH (Heap.upd H17 q8 (.cells #[.string s6, .string s8, .int .i64 n6] 86 (0, 0))) fun H18 =>
                                runH Tryz.prog (Builtin.append_ #[38, 38] 38 #[.slice l2.p l2.n l2.c, .slice (some ⟨q8, 0, none⟩) 1 1]) H18 fun r9 H19 =>
                                  ∃ l3 : Sl,
                                  r9 = .slice l3.p l3.n l3.c ∧
                                  (∃ u, cellH H19 ⟨q1, 5, none⟩ = some u) ∧
                                  frozenH H19 ⟨q1, 5, none⟩ = false ∧
                                  letH (Heap.set H19 ⟨q1, 5, none⟩ (.slice l3.p l3.n l3.c)) fun H20 =>
                                  SelfEq ([.loc 0 0, .v (.int .i64 n1), .loc 1 0, .v (.pointer (some ⟨q1, 0, none⟩))], [some (40, [.int .i64 0, .int .i64 0, .int .i64 0, .int .i64 0, .int .i64 0, .slice none 0 0])], [108]) ∧
                                  I2 (IntKind.wrap .i64 (i_1 - 1)) s9 b7 H20 ∧
                                  M2 (IntKind.wrap .i64 (i_1 - 1)) s9 b7 H20 < M2 i_1 s4 b4 H11)
                         (
                          br (!b4) (
                            K (.tuple #[.agg #[.int .i64 0, .int .i64 0, .int .i64 0, .int .i64 0, .int .i64 0, .slice none 0 0], .int .i64 0, .int .i64 4]) H11)
                           (
                            br (!(s4.toList == (⟨#[]⟩ : ByteArray).toList)) (
                              K (.tuple #[.agg #[.int .i64 0, .int .i64 0, .int .i64 0, .int .i64 0, .int .i64 0, .slice none 0 0], .int .i64 0, .int .i64 4]) H11)
                             (
                              ∃ n7 : Int,
                              cellH H11 ⟨q1, 0, none⟩ = some (.int .i64 n7) ∧
                              ∃ n8 : Int,
                              cellH H11 ⟨q1, 1, none⟩ = some (.int .i64 n8) ∧
                              ∃ n9 : Int,
                              cellH H11 ⟨q1, 2, none⟩ = some (.int .i64 n9) ∧
                              ∃ n10 : Int,
                              cellH H11 ⟨q1, 3, none⟩ = some (.int .i64 n10) ∧
                              ∃ n11 : Int,
                              cellH H11 ⟨q1, 4, none⟩ = some (.int .i64 n11) ∧
                              ∃ l4 : Sl,
                              cellH H11 ⟨q1, 5, none⟩ = some (.slice l4.p l4.n l4.c) ∧
                              FnH Tryz.prog 68 #[.agg #[.int .i64 n7, .int .i64 n8, .int .i64 n9, .int .i64 n10, .int .i64 n11, .slice l4.p l4.n l4.c]] H11 fun r10 H21 =>
                                ∃ n12 : Int,
                                r10 = .int .i64 n12 ∧
                                br ((n12 : Int) != 0) (
                                  K (.tuple #[.agg #[.int .i64 0, .int .i64 0, .int .i64 0, .int .i64 0, .int .i64 0, .slice none 0 0], .int .i64 0, .int .i64 4]) H21)
                                 (
                                  ∃ n13 : Int,
                                  cellH H21 ⟨q1, 0, none⟩ = some (.int .i64 n13) ∧
                                  ∃ n14 : Int,
                                  cellH H21 ⟨q1, 1, none⟩ = some (.int .i64 n14) ∧
                                  ∃ n15 : Int,
                                  cellH H21 ⟨q1, 2, none⟩ = some (.int .i64 n15) ∧
                                  ∃ n16 : Int,
                                  cellH H21 ⟨q1, 3, none⟩ = some (.int .i64 n16) ∧
                                  ∃ n17 : Int,
                                  cellH H21 ⟨q1, 4, none⟩ = some (.int .i64 n17) ∧
                                  ∃ l5 : Sl,
                                  cellH H21 ⟨q1, 5, none⟩ = some (.slice l5.p l5.n l5.c) ∧
                                  K (.tuple #[.agg #[.int .i64 n13, .int .i64 n14, .int .i64 n15, .int .i64 n16, .int .i64 n17, .slice l5.p l5.n l5.c], .int .i64 (IntKind.wrap .i64 (8 + n1)), .int .i64 0]) H21)))))
                       (
                        br (!b4) (
                          K (.tuple #[.agg #[.int .i64 0, .int .i64 0, .int .i64 0, .int .i64 0, .int .i64 0, .slice none 0 0], .int .i64 0, .int .i64 4]) H11)
                         (
                          br (!(s4.toList == (⟨#[]⟩ : ByteArray).toList)) (
                            K (.tuple #[.agg #[.int .i64 0, .int .i64 0, .int .i64 0, .int .i64 0, .int .i64 0, .slice none 0 0], .int .i64 0, .int .i64 4]) H11)
                           (
                            ∃ n18 : Int,
                            cellH H11 ⟨q1, 0, none⟩ = some (.int .i64 n18) ∧
                            ∃ n19 : Int,
                            cellH H11 ⟨q1, 1, none⟩ = some (.int .i64 n19) ∧
                            ∃ n20 : Int,
                            cellH H11 ⟨q1, 2, none⟩ = some (.int .i64 n20) ∧
                            ∃ n21 : Int,
                            cellH H11 ⟨q1, 3, none⟩ = some (.int .i64 n21) ∧
                            ∃ n22 : Int,
                            cellH H11 ⟨q1, 4, none⟩ = some (.int .i64 n22) ∧
                            ∃ l6 : Sl,
                            cellH H11 ⟨q1, 5, none⟩ = some (.slice l6.p l6.n l6.c) ∧
                            FnH Tryz.prog 68 #[.agg #[.int .i64 n18, .int .i64 n19, .int .i64 n20, .int .i64 n21, .int .i64 n22, .slice l6.p l6.n l6.c]] H11 fun r11 H22 =>
                              ∃ n23 : Int,
                              r11 = .int .i64 n23 ∧
                              br ((n23 : Int) != 0) (
                                K (.tuple #[.agg #[.int .i64 0, .int .i64 0, .int .i64 0, .int .i64 0, .int .i64 0, .slice none 0 0], .int .i64 0, .int .i64 4]) H22)
                               (
                                ∃ n24 : Int,
                                cellH H22 ⟨q1, 0, none⟩ = some (.int .i64 n24) ∧
                                ∃ n25 : Int,
                                cellH H22 ⟨q1, 1, none⟩ = some (.int .i64 n25) ∧
                                ∃ n26 : Int,
                                cellH H22 ⟨q1, 2, none⟩ = some (.int .i64 n26) ∧
                                ∃ n27 : Int,
                                cellH H22 ⟨q1, 3, none⟩ = some (.int .i64 n27) ∧
                                ∃ n28 : Int,
                                cellH H22 ⟨q1, 4, none⟩ = some (.int .i64 n28) ∧
                                ∃ l7 : Sl,
                                cellH H22 ⟨q1, 5, none⟩ = some (.slice l7.p l7.n l7.c) ∧
                                K (.tuple #[.agg #[.int .i64 n24, .int .i64 n25, .int .i64 n26, .int .i64 n27, .int .i64 n28, .slice l7.p l7.n l7.c], .int .i64 (IntKind.wrap .i64 (8 + n1)), .int .i64 0]) H22)))))
                     (
                      br (!b4) (
                        K (.tuple #[.agg #[.int .i64 0, .int .i64 0, .int .i64 0, .int .i64 0, .int .i64 0, .slice none 0 0], .int .i64 0, .int .i64 4]) H11)
                       (
                        br (!(s4.toList == (⟨#[]⟩ : ByteArray).toList)) (
                          K (.tuple #[.agg #[.int .i64 0, .int .i64 0, .int .i64 0, .int .i64 0, .int .i64 0, .slice none 0 0], .int .i64 0, .int .i64 4]) H11)
                         (
                          ∃ n29 : Int,
                          cellH H11 ⟨q1, 0, none⟩ = some (.int .i64 n29) ∧
                          ∃ n30 : Int,
                          cellH H11 ⟨q1, 1, none⟩ = some (.int .i64 n30) ∧
                          ∃ n31 : Int,
                          cellH H11 ⟨q1, 2, none⟩ = some (.int .i64 n31) ∧
                          ∃ n32 : Int,
                          cellH H11 ⟨q1, 3, none⟩ = some (.int .i64 n32) ∧
                          ∃ n33 : Int,
                          cellH H11 ⟨q1, 4, none⟩ = some (.int .i64 n33) ∧
                          ∃ l8 : Sl,
                          cellH H11 ⟨q1, 5, none⟩ = some (.slice l8.p l8.n l8.c) ∧
                          FnH Tryz.prog 68 #[.agg #[.int .i64 n29, .int .i64 n30, .int .i64 n31, .int .i64 n32, .int .i64 n33, .slice l8.p l8.n l8.c]] H11 fun r12 H23 =>
                            ∃ n34 : Int,
                            r12 = .int .i64 n34 ∧
                            br ((n34 : Int) != 0) (
                              K (.tuple #[.agg #[.int .i64 0, .int .i64 0, .int .i64 0, .int .i64 0, .int .i64 0, .slice none 0 0], .int .i64 0, .int .i64 4]) H23)
                             (
                              ∃ n35 : Int,
                              cellH H23 ⟨q1, 0, none⟩ = some (.int .i64 n35) ∧
                              ∃ n36 : Int,
                              cellH H23 ⟨q1, 1, none⟩ = some (.int .i64 n36) ∧
                              ∃ n37 : Int,
                              cellH H23 ⟨q1, 2, none⟩ = some (.int .i64 n37) ∧
                              ∃ n38 : Int,
                              cellH H23 ⟨q1, 3, none⟩ = some (.int .i64 n38) ∧
                              ∃ n39 : Int,
                              cellH H23 ⟨q1, 4, none⟩ = some (.int .i64 n39) ∧
                              ∃ l9 : Sl,
                              cellH H23 ⟨q1, 5, none⟩ = some (.slice l9.p l9.n l9.c) ∧
                              K (.tuple #[.agg #[.int .i64 n35, .int .i64 n36, .int .i64 n37, .int .i64 n38, .int .i64 n39, .slice l9.p l9.n l9.c], .int .i64 (IntKind.wrap .i64 (8 + n1)), .int .i64 0]) H23)))))))))
theorem wire_ReadBatch_eq (s : ByteArray) (H : Heap) (K : Value → Heap → Prop) : wire_ReadBatch_vc s H K = denFn Tryz.prog wire_ReadBatch_ann Tryz.f39 (bodyOf Tryz.f39) [.string s] H K := by kernel_rfl
theorem wire_ReadBatch_fn (s : ByteArray) {H : Heap} {K : Value → Heap → Prop} (h : wire_ReadBatch_vc s H K) : FnH Tryz.prog 39 #[.string s] H K :=
  denFn_fn Tryz.mixed wire_ReadBatch_ann Tryz.func39 (bodyOf_spec (by kernel_rfl)) (wire_ReadBatch_eq s H K) h

/-! function 44: logboom/wire.Batch -/
def wire_Batch_ann : Anns := { hid := [1], loops := [], joins := [], mix := [(5, [2, 4, 6, 8, 9])] }
def wire_Batch_vc (b_0 : Int) (b_1 : Int) (b_2 : Int) (b_3 : Int) (b_4 : Int) (b_5 : Sl) (H : Heap) (K : Value → Heap → Prop) : Prop :=
  FnH Tryz.prog 68 #[.agg #[.int .i64 b_0, .int .i64 b_1, .int .i64 b_2, .int .i64 b_3, .int .i64 b_4, .slice b_5.p b_5.n b_5.c]] H fun r1 H1 =>
    ∃ n1 : Int,
    r1 = .int .i64 n1 ∧
    br ((n1 : Int) != 0) (
      K (.tuple #[.string (⟨#[]⟩ : ByteArray), .int .i64 n1]) H1)
     (
      FnH Tryz.prog 69 #[.agg #[.int .i64 b_0, .int .i64 b_1, .int .i64 b_2, .int .i64 b_3, .int .i64 b_4, .slice b_5.p b_5.n b_5.c]] H1 fun r2 H2 =>
        ∃ l1 : Sl,
        r2 = .slice l1.p l1.n l1.c ∧
        (FnH Tryz.prog 70 #[.slice none 0 0, .int .i64 (l1.n : Nat)] H2 fun r3 H3 =>
          ∃ l2 : Sl,
          r3 = .slice l2.p l2.n l2.c ∧
          runH Tryz.prog (convert 112 9 (.slice l1.p l1.n l1.c)) H3 fun r4 H4 =>
            ∃ s1 : ByteArray,
            r4 = .string s1 ∧
            FnH Tryz.prog 65 #[.string s1] H4 fun r5 H5 =>
              ∃ n2 : Int,
              r5 = .int .i64 n2 ∧
              FnH Tryz.prog 70 #[.slice l2.p l2.n l2.c, .int .i64 n2] H5 fun r6 H6 =>
                ∃ l3 : Sl,
                r6 = .slice l3.p l3.n l3.c ∧
                runH Tryz.prog (Builtin.append_ #[112, 112] 112 #[.slice l3.p l3.n l3.c, .slice l1.p l1.n l1.c]) H6 fun r7 H7 =>
                  ∃ l4 : Sl,
                  r7 = .slice l4.p l4.n l4.c ∧
                  runH Tryz.prog (convert 112 9 (.slice l4.p l4.n l4.c)) H7 fun r8 H8 =>
                    ∃ s2 : ByteArray,
                    r8 = .string s2 ∧
                    K (.tuple #[.string s2, .int .i64 0]) H8) ∧
        runH Tryz.prog (convert 112 9 (.slice l1.p l1.n l1.c)) H2 fun r9 H9 =>
          ∃ s3 : ByteArray,
          r9 = .string s3 ∧
          FnH Tryz.prog 70 #[.slice none 0 0, .int .i64 (l1.n : Nat)] H9 fun r10 H10 =>
            ∃ l5 : Sl,
            r10 = .slice l5.p l5.n l5.c ∧
            FnH Tryz.prog 65 #[.string s3] H10 fun r11 H11 =>
              ∃ n3 : Int,
              r11 = .int .i64 n3 ∧
              FnH Tryz.prog 70 #[.slice l5.p l5.n l5.c, .int .i64 n3] H11 fun r12 H12 =>
                ∃ l6 : Sl,
                r12 = .slice l6.p l6.n l6.c ∧
                runH Tryz.prog (Builtin.append_ #[112, 112] 112 #[.slice l6.p l6.n l6.c, .slice l1.p l1.n l1.c]) H12 fun r13 H13 =>
                  ∃ l7 : Sl,
                  r13 = .slice l7.p l7.n l7.c ∧
                  runH Tryz.prog (convert 112 9 (.slice l7.p l7.n l7.c)) H13 fun r14 H14 =>
                    ∃ s4 : ByteArray,
                    r14 = .string s4 ∧
                    K (.tuple #[.string s4, .int .i64 0]) H14)
theorem wire_Batch_eq (b_0 : Int) (b_1 : Int) (b_2 : Int) (b_3 : Int) (b_4 : Int) (b_5 : Sl) (H : Heap) (K : Value → Heap → Prop) : wire_Batch_vc b_0 b_1 b_2 b_3 b_4 b_5 H K = denFn Tryz.prog wire_Batch_ann Tryz.f44 (bodyOf Tryz.f44) [.agg #[.int .i64 b_0, .int .i64 b_1, .int .i64 b_2, .int .i64 b_3, .int .i64 b_4, .slice b_5.p b_5.n b_5.c]] H K := by kernel_rfl
theorem wire_Batch_fn (b_0 : Int) (b_1 : Int) (b_2 : Int) (b_3 : Int) (b_4 : Int) (b_5 : Sl) {H : Heap} {K : Value → Heap → Prop} (h : wire_Batch_vc b_0 b_1 b_2 b_3 b_4 b_5 H K) : FnH Tryz.prog 44 #[.agg #[.int .i64 b_0, .int .i64 b_1, .int .i64 b_2, .int .i64 b_3, .int .i64 b_4, .slice b_5.p b_5.n b_5.c]] H K :=
  denFn_fn Tryz.mixed wire_Batch_ann Tryz.func44 (bodyOf_spec (by kernel_rfl)) (wire_Batch_eq b_0 b_1 b_2 b_3 b_4 b_5 H K) h

end Go.Proofs.YtokceblmbmajgaaGreatDoor
