/- Formulas of functions, printed by this session's vc.py; each is tied to the program by the kernel. -/
import Derived.Test.YtdgmifbcbmndgaaGreatDoorProg
import Derived.KernelRfl
import Derived.Test.YtdgmifbcbmndgaaGreatDoorHlFn
import Derived.Test.YtdgmifbcbmndgaaGreatDoorV1
namespace Go.Proofs.YtdgmifbcbmndgaaGreatDoor
open Go.HL
set_option maxRecDepth 100000
/-! function 41: (*logboom/epochs.Cache).read -/
def epochs_Cache_read_ann : Anns := { hid := [8, 9], loops := [(1, { slots := [(34, .int .i64)], kept := [0, 3, 5, 6, 8, 33], locs := [(0, [.int .i64, .int .i64, .str])], keptL := [] })], joins := [], mix := [(3, []), (18, [7, 10])] }
def epochs_Cache_read_vc (c : Nat) (co : Nat) (s : ByteArray) (H : Heap) (K : Value → Heap → Prop) : Prop :=
  ∀ q1 : Nat,
  H q1 = none →
  letH (Heap.upd H q1 (.cells #[.string s] 9 (0, 0))) fun H1 =>
  ∃ s1 : ByteArray,
  cellH H1 ⟨q1, 0, none⟩ = some (.string s1) ∧
  br (decide (((s1.size : Nat) : Int) < 4)) (
    K (.int .i64 5) H1)
   (
    ∃ s2 : ByteArray,
    cellH H1 ⟨q1, 0, none⟩ = some (.string s2) ∧
    0 ≤ (4 : Int) ∧
    (4 : Int) ≤ (s2.size : Nat) ∧
    ∃ s3 : ByteArray,
    cellH H1 ⟨q1, 0, none⟩ = some (.string s3) ∧
    0 ≤ (4 : Int) ∧
    (4 : Int) ≤ (s3.size : Nat) ∧
    FnH Tryz.prog 51 #[.string (s2.extract (Int.toNat 4) (Int.toNat (s2.size : Nat)))] H1 fun r1 H2 =>
      ∃ s4 : ByteArray,
      r1 = .string s4 ∧
      Sub H1 H2 ∧
      br (!(s4.toList == (s3.extract (Int.toNat (0 : Int)) (Int.toNat 4)).toList)) (
        K (.int .i64 6) H2)
       (
        ∃ s5 : ByteArray,
        cellH H2 ⟨q1, 0, none⟩ = some (.string s5) ∧
        0 ≤ (4 : Int) ∧
        (4 : Int) ≤ (s5.size : Nat) ∧
        (∃ u, cellH H2 ⟨q1, 0, none⟩ = some u) ∧
        frozenH H2 ⟨q1, 0, none⟩ = false ∧
        letH (Heap.set H2 ⟨q1, 0, none⟩ (.string (s5.extract (Int.toNat 4) (Int.toNat (s5.size : Nat))))) fun H3 =>
        ∀ q2 : Nat,
        H3 q2 = none →
        letH (Heap.upd H3 q2 (.cells #[.bool false] 4 (0, 0))) fun H4 =>
        (∃ u, cellH H4 ⟨q2, 0, none⟩ = some u) ∧
        frozenH H4 ⟨q2, 0, none⟩ = false ∧
        letH (Heap.set H4 ⟨q2, 0, none⟩ (.bool true)) fun H5 =>
        FnH Tryz.prog 57 #[.pointer (some ⟨q1, 0, none⟩), .pointer (some ⟨q2, 0, none⟩)] H5 fun r2 H6 =>
          ∃ n1 : Int,
          r2 = .int .i64 n1 ∧
          br (decide ((n1 : Int) < 0)) (
            K (.int .i64 4) H6)
           (
            br (decide ((n1 : Int) > 200)) (
              K (.int .i64 4) H6)
             (
              ∃ I1 : Int → Int → Int → ByteArray → Heap → Prop,
              ∃ M1 : Int → Int → Int → ByteArray → Heap → Nat,
              I1 0 (-1) (-1) (⟨#[]⟩ : ByteArray) H6 ∧
              ∀ n_1 : Int,
              ∀ n2 : Int,
              ∀ n3 : Int,
              ∀ s6 : ByteArray,
              ∀ H7 : Heap,
              I1 n_1 n2 n3 s6 H7 →
              br (decide ((n_1 : Int) < n1)) (
                FnH Tryz.prog 57 #[.pointer (some ⟨q1, 0, none⟩), .pointer (some ⟨q2, 0, none⟩)] H7 fun r3 H8 =>
                  ∃ n4 : Int,
                  r3 = .int .i64 n4 ∧
                  FnH Tryz.prog 57 #[.pointer (some ⟨q1, 0, none⟩), .pointer (some ⟨q2, 0, none⟩)] H8 fun r4 H9 =>
                    ∃ n5 : Int,
                    r4 = .int .i64 n5 ∧
                    ∃ b1 : Bool,
                    cellH H9 ⟨q2, 0, none⟩ = some (.bool b1) ∧
                    br (!b1) (
                      K (.int .i64 4) H9)
                     (
                      FnH Tryz.prog 30 #[.int .i64 n4] H9 fun r5 H10 =>
                        ∃ b2 : Bool,
                        r5 = .bool b2 ∧
                        br (!b2) (
                          K (.int .i64 4) H10)
                         (
                          FnH Tryz.prog 30 #[.int .i64 n5] H10 fun r6 H11 =>
                            ∃ b3 : Bool,
                            r6 = .bool b3 ∧
                            br (!b3) (
                              K (.int .i64 4) H11)
                             (
                              br (decide ((n4 : Int) ≤ n2)) (
                                K (.int .i64 4) H11)
                               (
                                br (decide ((n5 : Int) ≤ n3)) (
                                  K (.int .i64 4) H11)
                                 (
                                  ∃ l1 : Sl,
                                  cellH H11 ⟨c, co + 2, none⟩ = some (.slice l1.p l1.n l1.c) ∧
                                  ∀ q3 : Nat,
                                  H11 q3 = none →
                                  letH (Heap.upd H11 q3 (.cells #[.int .i64 n4, .int .i64 n5, .string (⟨#[]⟩ : ByteArray)] 51 (0, 0))) fun H12 =>
                                  Sub H11 H12 ∧
                                  runH Tryz.prog (Builtin.append_ #[44, 44] 44 #[.slice l1.p l1.n l1.c, .slice (some ⟨q3, 0, none⟩) 1 1]) H12 fun r7 H13 =>
                                    ∃ l2 : Sl,
                                    r7 = .slice l2.p l2.n l2.c ∧
                                    (∃ u, cellH H13 ⟨c, co + 2, none⟩ = some u) ∧
                                    frozenH H13 ⟨c, co + 2, none⟩ = false ∧
                                    letH (Heap.set H13 ⟨c, co + 2, none⟩ (.slice l2.p l2.n l2.c)) fun H14 =>
                                    SelfEq ([.v (.pointer (some ⟨c, co, none⟩)), .v (.pointer (some ⟨q1, 0, none⟩)), .v (.pointer (some ⟨q2, 0, none⟩)), .v (.func (.func 57) #[] #[.pointer (some ⟨q1, 0, none⟩), .pointer (some ⟨q2, 0, none⟩)]), .loc 0 0, .v (.int .i64 n1)], [], [51]) ∧
                                    I1 (IntKind.wrap .i64 (n_1 + 1)) n4 n5 (⟨#[]⟩ : ByteArray) H14 ∧
                                    M1 (IntKind.wrap .i64 (n_1 + 1)) n4 n5 (⟨#[]⟩ : ByteArray) H14 < M1 n_1 n2 n3 s6 H7))))))
               (
                ∃ b4 : Bool,
                cellH H7 ⟨q2, 0, none⟩ = some (.bool b4) ∧
                br (!b4) (
                  K (.int .i64 4) H7)
                 (
                  ∃ s7 : ByteArray,
                  cellH H7 ⟨q1, 0, none⟩ = some (.string s7) ∧
                  br (!(s7.toList == (⟨#[]⟩ : ByteArray).toList)) (
                    K (.int .i64 4) H7)
                   (
                    K (.int .i64 0) H7)))))))
theorem epochs_Cache_read_eq (c : Nat) (co : Nat) (s : ByteArray) (H : Heap) (K : Value → Heap → Prop) : epochs_Cache_read_vc c co s H K = denFn Tryz.prog epochs_Cache_read_ann Tryz.f41 (bodyOf Tryz.f41) [.pointer (some ⟨c, co, none⟩), .string s] H K := by kernel_rfl
theorem epochs_Cache_read_fn (c : Nat) (co : Nat) (s : ByteArray) {H : Heap} {K : Value → Heap → Prop} (h : epochs_Cache_read_vc c co s H K) : FnH Tryz.prog 41 #[.pointer (some ⟨c, co, none⟩), .string s] H K :=
  denFn_fn Tryz.mixed epochs_Cache_read_ann Tryz.func41 (bodyOf_spec (by kernel_rfl)) (epochs_Cache_read_eq c co s H K) h

/-! function 32: (*logboom/epochs.Cache).write -/
def epochs_Cache_write_ann : Anns := { hid := [7], loops := [(0, { slots := [(21, .int .i64)], kept := [0, 1, 5, 19, 20], locs := [], keptL := [] })], joins := [((0, 10), { slots := [(8, .int .i64)], kept := [0, 1], locs := [], keptL := [] })], mix := [(8, [7]), (10, [8, 10, 12])] }
def epochs_Cache_write_vc (c : Nat) (co : Nat) (l : Sl) (H : Heap) (K : Value → Heap → Prop) : Prop :=
  ∃ l1 : Sl,
  cellH H ⟨c, co + 2, none⟩ = some (.slice l1.p l1.n l1.c) ∧
  FnH Tryz.prog 47 #[.slice l.p l.n l.c, .slice l1.p l1.n l1.c] H fun r1 H1 =>
    ∃ b1 : Bool,
    r1 = .bool b1 ∧
    br (b1) (
      K (.int .i64 0) H1)
     (
      ∀ q1 : Nat,
      H1 q1 = none →
      letH (Heap.upd H1 q1 (.cells #[.pointer none, .slice none 0 0] 92 (0, 0))) fun H2 =>
      FnH Tryz.prog 49 #[.int .i64 (l.n : Nat)] H2 fun r2 H3 =>
        ∃ s1 : ByteArray,
        r2 = .string s1 ∧
        FnH Tryz.prog 48 #[.pointer (some ⟨q1, 0, none⟩), .string s1] H3 fun r3 H4 =>
          ∃ n1 : Int,
          ∃ v1 : Value,
          r3 = .tuple #[.int .i64 n1, v1] ∧
          ∃ I1 : Int → Heap → Prop,
          ∃ M1 : Int → Heap → Nat,
          I1 0 H4 ∧
          ∀ n_1 : Int,
          ∀ H5 : Heap,
          I1 n_1 H5 →
          br (decide ((n_1 : Int) < (l.n : Nat))) (
            ∃ q2 : Nat,
            ∃ o1 : Nat,
            (l.p : Option Addr) = some ⟨q2, o1, none⟩ ∧
            0 ≤ (n_1 : Int) ∧
            (n_1 : Int) < (l.n : Nat) ∧
            ∃ n2 : Int,
            cellH H5 ⟨q2, o1 + Int.toNat n_1 * 3, none⟩ = some (.int .i64 n2) ∧
            ∃ n3 : Int,
            cellH H5 ⟨q2, o1 + Int.toNat n_1 * 3 + 1, none⟩ = some (.int .i64 n3) ∧
            ∃ s2 : ByteArray,
            cellH H5 ⟨q2, o1 + Int.toNat n_1 * 3 + 2, none⟩ = some (.string s2) ∧
            FnH Tryz.prog 49 #[.int .i64 n2] H5 fun r4 H6 =>
              ∃ s3 : ByteArray,
              r4 = .string s3 ∧
              Sub H5 H6 ∧
              FnH Tryz.prog 49 #[.int .i64 n3] H6 fun r5 H7 =>
                ∃ s4 : ByteArray,
                r5 = .string s4 ∧
                Sub H5 H7 ∧
                s3.size + s4.size < 9223372036854775808 ∧
                FnH Tryz.prog 48 #[.pointer (some ⟨q1, 0, none⟩), .string (s3 ++ s4)] H7 fun r6 H8 =>
                  ∃ n4 : Int,
                  ∃ v2 : Value,
                  r6 = .tuple #[.int .i64 n4, v2] ∧
                  SelfEq ([.v (.pointer (some ⟨c, co, none⟩)), .v (.slice l.p l.n l.c), .v (.pointer (some ⟨q1, 0, none⟩)), .v (.slice l.p l.n l.c), .v (.int .i64 (l.n : Nat))], [], []) ∧
                  I1 (IntKind.wrap .i64 (n_1 + 1)) H8 ∧
                  M1 (IntKind.wrap .i64 (n_1 + 1)) H8 < M1 n_1 H5)
           (
            ∃ J1 : Int → Heap → Prop,
            ((∃ p1 : Option Addr,
            cellH H5 ⟨c, co, none⟩ = some (.pointer p1) ∧
            Sub H5 H5 ∧
            (∃ s5 : ByteArray,
            cellH H5 ⟨c, co + 1, none⟩ = some (.string s5) ∧
            Sub H5 H5 ∧
            FnH Tryz.prog 52 #[.pointer (some ⟨q1, 0, none⟩)] H5 fun r7 H9 =>
              ∃ s6 : ByteArray,
              r7 = .string s6 ∧
              FnH Tryz.prog 51 #[.string s6] H9 fun r8 H10 =>
                ∃ s7 : ByteArray,
                r8 = .string s7 ∧
                FnH Tryz.prog 52 #[.pointer (some ⟨q1, 0, none⟩)] H10 fun r9 H11 =>
                  ∃ s8 : ByteArray,
                  r9 = .string s8 ∧
                  s7.size + s8.size < 9223372036854775808 ∧
                  FnH Tryz.prog 50 #[.pointer p1, .string s5, .string (s7 ++ s8)] H11 fun r10 H12 =>
                    ∃ n5 : Int,
                    r10 = .int .i64 n5 ∧
                    SelfEq ([.v (.pointer (some ⟨c, co, none⟩)), .v (.slice l.p l.n l.c)], [], []) ∧
                    J1 n5 H12) ∧
            FnH Tryz.prog 52 #[.pointer (some ⟨q1, 0, none⟩)] H5 fun r11 H13 =>
              ∃ s9 : ByteArray,
              r11 = .string s9 ∧
              (∃ s10 : ByteArray,
              cellH H13 ⟨c, co + 1, none⟩ = some (.string s10) ∧
              FnH Tryz.prog 51 #[.string s9] H13 fun r12 H14 =>
                ∃ s11 : ByteArray,
                r12 = .string s11 ∧
                FnH Tryz.prog 52 #[.pointer (some ⟨q1, 0, none⟩)] H14 fun r13 H15 =>
                  ∃ s12 : ByteArray,
                  r13 = .string s12 ∧
                  s11.size + s12.size < 9223372036854775808 ∧
                  FnH Tryz.prog 50 #[.pointer p1, .string s10, .string (s11 ++ s12)] H15 fun r14 H16 =>
                    ∃ n6 : Int,
                    r14 = .int .i64 n6 ∧
                    SelfEq ([.v (.pointer (some ⟨c, co, none⟩)), .v (.slice l.p l.n l.c)], [], []) ∧
                    J1 n6 H16) ∧
              FnH Tryz.prog 51 #[.string s9] H13 fun r15 H17 =>
                ∃ s13 : ByteArray,
                r15 = .string s13 ∧
                (∃ s14 : ByteArray,
                cellH H17 ⟨c, co + 1, none⟩ = some (.string s14) ∧
                FnH Tryz.prog 52 #[.pointer (some ⟨q1, 0, none⟩)] H17 fun r16 H18 =>
                  ∃ s15 : ByteArray,
                  r16 = .string s15 ∧
                  s13.size + s15.size < 9223372036854775808 ∧
                  FnH Tryz.prog 50 #[.pointer p1, .string s14, .string (s13 ++ s15)] H18 fun r17 H19 =>
                    ∃ n7 : Int,
                    r17 = .int .i64 n7 ∧
                    SelfEq ([.v (.pointer (some ⟨c, co, none⟩)), .v (.slice l.p l.n l.c)], [], []) ∧
                    J1 n7 H19) ∧
                FnH Tryz.prog 52 #[.pointer (some ⟨q1, 0, none⟩)] H17 fun r18 H20 =>
                  ∃ s16 : ByteArray,
                  r18 = .string s16 ∧
                  s13.size + s16.size < 9223372036854775808 ∧
                  ∃ s17 : ByteArray,
                  cellH H20 ⟨c, co + 1, none⟩ = some (.string s17) ∧
                  FnH Tryz.prog 50 #[.pointer p1, .string s17, .string (s13 ++ s16)] H20 fun r19 H21 =>
                    ∃ n8 : Int,
                    r19 = .int .i64 n8 ∧
                    SelfEq ([.v (.pointer (some ⟨c, co, none⟩)), .v (.slice l.p l.n l.c)], [], []) ∧
                    J1 n8 H21) ∧
            (∃ s18 : ByteArray,
            cellH H5 ⟨c, co + 1, none⟩ = some (.string s18) ∧
            Sub H5 H5 ∧
            (∃ p2 : Option Addr,
            cellH H5 ⟨c, co, none⟩ = some (.pointer p2) ∧
            Sub H5 H5 ∧
            FnH Tryz.prog 52 #[.pointer (some ⟨q1, 0, none⟩)] H5 fun r20 H22 =>
              ∃ s19 : ByteArray,
              r20 = .string s19 ∧
              FnH Tryz.prog 51 #[.string s19] H22 fun r21 H23 =>
                ∃ s20 : ByteArray,
                r21 = .string s20 ∧
                FnH Tryz.prog 52 #[.pointer (some ⟨q1, 0, none⟩)] H23 fun r22 H24 =>
                  ∃ s21 : ByteArray,
                  r22 = .string s21 ∧
                  s20.size + s21.size < 9223372036854775808 ∧
                  FnH Tryz.prog 50 #[.pointer p2, .string s18, .string (s20 ++ s21)] H24 fun r23 H25 =>
                    ∃ n9 : Int,
                    r23 = .int .i64 n9 ∧
                    SelfEq ([.v (.pointer (some ⟨c, co, none⟩)), .v (.slice l.p l.n l.c)], [], []) ∧
                    J1 n9 H25) ∧
            FnH Tryz.prog 52 #[.pointer (some ⟨q1, 0, none⟩)] H5 fun r24 H26 =>
              ∃ s22 : ByteArray,
              r24 = .string s22 ∧
              (∃ p3 : Option Addr,
              cellH H26 ⟨c, co, none⟩ = some (.pointer p3) ∧
              FnH Tryz.prog 51 #[.string s22] H26 fun r25 H27 =>
                ∃ s23 : ByteArray,
                r25 = .string s23 ∧
                FnH Tryz.prog 52 #[.pointer (some ⟨q1, 0, none⟩)] H27 fun r26 H28 =>
                  ∃ s24 : ByteArray,
                  r26 = .string s24 ∧
                  s23.size + s24.size < 9223372036854775808 ∧
                  FnH Tryz.prog 50 #[.pointer p3, .string s18, .string (s23 ++ s24)] H28 fun r27 H29 =>
                    ∃ n10 : Int,
                    r27 = .int .i64 n10 ∧
                    SelfEq ([.v (.pointer (some ⟨c, co, none⟩)), .v (.slice l.p l.n l.c)], [], []) ∧
                    J1 n10 H29) ∧
              FnH Tryz.prog 51 #[.string s22] H26 fun r28 H30 =>
                ∃ s25 : ByteArray,
                r28 = .string s25 ∧
                (∃ p4 : Option Addr,
                cellH H30 ⟨c, co, none⟩ = some (.pointer p4) ∧
                FnH Tryz.prog 52 #[.pointer (some ⟨q1, 0, none⟩)] H30 fun r29 H31 =>
                  ∃ s26 : ByteArray,
                  r29 = .string s26 ∧
                  s25.size + s26.size < 9223372036854775808 ∧
                  FnH Tryz.prog 50 #[.pointer p4, .string s18, .string (s25 ++ s26)] H31 fun r30 H32 =>
                    ∃ n11 : Int,
                    r30 = .int .i64 n11 ∧
                    SelfEq ([.v (.pointer (some ⟨c, co, none⟩)), .v (.slice l.p l.n l.c)], [], []) ∧
                    J1 n11 H32) ∧
                FnH Tryz.prog 52 #[.pointer (some ⟨q1, 0, none⟩)] H30 fun r31 H33 =>
                  ∃ s27 : ByteArray,
                  r31 = .string s27 ∧
                  s25.size + s27.size < 9223372036854775808 ∧
                  ∃ p5 : Option Addr,
                  cellH H33 ⟨c, co, none⟩ = some (.pointer p5) ∧
                  FnH Tryz.prog 50 #[.pointer p5, .string s18, .string (s25 ++ s27)] H33 fun r32 H34 =>
                    ∃ n12 : Int,
                    r32 = .int .i64 n12 ∧
                    SelfEq ([.v (.pointer (some ⟨c, co, none⟩)), .v (.slice l.p l.n l.c)], [], []) ∧
                    J1 n12 H34) ∧
            FnH Tryz.prog 52 #[.pointer (some ⟨q1, 0, none⟩)] H5 fun r33 H35 =>
              ∃ s28 : ByteArray,
              r33 = .string s28 ∧
              (∃ p6 : Option Addr,
              cellH H35 ⟨c, co, none⟩ = some (.pointer p6) ∧
              (∃ s29 : ByteArray,
              cellH H35 ⟨c, co + 1, none⟩ = some (.string s29) ∧
              FnH Tryz.prog 51 #[.string s28] H35 fun r34 H36 =>
                ∃ s30 : ByteArray,
                r34 = .string s30 ∧
                FnH Tryz.prog 52 #[.pointer (some ⟨q1, 0, none⟩)] H36 fun r35 H37 =>
                  ∃ s31 : ByteArray,
                  r35 = .string s31 ∧
                  s30.size + s31.size < 9223372036854775808 ∧
                  FnH Tryz.prog 50 #[.pointer p6, .string s29, .string (s30 ++ s31)] H37 fun r36 H38 =>
                    ∃ n13 : Int,
                    r36 = .int .i64 n13 ∧
                    SelfEq ([.v (.pointer (some ⟨c, co, none⟩)), .v (.slice l.p l.n l.c)], [], []) ∧
                    J1 n13 H38) ∧
              FnH Tryz.prog 51 #[.string s28] H35 fun r37 H39 =>
                ∃ s32 : ByteArray,
                r37 = .string s32 ∧
                (∃ s33 : ByteArray,
                cellH H39 ⟨c, co + 1, none⟩ = some (.string s33) ∧
                FnH Tryz.prog 52 #[.pointer (some ⟨q1, 0, none⟩)] H39 fun r38 H40 =>
                  ∃ s34 : ByteArray,
                  r38 = .string s34 ∧
                  s32.size + s34.size < 9223372036854775808 ∧
                  FnH Tryz.prog 50 #[.pointer p6, .string s33, .string (s32 ++ s34)] H40 fun r39 H41 =>
                    ∃ n14 : Int,
                    r39 = .int .i64 n14 ∧
                    SelfEq ([.v (.pointer (some ⟨c, co, none⟩)), .v (.slice l.p l.n l.c)], [], []) ∧
                    J1 n14 H41) ∧
                FnH Tryz.prog 52 #[.pointer (some ⟨q1, 0, none⟩)] H39 fun r40 H42 =>
                  ∃ s35 : ByteArray,
                  r40 = .string s35 ∧
                  s32.size + s35.size < 9223372036854775808 ∧
                  ∃ s36 : ByteArray,
                  cellH H42 ⟨c, co + 1, none⟩ = some (.string s36) ∧
                  FnH Tryz.prog 50 #[.pointer p6, .string s36, .string (s32 ++ s35)] H42 fun r41 H43 =>
                    ∃ n15 : Int,
                    r41 = .int .i64 n15 ∧
                    SelfEq ([.v (.pointer (some ⟨c, co, none⟩)), .v (.slice l.p l.n l.c)], [], []) ∧
                    J1 n15 H43) ∧
              (∃ s37 : ByteArray,
              cellH H35 ⟨c, co + 1, none⟩ = some (.string s37) ∧
              (∃ p7 : Option Addr,
              cellH H35 ⟨c, co, none⟩ = some (.pointer p7) ∧
              FnH Tryz.prog 51 #[.string s28] H35 fun r42 H44 =>
                ∃ s38 : ByteArray,
                r42 = .string s38 ∧
                FnH Tryz.prog 52 #[.pointer (some ⟨q1, 0, none⟩)] H44 fun r43 H45 =>
                  ∃ s39 : ByteArray,
                  r43 = .string s39 ∧
                  s38.size + s39.size < 9223372036854775808 ∧
                  FnH Tryz.prog 50 #[.pointer p7, .string s37, .string (s38 ++ s39)] H45 fun r44 H46 =>
                    ∃ n16 : Int,
                    r44 = .int .i64 n16 ∧
                    SelfEq ([.v (.pointer (some ⟨c, co, none⟩)), .v (.slice l.p l.n l.c)], [], []) ∧
                    J1 n16 H46) ∧
              FnH Tryz.prog 51 #[.string s28] H35 fun r45 H47 =>
                ∃ s40 : ByteArray,
                r45 = .string s40 ∧
                (∃ p8 : Option Addr,
                cellH H47 ⟨c, co, none⟩ = some (.pointer p8) ∧
                FnH Tryz.prog 52 #[.pointer (some ⟨q1, 0, none⟩)] H47 fun r46 H48 =>
                  ∃ s41 : ByteArray,
                  r46 = .string s41 ∧
                  s40.size + s41.size < 9223372036854775808 ∧
                  FnH Tryz.prog 50 #[.pointer p8, .string s37, .string (s40 ++ s41)] H48 fun r47 H49 =>
                    ∃ n17 : Int,
                    r47 = .int .i64 n17 ∧
                    SelfEq ([.v (.pointer (some ⟨c, co, none⟩)), .v (.slice l.p l.n l.c)], [], []) ∧
                    J1 n17 H49) ∧
                FnH Tryz.prog 52 #[.pointer (some ⟨q1, 0, none⟩)] H47 fun r48 H50 =>
                  ∃ s42 : ByteArray,
                  r48 = .string s42 ∧
                  s40.size + s42.size < 9223372036854775808 ∧
                  ∃ p9 : Option Addr,
                  cellH H50 ⟨c, co, none⟩ = some (.pointer p9) ∧
                  FnH Tryz.prog 50 #[.pointer p9, .string s37, .string (s40 ++ s42)] H50 fun r49 H51 =>
                    ∃ n18 : Int,
                    r49 = .int .i64 n18 ∧
                    SelfEq ([.v (.pointer (some ⟨c, co, none⟩)), .v (.slice l.p l.n l.c)], [], []) ∧
                    J1 n18 H51) ∧
              FnH Tryz.prog 51 #[.string s28] H35 fun r50 H52 =>
                ∃ s43 : ByteArray,
                r50 = .string s43 ∧
                (∃ p10 : Option Addr,
                cellH H52 ⟨c, co, none⟩ = some (.pointer p10) ∧
                (∃ s44 : ByteArray,
                cellH H52 ⟨c, co + 1, none⟩ = some (.string s44) ∧
                FnH Tryz.prog 52 #[.pointer (some ⟨q1, 0, none⟩)] H52 fun r51 H53 =>
                  ∃ s45 : ByteArray,
                  r51 = .string s45 ∧
                  s43.size + s45.size < 9223372036854775808 ∧
                  FnH Tryz.prog 50 #[.pointer p10, .string s44, .string (s43 ++ s45)] H53 fun r52 H54 =>
                    ∃ n19 : Int,
                    r52 = .int .i64 n19 ∧
                    SelfEq ([.v (.pointer (some ⟨c, co, none⟩)), .v (.slice l.p l.n l.c)], [], []) ∧
                    J1 n19 H54) ∧
                FnH Tryz.prog 52 #[.pointer (some ⟨q1, 0, none⟩)] H52 fun r53 H55 =>
                  ∃ s46 : ByteArray,
                  r53 = .string s46 ∧
                  s43.size + s46.size < 9223372036854775808 ∧
                  ∃ s47 : ByteArray,
                  cellH H55 ⟨c, co + 1, none⟩ = some (.string s47) ∧
                  FnH Tryz.prog 50 #[.pointer p10, .string s47, .string (s43 ++ s46)] H55 fun r54 H56 =>
                    ∃ n20 : Int,
                    r54 = .int .i64 n20 ∧
                    SelfEq ([.v (.pointer (some ⟨c, co, none⟩)), .v (.slice l.p l.n l.c)], [], []) ∧
                    J1 n20 H56) ∧
                (∃ s48 : ByteArray,
                cellH H52 ⟨c, co + 1, none⟩ = some (.string s48) ∧
                (∃ p11 : Option Addr,
                cellH H52 ⟨c, co, none⟩ = some (.pointer p11) ∧
                FnH Tryz.prog 52 #[.pointer (some ⟨q1, 0, none⟩)] H52 fun r55 H57 =>
                  ∃ s49 : ByteArray,
                  r55 = .string s49 ∧
                  s43.size + s49.size < 9223372036854775808 ∧
                  FnH Tryz.prog 50 #[.pointer p11, .string s48, .string (s43 ++ s49)] H57 fun r56 H58 =>
                    ∃ n21 : Int,
                    r56 = .int .i64 n21 ∧
                    SelfEq ([.v (.pointer (some ⟨c, co, none⟩)), .v (.slice l.p l.n l.c)], [], []) ∧
                    J1 n21 H58) ∧
                FnH Tryz.prog 52 #[.pointer (some ⟨q1, 0, none⟩)] H52 fun r57 H59 =>
                  ∃ s50 : ByteArray,
                  r57 = .string s50 ∧
                  s43.size + s50.size < 9223372036854775808 ∧
                  ∃ p12 : Option Addr,
                  cellH H59 ⟨c, co, none⟩ = some (.pointer p12) ∧
                  FnH Tryz.prog 50 #[.pointer p12, .string s48, .string (s43 ++ s50)] H59 fun r58 H60 =>
                    ∃ n22 : Int,
                    r58 = .int .i64 n22 ∧
                    SelfEq ([.v (.pointer (some ⟨c, co, none⟩)), .v (.slice l.p l.n l.c)], [], []) ∧
                    J1 n22 H60) ∧
                FnH Tryz.prog 52 #[.pointer (some ⟨q1, 0, none⟩)] H52 fun r59 H61 =>
                  ∃ s51 : ByteArray,
                  r59 = .string s51 ∧
                  s43.size + s51.size < 9223372036854775808 ∧
                  (∃ p13 : Option Addr,
                  cellH H61 ⟨c, co, none⟩ = some (.pointer p13) ∧
                  ∃ s52 : ByteArray,
                  cellH H61 ⟨c, co + 1, none⟩ = some (.string s52) ∧
                  FnH Tryz.prog 50 #[.pointer p13, .string s52, .string (s43 ++ s51)] H61 fun r60 H62 =>
                    ∃ n23 : Int,
                    r60 = .int .i64 n23 ∧
                    SelfEq ([.v (.pointer (some ⟨c, co, none⟩)), .v (.slice l.p l.n l.c)], [], []) ∧
                    J1 n23 H62) ∧
                  ∃ s53 : ByteArray,
                  cellH H61 ⟨c, co + 1, none⟩ = some (.string s53) ∧
                  ∃ p14 : Option Addr,
                  cellH H61 ⟨c, co, none⟩ = some (.pointer p14) ∧
                  FnH Tryz.prog 50 #[.pointer p14, .string s53, .string (s43 ++ s51)] H61 fun r61 H63 =>
                    ∃ n24 : Int,
                    r61 = .int .i64 n24 ∧
                    SelfEq ([.v (.pointer (some ⟨c, co, none⟩)), .v (.slice l.p l.n l.c)], [], []) ∧
                    J1 n24 H63) ∧
            ∀ e_1 : Int,
            ∀ H64 : Heap,
            J1 e_1 H64 →
            br ((e_1 : Int) == 0) (
              (∃ u, cellH H64 ⟨c, co + 2, none⟩ = some u) ∧
              frozenH H64 ⟨c, co + 2, none⟩ = false ∧
              letH (Heap.set H64 ⟨c, co + 2, none⟩ (.slice l.p l.n l.c)) fun H65 =>
              K (.int .i64 e_1) H65)
             (
              K (.int .i64 e_1) H64)))
theorem epochs_Cache_write_eq (c : Nat) (co : Nat) (l : Sl) (H : Heap) (K : Value → Heap → Prop) : epochs_Cache_write_vc c co l H K = denFn Tryz.prog epochs_Cache_write_ann Tryz.f32 (bodyOf Tryz.f32) [.pointer (some ⟨c, co, none⟩), .slice l.p l.n l.c] H K := by kernel_rfl
theorem epochs_Cache_write_fn (c : Nat) (co : Nat) (l : Sl) {H : Heap} {K : Value → Heap → Prop} (h : epochs_Cache_write_vc c co l H K) : FnH Tryz.prog 32 #[.pointer (some ⟨c, co, none⟩), .slice l.p l.n l.c] H K :=
  denFn_fn Tryz.mixed epochs_Cache_write_ann Tryz.func32 (bodyOf_spec (by kernel_rfl)) (epochs_Cache_write_eq c co l H K) h

/-! function 9: (*logboom/epochs.Cache).Begin -/
def epochs_Cache_Begin_ann : Anns := { hid := [8], loops := [], joins := [((0, 6), { slots := [(33, .bool)], kept := [0, 1, 2, 8], locs := [], keptL := [0] })], mix := [] }
def epochs_Cache_Begin_vc (c : Nat) (co : Nat) (epoch : Int) (offset : Int) (H : Heap) (K : Value → Heap → Prop) : Prop :=
  FnH Tryz.prog 30 #[.int .i64 epoch] H fun r1 H1 =>
    ∃ b1 : Bool,
    r1 = .bool b1 ∧
    br (!b1) (
      K (.int .i64 1) H1)
     (
      FnH Tryz.prog 30 #[.int .i64 offset] H1 fun r2 H2 =>
        ∃ b2 : Bool,
        r2 = .bool b2 ∧
        br (!b2) (
          K (.int .i64 1) H2)
         (
          ∃ l1 : Sl,
          cellH H2 ⟨c, co + 2, none⟩ = some (.slice l1.p l1.n l1.c) ∧
          br (decide (((l1.n : Nat) : Int) > 0)) (
            ∃ l2 : Sl,
            cellH H2 ⟨c, co + 2, none⟩ = some (.slice l2.p l2.n l2.c) ∧
            ∃ q1 : Nat,
            ∃ o1 : Nat,
            (l2.p : Option Addr) = some ⟨q1, o1, none⟩ ∧
            0 ≤ ((IntKind.wrap .i64 ((l1.n : Nat) - 1)) : Int) ∧
            ((IntKind.wrap .i64 ((l1.n : Nat) - 1)) : Int) < (l2.n : Nat) ∧
            ∃ n1 : Int,
            cellH H2 ⟨q1, o1 + Int.toNat (IntKind.wrap .i64 ((l1.n : Nat) - 1)) * 3, none⟩ = some (.int .i64 n1) ∧
            ∃ n2 : Int,
            cellH H2 ⟨q1, o1 + Int.toNat (IntKind.wrap .i64 ((l1.n : Nat) - 1)) * 3 + 1, none⟩ = some (.int .i64 n2) ∧
            ∃ s1 : ByteArray,
            cellH H2 ⟨q1, o1 + Int.toNat (IntKind.wrap .i64 ((l1.n : Nat) - 1)) * 3 + 2, none⟩ = some (.string s1) ∧
            ∃ J1 : Bool → Heap → Prop,
            (br ((epoch : Int) == n1) (
              SelfEq ([.v (.pointer (some ⟨c, co, none⟩)), .v (.int .i64 epoch), .v (.int .i64 offset), .loc 0 0], [some (51, [.int .i64 n1, .int .i64 n2, .string s1])], []) ∧
              J1 (decide ((offset : Int) ≥ n2)) H2)
             (
              SelfEq ([.v (.pointer (some ⟨c, co, none⟩)), .v (.int .i64 epoch), .v (.int .i64 offset), .loc 0 0], [some (51, [.int .i64 n1, .int .i64 n2, .string s1])], []) ∧
              J1 false H2)) ∧
            ∀ b_1 : Bool,
            ∀ H3 : Heap,
            J1 b_1 H3 →
            br (b_1) (
              K (.int .i64 0) H3)
             (
              br (decide ((epoch : Int) ≤ n1)) (
                K (.int .i64 13) H3)
               (
                FnH Tryz.prog 31 #[.pointer (some ⟨c, co, none⟩), .int .i64 offset] H3 fun r3 H4 =>
                  ∃ n3 : Int,
                  r3 = .int .i64 n3 ∧
                  br ((n3 : Int) == 200) (
                    K (.int .i64 3) H4)
                   (
                    ∃ l3 : Sl,
                    cellH H4 ⟨c, co + 2, none⟩ = some (.slice l3.p l3.n l3.c) ∧
                    0 ≤ (n3 : Int) ∧
                    (n3 : Int) ≤ (l3.c : Nat) ∧
                    FnH Tryz.prog 33 #[.slice (slP l3.p l3.c (0 : Int) 3) (Int.toNat (n3 - (0 : Int))) (Int.toNat ((l3.c : Nat) - (0 : Int)))] H4 fun r4 H5 =>
                      ∃ l4 : Sl,
                      r4 = .slice l4.p l4.n l4.c ∧
                      ∀ q2 : Nat,
                      H5 q2 = none →
                      letH (Heap.upd H5 q2 (.cells #[.int .i64 epoch, .int .i64 offset, .string (⟨#[]⟩ : ByteArray)] 51 (0, 0))) fun H6 =>
                      runH Tryz.prog (Builtin.append_ #[44, 44] 44 #[.slice l4.p l4.n l4.c, .slice (some ⟨q2, 0, none⟩) 1 1]) H6 fun r5 H7 =>
                        ∃ l5 : Sl,
                        r5 = .slice l5.p l5.n l5.c ∧
                        FnH Tryz.prog 32 #[.pointer (some ⟨c, co, none⟩), .slice l5.p l5.n l5.c] H7 fun r6 H8 =>
                          ∃ n4 : Int,
                          r6 = .int .i64 n4 ∧
                          K (.int .i64 n4) H8))))
           (
            FnH Tryz.prog 31 #[.pointer (some ⟨c, co, none⟩), .int .i64 offset] H2 fun r7 H9 =>
              ∃ n5 : Int,
              r7 = .int .i64 n5 ∧
              br ((n5 : Int) == 200) (
                K (.int .i64 3) H9)
               (
                ∃ l6 : Sl,
                cellH H9 ⟨c, co + 2, none⟩ = some (.slice l6.p l6.n l6.c) ∧
                0 ≤ (n5 : Int) ∧
                (n5 : Int) ≤ (l6.c : Nat) ∧
                FnH Tryz.prog 33 #[.slice (slP l6.p l6.c (0 : Int) 3) (Int.toNat (n5 - (0 : Int))) (Int.toNat ((l6.c : Nat) - (0 : Int)))] H9 fun r8 H10 =>
                  ∃ l7 : Sl,
                  r8 = .slice l7.p l7.n l7.c ∧
                  ∀ q3 : Nat,
                  H10 q3 = none →
                  letH (Heap.upd H10 q3 (.cells #[.int .i64 epoch, .int .i64 offset, .string (⟨#[]⟩ : ByteArray)] 51 (0, 0))) fun H11 =>
                  runH Tryz.prog (Builtin.append_ #[44, 44] 44 #[.slice l7.p l7.n l7.c, .slice (some ⟨q3, 0, none⟩) 1 1]) H11 fun r9 H12 =>
                    ∃ l8 : Sl,
                    r9 = .slice l8.p l8.n l8.c ∧
                    FnH Tryz.prog 32 #[.pointer (some ⟨c, co, none⟩), .slice l8.p l8.n l8.c] H12 fun r10 H13 =>
                      ∃ n6 : Int,
                      r10 = .int .i64 n6 ∧
                      K (.int .i64 n6) H13))))
theorem epochs_Cache_Begin_eq (c : Nat) (co : Nat) (epoch : Int) (offset : Int) (H : Heap) (K : Value → Heap → Prop) : epochs_Cache_Begin_vc c co epoch offset H K = denFn Tryz.prog epochs_Cache_Begin_ann Tryz.f9 (bodyOf Tryz.f9) [.pointer (some ⟨c, co, none⟩), .int .i64 epoch, .int .i64 offset] H K := by kernel_rfl
theorem epochs_Cache_Begin_fn (c : Nat) (co : Nat) (epoch : Int) (offset : Int) {H : Heap} {K : Value → Heap → Prop} (h : epochs_Cache_Begin_vc c co epoch offset H K) : FnH Tryz.prog 9 #[.pointer (some ⟨c, co, none⟩), .int .i64 epoch, .int .i64 offset] H K :=
  denFn_fn Tryz.mixed epochs_Cache_Begin_ann Tryz.func9 (bodyOf_spec (by kernel_rfl)) (epochs_Cache_Begin_eq c co epoch offset H K) h

/-! function 25: (*logboom/epochs.Cache).Last -/
def epochs_Cache_Last_ann : Anns := { hid := [], loops := [], joins := [], mix := [] }
def epochs_Cache_Last_vc (c : Nat) (co : Nat) (H : Heap) (K : Value → Heap → Prop) : Prop :=
  ∃ l1 : Sl,
  cellH H ⟨c, co + 2, none⟩ = some (.slice l1.p l1.n l1.c) ∧
  br (((l1.n : Nat) : Int) == 0) (
    K (.int .i64 (-1)) H)
   (
    ∃ l2 : Sl,
    cellH H ⟨c, co + 2, none⟩ = some (.slice l2.p l2.n l2.c) ∧
    ∃ l3 : Sl,
    cellH H ⟨c, co + 2, none⟩ = some (.slice l3.p l3.n l3.c) ∧
    ∃ q1 : Nat,
    ∃ o1 : Nat,
    (l2.p : Option Addr) = some ⟨q1, o1, none⟩ ∧
    0 ≤ ((IntKind.wrap .i64 ((l3.n : Nat) - 1)) : Int) ∧
    ((IntKind.wrap .i64 ((l3.n : Nat) - 1)) : Int) < (l2.n : Nat) ∧
    ∃ n1 : Int,
    cellH H ⟨q1, o1 + Int.toNat (IntKind.wrap .i64 ((l3.n : Nat) - 1)) * 3, none⟩ = some (.int .i64 n1) ∧
    K (.int .i64 n1) H)
theorem epochs_Cache_Last_eq (c : Nat) (co : Nat) (H : Heap) (K : Value → Heap → Prop) : epochs_Cache_Last_vc c co H K = denFn Tryz.prog epochs_Cache_Last_ann Tryz.f25 (bodyOf Tryz.f25) [.pointer (some ⟨c, co, none⟩)] H K := by kernel_rfl
theorem epochs_Cache_Last_fn (c : Nat) (co : Nat) {H : Heap} {K : Value → Heap → Prop} (h : epochs_Cache_Last_vc c co H K) : FnH Tryz.prog 25 #[.pointer (some ⟨c, co, none⟩)] H K :=
  denFn_fn Tryz.mixed epochs_Cache_Last_ann Tryz.func25 (bodyOf_spec (by kernel_rfl)) (epochs_Cache_Last_eq c co H K) h

/-! function 11: (*logboom/epochs.Cache).Cut -/
def epochs_Cache_Cut_ann : Anns := { hid := [], loops := [], joins := [], mix := [(3, [10])] }
def epochs_Cache_Cut_vc (c : Nat) (co : Nat) (offset : Int) (H : Heap) (K : Value → Heap → Prop) : Prop :=
  FnH Tryz.prog 30 #[.int .i64 offset] H fun r1 H1 =>
    ∃ b1 : Bool,
    r1 = .bool b1 ∧
    br (!b1) (
      K (.int .i64 1) H1)
     (
      ∃ l1 : Sl,
      cellH H1 ⟨c, co + 2, none⟩ = some (.slice l1.p l1.n l1.c) ∧
      FnH Tryz.prog 31 #[.pointer (some ⟨c, co, none⟩), .int .i64 offset] H1 fun r2 H2 =>
        ∃ n1 : Int,
        r2 = .int .i64 n1 ∧
        Sub H1 H2 ∧
        0 ≤ (n1 : Int) ∧
        (n1 : Int) ≤ (l1.c : Nat) ∧
        FnH Tryz.prog 33 #[.slice (slP l1.p l1.c (0 : Int) 3) (Int.toNat (n1 - (0 : Int))) (Int.toNat ((l1.c : Nat) - (0 : Int)))] H2 fun r3 H3 =>
          ∃ l2 : Sl,
          r3 = .slice l2.p l2.n l2.c ∧
          Sub H1 H3 ∧
          FnH Tryz.prog 32 #[.pointer (some ⟨c, co, none⟩), .slice l2.p l2.n l2.c] H3 fun r4 H4 =>
            ∃ n2 : Int,
            r4 = .int .i64 n2 ∧
            K (.int .i64 n2) H4)
theorem epochs_Cache_Cut_eq (c : Nat) (co : Nat) (offset : Int) (H : Heap) (K : Value → Heap → Prop) : epochs_Cache_Cut_vc c co offset H K = denFn Tryz.prog epochs_Cache_Cut_ann Tryz.f11 (bodyOf Tryz.f11) [.pointer (some ⟨c, co, none⟩), .int .i64 offset] H K := by kernel_rfl
theorem epochs_Cache_Cut_fn (c : Nat) (co : Nat) (offset : Int) {H : Heap} {K : Value → Heap → Prop} (h : epochs_Cache_Cut_vc c co offset H K) : FnH Tryz.prog 11 #[.pointer (some ⟨c, co, none⟩), .int .i64 offset] H K :=
  denFn_fn Tryz.mixed epochs_Cache_Cut_ann Tryz.func11 (bodyOf_spec (by kernel_rfl)) (epochs_Cache_Cut_eq c co offset H K) h

/-! function 13: (*logboom/epochs.Cache).Delete -/
def epochs_Cache_Delete_ann : Anns := { hid := [], loops := [], joins := [], mix := [] }
def epochs_Cache_Delete_vc (c : Nat) (co : Nat) (offset : Int) (H : Heap) (K : Value → Heap → Prop) : Prop :=
  FnH Tryz.prog 30 #[.int .i64 offset] H fun r1 H1 =>
    ∃ b1 : Bool,
    r1 = .bool b1 ∧
    br (!b1) (
      K (.int .i64 1) H1)
     (
      FnH Tryz.prog 31 #[.pointer (some ⟨c, co, none⟩), .int .i64 (IntKind.wrap .i64 (offset + 1))] H1 fun r2 H2 =>
        ∃ n1 : Int,
        r2 = .int .i64 n1 ∧
        ∃ l1 : Sl,
        cellH H2 ⟨c, co + 2, none⟩ = some (.slice l1.p l1.n l1.c) ∧
        0 ≤ (if (IntKind.wrap .i64 (n1 - 1)) > 0 then (IntKind.wrap .i64 (n1 - 1)) else 0 : Int) ∧
        (if (IntKind.wrap .i64 (n1 - 1)) > 0 then (IntKind.wrap .i64 (n1 - 1)) else 0 : Int) ≤ (l1.n : Nat) ∧
        FnH Tryz.prog 33 #[.slice (slP l1.p l1.c (if (IntKind.wrap .i64 (n1 - 1)) > 0 then (IntKind.wrap .i64 (n1 - 1)) else 0) 3) (Int.toNat ((l1.n : Nat) - (if (IntKind.wrap .i64 (n1 - 1)) > 0 then (IntKind.wrap .i64 (n1 - 1)) else 0))) (Int.toNat ((l1.c : Nat) - (if (IntKind.wrap .i64 (n1 - 1)) > 0 then (IntKind.wrap .i64 (n1 - 1)) else 0)))] H2 fun r3 H3 =>
          ∃ l2 : Sl,
          r3 = .slice l2.p l2.n l2.c ∧
          br (decide (((l2.n : Nat) : Int) > 0)) (
            ∃ q1 : Nat,
            ∃ o1 : Nat,
            (l2.p : Option Addr) = some ⟨q1, o1, none⟩ ∧
            0 ≤ (0 : Int) ∧
            (0 : Int) < (l2.n : Nat) ∧
            ∃ n2 : Int,
            cellH H3 ⟨q1, o1 + Int.toNat 0 * 3 + 1, none⟩ = some (.int .i64 n2) ∧
            ∃ q2 : Nat,
            ∃ o2 : Nat,
            (l2.p : Option Addr) = some ⟨q2, o2, none⟩ ∧
            0 ≤ (0 : Int) ∧
            (0 : Int) < (l2.n : Nat) ∧
            (∃ u, cellH H3 ⟨q2, o2 + Int.toNat 0 * 3 + 1, none⟩ = some u) ∧
            frozenH H3 ⟨q2, o2 + Int.toNat 0 * 3 + 1, none⟩ = false ∧
            letH (Heap.set H3 ⟨q2, o2 + Int.toNat 0 * 3 + 1, none⟩ (.int .i64 (if offset > n2 then offset else n2))) fun H4 =>
            FnH Tryz.prog 32 #[.pointer (some ⟨c, co, none⟩), .slice l2.p l2.n l2.c] H4 fun r4 H5 =>
              ∃ n3 : Int,
              r4 = .int .i64 n3 ∧
              K (.int .i64 n3) H5)
           (
            FnH Tryz.prog 32 #[.pointer (some ⟨c, co, none⟩), .slice l2.p l2.n l2.c] H3 fun r5 H6 =>
              ∃ n4 : Int,
              r5 = .int .i64 n4 ∧
              K (.int .i64 n4) H6))
theorem epochs_Cache_Delete_eq (c : Nat) (co : Nat) (offset : Int) (H : Heap) (K : Value → Heap → Prop) : epochs_Cache_Delete_vc c co offset H K = denFn Tryz.prog epochs_Cache_Delete_ann Tryz.f13 (bodyOf Tryz.f13) [.pointer (some ⟨c, co, none⟩), .int .i64 offset] H K := by kernel_rfl
theorem epochs_Cache_Delete_fn (c : Nat) (co : Nat) (offset : Int) {H : Heap} {K : Value → Heap → Prop} (h : epochs_Cache_Delete_vc c co offset H K) : FnH Tryz.prog 13 #[.pointer (some ⟨c, co, none⟩), .int .i64 offset] H K :=
  denFn_fn Tryz.mixed epochs_Cache_Delete_ann Tryz.func13 (bodyOf_spec (by kernel_rfl)) (epochs_Cache_Delete_eq c co offset H K) h

/-! function 15: (*logboom/epochs.Cache).End -/
def epochs_Cache_End_ann : Anns := { hid := [], loops := [], joins := [], mix := [] }
def epochs_Cache_End_vc (c : Nat) (co : Nat) (epoch : Int) (next : Int) (H : Heap) (K : Value → Heap → Prop) : Prop :=
  ∀ q1 : Nat,
  H q1 = none →
  letH (Heap.upd H q1 (.cells #[.pointer (some ⟨c, co, none⟩)] 25 (0, 0))) fun H1 =>
  ∀ q2 : Nat,
  H1 q2 = none →
  letH (Heap.upd H1 q2 (.cells #[.int .i64 epoch] 3 (0, 0))) fun H2 =>
  ∃ p1 : Option Addr,
  cellH H2 ⟨q1, 0, none⟩ = some (.pointer p1) ∧
  ptrm p1 fun q3 o1 =>
  ∃ l1 : Sl,
  cellH H2 ⟨q3, o1 + 2, none⟩ = some (.slice l1.p l1.n l1.c) ∧
  FnH Tryz.prog 37 #[.int .i64 (l1.n : Nat), .func (.func 38) #[] #[.pointer (some ⟨q1, 0, none⟩), .pointer (some ⟨q2, 0, none⟩)]] H2 fun r1 H3 =>
    ∃ n1 : Int,
    r1 = .int .i64 n1 ∧
    br ((n1 : Int) == 0) (
      K (.tuple #[.int .i64 (-1), .int .i64 (-1)]) H3)
     (
      ∃ p2 : Option Addr,
      cellH H3 ⟨q1, 0, none⟩ = some (.pointer p2) ∧
      ptrm p2 fun q4 o2 =>
      ∃ l2 : Sl,
      cellH H3 ⟨q4, o2 + 2, none⟩ = some (.slice l2.p l2.n l2.c) ∧
      br ((n1 : Int) == (l2.n : Nat)) (
        ∃ p3 : Option Addr,
        cellH H3 ⟨q1, 0, none⟩ = some (.pointer p3) ∧
        ptrm p3 fun q5 o3 =>
        ∃ l3 : Sl,
        cellH H3 ⟨q5, o3 + 2, none⟩ = some (.slice l3.p l3.n l3.c) ∧
        ∃ q6 : Nat,
        ∃ o4 : Nat,
        (l3.p : Option Addr) = some ⟨q6, o4, none⟩ ∧
        0 ≤ ((IntKind.wrap .i64 (n1 - 1)) : Int) ∧
        ((IntKind.wrap .i64 (n1 - 1)) : Int) < (l3.n : Nat) ∧
        ∃ n2 : Int,
        cellH H3 ⟨q6, o4 + Int.toNat (IntKind.wrap .i64 (n1 - 1)) * 3, none⟩ = some (.int .i64 n2) ∧
        K (.tuple #[.int .i64 n2, .int .i64 next]) H3)
       (
        ∃ p4 : Option Addr,
        cellH H3 ⟨q1, 0, none⟩ = some (.pointer p4) ∧
        ptrm p4 fun q7 o5 =>
        ∃ l4 : Sl,
        cellH H3 ⟨q7, o5 + 2, none⟩ = some (.slice l4.p l4.n l4.c) ∧
        ∃ q8 : Nat,
        ∃ o6 : Nat,
        (l4.p : Option Addr) = some ⟨q8, o6, none⟩ ∧
        0 ≤ ((IntKind.wrap .i64 (n1 - 1)) : Int) ∧
        ((IntKind.wrap .i64 (n1 - 1)) : Int) < (l4.n : Nat) ∧
        ∃ n3 : Int,
        cellH H3 ⟨q8, o6 + Int.toNat (IntKind.wrap .i64 (n1 - 1)) * 3, none⟩ = some (.int .i64 n3) ∧
        ∃ p5 : Option Addr,
        cellH H3 ⟨q1, 0, none⟩ = some (.pointer p5) ∧
        ptrm p5 fun q9 o7 =>
        ∃ l5 : Sl,
        cellH H3 ⟨q9, o7 + 2, none⟩ = some (.slice l5.p l5.n l5.c) ∧
        ∃ q10 : Nat,
        ∃ o8 : Nat,
        (l5.p : Option Addr) = some ⟨q10, o8, none⟩ ∧
        0 ≤ (n1 : Int) ∧
        (n1 : Int) < (l5.n : Nat) ∧
        ∃ n4 : Int,
        cellH H3 ⟨q10, o8 + Int.toNat n1 * 3 + 1, none⟩ = some (.int .i64 n4) ∧
        K (.tuple #[.int .i64 n3, .int .i64 n4]) H3))
theorem epochs_Cache_End_eq (c : Nat) (co : Nat) (epoch : Int) (next : Int) (H : Heap) (K : Value → Heap → Prop) : epochs_Cache_End_vc c co epoch next H K = denFn Tryz.prog epochs_Cache_End_ann Tryz.f15 (bodyOf Tryz.f15) [.pointer (some ⟨c, co, none⟩), .int .i64 epoch, .int .i64 next] H K := by kernel_rfl
theorem epochs_Cache_End_fn (c : Nat) (co : Nat) (epoch : Int) (next : Int) {H : Heap} {K : Value → Heap → Prop} (h : epochs_Cache_End_vc c co epoch next H K) : FnH Tryz.prog 15 #[.pointer (some ⟨c, co, none⟩), .int .i64 epoch, .int .i64 next] H K :=
  denFn_fn Tryz.mixed epochs_Cache_End_ann Tryz.func15 (bodyOf_spec (by kernel_rfl)) (epochs_Cache_End_eq c co epoch next H K) h

/-! function 19: logboom/epochs.Open -/
def epochs_Open_ann : Anns := { hid := [], loops := [], joins := [], mix := [] }
def epochs_Open_vc (d0 : Nat) (d0o : Nat) (name : ByteArray) (H : Heap) (K : Value → Heap → Prop) : Prop :=
  ∀ q1 : Nat,
  H q1 = none →
  letH (Heap.upd H q1 (.cells #[.pointer (some ⟨d0, d0o, none⟩), .string name, .slice none 0 0] 65 (0, 0))) fun H1 =>
  FnH Tryz.prog 23 #[.pointer (some ⟨d0, d0o, none⟩), .string name] H1 fun r1 H2 =>
    ∃ s1 : ByteArray,
    ∃ n1 : Int,
    r1 = .tuple #[.string s1, .int .i64 n1] ∧
    br ((n1 : Int) != 0) (
      K (.tuple #[.pointer (some ⟨q1, 0, none⟩), .int .i64 0]) H2)
     (
      FnH Tryz.prog 41 #[.pointer (some ⟨q1, 0, none⟩), .string s1] H2 fun r2 H3 =>
        ∃ n2 : Int,
        r2 = .int .i64 n2 ∧
        br ((n2 : Int) != 0) (
          K (.tuple #[.pointer none, .int .i64 n2]) H3)
         (
          K (.tuple #[.pointer (some ⟨q1, 0, none⟩), .int .i64 0]) H3))
theorem epochs_Open_eq (d0 : Nat) (d0o : Nat) (name : ByteArray) (H : Heap) (K : Value → Heap → Prop) : epochs_Open_vc d0 d0o name H K = denFn Tryz.prog epochs_Open_ann Tryz.f19 (bodyOf Tryz.f19) [.pointer (some ⟨d0, d0o, none⟩), .string name] H K := by kernel_rfl
theorem epochs_Open_fn (d0 : Nat) (d0o : Nat) (name : ByteArray) {H : Heap} {K : Value → Heap → Prop} (h : epochs_Open_vc d0 d0o name H K) : FnH Tryz.prog 19 #[.pointer (some ⟨d0, d0o, none⟩), .string name] H K :=
  denFn_fn Tryz.mixed epochs_Open_ann Tryz.func19 (bodyOf_spec (by kernel_rfl)) (epochs_Open_eq d0 d0o name H K) h

/-! function 20: (*logboom/epochs.Cache).All -/
def epochs_Cache_All_ann : Anns := { hid := [], loops := [], joins := [], mix := [] }
def epochs_Cache_All_vc (c : Nat) (co : Nat) (H : Heap) (K : Value → Heap → Prop) : Prop :=
  ∃ l1 : Sl,
  cellH H ⟨c, co + 2, none⟩ = some (.slice l1.p l1.n l1.c) ∧
  FnH Tryz.prog 33 #[.slice l1.p l1.n l1.c] H fun r1 H1 =>
    ∃ l2 : Sl,
    r1 = .slice l2.p l2.n l2.c ∧
    K (.slice l2.p l2.n l2.c) H1
theorem epochs_Cache_All_eq (c : Nat) (co : Nat) (H : Heap) (K : Value → Heap → Prop) : epochs_Cache_All_vc c co H K = denFn Tryz.prog epochs_Cache_All_ann Tryz.f20 (bodyOf Tryz.f20) [.pointer (some ⟨c, co, none⟩)] H K := by kernel_rfl
theorem epochs_Cache_All_fn (c : Nat) (co : Nat) {H : Heap} {K : Value → Heap → Prop} (h : epochs_Cache_All_vc c co H K) : FnH Tryz.prog 20 #[.pointer (some ⟨c, co, none⟩)] H K :=
  denFn_fn Tryz.mixed epochs_Cache_All_ann Tryz.func20 (bodyOf_spec (by kernel_rfl)) (epochs_Cache_All_eq c co H K) h

/-! function 54: logboom/logboomref7.Bytes -/
def logboomref7_Bytes_ann : Anns := { hid := [], loops := [(0, { slots := [(3, .str), (4, .int .i64)], kept := [0], locs := [], keptL := [] })], joins := [], mix := [(5, [])] }
def logboomref7_Bytes_vc (l : Sl) (H : Heap) (K : Value → Heap → Prop) : Prop :=
  FnH Tryz.prog 69 #[.int .i64 (l.n : Nat)] H fun r1 H1 =>
    ∃ s1 : ByteArray,
    r1 = .string s1 ∧
    ∃ I1 : ByteArray → Int → Heap → Prop,
    ∃ M1 : ByteArray → Int → Heap → Nat,
    I1 s1 0 H1 ∧
    ∀ s_1 : ByteArray,
    ∀ i_1 : Int,
    ∀ H2 : Heap,
    I1 s_1 i_1 H2 →
    br (decide ((i_1 : Int) < (l.n : Nat))) (
      ∃ q1 : Nat,
      ∃ o1 : Nat,
      (l.p : Option Addr) = some ⟨q1, o1, none⟩ ∧
      0 ≤ (i_1 : Int) ∧
      (i_1 : Int) < (l.n : Nat) ∧
      ∃ n1 : Int,
      cellH H2 ⟨q1, o1 + Int.toNat i_1 * 3, none⟩ = some (.int .i64 n1) ∧
      ∃ q2 : Nat,
      ∃ o2 : Nat,
      (l.p : Option Addr) = some ⟨q2, o2, none⟩ ∧
      0 ≤ (i_1 : Int) ∧
      (i_1 : Int) < (l.n : Nat) ∧
      ∃ n2 : Int,
      cellH H2 ⟨q2, o2 + Int.toNat i_1 * 3 + 1, none⟩ = some (.int .i64 n2) ∧
      FnH Tryz.prog 69 #[.int .i64 n1] H2 fun r2 H3 =>
        ∃ s2 : ByteArray,
        r2 = .string s2 ∧
        Sub H2 H3 ∧
        s_1.size + s2.size < 9223372036854775808 ∧
        FnH Tryz.prog 69 #[.int .i64 n2] H3 fun r3 H4 =>
          ∃ s3 : ByteArray,
          r3 = .string s3 ∧
          Sub H2 H4 ∧
          (s_1 ++ s2).size + s3.size < 9223372036854775808 ∧
          SelfEq ([.v (.slice l.p l.n l.c)], [], []) ∧
          I1 ((s_1 ++ s2) ++ s3) (IntKind.wrap .i64 (i_1 + 1)) H4 ∧
          M1 ((s_1 ++ s2) ++ s3) (IntKind.wrap .i64 (i_1 + 1)) H4 < M1 s_1 i_1 H2)
     (
      FnH Tryz.prog 44 #[.string s_1] H2 fun r4 H5 =>
        ∃ n3 : Int,
        r4 = .int .i64 n3 ∧
        FnH Tryz.prog 43 #[.int .i64 n3] H5 fun r5 H6 =>
          ∃ s4 : ByteArray,
          r5 = .string s4 ∧
          s4.size + s_1.size < 9223372036854775808 ∧
          K (.string (s4 ++ s_1)) H6)
theorem logboomref7_Bytes_eq (l : Sl) (H : Heap) (K : Value → Heap → Prop) : logboomref7_Bytes_vc l H K = denFn Tryz.prog logboomref7_Bytes_ann Tryz.f54 (bodyOf Tryz.f54) [.slice l.p l.n l.c] H K := by kernel_rfl
theorem logboomref7_Bytes_fn (l : Sl) {H : Heap} {K : Value → Heap → Prop} (h : logboomref7_Bytes_vc l H K) : FnH Tryz.prog 54 #[.slice l.p l.n l.c] H K :=
  denFn_fn Tryz.mixed logboomref7_Bytes_ann Tryz.func54 (bodyOf_spec (by kernel_rfl)) (logboomref7_Bytes_eq l H K) h

/-! function 35: (*logboom/logboomref7.Cache).ahead -/
def logboomref7_Cache_ahead_ann : Anns := { hid := [], loops := [(0, { slots := [(5, .slice), (6, .int .i64)], kept := [0, 1], locs := [], keptL := [] })], joins := [], mix := [] }
def logboomref7_Cache_ahead_vc (c : Nat) (co : Nat) (offset : Int) (H : Heap) (K : Value → Heap → Prop) : Prop :=
  ∃ I1 : Sl → Int → Heap → Prop,
  ∃ M1 : Sl → Int → Heap → Nat,
  I1 ⟨none, 0, 0⟩ 0 H ∧
  ∀ out_1 : Sl,
  ∀ i_1 : Int,
  ∀ H1 : Heap,
  I1 out_1 i_1 H1 →
  ∃ l1 : Sl,
  cellH H1 ⟨c, co + 2, none⟩ = some (.slice l1.p l1.n l1.c) ∧
  br (decide ((i_1 : Int) < (l1.n : Nat))) (
    ∃ l2 : Sl,
    cellH H1 ⟨c, co + 2, none⟩ = some (.slice l2.p l2.n l2.c) ∧
    ∃ q1 : Nat,
    ∃ o1 : Nat,
    (l2.p : Option Addr) = some ⟨q1, o1, none⟩ ∧
    0 ≤ (i_1 : Int) ∧
    (i_1 : Int) < (l2.n : Nat) ∧
    ∃ n1 : Int,
    cellH H1 ⟨q1, o1 + Int.toNat i_1 * 3 + 1, none⟩ = some (.int .i64 n1) ∧
    br (decide ((n1 : Int) < offset)) (
      ∃ l3 : Sl,
      cellH H1 ⟨c, co + 2, none⟩ = some (.slice l3.p l3.n l3.c) ∧
      ∃ q2 : Nat,
      ∃ o2 : Nat,
      (l3.p : Option Addr) = some ⟨q2, o2, none⟩ ∧
      0 ≤ (i_1 : Int) ∧
      (i_1 : Int) < (l3.n : Nat) ∧
      ∃ n2 : Int,
      cellH H1 ⟨q2, o2 + Int.toNat i_1 * 3, none⟩ = some (.int .i64 n2) ∧
      ∃ n3 : Int,
      cellH H1 ⟨q2, o2 + Int.toNat i_1 * 3 + 1, none⟩ = some (.int .i64 n3) ∧
      ∃ s1 : ByteArray,
      cellH H1 ⟨q2, o2 + Int.toNat i_1 * 3 + 2, none⟩ = some (.string s1) ∧
      ∀ q3 : Nat,
      H1 q3 = none →
      letH (Heap.upd H1 q3 (.cells #[.int .i64 n2, .int .i64 n3, .string s1] 51 (0, 0))) fun H2 =>
      runH Tryz.prog (Builtin.append_ #[44, 44] 44 #[.slice out_1.p out_1.n out_1.c, .slice (some ⟨q3, 0, none⟩) 1 1]) H2 fun r1 H3 =>
        ∃ l4 : Sl,
        r1 = .slice l4.p l4.n l4.c ∧
        SelfEq ([.v (.pointer (some ⟨c, co, none⟩)), .v (.int .i64 offset)], [], []) ∧
        I1 l4 (IntKind.wrap .i64 (i_1 + 1)) H3 ∧
        M1 l4 (IntKind.wrap .i64 (i_1 + 1)) H3 < M1 out_1 i_1 H1)
     (
      SelfEq ([.v (.pointer (some ⟨c, co, none⟩)), .v (.int .i64 offset)], [], []) ∧
      I1 out_1 (IntKind.wrap .i64 (i_1 + 1)) H1 ∧
      M1 out_1 (IntKind.wrap .i64 (i_1 + 1)) H1 < M1 out_1 i_1 H1))
   (
    K (.slice out_1.p out_1.n out_1.c) H1)
theorem logboomref7_Cache_ahead_eq (c : Nat) (co : Nat) (offset : Int) (H : Heap) (K : Value → Heap → Prop) : logboomref7_Cache_ahead_vc c co offset H K = denFn Tryz.prog logboomref7_Cache_ahead_ann Tryz.f35 (bodyOf Tryz.f35) [.pointer (some ⟨c, co, none⟩), .int .i64 offset] H K := by kernel_rfl
theorem logboomref7_Cache_ahead_fn (c : Nat) (co : Nat) (offset : Int) {H : Heap} {K : Value → Heap → Prop} (h : logboomref7_Cache_ahead_vc c co offset H K) : FnH Tryz.prog 35 #[.pointer (some ⟨c, co, none⟩), .int .i64 offset] H K :=
  denFn_fn Tryz.mixed logboomref7_Cache_ahead_ann Tryz.func35 (bodyOf_spec (by kernel_rfl)) (logboomref7_Cache_ahead_eq c co offset H K) h

/-! function 36: (*logboom/logboomref7.Cache).write -/
def logboomref7_Cache_write_ann : Anns := { hid := [], loops := [(0, { slots := [(5, .bool), (6, .int .i64)], kept := [0, 1], locs := [], keptL := [] })], joins := [], mix := [(8, [10])] }
def logboomref7_Cache_write_vc (c : Nat) (co : Nat) (l : Sl) (H : Heap) (K : Value → Heap → Prop) : Prop :=
  ∃ l1 : Sl,
  cellH H ⟨c, co + 2, none⟩ = some (.slice l1.p l1.n l1.c) ∧
  ∃ I1 : Bool → Int → Heap → Prop,
  ∃ M1 : Bool → Int → Heap → Nat,
  I1 (((l.n : Nat) : Int) == (l1.n : Nat)) 0 H ∧
  ∀ same_1 : Bool,
  ∀ i_1 : Int,
  ∀ H1 : Heap,
  I1 same_1 i_1 H1 →
  br (decide ((i_1 : Int) < (l.n : Nat))) (
    br (same_1) (
      ∃ q1 : Nat,
      ∃ o1 : Nat,
      (l.p : Option Addr) = some ⟨q1, o1, none⟩ ∧
      0 ≤ (i_1 : Int) ∧
      (i_1 : Int) < (l.n : Nat) ∧
      ∃ n1 : Int,
      cellH H1 ⟨q1, o1 + Int.toNat i_1 * 3, none⟩ = some (.int .i64 n1) ∧
      ∃ n2 : Int,
      cellH H1 ⟨q1, o1 + Int.toNat i_1 * 3 + 1, none⟩ = some (.int .i64 n2) ∧
      ∃ s1 : ByteArray,
      cellH H1 ⟨q1, o1 + Int.toNat i_1 * 3 + 2, none⟩ = some (.string s1) ∧
      ∃ l2 : Sl,
      cellH H1 ⟨c, co + 2, none⟩ = some (.slice l2.p l2.n l2.c) ∧
      ∃ q2 : Nat,
      ∃ o2 : Nat,
      (l2.p : Option Addr) = some ⟨q2, o2, none⟩ ∧
      0 ≤ (i_1 : Int) ∧
      (i_1 : Int) < (l2.n : Nat) ∧
      ∃ n3 : Int,
      cellH H1 ⟨q2, o2 + Int.toNat i_1 * 3, none⟩ = some (.int .i64 n3) ∧
      ∃ n4 : Int,
      cellH H1 ⟨q2, o2 + Int.toNat i_1 * 3 + 1, none⟩ = some (.int .i64 n4) ∧
      ∃ s2 : ByteArray,
      cellH H1 ⟨q2, o2 + Int.toNat i_1 * 3 + 2, none⟩ = some (.string s2) ∧
      runR Tryz.prog (binOp .eql 51 (.agg #[.int .i64 n1, .int .i64 n2, .string s1]) (.agg #[.int .i64 n3, .int .i64 n4, .string s2])) H1 fun r1 =>
        ∃ b1 : Bool,
        r1 = .bool b1 ∧
        SelfEq ([.v (.pointer (some ⟨c, co, none⟩)), .v (.slice l.p l.n l.c)], [], []) ∧
        I1 b1 (IntKind.wrap .i64 (i_1 + 1)) H1 ∧
        M1 b1 (IntKind.wrap .i64 (i_1 + 1)) H1 < M1 same_1 i_1 H1)
     (
      br (same_1) (
        K (.int .i64 0) H1)
       (
        ∃ p1 : Option Addr,
        cellH H1 ⟨c, co, none⟩ = some (.pointer p1) ∧
        ∃ s3 : ByteArray,
        cellH H1 ⟨c, co + 1, none⟩ = some (.string s3) ∧
        FnH Tryz.prog 54 #[.slice l.p l.n l.c] H1 fun r2 H2 =>
          ∃ s4 : ByteArray,
          r2 = .string s4 ∧
          Sub H1 H2 ∧
          FnH Tryz.prog 53 #[.pointer p1, .string s3, .string s4] H2 fun r3 H3 =>
            ∃ n5 : Int,
            r3 = .int .i64 n5 ∧
            br ((n5 : Int) == 0) (
              (∃ u, cellH H3 ⟨c, co + 2, none⟩ = some u) ∧
              frozenH H3 ⟨c, co + 2, none⟩ = false ∧
              letH (Heap.set H3 ⟨c, co + 2, none⟩ (.slice l.p l.n l.c)) fun H4 =>
              K (.int .i64 n5) H4)
             (
              K (.int .i64 n5) H3))))
   (
    br (same_1) (
      K (.int .i64 0) H1)
     (
      ∃ p2 : Option Addr,
      cellH H1 ⟨c, co, none⟩ = some (.pointer p2) ∧
      ∃ s5 : ByteArray,
      cellH H1 ⟨c, co + 1, none⟩ = some (.string s5) ∧
      FnH Tryz.prog 54 #[.slice l.p l.n l.c] H1 fun r4 H5 =>
        ∃ s6 : ByteArray,
        r4 = .string s6 ∧
        Sub H1 H5 ∧
        FnH Tryz.prog 53 #[.pointer p2, .string s5, .string s6] H5 fun r5 H6 =>
          ∃ n6 : Int,
          r5 = .int .i64 n6 ∧
          br ((n6 : Int) == 0) (
            (∃ u, cellH H6 ⟨c, co + 2, none⟩ = some u) ∧
            frozenH H6 ⟨c, co + 2, none⟩ = false ∧
            letH (Heap.set H6 ⟨c, co + 2, none⟩ (.slice l.p l.n l.c)) fun H7 =>
            K (.int .i64 n6) H7)
           (
            K (.int .i64 n6) H6)))
theorem logboomref7_Cache_write_eq (c : Nat) (co : Nat) (l : Sl) (H : Heap) (K : Value → Heap → Prop) : logboomref7_Cache_write_vc c co l H K = denFn Tryz.prog logboomref7_Cache_write_ann Tryz.f36 (bodyOf Tryz.f36) [.pointer (some ⟨c, co, none⟩), .slice l.p l.n l.c] H K := by kernel_rfl
theorem logboomref7_Cache_write_fn (c : Nat) (co : Nat) (l : Sl) {H : Heap} {K : Value → Heap → Prop} (h : logboomref7_Cache_write_vc c co l H K) : FnH Tryz.prog 36 #[.pointer (some ⟨c, co, none⟩), .slice l.p l.n l.c] H K :=
  denFn_fn Tryz.mixed logboomref7_Cache_write_ann Tryz.func36 (bodyOf_spec (by kernel_rfl)) (logboomref7_Cache_write_eq c co l H K) h

/-! function 29: logboom/logboomref7.Read -/
def logboomref7_Read_ann : Anns := { hid := [22, 8], loops := [(0, { slots := [(6, .slice), (7, .int .i64)], kept := [4, 5], locs := [(0, [.str, .bool])], keptL := [] })], joins := [], mix := [(3, [])] }
def logboomref7_Read_vc (s : ByteArray) (H : Heap) (K : Value → Heap → Prop) : Prop :=
  br (decide (((s.size : Nat) : Int) < 4)) (
    K (.tuple #[.slice none 0 0, .int .i64 5]) H)
   (
    0 ≤ (4 : Int) ∧
    (4 : Int) ≤ (s.size : Nat) ∧
    0 ≤ (4 : Int) ∧
    (4 : Int) ≤ (s.size : Nat) ∧
    FnH Tryz.prog 44 #[.string (s.extract (Int.toNat 4) (Int.toNat (s.size : Nat)))] H fun r1 H1 =>
      ∃ n1 : Int,
      r1 = .int .i64 n1 ∧
      Sub H H1 ∧
      FnH Tryz.prog 43 #[.int .i64 n1] H1 fun r2 H2 =>
        ∃ s1 : ByteArray,
        r2 = .string s1 ∧
        Sub H H2 ∧
        br (!(s1.toList == (s.extract (Int.toNat (0 : Int)) (Int.toNat 4)).toList)) (
          K (.tuple #[.slice none 0 0, .int .i64 6]) H2)
         (
          0 ≤ (4 : Int) ∧
          (4 : Int) ≤ (s.size : Nat) ∧
          ∀ q1 : Nat,
          H2 q1 = none →
          FnH Tryz.prog 45 #[.pointer (some ⟨q1, 0, none⟩)] (Heap.upd H2 q1 (.cells #[.string (s.extract (Int.toNat 4) (Int.toNat (s.size : Nat))), .bool false] 88 (0, 0))) fun r3 H3 =>
            ∃ n2 : Int,
            r3 = .int .i64 n2 ∧
            ∃ s2 : ByteArray,
            ∃ b1 : Bool,
            H3 q1 = some (.cells #[.string s2, .bool b1] 88 (0, 0)) ∧
            letH (Heap.del H3 q1) fun H4 =>
            ∃ I1 : Sl → Int → ByteArray → Bool → Heap → Prop,
            ∃ M1 : Sl → Int → ByteArray → Bool → Heap → Nat,
            I1 ⟨none, 0, 0⟩ 0 s2 b1 H4 ∧
            ∀ l_1 : Sl,
            ∀ i_1 : Int,
            ∀ s3 : ByteArray,
            ∀ b2 : Bool,
            ∀ H5 : Heap,
            I1 l_1 i_1 s3 b2 H5 →
            br (decide ((i_1 : Int) < n2)) (
              br (decide ((i_1 : Int) ≤ 200)) (
                br (!b2) (
                  ∀ q2 : Nat,
                  H5 q2 = none →
                  FnH Tryz.prog 45 #[.pointer (some ⟨q2, 0, none⟩)] (Heap.upd H5 q2 (.cells #[.string s3, .bool b2] 88 (0, 0))) fun r4 H6 =>
                    ∃ n3 : Int,
                    r4 = .int .i64 n3 ∧
                    ∃ s4 : ByteArray,
                    ∃ b3 : Bool,
                    H6 q2 = some (.cells #[.string s4, .bool b3] 88 (0, 0)) ∧
                    letH (Heap.del H6 q2) fun H7 =>
                    ∀ q3 : Nat,
                    H7 q3 = none →
                    FnH Tryz.prog 45 #[.pointer (some ⟨q3, 0, none⟩)] (Heap.upd H7 q3 (.cells #[.string s4, .bool b3] 88 (0, 0))) fun r5 H8 =>
                      ∃ n4 : Int,
                      r5 = .int .i64 n4 ∧
                      ∃ s5 : ByteArray,
                      ∃ b4 : Bool,
                      H8 q3 = some (.cells #[.string s5, .bool b4] 88 (0, 0)) ∧
                      letH (Heap.del H8 q3) fun H9 =>
                      br (decide ((n3 : Int) < 0)) (
                        K (.tuple #[.slice none 0 0, .int .i64 4]) H9)
                       (
                        br (decide ((n3 : Int) > 1000000000)) (
                          K (.tuple #[.slice none 0 0, .int .i64 4]) H9)
                         (
                          br (decide ((n4 : Int) < 0)) (
                            K (.tuple #[.slice none 0 0, .int .i64 4]) H9)
                           (
                            br (decide ((n4 : Int) > 1000000000)) (
                              K (.tuple #[.slice none 0 0, .int .i64 4]) H9)
                             (
                              br (decide ((i_1 : Int) > 0)) (
                                ∃ q4 : Nat,
                                ∃ o1 : Nat,
                                (l_1.p : Option Addr) = some ⟨q4, o1, none⟩ ∧
                                0 ≤ ((IntKind.wrap .i64 (i_1 - 1)) : Int) ∧
                                ((IntKind.wrap .i64 (i_1 - 1)) : Int) < (l_1.n : Nat) ∧
                                ∃ n5 : Int,
                                cellH H9 ⟨q4, o1 + Int.toNat (IntKind.wrap .i64 (i_1 - 1)) * 3, none⟩ = some (.int .i64 n5) ∧
                                br (decide ((n3 : Int) ≤ n5)) (
                                  K (.tuple #[.slice none 0 0, .int .i64 4]) H9)
                                 (
                                  ∃ q5 : Nat,
                                  ∃ o2 : Nat,
                                  (l_1.p : Option Addr) = some ⟨q5, o2, none⟩ ∧
                                  0 ≤ ((IntKind.wrap .i64 (i_1 - 1)) : Int) ∧
                                  ((IntKind.wrap .i64 (i_1 - 1)) : Int) < (l_1.n : Nat) ∧
                                  ∃ n6 : Int,
                                  cellH H9 ⟨q5, o2 + Int.toNat (IntKind.wrap .i64 (i_1 - 1)) * 3 + 1, none⟩ = some (.int .i64 n6) ∧
                                  br (decide ((n4 : Int) ≤ n6)) (
                                    K (.tuple #[.slice none 0 0, .int .i64 4]) H9)
                                   (
                                    ∀ q6 : Nat,
                                    H9 q6 = none →
                                    letH (Heap.upd H9 q6 (.cells #[.int .i64 n3, .int .i64 n4, .string (⟨#[]⟩ : ByteArray)] 51 (0, 0))) fun H10 =>
                                    runH Tryz.prog (Builtin.append_ #[44, 44] 44 #[.slice l_1.p l_1.n l_1.c, .slice (some ⟨q6, 0, none⟩) 1 1]) H10 fun r6 H11 =>
                                      ∃ l1 : Sl,
                                      r6 = .slice l1.p l1.n l1.c ∧
                                      SelfEq ([.loc 0 0, .v (.int .i64 n2)], [], [88]) ∧
                                      I1 l1 (IntKind.wrap .i64 (i_1 + 1)) s5 b4 H11 ∧
                                      M1 l1 (IntKind.wrap .i64 (i_1 + 1)) s5 b4 H11 < M1 l_1 i_1 s3 b2 H5)))
                               (
                                ∀ q7 : Nat,
                                H9 q7 = none →
                                letH (Heap.upd H9 q7 (.cells #[.int .i64 n3, .int .i64 n4, .string (⟨#[]⟩ : ByteArray)] 51 (0, 0))) fun H12 =>
                                runH Tryz.prog (Builtin.append_ #[44, 44] 44 #[.slice l_1.p l_1.n l_1.c, .slice (some ⟨q7, 0, none⟩) 1 1]) H12 fun r7 H13 =>
                                  ∃ l2 : Sl,
                                  r7 = .slice l2.p l2.n l2.c ∧
                                  SelfEq ([.loc 0 0, .v (.int .i64 n2)], [], [88]) ∧
                                  I1 l2 (IntKind.wrap .i64 (i_1 + 1)) s5 b4 H13 ∧
                                  M1 l2 (IntKind.wrap .i64 (i_1 + 1)) s5 b4 H13 < M1 l_1 i_1 s3 b2 H5))))))
                 (
                  br (b2) (
                    K (.tuple #[.slice none 0 0, .int .i64 4]) H5)
                   (
                    br (!(s3.toList == (⟨#[]⟩ : ByteArray).toList)) (
                      K (.tuple #[.slice none 0 0, .int .i64 4]) H5)
                     (
                      br (decide ((n2 : Int) < 0)) (
                        K (.tuple #[.slice none 0 0, .int .i64 4]) H5)
                       (
                        br (decide ((n2 : Int) > 200)) (
                          K (.tuple #[.slice none 0 0, .int .i64 4]) H5)
                         (
                          K (.tuple #[.slice l_1.p l_1.n l_1.c, .int .i64 0]) H5))))))
               (
                br (b2) (
                  K (.tuple #[.slice none 0 0, .int .i64 4]) H5)
                 (
                  br (!(s3.toList == (⟨#[]⟩ : ByteArray).toList)) (
                    K (.tuple #[.slice none 0 0, .int .i64 4]) H5)
                   (
                    br (decide ((n2 : Int) < 0)) (
                      K (.tuple #[.slice none 0 0, .int .i64 4]) H5)
                     (
                      br (decide ((n2 : Int) > 200)) (
                        K (.tuple #[.slice none 0 0, .int .i64 4]) H5)
                       (
                        K (.tuple #[.slice l_1.p l_1.n l_1.c, .int .i64 0]) H5))))))
             (
              br (b2) (
                K (.tuple #[.slice none 0 0, .int .i64 4]) H5)
               (
                br (!(s3.toList == (⟨#[]⟩ : ByteArray).toList)) (
                  K (.tuple #[.slice none 0 0, .int .i64 4]) H5)
                 (
                  br (decide ((n2 : Int) < 0)) (
                    K (.tuple #[.slice none 0 0, .int .i64 4]) H5)
                   (
                    br (decide ((n2 : Int) > 200)) (
                      K (.tuple #[.slice none 0 0, .int .i64 4]) H5)
                     (
                      K (.tuple #[.slice l_1.p l_1.n l_1.c, .int .i64 0]) H5)))))))
theorem logboomref7_Read_eq (s : ByteArray) (H : Heap) (K : Value → Heap → Prop) : logboomref7_Read_vc s H K = denFn Tryz.prog logboomref7_Read_ann Tryz.f29 (bodyOf Tryz.f29) [.string s] H K := by kernel_rfl
theorem logboomref7_Read_fn (s : ByteArray) {H : Heap} {K : Value → Heap → Prop} (h : logboomref7_Read_vc s H K) : FnH Tryz.prog 29 #[.string s] H K :=
  denFn_fn Tryz.mixed logboomref7_Read_ann Tryz.func29 (bodyOf_spec (by kernel_rfl)) (logboomref7_Read_eq s H K) h

end Go.Proofs.YtdgmifbcbmndgaaGreatDoor
