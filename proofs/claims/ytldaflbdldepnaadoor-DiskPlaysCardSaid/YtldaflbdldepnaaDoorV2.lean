/- Formulas of functions, printed by this session's vc.py; each is tied to the program by the kernel. -/
import Derived.Test.YtldaflbdldepnaaDoorProg
import Derived.KernelRfl
import Derived.Test.YtldaflbdldepnaaDoorHlFn
import Derived.Test.YtldaflbdldepnaaDoorV1
namespace Go.Proofs.YtldaflbdldepnaaDoor
open Go.HL
set_option maxRecDepth 100000
/-! function 10: logboom/logboomlaw1.shown -/
def logboomlaw1_shown_ann : Anns := { hid := [], loops := [], joins := [], mix := [] }
def logboomlaw1_shown_vc  (H : Heap) (K : Value → Heap → Prop) : Prop :=
  FnH Tryd.prog 12 #[.int .i64 10] H fun r1 H1 =>
    ∃ p1 : Option Addr,
    ∃ n1 : Int,
    r1 = .tuple #[.pointer p1, .int .i64 n1] ∧
    br (Option.isNone p1) (
      K (.bool false) H1)
     (
      br ((n1 : Int) != 0) (
        K (.bool false) H1)
       (
        FnH Tryd.prog 13 #[.pointer p1, .string (⟨#[97]⟩ : ByteArray), .string (⟨#[104, 101, 108, 108, 111]⟩ : ByteArray)] H1 fun r2 H2 =>
          ∃ n2 : Int,
          r2 = .int .i64 n2 ∧
          br ((n2 : Int) != 0) (
            K (.bool false) H2)
           (
            FnH Tryd.prog 14 #[.pointer p1, .string (⟨#[97]⟩ : ByteArray)] H2 fun r3 H3 =>
              ∃ n3 : Int,
              r3 = .int .i64 n3 ∧
              br ((n3 : Int) != 0) (
                K (.bool false) H3)
               (
                FnH Tryd.prog 13 #[.pointer p1, .string (⟨#[97]⟩ : ByteArray), .string (⟨#[49, 50]⟩ : ByteArray)] H3 fun r4 H4 =>
                  ∃ n4 : Int,
                  r4 = .int .i64 n4 ∧
                  br ((n4 : Int) != 0) (
                    K (.bool false) H4)
                   (
                    FnH Tryd.prog 24 #[.pointer p1] H4 fun r5 H5 =>
                      ∃ p2 : Option Addr,
                      r5 = .pointer p2 ∧
                      br (Option.isNone p2) (
                        K (.bool false) H5)
                       (
                        FnH Tryd.prog 15 #[.pointer p1, .slice none 0 0] H5 fun r6 H6 =>
                          r6 = .tuple #[] ∧
                          ∀ q1 : Nat,
                          H6 q1 = none →
                          letH (Heap.upd H6 q1 (.cells #[.int .i64 4] 3 (0, 0))) fun H7 =>
                          FnH Tryd.prog 15 #[.pointer p2, .slice (some ⟨q1, 0, none⟩) 1 1] H7 fun r7 H8 =>
                            r7 = .tuple #[] ∧
                            FnH Tryd.prog 16 #[.pointer p1, .string (⟨#[97]⟩ : ByteArray)] H8 fun r8 H9 =>
                              ∃ s1 : ByteArray,
                              ∃ n5 : Int,
                              r8 = .tuple #[.string s1, .int .i64 n5] ∧
                              FnH Tryd.prog 16 #[.pointer p2, .string (⟨#[97]⟩ : ByteArray)] H9 fun r9 H10 =>
                                ∃ s2 : ByteArray,
                                ∃ n6 : Int,
                                r9 = .tuple #[.string s2, .int .i64 n6] ∧
                                FnH Tryd.prog 12 #[.int .i64 3] H10 fun r10 H11 =>
                                  ∃ p3 : Option Addr,
                                  ∃ n7 : Int,
                                  r10 = .tuple #[.pointer p3, .int .i64 n7] ∧
                                  br (s1.toList == (⟨#[104, 101, 108, 108, 111]⟩ : ByteArray).toList) (
                                    br ((n5 : Int) == 0) (
                                      br (s2.toList == (⟨#[104, 101, 108, 108, 111, 49]⟩ : ByteArray).toList) (
                                        br ((n6 : Int) == 0) (
                                          br (!(Option.isNone p3)) (
                                            br ((n7 : Int) == 0) (
                                              FnH Tryd.prog 13 #[.pointer p3, .string (⟨#[97]⟩ : ByteArray), .string (⟨#[104, 101, 108, 108, 111]⟩ : ByteArray)] H11 fun r11 H12 =>
                                                ∃ n8 : Int,
                                                r11 = .int .i64 n8 ∧
                                                br ((n8 : Int) == 7) (
                                                  FnH Tryd.prog 26 #[.pointer p3, .string (⟨#[97]⟩ : ByteArray)] H12 fun r12 H13 =>
                                                    ∃ n9 : Int,
                                                    r12 = .int .i64 n9 ∧
                                                    br ((n9 : Int) == 3) (
                                                      FnH Tryd.prog 17 #[.pointer p3, .string (⟨#[97]⟩ : ByteArray)] H13 fun r13 H14 =>
                                                        ∃ n10 : Int,
                                                        r13 = .int .i64 n10 ∧
                                                        K (.bool ((n10 : Int) == 0)) H14)
                                                     (
                                                      K (.bool false) H13))
                                                 (
                                                  K (.bool false) H12))
                                             (
                                              K (.bool false) H11))
                                           (
                                            K (.bool false) H11))
                                         (
                                          K (.bool false) H11))
                                       (
                                        K (.bool false) H11))
                                     (
                                      K (.bool false) H11))
                                   (
                                    K (.bool false) H11)))))))
theorem logboomlaw1_shown_eq  (H : Heap) (K : Value → Heap → Prop) : logboomlaw1_shown_vc  H K = denFn Tryd.prog logboomlaw1_shown_ann Tryd.f10 (bodyOf Tryd.f10) [] H K := by kernel_rfl
theorem logboomlaw1_shown_fn  {H : Heap} {K : Value → Heap → Prop} (h : logboomlaw1_shown_vc  H K) : FnH Tryd.prog 10 #[] H K :=
  denFn_fn Tryd.mixed logboomlaw1_shown_ann Tryd.func10 (bodyOf_spec (by kernel_rfl)) (logboomlaw1_shown_eq  H K) h

/-! function 3: logboom/logboomlaw1.DiskSafe -/
def logboomlaw1_DiskSafe_ann : Anns := { hid := [], loops := [(0, { slots := [(12, .str), (13, .int .i64), (14, .int .i64)], kept := [0, 1, 2, 3, 10], locs := [], keptL := [] })], joins := [((0, 16), { slots := [(101, .bool)], kept := [0, 1, 2, 3, 10, 12, 13, 14], locs := [], keptL := [] })], mix := [] }
def logboomlaw1_DiskSafe_vc (size : Int) (parts : Sl) (syncs : Sl) (keep : Sl) (H : Heap) (K : Value → Heap → Prop) : Prop :=
  FnH Tryd.prog 10 #[] H fun r1 H1 =>
    ∃ b1 : Bool,
    r1 = .bool b1 ∧
    FnH Tryd.prog 11 #[.int .i64 size, .int .i64 5000] H1 fun r2 H2 =>
      ∃ n1 : Int,
      r2 = .int .i64 n1 ∧
      FnH Tryd.prog 12 #[.int .i64 (IntKind.wrap .i64 (1 + n1))] H2 fun r3 H3 =>
        ∃ p1 : Option Addr,
        ∃ n2 : Int,
        r3 = .tuple #[.pointer p1, .int .i64 n2] ∧
        br (!b1) (
          K (.bool false) H3)
         (
          br (Option.isNone p1) (
            K (.bool false) H3)
           (
            br ((n2 : Int) != 0) (
              K (.bool false) H3)
             (
              ∃ I1 : ByteArray → Int → Int → Heap → Prop,
              ∃ M1 : ByteArray → Int → Int → Heap → Nat,
              I1 (⟨#[]⟩ : ByteArray) 0 0 H3 ∧
              ∀ all_1 : ByteArray,
              ∀ safe_1 : Int,
              ∀ i_1 : Int,
              ∀ H4 : Heap,
              I1 all_1 safe_1 i_1 H4 →
              br (decide ((i_1 : Int) < (parts.n : Nat))) (
                br (decide ((i_1 : Int) < 50)) (
                  ∃ q1 : Nat,
                  ∃ o1 : Nat,
                  (parts.p : Option Addr) = some ⟨q1, o1, none⟩ ∧
                  0 ≤ (i_1 : Int) ∧
                  (i_1 : Int) < (parts.n : Nat) ∧
                  ∃ s1 : ByteArray,
                  cellH H4 ⟨q1, o1 + Int.toNat i_1, none⟩ = some (.string s1) ∧
                  ∃ q2 : Nat,
                  ∃ o2 : Nat,
                  (parts.p : Option Addr) = some ⟨q2, o2, none⟩ ∧
                  0 ≤ (i_1 : Int) ∧
                  (i_1 : Int) < (parts.n : Nat) ∧
                  ∃ s2 : ByteArray,
                  cellH H4 ⟨q2, o2 + Int.toNat i_1, none⟩ = some (.string s2) ∧
                  FnH Tryd.prog 13 #[.pointer p1, .string (⟨#[108, 111, 103]⟩ : ByteArray), .string s2] H4 fun r4 H5 =>
                    ∃ n3 : Int,
                    r4 = .int .i64 n3 ∧
                    ∃ q3 : Nat,
                    ∃ o3 : Nat,
                    (parts.p : Option Addr) = some ⟨q3, o3, none⟩ ∧
                    0 ≤ (i_1 : Int) ∧
                    (i_1 : Int) < (parts.n : Nat) ∧
                    ∃ s3 : ByteArray,
                    cellH H5 ⟨q3, o3 + Int.toNat i_1, none⟩ = some (.string s3) ∧
                    0 ≤ (if (IntKind.wrap .i64 ((IntKind.wrap .i64 (1 + n1)) - (all_1.size : Nat))) < (s1.size : Nat) then (IntKind.wrap .i64 ((IntKind.wrap .i64 (1 + n1)) - (all_1.size : Nat))) else (s1.size : Nat) : Int) ∧
                    (if (IntKind.wrap .i64 ((IntKind.wrap .i64 (1 + n1)) - (all_1.size : Nat))) < (s1.size : Nat) then (IntKind.wrap .i64 ((IntKind.wrap .i64 (1 + n1)) - (all_1.size : Nat))) else (s1.size : Nat) : Int) ≤ (s3.size : Nat) ∧
                    all_1.size + (s3.extract (Int.toNat (0 : Int)) (Int.toNat (if (IntKind.wrap .i64 ((IntKind.wrap .i64 (1 + n1)) - (all_1.size : Nat))) < (s1.size : Nat) then (IntKind.wrap .i64 ((IntKind.wrap .i64 (1 + n1)) - (all_1.size : Nat))) else (s1.size : Nat)))).size < 9223372036854775808 ∧
                    ∃ q4 : Nat,
                    ∃ o4 : Nat,
                    (parts.p : Option Addr) = some ⟨q4, o4, none⟩ ∧
                    0 ≤ (i_1 : Int) ∧
                    (i_1 : Int) < (parts.n : Nat) ∧
                    ∃ s4 : ByteArray,
                    cellH H5 ⟨q4, o4 + Int.toNat i_1, none⟩ = some (.string s4) ∧
                    br (!(((n3 : Int) == 0) == (((if (IntKind.wrap .i64 ((IntKind.wrap .i64 (1 + n1)) - (all_1.size : Nat))) < (s1.size : Nat) then (IntKind.wrap .i64 ((IntKind.wrap .i64 (1 + n1)) - (all_1.size : Nat))) else (s1.size : Nat)) : Int) == (s4.size : Nat)))) (
                      K (.bool false) H5)
                     (
                      br ((n3 : Int) != 0) (
                        br ((n3 : Int) != 7) (
                          K (.bool false) H5)
                         (
                          ∃ J1 : Bool → Heap → Prop,
                          (br (decide ((i_1 : Int) < (syncs.n : Nat))) (
                            ∃ q5 : Nat,
                            ∃ o5 : Nat,
                            (syncs.p : Option Addr) = some ⟨q5, o5, none⟩ ∧
                            0 ≤ (i_1 : Int) ∧
                            (i_1 : Int) < (syncs.n : Nat) ∧
                            ∃ n4 : Int,
                            cellH H5 ⟨q5, o5 + Int.toNat i_1, none⟩ = some (.int .i64 n4) ∧
                            (2 : Int) ≠ 0 ∧
                            SelfEq ([.v (.int .i64 (IntKind.wrap .i64 (1 + n1))), .v (.slice parts.p parts.n parts.c), .v (.slice syncs.p syncs.n syncs.c), .v (.slice keep.p keep.n keep.c), .v (.pointer p1), .v (.string (all_1 ++ (s3.extract (Int.toNat (0 : Int)) (Int.toNat (if (IntKind.wrap .i64 ((IntKind.wrap .i64 (1 + n1)) - (all_1.size : Nat))) < (s1.size : Nat) then (IntKind.wrap .i64 ((IntKind.wrap .i64 (1 + n1)) - (all_1.size : Nat))) else (s1.size : Nat)))))), .v (.int .i64 safe_1), .v (.int .i64 i_1)], [], []) ∧
                            J1 (((Int.tmod n4 2) : Int) == 0) H5)
                           (
                            SelfEq ([.v (.int .i64 (IntKind.wrap .i64 (1 + n1))), .v (.slice parts.p parts.n parts.c), .v (.slice syncs.p syncs.n syncs.c), .v (.slice keep.p keep.n keep.c), .v (.pointer p1), .v (.string (all_1 ++ (s3.extract (Int.toNat (0 : Int)) (Int.toNat (if (IntKind.wrap .i64 ((IntKind.wrap .i64 (1 + n1)) - (all_1.size : Nat))) < (s1.size : Nat) then (IntKind.wrap .i64 ((IntKind.wrap .i64 (1 + n1)) - (all_1.size : Nat))) else (s1.size : Nat)))))), .v (.int .i64 safe_1), .v (.int .i64 i_1)], [], []) ∧
                            J1 false H5)) ∧
                          ∀ b_1 : Bool,
                          ∀ H6 : Heap,
                          J1 b_1 H6 →
                          br (b_1) (
                            FnH Tryd.prog 14 #[.pointer p1, .string (⟨#[108, 111, 103]⟩ : ByteArray)] H6 fun r5 H7 =>
                              ∃ n5 : Int,
                              r5 = .int .i64 n5 ∧
                              br ((n5 : Int) != 0) (
                                K (.bool false) H7)
                               (
                                SelfEq ([.v (.int .i64 (IntKind.wrap .i64 (1 + n1))), .v (.slice parts.p parts.n parts.c), .v (.slice syncs.p syncs.n syncs.c), .v (.slice keep.p keep.n keep.c), .v (.pointer p1)], [], []) ∧
                                I1 (all_1 ++ (s3.extract (Int.toNat (0 : Int)) (Int.toNat (if (IntKind.wrap .i64 ((IntKind.wrap .i64 (1 + n1)) - (all_1.size : Nat))) < (s1.size : Nat) then (IntKind.wrap .i64 ((IntKind.wrap .i64 (1 + n1)) - (all_1.size : Nat))) else (s1.size : Nat))))) ((all_1 ++ (s3.extract (Int.toNat (0 : Int)) (Int.toNat (if (IntKind.wrap .i64 ((IntKind.wrap .i64 (1 + n1)) - (all_1.size : Nat))) < (s1.size : Nat) then (IntKind.wrap .i64 ((IntKind.wrap .i64 (1 + n1)) - (all_1.size : Nat))) else (s1.size : Nat))))).size : Nat) (IntKind.wrap .i64 (i_1 + 1)) H7 ∧
                                M1 (all_1 ++ (s3.extract (Int.toNat (0 : Int)) (Int.toNat (if (IntKind.wrap .i64 ((IntKind.wrap .i64 (1 + n1)) - (all_1.size : Nat))) < (s1.size : Nat) then (IntKind.wrap .i64 ((IntKind.wrap .i64 (1 + n1)) - (all_1.size : Nat))) else (s1.size : Nat))))) ((all_1 ++ (s3.extract (Int.toNat (0 : Int)) (Int.toNat (if (IntKind.wrap .i64 ((IntKind.wrap .i64 (1 + n1)) - (all_1.size : Nat))) < (s1.size : Nat) then (IntKind.wrap .i64 ((IntKind.wrap .i64 (1 + n1)) - (all_1.size : Nat))) else (s1.size : Nat))))).size : Nat) (IntKind.wrap .i64 (i_1 + 1)) H7 < M1 all_1 safe_1 i_1 H4))
                           (
                            SelfEq ([.v (.int .i64 (IntKind.wrap .i64 (1 + n1))), .v (.slice parts.p parts.n parts.c), .v (.slice syncs.p syncs.n syncs.c), .v (.slice keep.p keep.n keep.c), .v (.pointer p1)], [], []) ∧
                            I1 (all_1 ++ (s3.extract (Int.toNat (0 : Int)) (Int.toNat (if (IntKind.wrap .i64 ((IntKind.wrap .i64 (1 + n1)) - (all_1.size : Nat))) < (s1.size : Nat) then (IntKind.wrap .i64 ((IntKind.wrap .i64 (1 + n1)) - (all_1.size : Nat))) else (s1.size : Nat))))) safe_1 (IntKind.wrap .i64 (i_1 + 1)) H6 ∧
                            M1 (all_1 ++ (s3.extract (Int.toNat (0 : Int)) (Int.toNat (if (IntKind.wrap .i64 ((IntKind.wrap .i64 (1 + n1)) - (all_1.size : Nat))) < (s1.size : Nat) then (IntKind.wrap .i64 ((IntKind.wrap .i64 (1 + n1)) - (all_1.size : Nat))) else (s1.size : Nat))))) safe_1 (IntKind.wrap .i64 (i_1 + 1)) H6 < M1 all_1 safe_1 i_1 H4)))
                       (
                        ∃ J2 : Bool → Heap → Prop,
                        (br (decide ((i_1 : Int) < (syncs.n : Nat))) (
                          ∃ q6 : Nat,
                          ∃ o6 : Nat,
                          (syncs.p : Option Addr) = some ⟨q6, o6, none⟩ ∧
                          0 ≤ (i_1 : Int) ∧
                          (i_1 : Int) < (syncs.n : Nat) ∧
                          ∃ n6 : Int,
                          cellH H5 ⟨q6, o6 + Int.toNat i_1, none⟩ = some (.int .i64 n6) ∧
                          (2 : Int) ≠ 0 ∧
                          SelfEq ([.v (.int .i64 (IntKind.wrap .i64 (1 + n1))), .v (.slice parts.p parts.n parts.c), .v (.slice syncs.p syncs.n syncs.c), .v (.slice keep.p keep.n keep.c), .v (.pointer p1), .v (.string (all_1 ++ (s3.extract (Int.toNat (0 : Int)) (Int.toNat (if (IntKind.wrap .i64 ((IntKind.wrap .i64 (1 + n1)) - (all_1.size : Nat))) < (s1.size : Nat) then (IntKind.wrap .i64 ((IntKind.wrap .i64 (1 + n1)) - (all_1.size : Nat))) else (s1.size : Nat)))))), .v (.int .i64 safe_1), .v (.int .i64 i_1)], [], []) ∧
                          J2 (((Int.tmod n6 2) : Int) == 0) H5)
                         (
                          SelfEq ([.v (.int .i64 (IntKind.wrap .i64 (1 + n1))), .v (.slice parts.p parts.n parts.c), .v (.slice syncs.p syncs.n syncs.c), .v (.slice keep.p keep.n keep.c), .v (.pointer p1), .v (.string (all_1 ++ (s3.extract (Int.toNat (0 : Int)) (Int.toNat (if (IntKind.wrap .i64 ((IntKind.wrap .i64 (1 + n1)) - (all_1.size : Nat))) < (s1.size : Nat) then (IntKind.wrap .i64 ((IntKind.wrap .i64 (1 + n1)) - (all_1.size : Nat))) else (s1.size : Nat)))))), .v (.int .i64 safe_1), .v (.int .i64 i_1)], [], []) ∧
                          J2 false H5)) ∧
                        ∀ b_2 : Bool,
                        ∀ H8 : Heap,
                        J2 b_2 H8 →
                        br (b_2) (
                          FnH Tryd.prog 14 #[.pointer p1, .string (⟨#[108, 111, 103]⟩ : ByteArray)] H8 fun r6 H9 =>
                            ∃ n7 : Int,
                            r6 = .int .i64 n7 ∧
                            br ((n7 : Int) != 0) (
                              K (.bool false) H9)
                             (
                              SelfEq ([.v (.int .i64 (IntKind.wrap .i64 (1 + n1))), .v (.slice parts.p parts.n parts.c), .v (.slice syncs.p syncs.n syncs.c), .v (.slice keep.p keep.n keep.c), .v (.pointer p1)], [], []) ∧
                              I1 (all_1 ++ (s3.extract (Int.toNat (0 : Int)) (Int.toNat (if (IntKind.wrap .i64 ((IntKind.wrap .i64 (1 + n1)) - (all_1.size : Nat))) < (s1.size : Nat) then (IntKind.wrap .i64 ((IntKind.wrap .i64 (1 + n1)) - (all_1.size : Nat))) else (s1.size : Nat))))) ((all_1 ++ (s3.extract (Int.toNat (0 : Int)) (Int.toNat (if (IntKind.wrap .i64 ((IntKind.wrap .i64 (1 + n1)) - (all_1.size : Nat))) < (s1.size : Nat) then (IntKind.wrap .i64 ((IntKind.wrap .i64 (1 + n1)) - (all_1.size : Nat))) else (s1.size : Nat))))).size : Nat) (IntKind.wrap .i64 (i_1 + 1)) H9 ∧
                              M1 (all_1 ++ (s3.extract (Int.toNat (0 : Int)) (Int.toNat (if (IntKind.wrap .i64 ((IntKind.wrap .i64 (1 + n1)) - (all_1.size : Nat))) < (s1.size : Nat) then (IntKind.wrap .i64 ((IntKind.wrap .i64 (1 + n1)) - (all_1.size : Nat))) else (s1.size : Nat))))) ((all_1 ++ (s3.extract (Int.toNat (0 : Int)) (Int.toNat (if (IntKind.wrap .i64 ((IntKind.wrap .i64 (1 + n1)) - (all_1.size : Nat))) < (s1.size : Nat) then (IntKind.wrap .i64 ((IntKind.wrap .i64 (1 + n1)) - (all_1.size : Nat))) else (s1.size : Nat))))).size : Nat) (IntKind.wrap .i64 (i_1 + 1)) H9 < M1 all_1 safe_1 i_1 H4))
                         (
                          SelfEq ([.v (.int .i64 (IntKind.wrap .i64 (1 + n1))), .v (.slice parts.p parts.n parts.c), .v (.slice syncs.p syncs.n syncs.c), .v (.slice keep.p keep.n keep.c), .v (.pointer p1)], [], []) ∧
                          I1 (all_1 ++ (s3.extract (Int.toNat (0 : Int)) (Int.toNat (if (IntKind.wrap .i64 ((IntKind.wrap .i64 (1 + n1)) - (all_1.size : Nat))) < (s1.size : Nat) then (IntKind.wrap .i64 ((IntKind.wrap .i64 (1 + n1)) - (all_1.size : Nat))) else (s1.size : Nat))))) safe_1 (IntKind.wrap .i64 (i_1 + 1)) H8 ∧
                          M1 (all_1 ++ (s3.extract (Int.toNat (0 : Int)) (Int.toNat (if (IntKind.wrap .i64 ((IntKind.wrap .i64 (1 + n1)) - (all_1.size : Nat))) < (s1.size : Nat) then (IntKind.wrap .i64 ((IntKind.wrap .i64 (1 + n1)) - (all_1.size : Nat))) else (s1.size : Nat))))) safe_1 (IntKind.wrap .i64 (i_1 + 1)) H8 < M1 all_1 safe_1 i_1 H4))))
                 (
                  FnH Tryd.prog 15 #[.pointer p1, .slice keep.p keep.n keep.c] H4 fun r7 H10 =>
                    r7 = .tuple #[] ∧
                    FnH Tryd.prog 16 #[.pointer p1, .string (⟨#[108, 111, 103]⟩ : ByteArray)] H10 fun r8 H11 =>
                      ∃ s5 : ByteArray,
                      ∃ n8 : Int,
                      r8 = .tuple #[.string s5, .int .i64 n8] ∧
                      br (((parts.n : Nat) : Int) == 0) (
                        K (.bool ((n8 : Int) == 8)) H11)
                       (
                        br ((n8 : Int) == 0) (
                          br (decide (((s5.size : Nat) : Int) ≥ safe_1)) (
                            br (decide (((s5.size : Nat) : Int) ≤ (all_1.size : Nat))) (
                              0 ≤ ((s5.size : Nat) : Int) ∧
                              ((s5.size : Nat) : Int) ≤ (all_1.size : Nat) ∧
                              br (s5.toList == (all_1.extract (Int.toNat (0 : Int)) (Int.toNat (s5.size : Nat))).toList) (
                                FnH Tryd.prog 17 #[.pointer p1, .string (⟨#[108, 111, 103]⟩ : ByteArray)] H11 fun r9 H12 =>
                                  ∃ n9 : Int,
                                  r9 = .int .i64 n9 ∧
                                  br ((n9 : Int) == (s5.size : Nat)) (
                                    FnH Tryd.prog 18 #[.pointer p1] H12 fun r10 H13 =>
                                      ∃ n10 : Int,
                                      r10 = .int .i64 n10 ∧
                                      K (.bool ((n10 : Int) == (IntKind.wrap .i64 ((IntKind.wrap .i64 (1 + n1)) - (s5.size : Nat))))) H13)
                                   (
                                    K (.bool false) H12))
                               (
                                K (.bool false) H11))
                             (
                              K (.bool false) H11))
                           (
                            K (.bool false) H11))
                         (
                          K (.bool false) H11))))
               (
                FnH Tryd.prog 15 #[.pointer p1, .slice keep.p keep.n keep.c] H4 fun r11 H14 =>
                  r11 = .tuple #[] ∧
                  FnH Tryd.prog 16 #[.pointer p1, .string (⟨#[108, 111, 103]⟩ : ByteArray)] H14 fun r12 H15 =>
                    ∃ s6 : ByteArray,
                    ∃ n11 : Int,
                    r12 = .tuple #[.string s6, .int .i64 n11] ∧
                    br (((parts.n : Nat) : Int) == 0) (
                      K (.bool ((n11 : Int) == 8)) H15)
                     (
                      br ((n11 : Int) == 0) (
                        br (decide (((s6.size : Nat) : Int) ≥ safe_1)) (
                          br (decide (((s6.size : Nat) : Int) ≤ (all_1.size : Nat))) (
                            0 ≤ ((s6.size : Nat) : Int) ∧
                            ((s6.size : Nat) : Int) ≤ (all_1.size : Nat) ∧
                            br (s6.toList == (all_1.extract (Int.toNat (0 : Int)) (Int.toNat (s6.size : Nat))).toList) (
                              FnH Tryd.prog 17 #[.pointer p1, .string (⟨#[108, 111, 103]⟩ : ByteArray)] H15 fun r13 H16 =>
                                ∃ n12 : Int,
                                r13 = .int .i64 n12 ∧
                                br ((n12 : Int) == (s6.size : Nat)) (
                                  FnH Tryd.prog 18 #[.pointer p1] H16 fun r14 H17 =>
                                    ∃ n13 : Int,
                                    r14 = .int .i64 n13 ∧
                                    K (.bool ((n13 : Int) == (IntKind.wrap .i64 ((IntKind.wrap .i64 (1 + n1)) - (s6.size : Nat))))) H17)
                                 (
                                  K (.bool false) H16))
                             (
                              K (.bool false) H15))
                           (
                            K (.bool false) H15))
                         (
                          K (.bool false) H15))
                       (
                        K (.bool false) H15))))))
theorem logboomlaw1_DiskSafe_eq (size : Int) (parts : Sl) (syncs : Sl) (keep : Sl) (H : Heap) (K : Value → Heap → Prop) : logboomlaw1_DiskSafe_vc size parts syncs keep H K = denFn Tryd.prog logboomlaw1_DiskSafe_ann Tryd.f3 (bodyOf Tryd.f3) [.int .i64 size, .slice parts.p parts.n parts.c, .slice syncs.p syncs.n syncs.c, .slice keep.p keep.n keep.c] H K := by kernel_rfl
theorem logboomlaw1_DiskSafe_fn (size : Int) (parts : Sl) (syncs : Sl) (keep : Sl) {H : Heap} {K : Value → Heap → Prop} (h : logboomlaw1_DiskSafe_vc size parts syncs keep H K) : FnH Tryd.prog 3 #[.int .i64 size, .slice parts.p parts.n parts.c, .slice syncs.p syncs.n syncs.c, .slice keep.p keep.n keep.c] H K :=
  denFn_fn Tryd.mixed logboomlaw1_DiskSafe_ann Tryd.func3 (bodyOf_spec (by kernel_rfl)) (logboomlaw1_DiskSafe_eq size parts syncs keep H K) h

/-! function 4: logboom/logboomlaw1.DiskWhole -/
def logboomlaw1_DiskWhole_ann : Anns := { hid := [], loops := [], joins := [], mix := [] }
def logboomlaw1_DiskWhole_vc (size : Int) (first : ByteArray) (then0 : ByteArray) (keep : Sl) (H : Heap) (K : Value → Heap → Prop) : Prop :=
  FnH Tryd.prog 10 #[] H fun r1 H1 =>
    ∃ b1 : Bool,
    r1 = .bool b1 ∧
    FnH Tryd.prog 11 #[.int .i64 size, .int .i64 3000] H1 fun r2 H2 =>
      ∃ n1 : Int,
      r2 = .int .i64 n1 ∧
      FnH Tryd.prog 12 #[.int .i64 (IntKind.wrap .i64 (1 + n1))] H2 fun r3 H3 =>
        ∃ p1 : Option Addr,
        ∃ n2 : Int,
        r3 = .tuple #[.pointer p1, .int .i64 n2] ∧
        br (!b1) (
          K (.bool false) H3)
         (
          br (Option.isNone p1) (
            K (.bool false) H3)
           (
            br ((n2 : Int) != 0) (
              K (.bool false) H3)
             (
              FnH Tryd.prog 19 #[.pointer p1, .string (⟨#[97]⟩ : ByteArray), .string first] H3 fun r4 H4 =>
                ∃ n3 : Int,
                r4 = .int .i64 n3 ∧
                FnH Tryd.prog 15 #[.pointer p1, .slice keep.p keep.n keep.c] H4 fun r5 H5 =>
                  r5 = .tuple #[] ∧
                  FnH Tryd.prog 16 #[.pointer p1, .string (⟨#[97]⟩ : ByteArray)] H5 fun r6 H6 =>
                    ∃ s1 : ByteArray,
                    ∃ n4 : Int,
                    r6 = .tuple #[.string s1, .int .i64 n4] ∧
                    br (!(((n3 : Int) == 0) == (decide (((first.size : Nat) : Int) ≤ (IntKind.wrap .i64 (1 + n1)))))) (
                      K (.bool false) H6)
                     (
                      br ((n3 : Int) == 0) (
                        br (!(s1.toList == first.toList)) (
                          K (.bool false) H6)
                         (
                          br ((n3 : Int) != 0) (
                            br ((n3 : Int) != 7) (
                              K (.bool false) H6)
                             (
                              br (!(s1.toList == (⟨#[]⟩ : ByteArray).toList)) (
                                K (.bool false) H6)
                               (
                                FnH Tryd.prog 20 #[.pointer p1] H6 fun r7 H7 =>
                                  ∃ l1 : Sl,
                                  r7 = .slice l1.p l1.n l1.c ∧
                                  br (((l1.n : Nat) : Int) != 0) (
                                    K (.bool false) H7)
                                   (
                                    FnH Tryd.prog 19 #[.pointer p1, .string (⟨#[97]⟩ : ByteArray), .string then0] H7 fun r8 H8 =>
                                      ∃ n5 : Int,
                                      r8 = .int .i64 n5 ∧
                                      FnH Tryd.prog 15 #[.pointer p1, .slice keep.p keep.n keep.c] H8 fun r9 H9 =>
                                        r9 = .tuple #[] ∧
                                        FnH Tryd.prog 16 #[.pointer p1, .string (⟨#[97]⟩ : ByteArray)] H9 fun r10 H10 =>
                                          ∃ s2 : ByteArray,
                                          ∃ n6 : Int,
                                          r10 = .tuple #[.string s2, .int .i64 n6] ∧
                                          br (!(((n5 : Int) == 0) == (decide (((then0.size : Nat) : Int) ≤ (IntKind.wrap .i64 (1 + n1)))))) (
                                            K (.bool false) H10)
                                           (
                                            br ((n5 : Int) == 0) (
                                              K (.bool (s2.toList == then0.toList)) H10)
                                             (
                                              br ((n5 : Int) == 7) (
                                                K (.bool (s2.toList == s1.toList)) H10)
                                               (
                                                K (.bool false) H10)))))))
                           (
                            FnH Tryd.prog 19 #[.pointer p1, .string (⟨#[97]⟩ : ByteArray), .string then0] H6 fun r11 H11 =>
                              ∃ n7 : Int,
                              r11 = .int .i64 n7 ∧
                              FnH Tryd.prog 15 #[.pointer p1, .slice keep.p keep.n keep.c] H11 fun r12 H12 =>
                                r12 = .tuple #[] ∧
                                FnH Tryd.prog 16 #[.pointer p1, .string (⟨#[97]⟩ : ByteArray)] H12 fun r13 H13 =>
                                  ∃ s3 : ByteArray,
                                  ∃ n8 : Int,
                                  r13 = .tuple #[.string s3, .int .i64 n8] ∧
                                  br (!(((n7 : Int) == 0) == (decide (((then0.size : Nat) : Int) ≤ (IntKind.wrap .i64 (1 + n1)))))) (
                                    K (.bool false) H13)
                                   (
                                    br ((n7 : Int) == 0) (
                                      K (.bool (s3.toList == then0.toList)) H13)
                                     (
                                      br ((n7 : Int) == 7) (
                                        K (.bool (s3.toList == s1.toList)) H13)
                                       (
                                        K (.bool false) H13))))))
                       (
                        br ((n3 : Int) != 0) (
                          br ((n3 : Int) != 7) (
                            K (.bool false) H6)
                           (
                            br (!(s1.toList == (⟨#[]⟩ : ByteArray).toList)) (
                              K (.bool false) H6)
                             (
                              FnH Tryd.prog 20 #[.pointer p1] H6 fun r14 H14 =>
                                ∃ l2 : Sl,
                                r14 = .slice l2.p l2.n l2.c ∧
                                br (((l2.n : Nat) : Int) != 0) (
                                  K (.bool false) H14)
                                 (
                                  FnH Tryd.prog 19 #[.pointer p1, .string (⟨#[97]⟩ : ByteArray), .string then0] H14 fun r15 H15 =>
                                    ∃ n9 : Int,
                                    r15 = .int .i64 n9 ∧
                                    FnH Tryd.prog 15 #[.pointer p1, .slice keep.p keep.n keep.c] H15 fun r16 H16 =>
                                      r16 = .tuple #[] ∧
                                      FnH Tryd.prog 16 #[.pointer p1, .string (⟨#[97]⟩ : ByteArray)] H16 fun r17 H17 =>
                                        ∃ s4 : ByteArray,
                                        ∃ n10 : Int,
                                        r17 = .tuple #[.string s4, .int .i64 n10] ∧
                                        br (!(((n9 : Int) == 0) == (decide (((then0.size : Nat) : Int) ≤ (IntKind.wrap .i64 (1 + n1)))))) (
                                          K (.bool false) H17)
                                         (
                                          br ((n9 : Int) == 0) (
                                            K (.bool (s4.toList == then0.toList)) H17)
                                           (
                                            br ((n9 : Int) == 7) (
                                              K (.bool (s4.toList == s1.toList)) H17)
                                             (
                                              K (.bool false) H17)))))))
                         (
                          FnH Tryd.prog 19 #[.pointer p1, .string (⟨#[97]⟩ : ByteArray), .string then0] H6 fun r18 H18 =>
                            ∃ n11 : Int,
                            r18 = .int .i64 n11 ∧
                            FnH Tryd.prog 15 #[.pointer p1, .slice keep.p keep.n keep.c] H18 fun r19 H19 =>
                              r19 = .tuple #[] ∧
                              FnH Tryd.prog 16 #[.pointer p1, .string (⟨#[97]⟩ : ByteArray)] H19 fun r20 H20 =>
                                ∃ s5 : ByteArray,
                                ∃ n12 : Int,
                                r20 = .tuple #[.string s5, .int .i64 n12] ∧
                                br (!(((n11 : Int) == 0) == (decide (((then0.size : Nat) : Int) ≤ (IntKind.wrap .i64 (1 + n1)))))) (
                                  K (.bool false) H20)
                                 (
                                  br ((n11 : Int) == 0) (
                                    K (.bool (s5.toList == then0.toList)) H20)
                                   (
                                    br ((n11 : Int) == 7) (
                                      K (.bool (s5.toList == s1.toList)) H20)
                                     (
                                      K (.bool false) H20)))))))))
theorem logboomlaw1_DiskWhole_eq (size : Int) (first : ByteArray) (then0 : ByteArray) (keep : Sl) (H : Heap) (K : Value → Heap → Prop) : logboomlaw1_DiskWhole_vc size first then0 keep H K = denFn Tryd.prog logboomlaw1_DiskWhole_ann Tryd.f4 (bodyOf Tryd.f4) [.int .i64 size, .string first, .string then0, .slice keep.p keep.n keep.c] H K := by kernel_rfl
theorem logboomlaw1_DiskWhole_fn (size : Int) (first : ByteArray) (then0 : ByteArray) (keep : Sl) {H : Heap} {K : Value → Heap → Prop} (h : logboomlaw1_DiskWhole_vc size first then0 keep H K) : FnH Tryd.prog 4 #[.int .i64 size, .string first, .string then0, .slice keep.p keep.n keep.c] H K :=
  denFn_fn Tryd.mixed logboomlaw1_DiskWhole_ann Tryd.func4 (bodyOf_spec (by kernel_rfl)) (logboomlaw1_DiskWhole_eq size first then0 keep H K) h

/-! function 25: logboom/logboomlaw1.run -/
def logboomlaw1_run_ann : Anns := { hid := [], loops := [(0, { slots := [(7, .int .i64)], kept := [1, 5], locs := [], keptL := [] })], joins := [], mix := [] }
def logboomlaw1_run_vc (size : Int) (script : Sl) (H : Heap) (K : Value → Heap → Prop) : Prop :=
  FnH Tryd.prog 12 #[.int .i64 size] H fun r1 H1 =>
    ∃ p1 : Option Addr,
    ∃ n1 : Int,
    r1 = .tuple #[.pointer p1, .int .i64 n1] ∧
    br (Option.isNone p1) (
      K (.pointer none) H1)
     (
      br ((n1 : Int) != 0) (
        K (.pointer none) H1)
       (
        ∃ I1 : Int → Heap → Prop,
        ∃ M1 : Int → Heap → Nat,
        I1 0 H1 ∧
        ∀ i_1 : Int,
        ∀ H2 : Heap,
        I1 i_1 H2 →
        br (decide ((i_1 : Int) < (script.n : Nat))) (
          br (decide ((i_1 : Int) < 100)) (
            ∃ q1 : Nat,
            ∃ o1 : Nat,
            (script.p : Option Addr) = some ⟨q1, o1, none⟩ ∧
            0 ≤ (i_1 : Int) ∧
            (i_1 : Int) < (script.n : Nat) ∧
            ∃ n2 : Int,
            cellH H2 ⟨q1, o1 + Int.toNat i_1 * 5, none⟩ = some (.int .i64 n2) ∧
            ∃ s1 : ByteArray,
            cellH H2 ⟨q1, o1 + Int.toNat i_1 * 5 + 1, none⟩ = some (.string s1) ∧
            ∃ s2 : ByteArray,
            cellH H2 ⟨q1, o1 + Int.toNat i_1 * 5 + 2, none⟩ = some (.string s2) ∧
            ∃ n3 : Int,
            cellH H2 ⟨q1, o1 + Int.toNat i_1 * 5 + 3, none⟩ = some (.int .i64 n3) ∧
            ∃ l1 : Sl,
            cellH H2 ⟨q1, o1 + Int.toNat i_1 * 5 + 4, none⟩ = some (.slice l1.p l1.n l1.c) ∧
            FnH Tryd.prog 27 #[.pointer p1, .agg #[.int .i64 n2, .string s1, .string s2, .int .i64 n3, .slice l1.p l1.n l1.c]] H2 fun r2 H3 =>
              ∃ n4 : Int,
              r2 = .int .i64 n4 ∧
              SelfEq ([.v (.slice script.p script.n script.c), .v (.pointer p1)], [], []) ∧
              I1 (IntKind.wrap .i64 (i_1 + 1)) H3 ∧
              M1 (IntKind.wrap .i64 (i_1 + 1)) H3 < M1 i_1 H2)
           (
            K (.pointer p1) H2))
         (
          K (.pointer p1) H2)))
theorem logboomlaw1_run_eq (size : Int) (script : Sl) (H : Heap) (K : Value → Heap → Prop) : logboomlaw1_run_vc size script H K = denFn Tryd.prog logboomlaw1_run_ann Tryd.f25 (bodyOf Tryd.f25) [.int .i64 size, .slice script.p script.n script.c] H K := by kernel_rfl
theorem logboomlaw1_run_fn (size : Int) (script : Sl) {H : Heap} {K : Value → Heap → Prop} (h : logboomlaw1_run_vc size script H K) : FnH Tryd.prog 25 #[.int .i64 size, .slice script.p script.n script.c] H K :=
  denFn_fn Tryd.mixed logboomlaw1_run_ann Tryd.func25 (bodyOf_spec (by kernel_rfl)) (logboomlaw1_run_eq size script H K) h

/-! function 27: logboom/logboomlaw1.calls -/
def logboomlaw1_calls_ann : Anns := { hid := [3], loops := [], joins := [], mix := [] }
def logboomlaw1_calls_vc (d0 : Nat) (d0o : Nat) (o_0 : Int) (o_1 : ByteArray) (o_2 : ByteArray) (o_3 : Int) (o_4 : Sl) (H : Heap) (K : Value → Heap → Prop) : Prop :=
  FnH Tryd.prog 11 #[.int .i64 o_0, .int .i64 8] H fun r1 H1 =>
    ∃ n1 : Int,
    r1 = .int .i64 n1 ∧
    br ((n1 : Int) == 0) (
      br ((n1 : Int) == 0) (
        FnH Tryd.prog 13 #[.pointer (some ⟨d0, d0o, none⟩), .string o_1, .string o_2] H1 fun r2 H2 =>
          ∃ n2 : Int,
          r2 = .int .i64 n2 ∧
          K (.int .i64 n2) H2)
       (
        br ((n1 : Int) == 3) (
          FnH Tryd.prog 14 #[.pointer (some ⟨d0, d0o, none⟩), .string o_1] H1 fun r3 H3 =>
            ∃ n3 : Int,
            r3 = .int .i64 n3 ∧
            K (.int .i64 n3) H3)
         (
          br ((n1 : Int) == 4) (
            FnH Tryd.prog 35 #[.pointer (some ⟨d0, d0o, none⟩), .string o_1, .int .i64 o_3] H1 fun r4 H4 =>
              ∃ n4 : Int,
              r4 = .int .i64 n4 ∧
              K (.int .i64 n4) H4)
           (
            br ((n1 : Int) == 5) (
              FnH Tryd.prog 19 #[.pointer (some ⟨d0, d0o, none⟩), .string o_1, .string o_2] H1 fun r5 H5 =>
                ∃ n5 : Int,
                r5 = .int .i64 n5 ∧
                K (.int .i64 n5) H5)
             (
              br ((n1 : Int) == 6) (
                FnH Tryd.prog 38 #[.pointer (some ⟨d0, d0o, none⟩), .string o_1, .string o_2] H1 fun r6 H6 =>
                  ∃ n6 : Int,
                  r6 = .int .i64 n6 ∧
                  K (.int .i64 n6) H6)
               (
                FnH Tryd.prog 40 #[.pointer (some ⟨d0, d0o, none⟩), .string o_1] H1 fun r7 H7 =>
                  ∃ n7 : Int,
                  r7 = .int .i64 n7 ∧
                  K (.int .i64 n7) H7))))))
     (
      br ((n1 : Int) == 1) (
        br ((n1 : Int) == 1) (
          FnH Tryd.prog 13 #[.pointer (some ⟨d0, d0o, none⟩), .string o_1, .string o_2] H1 fun r8 H8 =>
            ∃ n8 : Int,
            r8 = .int .i64 n8 ∧
            K (.int .i64 n8) H8)
         (
          br ((n1 : Int) == 3) (
            FnH Tryd.prog 14 #[.pointer (some ⟨d0, d0o, none⟩), .string o_1] H1 fun r9 H9 =>
              ∃ n9 : Int,
              r9 = .int .i64 n9 ∧
              K (.int .i64 n9) H9)
           (
            br ((n1 : Int) == 4) (
              FnH Tryd.prog 35 #[.pointer (some ⟨d0, d0o, none⟩), .string o_1, .int .i64 o_3] H1 fun r10 H10 =>
                ∃ n10 : Int,
                r10 = .int .i64 n10 ∧
                K (.int .i64 n10) H10)
             (
              br ((n1 : Int) == 5) (
                FnH Tryd.prog 19 #[.pointer (some ⟨d0, d0o, none⟩), .string o_1, .string o_2] H1 fun r11 H11 =>
                  ∃ n11 : Int,
                  r11 = .int .i64 n11 ∧
                  K (.int .i64 n11) H11)
               (
                br ((n1 : Int) == 6) (
                  FnH Tryd.prog 38 #[.pointer (some ⟨d0, d0o, none⟩), .string o_1, .string o_2] H1 fun r12 H12 =>
                    ∃ n12 : Int,
                    r12 = .int .i64 n12 ∧
                    K (.int .i64 n12) H12)
                 (
                  FnH Tryd.prog 40 #[.pointer (some ⟨d0, d0o, none⟩), .string o_1] H1 fun r13 H13 =>
                    ∃ n13 : Int,
                    r13 = .int .i64 n13 ∧
                    K (.int .i64 n13) H13))))))
       (
        br ((n1 : Int) == 2) (
          FnH Tryd.prog 13 #[.pointer (some ⟨d0, d0o, none⟩), .string o_1, .string o_2] H1 fun r14 H14 =>
            ∃ n14 : Int,
            r14 = .int .i64 n14 ∧
            K (.int .i64 n14) H14)
         (
          br ((n1 : Int) == 3) (
            FnH Tryd.prog 14 #[.pointer (some ⟨d0, d0o, none⟩), .string o_1] H1 fun r15 H15 =>
              ∃ n15 : Int,
              r15 = .int .i64 n15 ∧
              K (.int .i64 n15) H15)
           (
            br ((n1 : Int) == 4) (
              FnH Tryd.prog 35 #[.pointer (some ⟨d0, d0o, none⟩), .string o_1, .int .i64 o_3] H1 fun r16 H16 =>
                ∃ n16 : Int,
                r16 = .int .i64 n16 ∧
                K (.int .i64 n16) H16)
             (
              br ((n1 : Int) == 5) (
                FnH Tryd.prog 19 #[.pointer (some ⟨d0, d0o, none⟩), .string o_1, .string o_2] H1 fun r17 H17 =>
                  ∃ n17 : Int,
                  r17 = .int .i64 n17 ∧
                  K (.int .i64 n17) H17)
               (
                br ((n1 : Int) == 6) (
                  FnH Tryd.prog 38 #[.pointer (some ⟨d0, d0o, none⟩), .string o_1, .string o_2] H1 fun r18 H18 =>
                    ∃ n18 : Int,
                    r18 = .int .i64 n18 ∧
                    K (.int .i64 n18) H18)
                 (
                  FnH Tryd.prog 40 #[.pointer (some ⟨d0, d0o, none⟩), .string o_1] H1 fun r19 H19 =>
                    ∃ n19 : Int,
                    r19 = .int .i64 n19 ∧
                    K (.int .i64 n19) H19)))))))
theorem logboomlaw1_calls_eq (d0 : Nat) (d0o : Nat) (o_0 : Int) (o_1 : ByteArray) (o_2 : ByteArray) (o_3 : Int) (o_4 : Sl) (H : Heap) (K : Value → Heap → Prop) : logboomlaw1_calls_vc d0 d0o o_0 o_1 o_2 o_3 o_4 H K = denFn Tryd.prog logboomlaw1_calls_ann Tryd.f27 (bodyOf Tryd.f27) [.pointer (some ⟨d0, d0o, none⟩), .agg #[.int .i64 o_0, .string o_1, .string o_2, .int .i64 o_3, .slice o_4.p o_4.n o_4.c]] H K := by kernel_rfl
theorem logboomlaw1_calls_fn (d0 : Nat) (d0o : Nat) (o_0 : Int) (o_1 : ByteArray) (o_2 : ByteArray) (o_3 : Int) (o_4 : Sl) {H : Heap} {K : Value → Heap → Prop} (h : logboomlaw1_calls_vc d0 d0o o_0 o_1 o_2 o_3 o_4 H K) : FnH Tryd.prog 27 #[.pointer (some ⟨d0, d0o, none⟩), .agg #[.int .i64 o_0, .string o_1, .string o_2, .int .i64 o_3, .slice o_4.p o_4.n o_4.c]] H K :=
  denFn_fn Tryd.mixed logboomlaw1_calls_ann Tryd.func27 (bodyOf_spec (by kernel_rfl)) (logboomlaw1_calls_eq d0 d0o o_0 o_1 o_2 o_3 o_4 H K) h

/-! function 28: logboom/logboomlaw1.one -/
def logboomlaw1_one_ann : Anns := { hid := [], loops := [(0, { slots := [(7, .int .i64)], kept := [0, 1, 5, 6], locs := [], keptL := [] })], joins := [], mix := [(10, [])] }
def logboomlaw1_one_vc (a : Nat) (ao : Nat) (b : Nat) (bo : Nat) (H : Heap) (K : Value → Heap → Prop) : Prop :=
  FnH Tryd.prog 20 #[.pointer (some ⟨a, ao, none⟩)] H fun r1 H1 =>
    ∃ l1 : Sl,
    r1 = .slice l1.p l1.n l1.c ∧
    FnH Tryd.prog 20 #[.pointer (some ⟨b, bo, none⟩)] H1 fun r2 H2 =>
      ∃ l2 : Sl,
      r2 = .slice l2.p l2.n l2.c ∧
      br (((l1.n : Nat) : Int) != (l2.n : Nat)) (
        K (.bool false) H2)
       (
        FnH Tryd.prog 18 #[.pointer (some ⟨a, ao, none⟩)] H2 fun r3 H3 =>
          ∃ n1 : Int,
          r3 = .int .i64 n1 ∧
          FnH Tryd.prog 18 #[.pointer (some ⟨b, bo, none⟩)] H3 fun r4 H4 =>
            ∃ n2 : Int,
            r4 = .int .i64 n2 ∧
            br ((n1 : Int) != n2) (
              K (.bool false) H4)
             (
              ∃ I1 : Int → Heap → Prop,
              ∃ M1 : Int → Heap → Nat,
              I1 0 H4 ∧
              ∀ i_1 : Int,
              ∀ H5 : Heap,
              I1 i_1 H5 →
              br (decide ((i_1 : Int) < (l1.n : Nat))) (
                ∃ q1 : Nat,
                ∃ o1 : Nat,
                (l1.p : Option Addr) = some ⟨q1, o1, none⟩ ∧
                0 ≤ (i_1 : Int) ∧
                (i_1 : Int) < (l1.n : Nat) ∧
                ∃ s1 : ByteArray,
                cellH H5 ⟨q1, o1 + Int.toNat i_1, none⟩ = some (.string s1) ∧
                FnH Tryd.prog 16 #[.pointer (some ⟨a, ao, none⟩), .string s1] H5 fun r5 H6 =>
                  ∃ s2 : ByteArray,
                  ∃ n3 : Int,
                  r5 = .tuple #[.string s2, .int .i64 n3] ∧
                  ∃ q2 : Nat,
                  ∃ o2 : Nat,
                  (l2.p : Option Addr) = some ⟨q2, o2, none⟩ ∧
                  0 ≤ (i_1 : Int) ∧
                  (i_1 : Int) < (l2.n : Nat) ∧
                  ∃ s3 : ByteArray,
                  cellH H6 ⟨q2, o2 + Int.toNat i_1, none⟩ = some (.string s3) ∧
                  FnH Tryd.prog 16 #[.pointer (some ⟨b, bo, none⟩), .string s3] H6 fun r6 H7 =>
                    ∃ s4 : ByteArray,
                    ∃ n4 : Int,
                    r6 = .tuple #[.string s4, .int .i64 n4] ∧
                    ∃ q3 : Nat,
                    ∃ o3 : Nat,
                    (l1.p : Option Addr) = some ⟨q3, o3, none⟩ ∧
                    0 ≤ (i_1 : Int) ∧
                    (i_1 : Int) < (l1.n : Nat) ∧
                    ∃ s5 : ByteArray,
                    cellH H7 ⟨q3, o3 + Int.toNat i_1, none⟩ = some (.string s5) ∧
                    ∃ q4 : Nat,
                    ∃ o4 : Nat,
                    (l2.p : Option Addr) = some ⟨q4, o4, none⟩ ∧
                    0 ≤ (i_1 : Int) ∧
                    (i_1 : Int) < (l2.n : Nat) ∧
                    ∃ s6 : ByteArray,
                    cellH H7 ⟨q4, o4 + Int.toNat i_1, none⟩ = some (.string s6) ∧
                    br (!(s5.toList == s6.toList)) (
                      K (.bool false) H7)
                     (
                      br (!(s2.toList == s4.toList)) (
                        K (.bool false) H7)
                       (
                        ∃ q5 : Nat,
                        ∃ o5 : Nat,
                        (l1.p : Option Addr) = some ⟨q5, o5, none⟩ ∧
                        0 ≤ (i_1 : Int) ∧
                        (i_1 : Int) < (l1.n : Nat) ∧
                        ∃ s7 : ByteArray,
                        cellH H7 ⟨q5, o5 + Int.toNat i_1, none⟩ = some (.string s7) ∧
                        ∃ q6 : Nat,
                        ∃ o6 : Nat,
                        (l2.p : Option Addr) = some ⟨q6, o6, none⟩ ∧
                        0 ≤ (i_1 : Int) ∧
                        (i_1 : Int) < (l2.n : Nat) ∧
                        ∃ s8 : ByteArray,
                        cellH H7 ⟨q6, o6 + Int.toNat i_1, none⟩ = some (.string s8) ∧
                        FnH Tryd.prog 17 #[.pointer (some ⟨a, ao, none⟩), .string s7] H7 fun r7 H8 =>
                          ∃ n5 : Int,
                          r7 = .int .i64 n5 ∧
                          Sub H7 H8 ∧
                          FnH Tryd.prog 17 #[.pointer (some ⟨b, bo, none⟩), .string s8] H8 fun r8 H9 =>
                            ∃ n6 : Int,
                            r8 = .int .i64 n6 ∧
                            Sub H7 H9 ∧
                            br ((n5 : Int) != n6) (
                              K (.bool false) H9)
                             (
                              SelfEq ([.v (.pointer (some ⟨a, ao, none⟩)), .v (.pointer (some ⟨b, bo, none⟩)), .v (.slice l1.p l1.n l1.c), .v (.slice l2.p l2.n l2.c)], [], []) ∧
                              I1 (IntKind.wrap .i64 (i_1 + 1)) H9 ∧
                              M1 (IntKind.wrap .i64 (i_1 + 1)) H9 < M1 i_1 H5))))
               (
                K (.bool true) H5)))
theorem logboomlaw1_one_eq (a : Nat) (ao : Nat) (b : Nat) (bo : Nat) (H : Heap) (K : Value → Heap → Prop) : logboomlaw1_one_vc a ao b bo H K = denFn Tryd.prog logboomlaw1_one_ann Tryd.f28 (bodyOf Tryd.f28) [.pointer (some ⟨a, ao, none⟩), .pointer (some ⟨b, bo, none⟩)] H K := by kernel_rfl
theorem logboomlaw1_one_fn (a : Nat) (ao : Nat) (b : Nat) (bo : Nat) {H : Heap} {K : Value → Heap → Prop} (h : logboomlaw1_one_vc a ao b bo H K) : FnH Tryd.prog 28 #[.pointer (some ⟨a, ao, none⟩), .pointer (some ⟨b, bo, none⟩)] H K :=
  denFn_fn Tryd.mixed logboomlaw1_one_ann Tryd.func28 (bodyOf_spec (by kernel_rfl)) (logboomlaw1_one_eq a ao b bo H K) h

/-! function 6: logboom/logboomlaw1.DiskRoom -/
def logboomlaw1_DiskRoom_ann : Anns := { hid := [], loops := [(0, { slots := [(8, .int .i64), (9, .int .i64)], kept := [0, 6, 7], locs := [], keptL := [] })], joins := [], mix := [(12, [])] }
def logboomlaw1_DiskRoom_vc (size : Int) (script : Sl) (H : Heap) (K : Value → Heap → Prop) : Prop :=
  FnH Tryd.prog 10 #[] H fun r1 H1 =>
    ∃ b1 : Bool,
    r1 = .bool b1 ∧
    FnH Tryd.prog 11 #[.int .i64 size, .int .i64 2000] H1 fun r2 H2 =>
      ∃ n1 : Int,
      r2 = .int .i64 n1 ∧
      FnH Tryd.prog 25 #[.int .i64 (IntKind.wrap .i64 (1 + n1)), .slice script.p script.n script.c] H2 fun r3 H3 =>
        ∃ p1 : Option Addr,
        r3 = .pointer p1 ∧
        br (!b1) (
          K (.bool false) H3)
         (
          br (Option.isNone p1) (
            K (.bool false) H3)
           (
            FnH Tryd.prog 20 #[.pointer p1] H3 fun r4 H4 =>
              ∃ l1 : Sl,
              r4 = .slice l1.p l1.n l1.c ∧
              ∃ I1 : Int → Int → Heap → Prop,
              ∃ M1 : Int → Int → Heap → Nat,
              I1 0 0 H4 ∧
              ∀ sum_1 : Int,
              ∀ i_1 : Int,
              ∀ H5 : Heap,
              I1 sum_1 i_1 H5 →
              br (decide ((i_1 : Int) < (l1.n : Nat))) (
                ∃ q1 : Nat,
                ∃ o1 : Nat,
                (l1.p : Option Addr) = some ⟨q1, o1, none⟩ ∧
                0 ≤ (i_1 : Int) ∧
                (i_1 : Int) < (l1.n : Nat) ∧
                ∃ s1 : ByteArray,
                cellH H5 ⟨q1, o1 + Int.toNat i_1, none⟩ = some (.string s1) ∧
                FnH Tryd.prog 16 #[.pointer p1, .string s1] H5 fun r5 H6 =>
                  ∃ s2 : ByteArray,
                  ∃ n2 : Int,
                  r5 = .tuple #[.string s2, .int .i64 n2] ∧
                  br ((n2 : Int) != 0) (
                    K (.bool false) H6)
                   (
                    ∃ q2 : Nat,
                    ∃ o2 : Nat,
                    (l1.p : Option Addr) = some ⟨q2, o2, none⟩ ∧
                    0 ≤ (i_1 : Int) ∧
                    (i_1 : Int) < (l1.n : Nat) ∧
                    ∃ s3 : ByteArray,
                    cellH H6 ⟨q2, o2 + Int.toNat i_1, none⟩ = some (.string s3) ∧
                    FnH Tryd.prog 26 #[.pointer p1, .string s3] H6 fun r6 H7 =>
                      ∃ n3 : Int,
                      r6 = .int .i64 n3 ∧
                      Sub H6 H7 ∧
                      br (((s2.size : Nat) : Int) != n3) (
                        K (.bool false) H7)
                       (
                        ∃ q3 : Nat,
                        ∃ o3 : Nat,
                        (l1.p : Option Addr) = some ⟨q3, o3, none⟩ ∧
                        0 ≤ (i_1 : Int) ∧
                        (i_1 : Int) < (l1.n : Nat) ∧
                        ∃ s4 : ByteArray,
                        cellH H6 ⟨q3, o3 + Int.toNat i_1, none⟩ = some (.string s4) ∧
                        FnH Tryd.prog 17 #[.pointer p1, .string s4] H7 fun r7 H8 =>
                          ∃ n4 : Int,
                          r7 = .int .i64 n4 ∧
                          Sub H6 H8 ∧
                          br (decide ((n4 : Int) < 0)) (
                            K (.bool false) H8)
                           (
                            ∃ q4 : Nat,
                            ∃ o4 : Nat,
                            (l1.p : Option Addr) = some ⟨q4, o4, none⟩ ∧
                            0 ≤ (i_1 : Int) ∧
                            (i_1 : Int) < (l1.n : Nat) ∧
                            ∃ s5 : ByteArray,
                            cellH H6 ⟨q4, o4 + Int.toNat i_1, none⟩ = some (.string s5) ∧
                            FnH Tryd.prog 17 #[.pointer p1, .string s5] H8 fun r8 H9 =>
                              ∃ n5 : Int,
                              r8 = .int .i64 n5 ∧
                              Sub H6 H9 ∧
                              br (decide ((n5 : Int) > (s2.size : Nat))) (
                                K (.bool false) H9)
                               (
                                br (decide ((i_1 : Int) > 0)) (
                                  ∃ q5 : Nat,
                                  ∃ o5 : Nat,
                                  (l1.p : Option Addr) = some ⟨q5, o5, none⟩ ∧
                                  0 ≤ (i_1 : Int) ∧
                                  (i_1 : Int) < (l1.n : Nat) ∧
                                  ∃ s6 : ByteArray,
                                  cellH H6 ⟨q5, o5 + Int.toNat i_1, none⟩ = some (.string s6) ∧
                                  ∃ q6 : Nat,
                                  ∃ o6 : Nat,
                                  (l1.p : Option Addr) = some ⟨q6, o6, none⟩ ∧
                                  0 ≤ ((IntKind.wrap .i64 (i_1 - 1)) : Int) ∧
                                  ((IntKind.wrap .i64 (i_1 - 1)) : Int) < (l1.n : Nat) ∧
                                  ∃ s7 : ByteArray,
                                  cellH H6 ⟨q6, o6 + Int.toNat (IntKind.wrap .i64 (i_1 - 1)), none⟩ = some (.string s7) ∧
                                  br (Op.bytesLess s6.toList s7.toList || s6.toList == s7.toList) (
                                    K (.bool false) H9)
                                   (
                                    SelfEq ([.v (.int .i64 (IntKind.wrap .i64 (1 + n1))), .v (.pointer p1), .v (.slice l1.p l1.n l1.c)], [], []) ∧
                                    I1 (IntKind.wrap .i64 (sum_1 + (s2.size : Nat))) (IntKind.wrap .i64 (i_1 + 1)) H9 ∧
                                    M1 (IntKind.wrap .i64 (sum_1 + (s2.size : Nat))) (IntKind.wrap .i64 (i_1 + 1)) H9 < M1 sum_1 i_1 H5))
                                 (
                                  SelfEq ([.v (.int .i64 (IntKind.wrap .i64 (1 + n1))), .v (.pointer p1), .v (.slice l1.p l1.n l1.c)], [], []) ∧
                                  I1 (IntKind.wrap .i64 (sum_1 + (s2.size : Nat))) (IntKind.wrap .i64 (i_1 + 1)) H9 ∧
                                  M1 (IntKind.wrap .i64 (sum_1 + (s2.size : Nat))) (IntKind.wrap .i64 (i_1 + 1)) H9 < M1 sum_1 i_1 H5))))))
               (
                br (decide ((sum_1 : Int) ≤ (IntKind.wrap .i64 (1 + n1)))) (
                  FnH Tryd.prog 18 #[.pointer p1] H5 fun r9 H10 =>
                    ∃ n6 : Int,
                    r9 = .int .i64 n6 ∧
                    K (.bool ((n6 : Int) == (IntKind.wrap .i64 ((IntKind.wrap .i64 (1 + n1)) - sum_1)))) H10)
                 (
                  K (.bool false) H5))))
theorem logboomlaw1_DiskRoom_eq (size : Int) (script : Sl) (H : Heap) (K : Value → Heap → Prop) : logboomlaw1_DiskRoom_vc size script H K = denFn Tryd.prog logboomlaw1_DiskRoom_ann Tryd.f6 (bodyOf Tryd.f6) [.int .i64 size, .slice script.p script.n script.c] H K := by kernel_rfl
theorem logboomlaw1_DiskRoom_fn (size : Int) (script : Sl) {H : Heap} {K : Value → Heap → Prop} (h : logboomlaw1_DiskRoom_vc size script H K) : FnH Tryd.prog 6 #[.int .i64 size, .slice script.p script.n script.c] H K :=
  denFn_fn Tryd.mixed logboomlaw1_DiskRoom_ann Tryd.func6 (bodyOf_spec (by kernel_rfl)) (logboomlaw1_DiskRoom_eq size script H K) h

/-! function 7: logboom/logboomlaw1.DiskErrs -/
def logboomlaw1_DiskErrs_ann : Anns := { hid := [5], loops := [], joins := [], mix := [] }
def logboomlaw1_DiskErrs_vc (size : Int) (script : Sl) (last_0 : Int) (last_1 : ByteArray) (last_2 : ByteArray) (last_3 : Int) (last_4 : Sl) (H : Heap) (K : Value → Heap → Prop) : Prop :=
  FnH Tryd.prog 10 #[] H fun r1 H1 =>
    ∃ b1 : Bool,
    r1 = .bool b1 ∧
    FnH Tryd.prog 11 #[.int .i64 size, .int .i64 2000] H1 fun r2 H2 =>
      ∃ n1 : Int,
      r2 = .int .i64 n1 ∧
      FnH Tryd.prog 25 #[.int .i64 (IntKind.wrap .i64 (1 + n1)), .slice script.p script.n script.c] H2 fun r3 H3 =>
        ∃ p1 : Option Addr,
        r3 = .pointer p1 ∧
        br (!b1) (
          K (.bool false) H3)
         (
          br (Option.isNone p1) (
            K (.bool false) H3)
           (
            FnH Tryd.prog 24 #[.pointer p1] H3 fun r4 H4 =>
              ∃ p2 : Option Addr,
              r4 = .pointer p2 ∧
              br (Option.isNone p2) (
                K (.bool false) H4)
               (
                FnH Tryd.prog 27 #[.pointer p1, .agg #[.int .i64 last_0, .string last_1, .string last_2, .int .i64 last_3, .slice last_4.p last_4.n last_4.c]] H4 fun r5 H5 =>
                  ∃ n2 : Int,
                  r5 = .int .i64 n2 ∧
                  br ((n2 : Int) == 0) (
                    K (.bool true) H5)
                   (
                    br ((n2 : Int) == 7) (
                      FnH Tryd.prog 11 #[.int .i64 last_0, .int .i64 8] H5 fun r6 H6 =>
                        ∃ n3 : Int,
                        r6 = .int .i64 n3 ∧
                        br (decide ((n3 : Int) < 3)) (
                          K (.bool true) H6)
                         (
                          FnH Tryd.prog 28 #[.pointer p2, .pointer p1] H6 fun r7 H7 =>
                            ∃ b2 : Bool,
                            r7 = .bool b2 ∧
                            K (.bool b2) H7))
                     (
                      FnH Tryd.prog 28 #[.pointer p2, .pointer p1] H5 fun r8 H8 =>
                        ∃ b3 : Bool,
                        r8 = .bool b3 ∧
                        K (.bool b3) H8)))))
theorem logboomlaw1_DiskErrs_eq (size : Int) (script : Sl) (last_0 : Int) (last_1 : ByteArray) (last_2 : ByteArray) (last_3 : Int) (last_4 : Sl) (H : Heap) (K : Value → Heap → Prop) : logboomlaw1_DiskErrs_vc size script last_0 last_1 last_2 last_3 last_4 H K = denFn Tryd.prog logboomlaw1_DiskErrs_ann Tryd.f7 (bodyOf Tryd.f7) [.int .i64 size, .slice script.p script.n script.c, .agg #[.int .i64 last_0, .string last_1, .string last_2, .int .i64 last_3, .slice last_4.p last_4.n last_4.c]] H K := by kernel_rfl
theorem logboomlaw1_DiskErrs_fn (size : Int) (script : Sl) (last_0 : Int) (last_1 : ByteArray) (last_2 : ByteArray) (last_3 : Int) (last_4 : Sl) {H : Heap} {K : Value → Heap → Prop} (h : logboomlaw1_DiskErrs_vc size script last_0 last_1 last_2 last_3 last_4 H K) : FnH Tryd.prog 7 #[.int .i64 size, .slice script.p script.n script.c, .agg #[.int .i64 last_0, .string last_1, .string last_2, .int .i64 last_3, .slice last_4.p last_4.n last_4.c]] H K :=
  denFn_fn Tryd.mixed logboomlaw1_DiskErrs_ann Tryd.func7 (bodyOf_spec (by kernel_rfl)) (logboomlaw1_DiskErrs_eq size script last_0 last_1 last_2 last_3 last_4 H K) h

/-! function 8: logboom/logboomlaw1.DiskClones -/
def logboomlaw1_DiskClones_ann : Anns := { hid := [], loops := [(0, { slots := [(13, .int .i64)], kept := [0, 1, 2, 3, 10, 11, 12], locs := [], keptL := [] }), (2, { slots := [(15, .int .i64)], kept := [0, 1, 3, 10, 12, 14], locs := [], keptL := [] })], joins := [], mix := [] }
def logboomlaw1_DiskClones_vc (size : Int) (script : Sl) (mine : Sl) (theirs : Sl) (H : Heap) (K : Value → Heap → Prop) : Prop :=
  FnH Tryd.prog 10 #[] H fun r1 H1 =>
    ∃ b1 : Bool,
    r1 = .bool b1 ∧
    FnH Tryd.prog 11 #[.int .i64 size, .int .i64 2000] H1 fun r2 H2 =>
      ∃ n1 : Int,
      r2 = .int .i64 n1 ∧
      FnH Tryd.prog 25 #[.int .i64 (IntKind.wrap .i64 (1 + n1)), .slice script.p script.n script.c] H2 fun r3 H3 =>
        ∃ p1 : Option Addr,
        r3 = .pointer p1 ∧
        br (!b1) (
          K (.bool false) H3)
         (
          br (Option.isNone p1) (
            K (.bool false) H3)
           (
            FnH Tryd.prog 24 #[.pointer p1] H3 fun r4 H4 =>
              ∃ p2 : Option Addr,
              r4 = .pointer p2 ∧
              FnH Tryd.prog 24 #[.pointer p1] H4 fun r5 H5 =>
                ∃ p3 : Option Addr,
                r5 = .pointer p3 ∧
                br (Option.isNone p2) (
                  K (.bool false) H5)
                 (
                  br (Option.isNone p3) (
                    K (.bool false) H5)
                   (
                    ∃ I1 : Int → Heap → Prop,
                    ∃ M1 : Int → Heap → Nat,
                    I1 0 H5 ∧
                    ∀ i_1 : Int,
                    ∀ H6 : Heap,
                    I1 i_1 H6 →
                    br (decide ((i_1 : Int) < (mine.n : Nat))) (
                      br (decide ((i_1 : Int) < 30)) (
                        ∃ q1 : Nat,
                        ∃ o1 : Nat,
                        (mine.p : Option Addr) = some ⟨q1, o1, none⟩ ∧
                        0 ≤ (i_1 : Int) ∧
                        (i_1 : Int) < (mine.n : Nat) ∧
                        ∃ n2 : Int,
                        cellH H6 ⟨q1, o1 + Int.toNat i_1 * 5, none⟩ = some (.int .i64 n2) ∧
                        ∃ s1 : ByteArray,
                        cellH H6 ⟨q1, o1 + Int.toNat i_1 * 5 + 1, none⟩ = some (.string s1) ∧
                        ∃ s2 : ByteArray,
                        cellH H6 ⟨q1, o1 + Int.toNat i_1 * 5 + 2, none⟩ = some (.string s2) ∧
                        ∃ n3 : Int,
                        cellH H6 ⟨q1, o1 + Int.toNat i_1 * 5 + 3, none⟩ = some (.int .i64 n3) ∧
                        ∃ l1 : Sl,
                        cellH H6 ⟨q1, o1 + Int.toNat i_1 * 5 + 4, none⟩ = some (.slice l1.p l1.n l1.c) ∧
                        FnH Tryd.prog 27 #[.pointer p2, .agg #[.int .i64 n2, .string s1, .string s2, .int .i64 n3, .slice l1.p l1.n l1.c]] H6 fun r6 H7 =>
                          ∃ n4 : Int,
                          r6 = .int .i64 n4 ∧
                          SelfEq ([.v (.int .i64 size), .v (.slice script.p script.n script.c), .v (.slice mine.p mine.n mine.c), .v (.slice theirs.p theirs.n theirs.c), .v (.pointer p1), .v (.pointer p2), .v (.pointer p3)], [], []) ∧
                          I1 (IntKind.wrap .i64 (i_1 + 1)) H7 ∧
                          M1 (IntKind.wrap .i64 (i_1 + 1)) H7 < M1 i_1 H6)
                       (
                        FnH Tryd.prog 28 #[.pointer p3, .pointer p1] H6 fun r7 H8 =>
                          ∃ b2 : Bool,
                          r7 = .bool b2 ∧
                          ∃ I2 : Int → Heap → Prop,
                          ∃ M2 : Int → Heap → Nat,
                          I2 0 H8 ∧
                          ∀ i_2 : Int,
                          ∀ H9 : Heap,
                          I2 i_2 H9 →
                          br (decide ((i_2 : Int) < (theirs.n : Nat))) (
                            br (decide ((i_2 : Int) < 30)) (
                              ∃ q2 : Nat,
                              ∃ o2 : Nat,
                              (theirs.p : Option Addr) = some ⟨q2, o2, none⟩ ∧
                              0 ≤ (i_2 : Int) ∧
                              (i_2 : Int) < (theirs.n : Nat) ∧
                              ∃ n5 : Int,
                              cellH H9 ⟨q2, o2 + Int.toNat i_2 * 5, none⟩ = some (.int .i64 n5) ∧
                              ∃ s3 : ByteArray,
                              cellH H9 ⟨q2, o2 + Int.toNat i_2 * 5 + 1, none⟩ = some (.string s3) ∧
                              ∃ s4 : ByteArray,
                              cellH H9 ⟨q2, o2 + Int.toNat i_2 * 5 + 2, none⟩ = some (.string s4) ∧
                              ∃ n6 : Int,
                              cellH H9 ⟨q2, o2 + Int.toNat i_2 * 5 + 3, none⟩ = some (.int .i64 n6) ∧
                              ∃ l2 : Sl,
                              cellH H9 ⟨q2, o2 + Int.toNat i_2 * 5 + 4, none⟩ = some (.slice l2.p l2.n l2.c) ∧
                              FnH Tryd.prog 27 #[.pointer p3, .agg #[.int .i64 n5, .string s3, .string s4, .int .i64 n6, .slice l2.p l2.n l2.c]] H9 fun r8 H10 =>
                                ∃ n7 : Int,
                                r8 = .int .i64 n7 ∧
                                SelfEq ([.v (.int .i64 size), .v (.slice script.p script.n script.c), .v (.slice theirs.p theirs.n theirs.c), .v (.pointer p1), .v (.pointer p3), .v (.bool b2)], [], []) ∧
                                I2 (IntKind.wrap .i64 (i_2 + 1)) H10 ∧
                                M2 (IntKind.wrap .i64 (i_2 + 1)) H10 < M2 i_2 H9)
                             (
                              FnH Tryd.prog 11 #[.int .i64 size, .int .i64 2000] H9 fun r9 H11 =>
                                ∃ n8 : Int,
                                r9 = .int .i64 n8 ∧
                                FnH Tryd.prog 25 #[.int .i64 (IntKind.wrap .i64 (1 + n8)), .slice script.p script.n script.c] H11 fun r10 H12 =>
                                  ∃ p4 : Option Addr,
                                  r10 = .pointer p4 ∧
                                  br (Option.isNone p4) (
                                    K (.bool false) H12)
                                   (
                                    FnH Tryd.prog 28 #[.pointer p4, .pointer p1] H12 fun r11 H13 =>
                                      ∃ b3 : Bool,
                                      r11 = .bool b3 ∧
                                      br (b2) (
                                        K (.bool b3) H13)
                                       (
                                        K (.bool false) H13))))
                           (
                            FnH Tryd.prog 11 #[.int .i64 size, .int .i64 2000] H9 fun r12 H14 =>
                              ∃ n9 : Int,
                              r12 = .int .i64 n9 ∧
                              FnH Tryd.prog 25 #[.int .i64 (IntKind.wrap .i64 (1 + n9)), .slice script.p script.n script.c] H14 fun r13 H15 =>
                                ∃ p5 : Option Addr,
                                r13 = .pointer p5 ∧
                                br (Option.isNone p5) (
                                  K (.bool false) H15)
                                 (
                                  FnH Tryd.prog 28 #[.pointer p5, .pointer p1] H15 fun r14 H16 =>
                                    ∃ b4 : Bool,
                                    r14 = .bool b4 ∧
                                    br (b2) (
                                      K (.bool b4) H16)
                                     (
                                      K (.bool false) H16)))))
                     (
                      FnH Tryd.prog 28 #[.pointer p3, .pointer p1] H6 fun r15 H17 =>
                        ∃ b5 : Bool,
                        r15 = .bool b5 ∧
                        ∃ I3 : Int → Heap → Prop,
                        ∃ M3 : Int → Heap → Nat,
                        I3 0 H17 ∧
                        ∀ i_3 : Int,
                        ∀ H18 : Heap,
                        I3 i_3 H18 →
                        br (decide ((i_3 : Int) < (theirs.n : Nat))) (
                          br (decide ((i_3 : Int) < 30)) (
                            ∃ q3 : Nat,
                            ∃ o3 : Nat,
                            (theirs.p : Option Addr) = some ⟨q3, o3, none⟩ ∧
                            0 ≤ (i_3 : Int) ∧
                            (i_3 : Int) < (theirs.n : Nat) ∧
                            ∃ n10 : Int,
                            cellH H18 ⟨q3, o3 + Int.toNat i_3 * 5, none⟩ = some (.int .i64 n10) ∧
                            ∃ s5 : ByteArray,
                            cellH H18 ⟨q3, o3 + Int.toNat i_3 * 5 + 1, none⟩ = some (.string s5) ∧
                            ∃ s6 : ByteArray,
                            cellH H18 ⟨q3, o3 + Int.toNat i_3 * 5 + 2, none⟩ = some (.string s6) ∧
                            ∃ n11 : Int,
                            cellH H18 ⟨q3, o3 + Int.toNat i_3 * 5 + 3, none⟩ = some (.int .i64 n11) ∧
                            ∃ l3 : Sl,
                            cellH H18 ⟨q3, o3 + Int.toNat i_3 * 5 + 4, none⟩ = some (.slice l3.p l3.n l3.c) ∧
                            FnH Tryd.prog 27 #[.pointer p3, .agg #[.int .i64 n10, .string s5, .string s6, .int .i64 n11, .slice l3.p l3.n l3.c]] H18 fun r16 H19 =>
                              ∃ n12 : Int,
                              r16 = .int .i64 n12 ∧
                              SelfEq ([.v (.int .i64 size), .v (.slice script.p script.n script.c), .v (.slice theirs.p theirs.n theirs.c), .v (.pointer p1), .v (.pointer p3), .v (.bool b5)], [], []) ∧
                              I3 (IntKind.wrap .i64 (i_3 + 1)) H19 ∧
                              M3 (IntKind.wrap .i64 (i_3 + 1)) H19 < M3 i_3 H18)
                           (
                            FnH Tryd.prog 11 #[.int .i64 size, .int .i64 2000] H18 fun r17 H20 =>
                              ∃ n13 : Int,
                              r17 = .int .i64 n13 ∧
                              FnH Tryd.prog 25 #[.int .i64 (IntKind.wrap .i64 (1 + n13)), .slice script.p script.n script.c] H20 fun r18 H21 =>
                                ∃ p6 : Option Addr,
                                r18 = .pointer p6 ∧
                                br (Option.isNone p6) (
                                  K (.bool false) H21)
                                 (
                                  FnH Tryd.prog 28 #[.pointer p6, .pointer p1] H21 fun r19 H22 =>
                                    ∃ b6 : Bool,
                                    r19 = .bool b6 ∧
                                    br (b5) (
                                      K (.bool b6) H22)
                                     (
                                      K (.bool false) H22))))
                         (
                          FnH Tryd.prog 11 #[.int .i64 size, .int .i64 2000] H18 fun r20 H23 =>
                            ∃ n14 : Int,
                            r20 = .int .i64 n14 ∧
                            FnH Tryd.prog 25 #[.int .i64 (IntKind.wrap .i64 (1 + n14)), .slice script.p script.n script.c] H23 fun r21 H24 =>
                              ∃ p7 : Option Addr,
                              r21 = .pointer p7 ∧
                              br (Option.isNone p7) (
                                K (.bool false) H24)
                               (
                                FnH Tryd.prog 28 #[.pointer p7, .pointer p1] H24 fun r22 H25 =>
                                  ∃ b7 : Bool,
                                  r22 = .bool b7 ∧
                                  br (b5) (
                                    K (.bool b7) H25)
                                   (
                                    K (.bool false) H25))))))))
theorem logboomlaw1_DiskClones_eq (size : Int) (script : Sl) (mine : Sl) (theirs : Sl) (H : Heap) (K : Value → Heap → Prop) : logboomlaw1_DiskClones_vc size script mine theirs H K = denFn Tryd.prog logboomlaw1_DiskClones_ann Tryd.f8 (bodyOf Tryd.f8) [.int .i64 size, .slice script.p script.n script.c, .slice mine.p mine.n mine.c, .slice theirs.p theirs.n theirs.c] H K := by kernel_rfl
theorem logboomlaw1_DiskClones_fn (size : Int) (script : Sl) (mine : Sl) (theirs : Sl) {H : Heap} {K : Value → Heap → Prop} (h : logboomlaw1_DiskClones_vc size script mine theirs H K) : FnH Tryd.prog 8 #[.int .i64 size, .slice script.p script.n script.c, .slice mine.p mine.n mine.c, .slice theirs.p theirs.n theirs.c] H K :=
  denFn_fn Tryd.mixed logboomlaw1_DiskClones_ann Tryd.func8 (bodyOf_spec (by kernel_rfl)) (logboomlaw1_DiskClones_eq size script mine theirs H K) h

/-! function 9: logboom/logboomlaw1.DiskTwice -/
def logboomlaw1_DiskTwice_ann : Anns := { hid := [], loops := [], joins := [], mix := [] }
def logboomlaw1_DiskTwice_vc (size : Int) (script : Sl) (first : Sl) (then0 : Sl) (H : Heap) (K : Value → Heap → Prop) : Prop :=
  FnH Tryd.prog 10 #[] H fun r1 H1 =>
    ∃ b1 : Bool,
    r1 = .bool b1 ∧
    FnH Tryd.prog 11 #[.int .i64 size, .int .i64 2000] H1 fun r2 H2 =>
      ∃ n1 : Int,
      r2 = .int .i64 n1 ∧
      FnH Tryd.prog 25 #[.int .i64 (IntKind.wrap .i64 (1 + n1)), .slice script.p script.n script.c] H2 fun r3 H3 =>
        ∃ p1 : Option Addr,
        r3 = .pointer p1 ∧
        br (!b1) (
          K (.bool false) H3)
         (
          br (Option.isNone p1) (
            K (.bool false) H3)
           (
            FnH Tryd.prog 15 #[.pointer p1, .slice first.p first.n first.c] H3 fun r4 H4 =>
              r4 = .tuple #[] ∧
              FnH Tryd.prog 24 #[.pointer p1] H4 fun r5 H5 =>
                ∃ p2 : Option Addr,
                r5 = .pointer p2 ∧
                br (Option.isNone p2) (
                  K (.bool false) H5)
                 (
                  FnH Tryd.prog 15 #[.pointer p2, .slice then0.p then0.n then0.c] H5 fun r6 H6 =>
                    r6 = .tuple #[] ∧
                    FnH Tryd.prog 28 #[.pointer p2, .pointer p1] H6 fun r7 H7 =>
                      ∃ b2 : Bool,
                      r7 = .bool b2 ∧
                      K (.bool b2) H7)))
theorem logboomlaw1_DiskTwice_eq (size : Int) (script : Sl) (first : Sl) (then0 : Sl) (H : Heap) (K : Value → Heap → Prop) : logboomlaw1_DiskTwice_vc size script first then0 H K = denFn Tryd.prog logboomlaw1_DiskTwice_ann Tryd.f9 (bodyOf Tryd.f9) [.int .i64 size, .slice script.p script.n script.c, .slice first.p first.n first.c, .slice then0.p then0.n then0.c] H K := by kernel_rfl
theorem logboomlaw1_DiskTwice_fn (size : Int) (script : Sl) (first : Sl) (then0 : Sl) {H : Heap} {K : Value → Heap → Prop} (h : logboomlaw1_DiskTwice_vc size script first then0 H K) : FnH Tryd.prog 9 #[.int .i64 size, .slice script.p script.n script.c, .slice first.p first.n first.c, .slice then0.p then0.n then0.c] H K :=
  denFn_fn Tryd.mixed logboomlaw1_DiskTwice_ann Tryd.func9 (bodyOf_spec (by kernel_rfl)) (logboomlaw1_DiskTwice_eq size script first then0 H K) h

end Go.Proofs.YtldaflbdldepnaaDoor
