/- Formulas of functions, printed by this session's vc.py; each is tied to the program by the kernel. -/
import Derived.Test.YtcipmipadjenaaaProg
import Derived.KernelRfl
import Derived.Test.YtcipmipadjenaaaHlFn
import Derived.Test.YtcipmipadjenaaaV2
namespace Go.Proofs.Ytcipmipadjenaaa
open Go.HL
set_option maxRecDepth 100000
/-! function 6: logboom/logboomlaw2.shown -/
def logboomlaw2_shown_ann : Anns := { hid := [], loops := [], joins := [], mix := [] }
def logboomlaw2_shown_vc  (H : Heap) (K : Value → Heap → Prop) : Prop :=
  FnH Try.prog 7 #[] H fun r1 H1 =>
    ∃ p1 : Option Addr,
    r1 = .pointer p1 ∧
    br (Option.isNone p1) (
      K (.bool false) H1)
     (
      FnH Try.prog 9 #[.pointer p1, .int .i64 7, .int .i64 5] H1 fun r2 H2 =>
        ∃ n1 : Int,
        r2 = .int .i64 n1 ∧
        FnH Try.prog 9 #[.pointer p1, .int .i64 3, .int .i64 5] H2 fun r3 H3 =>
          ∃ n2 : Int,
          r3 = .int .i64 n2 ∧
          FnH Try.prog 9 #[.pointer p1, .int .i64 9, .int .i64 2] H3 fun r4 H4 =>
            ∃ n3 : Int,
            r4 = .int .i64 n3 ∧
            FnH Try.prog 19 #[.pointer p1] H4 fun r5 H5 =>
              ∃ n4 : Int,
              r5 = .int .i64 n4 ∧
              FnH Try.prog 14 #[.pointer p1, .int .i64 4] H5 fun r6 H6 =>
                ∃ l1 : Sl,
                r6 = .slice l1.p l1.n l1.c ∧
                ∀ q1 : Nat,
                H6 q1 = none →
                letH (Heap.upd H6 q1 (.cells #[.int .i64 9] 3 (0, 0))) fun H7 =>
                FnH Try.prog 13 #[.slice l1.p l1.n l1.c, .slice (some ⟨q1, 0, none⟩) 1 1] H7 fun r7 H8 =>
                  ∃ b1 : Bool,
                  r7 = .bool b1 ∧
                  FnH Try.prog 14 #[.pointer p1, .int .i64 5] H8 fun r8 H9 =>
                    ∃ l2 : Sl,
                    r8 = .slice l2.p l2.n l2.c ∧
                    ∀ q2 : Nat,
                    H9 q2 = none →
                    letH (Heap.upd H9 q2 (.cells #[.int .i64 3, .int .i64 7] 3 (0, 0))) fun H10 =>
                    FnH Try.prog 13 #[.slice l2.p l2.n l2.c, .slice (some ⟨q2, 0, none⟩) 2 2] H10 fun r9 H11 =>
                      ∃ b2 : Bool,
                      r9 = .bool b2 ∧
                      br ((n1 : Int) == 0) (
                        br ((n2 : Int) == 0) (
                          br ((n3 : Int) == 0) (
                            br ((n4 : Int) == 2) (
                              br (b1) (
                                br (b2) (
                                  FnH Try.prog 18 #[.pointer p1] H11 fun r10 H12 =>
                                    ∃ n5 : Int,
                                    r10 = .int .i64 n5 ∧
                                    br ((n5 : Int) == 0) (
                                      FnH Try.prog 19 #[.pointer p1] H12 fun r11 H13 =>
                                        ∃ n6 : Int,
                                        r11 = .int .i64 n6 ∧
                                        br ((n6 : Int) == (-1)) (
                                          FnH Try.prog 11 #[.pointer p1, .int .i64 1] H13 fun r12 H14 =>
                                            ∃ n7 : Int,
                                            r12 = .int .i64 n7 ∧
                                            K (.bool ((n7 : Int) == 8)) H14)
                                         (
                                          K (.bool false) H13))
                                     (
                                      K (.bool false) H12))
                                 (
                                  K (.bool false) H11))
                               (
                                K (.bool false) H11))
                             (
                              K (.bool false) H11))
                           (
                            K (.bool false) H11))
                         (
                          K (.bool false) H11))
                       (
                        K (.bool false) H11))
theorem logboomlaw2_shown_eq  (H : Heap) (K : Value → Heap → Prop) : logboomlaw2_shown_vc  H K = denFn Try.prog logboomlaw2_shown_ann Try.f6 (bodyOf Try.f6) [] H K := by kernel_rfl
theorem logboomlaw2_shown_fn  {H : Heap} {K : Value → Heap → Prop} (h : logboomlaw2_shown_vc  H K) : FnH Try.prog 6 #[] H K :=
  denFn_sound Try.mixed logboomlaw2_shown_ann Try.func6 (bodyOf_spec (by kernel_rfl)) ((logboomlaw2_shown_eq  H K) ▸ h)

/-! function 4: logboom/logboomlaw2.TimerMany -/
def logboomlaw2_TimerMany_ann : Anns := { hid := [], loops := [(0, { slots := [(9, .int .i64)], kept := [0, 1, 2, 8], locs := [], keptL := [] })], joins := [], mix := [] }
def logboomlaw2_TimerMany_vc (n : Int) (at0 : Int) (key : Int) (H : Heap) (K : Value → Heap → Prop) : Prop :=
  FnH Try.prog 6 #[] H fun r1 H1 =>
    ∃ b1 : Bool,
    r1 = .bool b1 ∧
    FnH Try.prog 7 #[] H1 fun r2 H2 =>
      ∃ p1 : Option Addr,
      r2 = .pointer p1 ∧
      br (!b1) (
        K (.bool false) H2)
       (
        br (Option.isNone p1) (
          K (.bool false) H2)
         (
          FnH Try.prog 8 #[.int .i64 n, .int .i64 20] H2 fun r3 H3 =>
            ∃ n1 : Int,
            r3 = .int .i64 n1 ∧
            FnH Try.prog 8 #[.int .i64 at0, .int .i64 1000000001] H3 fun r4 H4 =>
              ∃ n2 : Int,
              r4 = .int .i64 n2 ∧
              ∃ I1 : Int → Heap → Prop,
              ∃ M1 : Int → Heap → Nat,
              I1 0 H4 ∧
              ∀ i_1 : Int,
              ∀ H5 : Heap,
              I1 i_1 H5 →
              br (decide ((i_1 : Int) < (IntKind.wrap .i64 (990 + n1)))) (
                (1000000001 : Int) ≠ 0 ∧
                FnH Try.prog 9 #[.pointer p1, .int .i64 i_1, .int .i64 (Int.tmod (IntKind.wrap .i64 (n2 + (IntKind.wrap .i64 (7 * i_1)))) 1000000001)] H5 fun r5 H6 =>
                  ∃ n3 : Int,
                  r5 = .int .i64 n3 ∧
                  br (!(((n3 : Int) == 0) == (decide ((i_1 : Int) < 1000)))) (
                    K (.bool false) H6)
                   (
                    br ((n3 : Int) != 0) (
                      br ((n3 : Int) != 3) (
                        K (.bool false) H6)
                       (
                        SelfEq ([.v (.int .i64 (IntKind.wrap .i64 (990 + n1))), .v (.int .i64 n2), .v (.int .i64 key), .v (.pointer p1)], [], []) ∧
                        I1 (IntKind.wrap .i64 (i_1 + 1)) H6 ∧
                        M1 (IntKind.wrap .i64 (i_1 + 1)) H6 < M1 i_1 H5))
                     (
                      SelfEq ([.v (.int .i64 (IntKind.wrap .i64 (990 + n1))), .v (.int .i64 n2), .v (.int .i64 key), .v (.pointer p1)], [], []) ∧
                      I1 (IntKind.wrap .i64 (i_1 + 1)) H6 ∧
                      M1 (IntKind.wrap .i64 (i_1 + 1)) H6 < M1 i_1 H5)))
               (
                FnH Try.prog 8 #[.int .i64 key, .int .i64 (if 1000 < (IntKind.wrap .i64 (990 + n1)) then 1000 else (IntKind.wrap .i64 (990 + n1)))] H5 fun r6 H7 =>
                  ∃ n4 : Int,
                  r6 = .int .i64 n4 ∧
                  FnH Try.prog 18 #[.pointer p1] H7 fun r7 H8 =>
                    ∃ n5 : Int,
                    r7 = .int .i64 n5 ∧
                    br ((n5 : Int) != (if 1000 < (IntKind.wrap .i64 (990 + n1)) then 1000 else (IntKind.wrap .i64 (990 + n1)))) (
                      K (.bool false) H8)
                     (
                      FnH Try.prog 9 #[.pointer p1, .int .i64 n4, .int .i64 n2] H8 fun r8 H9 =>
                        ∃ n6 : Int,
                        r8 = .int .i64 n6 ∧
                        br ((n6 : Int) != 0) (
                          K (.bool false) H9)
                         (
                          FnH Try.prog 16 #[.pointer p1, .int .i64 n4] H9 fun r9 H10 =>
                            ∃ n7 : Int,
                            r9 = .int .i64 n7 ∧
                            br ((n7 : Int) != n2) (
                              K (.bool false) H10)
                             (
                              FnH Try.prog 18 #[.pointer p1] H10 fun r10 H11 =>
                                ∃ n8 : Int,
                                r10 = .int .i64 n8 ∧
                                br ((n8 : Int) != (if 1000 < (IntKind.wrap .i64 (990 + n1)) then 1000 else (IntKind.wrap .i64 (990 + n1)))) (
                                  K (.bool false) H11)
                                 (
                                  FnH Try.prog 11 #[.pointer p1, .int .i64 n4] H11 fun r11 H12 =>
                                    ∃ n9 : Int,
                                    r11 = .int .i64 n9 ∧
                                    br ((n9 : Int) == 0) (
                                      FnH Try.prog 9 #[.pointer p1, .int .i64 (-1), .int .i64 n2] H12 fun r12 H13 =>
                                        ∃ n10 : Int,
                                        r12 = .int .i64 n10 ∧
                                        br ((n10 : Int) == 0) (
                                          FnH Try.prog 18 #[.pointer p1] H13 fun r13 H14 =>
                                            ∃ n11 : Int,
                                            r13 = .int .i64 n11 ∧
                                            br ((n11 : Int) == (if 1000 < (IntKind.wrap .i64 (990 + n1)) then 1000 else (IntKind.wrap .i64 (990 + n1)))) (
                                              FnH Try.prog 14 #[.pointer p1, .int .i64 1000000000] H14 fun r14 H15 =>
                                                ∃ l1 : Sl,
                                                r14 = .slice l1.p l1.n l1.c ∧
                                                K (.bool (((l1.n : Nat) : Int) == (if 1000 < (IntKind.wrap .i64 (990 + n1)) then 1000 else (IntKind.wrap .i64 (990 + n1))))) H15)
                                             (
                                              K (.bool false) H14))
                                         (
                                          K (.bool false) H13))
                                     (
                                      K (.bool false) H12))))))))
theorem logboomlaw2_TimerMany_eq (n : Int) (at0 : Int) (key : Int) (H : Heap) (K : Value → Heap → Prop) : logboomlaw2_TimerMany_vc n at0 key H K = denFn Try.prog logboomlaw2_TimerMany_ann Try.f4 (bodyOf Try.f4) [.int .i64 n, .int .i64 at0, .int .i64 key] H K := by kernel_rfl
theorem logboomlaw2_TimerMany_fn (n : Int) (at0 : Int) (key : Int) {H : Heap} {K : Value → Heap → Prop} (h : logboomlaw2_TimerMany_vc n at0 key H K) : FnH Try.prog 4 #[.int .i64 n, .int .i64 at0, .int .i64 key] H K :=
  denFn_sound Try.mixed logboomlaw2_TimerMany_ann Try.func4 (bodyOf_spec (by kernel_rfl)) ((logboomlaw2_TimerMany_eq n at0 key H K) ▸ h)

/-! function 3: logboom/logboomlaw2.TimerPlays -/
def logboomlaw2_TimerPlays_ann : Anns := { hid := [7], loops := [(0, { slots := [(6, .int .i64)], kept := [0, 4, 5], locs := [], keptL := [] })], joins := [((12, 2), { slots := [(8, .bool)], kept := [0, 4, 5, 6], locs := [], keptL := [0] })], mix := [(15, []), (17, []), (19, []), (21, []), (22, [])], loose := [15, 17, 19, 21] }
def logboomlaw2_TimerPlays_vc (script : Sl) (H : Heap) (K : Value → Heap → Prop) : Prop :=
  FnH Try.prog 6 #[] H fun r1 H1 =>
    ∃ b1 : Bool,
    r1 = .bool b1 ∧
    FnH Try.prog 7 #[] H1 fun r2 H2 =>
      ∃ p1 : Option Addr,
      r2 = .pointer p1 ∧
      br (!b1) (
        K (.bool false) H2)
       (
        br (Option.isNone p1) (
          K (.bool false) H2)
         (
          ∀ q1 : Nat,
          H2 q1 = none →
          letH (Heap.upd H2 q1 (.cells #[.slice none 0 0] 29 (0, 0))) fun H3 =>
          ∃ I1 : Int → Heap → Prop,
          ∃ M1 : Int → Heap → Nat,
          I1 0 H3 ∧
          ∀ i_1 : Int,
          ∀ H4 : Heap,
          I1 i_1 H4 →
          br (decide ((i_1 : Int) < (script.n : Nat))) (
            br (decide ((i_1 : Int) < 400)) (
              ∃ q2 : Nat,
              ∃ o1 : Nat,
              (script.p : Option Addr) = some ⟨q2, o1, none⟩ ∧
              0 ≤ (i_1 : Int) ∧
              (i_1 : Int) < (script.n : Nat) ∧
              ∃ n1 : Int,
              cellH H4 ⟨q2, o1 + Int.toNat i_1 * 3, none⟩ = some (.int .i64 n1) ∧
              ∃ n2 : Int,
              cellH H4 ⟨q2, o1 + Int.toNat i_1 * 3 + 1, none⟩ = some (.int .i64 n2) ∧
              ∃ n3 : Int,
              cellH H4 ⟨q2, o1 + Int.toNat i_1 * 3 + 2, none⟩ = some (.int .i64 n3) ∧
              ∃ J1 : Bool → Heap → Prop,
              (FnH Try.prog 8 #[.int .i64 n1, .int .i64 6] H4 fun r3 H5 =>
                ∃ n4 : Int,
                r3 = .int .i64 n4 ∧
                br ((n4 : Int) == 0) (
                  br ((n4 : Int) == 0) (
                    FnH Try.prog 9 #[.pointer p1, .int .i64 n2, .int .i64 n3] H5 fun r4 H6 =>
                      ∃ n5 : Int,
                      r4 = .int .i64 n5 ∧
                      Sub Heap.emp H6 ∧
                      FnH Try.prog 10 #[.pointer (some ⟨q1, 0, none⟩), .int .i64 n2, .int .i64 n3] H6 fun r5 H7 =>
                        ∃ n6 : Int,
                        r5 = .int .i64 n6 ∧
                        Sub Heap.emp H7 ∧
                        SelfEq ([.v (.slice script.p script.n script.c), .v (.pointer p1), .v (.pointer (some ⟨q1, 0, none⟩)), .v (.int .i64 i_1)], [some (31, [.int .i64 n1, .int .i64 n2, .int .i64 n3])], []) ∧
                        J1 ((n5 : Int) == n6) H7)
                   (
                    br ((n4 : Int) == 3) (
                      FnH Try.prog 11 #[.pointer p1, .int .i64 n2] H5 fun r6 H8 =>
                        ∃ n7 : Int,
                        r6 = .int .i64 n7 ∧
                        Sub Heap.emp H8 ∧
                        FnH Try.prog 12 #[.pointer (some ⟨q1, 0, none⟩), .int .i64 n2] H8 fun r7 H9 =>
                          ∃ n8 : Int,
                          r7 = .int .i64 n8 ∧
                          Sub Heap.emp H9 ∧
                          SelfEq ([.v (.slice script.p script.n script.c), .v (.pointer p1), .v (.pointer (some ⟨q1, 0, none⟩)), .v (.int .i64 i_1)], [some (31, [.int .i64 n1, .int .i64 n2, .int .i64 n3])], []) ∧
                          J1 ((n7 : Int) == n8) H9)
                     (
                      br ((n4 : Int) == 4) (
                        FnH Try.prog 14 #[.pointer p1, .int .i64 n3] H5 fun r8 H10 =>
                          ∃ l1 : Sl,
                          r8 = .slice l1.p l1.n l1.c ∧
                          Sub Heap.emp H10 ∧
                          FnH Try.prog 15 #[.pointer (some ⟨q1, 0, none⟩), .int .i64 n3] H10 fun r9 H11 =>
                            ∃ l2 : Sl,
                            r9 = .slice l2.p l2.n l2.c ∧
                            Sub Heap.emp H11 ∧
                            FnH Try.prog 13 #[.slice l1.p l1.n l1.c, .slice l2.p l2.n l2.c] H11 fun r10 H12 =>
                              ∃ b2 : Bool,
                              r10 = .bool b2 ∧
                              Sub Heap.emp H12 ∧
                              SelfEq ([.v (.slice script.p script.n script.c), .v (.pointer p1), .v (.pointer (some ⟨q1, 0, none⟩)), .v (.int .i64 i_1)], [some (31, [.int .i64 n1, .int .i64 n2, .int .i64 n3])], []) ∧
                              J1 b2 H12)
                       (
                        br ((n4 : Int) == 5) (
                          FnH Try.prog 16 #[.pointer p1, .int .i64 n2] H5 fun r11 H13 =>
                            ∃ n9 : Int,
                            r11 = .int .i64 n9 ∧
                            Sub Heap.emp H13 ∧
                            FnH Try.prog 17 #[.pointer (some ⟨q1, 0, none⟩), .int .i64 n2] H13 fun r12 H14 =>
                              ∃ n10 : Int,
                              r12 = .int .i64 n10 ∧
                              Sub Heap.emp H14 ∧
                              SelfEq ([.v (.slice script.p script.n script.c), .v (.pointer p1), .v (.pointer (some ⟨q1, 0, none⟩)), .v (.int .i64 i_1)], [some (31, [.int .i64 n1, .int .i64 n2, .int .i64 n3])], []) ∧
                              J1 ((n9 : Int) == n10) H14)
                         (
                          SelfEq ([.v (.slice script.p script.n script.c), .v (.pointer p1), .v (.pointer (some ⟨q1, 0, none⟩)), .v (.int .i64 i_1)], [some (31, [.int .i64 n1, .int .i64 n2, .int .i64 n3])], []) ∧
                          J1 true H5)))))
                 (
                  br ((n4 : Int) == 1) (
                    br ((n4 : Int) == 1) (
                      FnH Try.prog 9 #[.pointer p1, .int .i64 n2, .int .i64 n3] H5 fun r13 H15 =>
                        ∃ n11 : Int,
                        r13 = .int .i64 n11 ∧
                        Sub Heap.emp H15 ∧
                        FnH Try.prog 10 #[.pointer (some ⟨q1, 0, none⟩), .int .i64 n2, .int .i64 n3] H15 fun r14 H16 =>
                          ∃ n12 : Int,
                          r14 = .int .i64 n12 ∧
                          Sub Heap.emp H16 ∧
                          SelfEq ([.v (.slice script.p script.n script.c), .v (.pointer p1), .v (.pointer (some ⟨q1, 0, none⟩)), .v (.int .i64 i_1)], [some (31, [.int .i64 n1, .int .i64 n2, .int .i64 n3])], []) ∧
                          J1 ((n11 : Int) == n12) H16)
                     (
                      br ((n4 : Int) == 3) (
                        FnH Try.prog 11 #[.pointer p1, .int .i64 n2] H5 fun r15 H17 =>
                          ∃ n13 : Int,
                          r15 = .int .i64 n13 ∧
                          Sub Heap.emp H17 ∧
                          FnH Try.prog 12 #[.pointer (some ⟨q1, 0, none⟩), .int .i64 n2] H17 fun r16 H18 =>
                            ∃ n14 : Int,
                            r16 = .int .i64 n14 ∧
                            Sub Heap.emp H18 ∧
                            SelfEq ([.v (.slice script.p script.n script.c), .v (.pointer p1), .v (.pointer (some ⟨q1, 0, none⟩)), .v (.int .i64 i_1)], [some (31, [.int .i64 n1, .int .i64 n2, .int .i64 n3])], []) ∧
                            J1 ((n13 : Int) == n14) H18)
                       (
                        br ((n4 : Int) == 4) (
                          FnH Try.prog 14 #[.pointer p1, .int .i64 n3] H5 fun r17 H19 =>
                            ∃ l3 : Sl,
                            r17 = .slice l3.p l3.n l3.c ∧
                            Sub Heap.emp H19 ∧
                            FnH Try.prog 15 #[.pointer (some ⟨q1, 0, none⟩), .int .i64 n3] H19 fun r18 H20 =>
                              ∃ l4 : Sl,
                              r18 = .slice l4.p l4.n l4.c ∧
                              Sub Heap.emp H20 ∧
                              FnH Try.prog 13 #[.slice l3.p l3.n l3.c, .slice l4.p l4.n l4.c] H20 fun r19 H21 =>
                                ∃ b3 : Bool,
                                r19 = .bool b3 ∧
                                Sub Heap.emp H21 ∧
                                SelfEq ([.v (.slice script.p script.n script.c), .v (.pointer p1), .v (.pointer (some ⟨q1, 0, none⟩)), .v (.int .i64 i_1)], [some (31, [.int .i64 n1, .int .i64 n2, .int .i64 n3])], []) ∧
                                J1 b3 H21)
                         (
                          br ((n4 : Int) == 5) (
                            FnH Try.prog 16 #[.pointer p1, .int .i64 n2] H5 fun r20 H22 =>
                              ∃ n15 : Int,
                              r20 = .int .i64 n15 ∧
                              Sub Heap.emp H22 ∧
                              FnH Try.prog 17 #[.pointer (some ⟨q1, 0, none⟩), .int .i64 n2] H22 fun r21 H23 =>
                                ∃ n16 : Int,
                                r21 = .int .i64 n16 ∧
                                Sub Heap.emp H23 ∧
                                SelfEq ([.v (.slice script.p script.n script.c), .v (.pointer p1), .v (.pointer (some ⟨q1, 0, none⟩)), .v (.int .i64 i_1)], [some (31, [.int .i64 n1, .int .i64 n2, .int .i64 n3])], []) ∧
                                J1 ((n15 : Int) == n16) H23)
                           (
                            SelfEq ([.v (.slice script.p script.n script.c), .v (.pointer p1), .v (.pointer (some ⟨q1, 0, none⟩)), .v (.int .i64 i_1)], [some (31, [.int .i64 n1, .int .i64 n2, .int .i64 n3])], []) ∧
                            J1 true H5)))))
                   (
                    br ((n4 : Int) == 2) (
                      FnH Try.prog 9 #[.pointer p1, .int .i64 n2, .int .i64 n3] H5 fun r22 H24 =>
                        ∃ n17 : Int,
                        r22 = .int .i64 n17 ∧
                        Sub Heap.emp H24 ∧
                        FnH Try.prog 10 #[.pointer (some ⟨q1, 0, none⟩), .int .i64 n2, .int .i64 n3] H24 fun r23 H25 =>
                          ∃ n18 : Int,
                          r23 = .int .i64 n18 ∧
                          Sub Heap.emp H25 ∧
                          SelfEq ([.v (.slice script.p script.n script.c), .v (.pointer p1), .v (.pointer (some ⟨q1, 0, none⟩)), .v (.int .i64 i_1)], [some (31, [.int .i64 n1, .int .i64 n2, .int .i64 n3])], []) ∧
                          J1 ((n17 : Int) == n18) H25)
                     (
                      br ((n4 : Int) == 3) (
                        FnH Try.prog 11 #[.pointer p1, .int .i64 n2] H5 fun r24 H26 =>
                          ∃ n19 : Int,
                          r24 = .int .i64 n19 ∧
                          Sub Heap.emp H26 ∧
                          FnH Try.prog 12 #[.pointer (some ⟨q1, 0, none⟩), .int .i64 n2] H26 fun r25 H27 =>
                            ∃ n20 : Int,
                            r25 = .int .i64 n20 ∧
                            Sub Heap.emp H27 ∧
                            SelfEq ([.v (.slice script.p script.n script.c), .v (.pointer p1), .v (.pointer (some ⟨q1, 0, none⟩)), .v (.int .i64 i_1)], [some (31, [.int .i64 n1, .int .i64 n2, .int .i64 n3])], []) ∧
                            J1 ((n19 : Int) == n20) H27)
                       (
                        br ((n4 : Int) == 4) (
                          FnH Try.prog 14 #[.pointer p1, .int .i64 n3] H5 fun r26 H28 =>
                            ∃ l5 : Sl,
                            r26 = .slice l5.p l5.n l5.c ∧
                            Sub Heap.emp H28 ∧
                            FnH Try.prog 15 #[.pointer (some ⟨q1, 0, none⟩), .int .i64 n3] H28 fun r27 H29 =>
                              ∃ l6 : Sl,
                              r27 = .slice l6.p l6.n l6.c ∧
                              Sub Heap.emp H29 ∧
                              FnH Try.prog 13 #[.slice l5.p l5.n l5.c, .slice l6.p l6.n l6.c] H29 fun r28 H30 =>
                                ∃ b4 : Bool,
                                r28 = .bool b4 ∧
                                Sub Heap.emp H30 ∧
                                SelfEq ([.v (.slice script.p script.n script.c), .v (.pointer p1), .v (.pointer (some ⟨q1, 0, none⟩)), .v (.int .i64 i_1)], [some (31, [.int .i64 n1, .int .i64 n2, .int .i64 n3])], []) ∧
                                J1 b4 H30)
                         (
                          br ((n4 : Int) == 5) (
                            FnH Try.prog 16 #[.pointer p1, .int .i64 n2] H5 fun r29 H31 =>
                              ∃ n21 : Int,
                              r29 = .int .i64 n21 ∧
                              Sub Heap.emp H31 ∧
                              FnH Try.prog 17 #[.pointer (some ⟨q1, 0, none⟩), .int .i64 n2] H31 fun r30 H32 =>
                                ∃ n22 : Int,
                                r30 = .int .i64 n22 ∧
                                Sub Heap.emp H32 ∧
                                SelfEq ([.v (.slice script.p script.n script.c), .v (.pointer p1), .v (.pointer (some ⟨q1, 0, none⟩)), .v (.int .i64 i_1)], [some (31, [.int .i64 n1, .int .i64 n2, .int .i64 n3])], []) ∧
                                J1 ((n21 : Int) == n22) H32)
                           (
                            SelfEq ([.v (.slice script.p script.n script.c), .v (.pointer p1), .v (.pointer (some ⟨q1, 0, none⟩)), .v (.int .i64 i_1)], [some (31, [.int .i64 n1, .int .i64 n2, .int .i64 n3])], []) ∧
                            J1 true H5))))))) ∧
              ∀ ok_1 : Bool,
              ∀ H33 : Heap,
              J1 ok_1 H33 →
              br (!ok_1) (
                K (.bool false) H33)
               (
                ∃ l7 : Sl,
                cellH H33 ⟨q1, 0, none⟩ = some (.slice l7.p l7.n l7.c) ∧
                FnH Try.prog 18 #[.pointer p1] H33 fun r31 H34 =>
                  ∃ n23 : Int,
                  r31 = .int .i64 n23 ∧
                  Sub H33 H34 ∧
                  br ((n23 : Int) != (l7.n : Nat)) (
                    K (.bool false) H34)
                   (
                    FnH Try.prog 19 #[.pointer p1] H34 fun r32 H35 =>
                      ∃ n24 : Int,
                      r32 = .int .i64 n24 ∧
                      Sub H33 H35 ∧
                      FnH Try.prog 20 #[.pointer (some ⟨q1, 0, none⟩)] H35 fun r33 H36 =>
                        ∃ n25 : Int,
                        r33 = .int .i64 n25 ∧
                        Sub H33 H36 ∧
                        br ((n24 : Int) != n25) (
                          K (.bool false) H36)
                         (
                          SelfEq ([.v (.slice script.p script.n script.c), .v (.pointer p1), .v (.pointer (some ⟨q1, 0, none⟩))], [], []) ∧
                          I1 (IntKind.wrap .i64 (i_1 + 1)) H36 ∧
                          M1 (IntKind.wrap .i64 (i_1 + 1)) H36 < M1 i_1 H4))))
             (
              FnH Try.prog 14 #[.pointer p1, .int .i64 1000000000] H4 fun r34 H37 =>
                ∃ l8 : Sl,
                r34 = .slice l8.p l8.n l8.c ∧
                FnH Try.prog 15 #[.pointer (some ⟨q1, 0, none⟩), .int .i64 1000000000] H37 fun r35 H38 =>
                  ∃ l9 : Sl,
                  r35 = .slice l9.p l9.n l9.c ∧
                  FnH Try.prog 13 #[.slice l8.p l8.n l8.c, .slice l9.p l9.n l9.c] H38 fun r36 H39 =>
                    ∃ b5 : Bool,
                    r36 = .bool b5 ∧
                    br (b5) (
                      FnH Try.prog 18 #[.pointer p1] H39 fun r37 H40 =>
                        ∃ n26 : Int,
                        r37 = .int .i64 n26 ∧
                        K (.bool ((n26 : Int) == 0)) H40)
                     (
                      K (.bool false) H39)))
           (
            FnH Try.prog 14 #[.pointer p1, .int .i64 1000000000] H4 fun r38 H41 =>
              ∃ l10 : Sl,
              r38 = .slice l10.p l10.n l10.c ∧
              FnH Try.prog 15 #[.pointer (some ⟨q1, 0, none⟩), .int .i64 1000000000] H41 fun r39 H42 =>
                ∃ l11 : Sl,
                r39 = .slice l11.p l11.n l11.c ∧
                FnH Try.prog 13 #[.slice l10.p l10.n l10.c, .slice l11.p l11.n l11.c] H42 fun r40 H43 =>
                  ∃ b6 : Bool,
                  r40 = .bool b6 ∧
                  br (b6) (
                    FnH Try.prog 18 #[.pointer p1] H43 fun r41 H44 =>
                      ∃ n27 : Int,
                      r41 = .int .i64 n27 ∧
                      K (.bool ((n27 : Int) == 0)) H44)
                   (
                    K (.bool false) H43))))
theorem logboomlaw2_TimerPlays_eq (script : Sl) (H : Heap) (K : Value → Heap → Prop) : logboomlaw2_TimerPlays_vc script H K = denFn Try.prog logboomlaw2_TimerPlays_ann Try.f3 (bodyOf Try.f3) [.slice script.p script.n script.c] H K := by kernel_rfl
theorem logboomlaw2_TimerPlays_fn (script : Sl) {H : Heap} {K : Value → Heap → Prop} (h : logboomlaw2_TimerPlays_vc script H K) : FnH Try.prog 3 #[.slice script.p script.n script.c] H K :=
  denFn_sound Try.mixed logboomlaw2_TimerPlays_ann Try.func3 (bodyOf_spec (by kernel_rfl)) ((logboomlaw2_TimerPlays_eq script H K) ▸ h)

end Go.Proofs.Ytcipmipadjenaaa
