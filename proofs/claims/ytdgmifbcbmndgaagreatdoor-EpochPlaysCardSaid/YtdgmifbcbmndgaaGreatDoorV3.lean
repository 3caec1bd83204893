/- Formulas of functions, printed by this session's vc.py; each is tied to the program by the kernel. -/
import Derived.Test.YtdgmifbcbmndgaaGreatDoorProg
import Derived.KernelRfl
import Derived.Test.YtdgmifbcbmndgaaGreatDoorHlFn
import Derived.Test.YtdgmifbcbmndgaaGreatDoorV2
namespace Go.Proofs.YtdgmifbcbmndgaaGreatDoor
open Go.HL
set_option maxRecDepth 100000
/-! function 21: logboom/logboomlaw7.same -/
def logboomlaw7_same_ann : Anns := { hid := [], loops := [(0, { slots := [(5, .int .i64)], kept := [0, 1], locs := [], keptL := [] })], joins := [], mix := [] }
def logboomlaw7_same_vc (a : Sl) (b : Sl) (H : Heap) (K : Value → Heap → Prop) : Prop :=
  br (((a.n : Nat) : Int) != (b.n : Nat)) (
    K (.bool false) H)
   (
    ∃ I1 : Int → Heap → Prop,
    ∃ M1 : Int → Heap → Nat,
    I1 0 H ∧
    ∀ i_1 : Int,
    ∀ H1 : Heap,
    I1 i_1 H1 →
    br (decide ((i_1 : Int) < (a.n : Nat))) (
      ∃ q1 : Nat,
      ∃ o1 : Nat,
      (a.p : Option Addr) = some ⟨q1, o1, none⟩ ∧
      0 ≤ (i_1 : Int) ∧
      (i_1 : Int) < (a.n : Nat) ∧
      ∃ n1 : Int,
      cellH H1 ⟨q1, o1 + Int.toNat i_1 * 3, none⟩ = some (.int .i64 n1) ∧
      ∃ n2 : Int,
      cellH H1 ⟨q1, o1 + Int.toNat i_1 * 3 + 1, none⟩ = some (.int .i64 n2) ∧
      ∃ s1 : ByteArray,
      cellH H1 ⟨q1, o1 + Int.toNat i_1 * 3 + 2, none⟩ = some (.string s1) ∧
      ∃ q2 : Nat,
      ∃ o2 : Nat,
      (b.p : Option Addr) = some ⟨q2, o2, none⟩ ∧
      0 ≤ (i_1 : Int) ∧
      (i_1 : Int) < (b.n : Nat) ∧
      ∃ n3 : Int,
      cellH H1 ⟨q2, o2 + Int.toNat i_1 * 3, none⟩ = some (.int .i64 n3) ∧
      ∃ n4 : Int,
      cellH H1 ⟨q2, o2 + Int.toNat i_1 * 3 + 1, none⟩ = some (.int .i64 n4) ∧
      ∃ s2 : ByteArray,
      cellH H1 ⟨q2, o2 + Int.toNat i_1 * 3 + 2, none⟩ = some (.string s2) ∧
      runR Tryz.prog (binOp .neq 51 (.agg #[.int .i64 n1, .int .i64 n2, .string s1]) (.agg #[.int .i64 n3, .int .i64 n4, .string s2])) H1 fun r1 =>
        ∃ b1 : Bool,
        r1 = .bool b1 ∧
        br (b1) (
          K (.bool false) H1)
         (
          SelfEq ([.v (.slice a.p a.n a.c), .v (.slice b.p b.n b.c)], [], []) ∧
          I1 (IntKind.wrap .i64 (i_1 + 1)) H1 ∧
          M1 (IntKind.wrap .i64 (i_1 + 1)) H1 < M1 i_1 H1))
     (
      K (.bool true) H1))
theorem logboomlaw7_same_eq (a : Sl) (b : Sl) (H : Heap) (K : Value → Heap → Prop) : logboomlaw7_same_vc a b H K = denFn Tryz.prog logboomlaw7_same_ann Tryz.f21 (bodyOf Tryz.f21) [.slice a.p a.n a.c, .slice b.p b.n b.c] H K := by kernel_rfl
theorem logboomlaw7_same_fn (a : Sl) (b : Sl) {H : Heap} {K : Value → Heap → Prop} (h : logboomlaw7_same_vc a b H K) : FnH Tryz.prog 21 #[.slice a.p a.n a.c, .slice b.p b.n b.c] H K :=
  denFn_fn Tryz.mixed logboomlaw7_same_ann Tryz.func21 (bodyOf_spec (by kernel_rfl)) (logboomlaw7_same_eq a b H K) h

/-! function 6: logboom/logboomlaw7.opened -/
def logboomlaw7_opened_ann : Anns := { hid := [], loops := [], joins := [], mix := [] }
def logboomlaw7_opened_vc (size : Int) (H : Heap) (K : Value → Heap → Prop) : Prop :=
  FnH Tryz.prog 28 #[.int .i64 size] H fun r1 H1 =>
    ∃ p1 : Option Addr,
    ∃ n1 : Int,
    r1 = .tuple #[.pointer p1, .int .i64 n1] ∧
    br (Option.isNone p1) (
      K (.tuple #[.pointer none, .pointer none]) H1)
     (
      br ((n1 : Int) != 0) (
        K (.tuple #[.pointer none, .pointer none]) H1)
       (
        FnH Tryz.prog 19 #[.pointer p1, .string (⟨#[101, 112, 111, 99, 104, 115]⟩ : ByteArray)] H1 fun r2 H2 =>
          ∃ p2 : Option Addr,
          ∃ n2 : Int,
          r2 = .tuple #[.pointer p2, .int .i64 n2] ∧
          br (Option.isNone p2) (
            K (.tuple #[.pointer none, .pointer none]) H2)
           (
            br ((n2 : Int) != 0) (
              K (.tuple #[.pointer none, .pointer none]) H2)
             (
              K (.tuple #[.pointer p2, .pointer p1]) H2))))
theorem logboomlaw7_opened_eq (size : Int) (H : Heap) (K : Value → Heap → Prop) : logboomlaw7_opened_vc size H K = denFn Tryz.prog logboomlaw7_opened_ann Tryz.f6 (bodyOf Tryz.f6) [.int .i64 size] H K := by kernel_rfl
theorem logboomlaw7_opened_fn (size : Int) {H : Heap} {K : Value → Heap → Prop} (h : logboomlaw7_opened_vc size H K) : FnH Tryz.prog 6 #[.int .i64 size] H K :=
  denFn_fn Tryz.mixed logboomlaw7_opened_ann Tryz.func6 (bodyOf_spec (by kernel_rfl)) (logboomlaw7_opened_eq size H K) h

/-! function 4: logboom/logboomlaw7.shown -/
def logboomlaw7_shown_ann : Anns := { hid := [], loops := [], joins := [], mix := [] }
def logboomlaw7_shown_vc  (H : Heap) (K : Value → Heap → Prop) : Prop :=
  FnH Tryz.prog 6 #[.int .i64 1000] H fun r1 H1 =>
    ∃ p1 : Option Addr,
    ∃ p2 : Option Addr,
    r1 = .tuple #[.pointer p1, .pointer p2] ∧
    br (Option.isNone p1) (
      K (.bool false) H1)
     (
      br (Option.isNone p2) (
        K (.bool false) H1)
       (
        FnH Tryz.prog 25 #[.pointer p1] H1 fun r2 H2 =>
          ∃ n1 : Int,
          r2 = .int .i64 n1 ∧
          br ((n1 : Int) != (-1)) (
            K (.bool false) H2)
           (
            FnH Tryz.prog 9 #[.pointer p1, .int .i64 1, .int .i64 0] H2 fun r3 H3 =>
              ∃ n2 : Int,
              r3 = .int .i64 n2 ∧
              FnH Tryz.prog 9 #[.pointer p1, .int .i64 3, .int .i64 10] H3 fun r4 H4 =>
                ∃ n3 : Int,
                r4 = .int .i64 n3 ∧
                FnH Tryz.prog 9 #[.pointer p1, .int .i64 2, .int .i64 20] H4 fun r5 H5 =>
                  ∃ n4 : Int,
                  r5 = .int .i64 n4 ∧
                  FnH Tryz.prog 9 #[.pointer p1, .int .i64 5, .int .i64 10] H5 fun r6 H6 =>
                    ∃ n5 : Int,
                    r6 = .int .i64 n5 ∧
                    FnH Tryz.prog 9 #[.pointer p1, .int .i64 6, .int .i64 30] H6 fun r7 H7 =>
                      ∃ n6 : Int,
                      r7 = .int .i64 n6 ∧
                      FnH Tryz.prog 15 #[.pointer p1, .int .i64 4, .int .i64 40] H7 fun r8 H8 =>
                        ∃ n7 : Int,
                        ∃ n8 : Int,
                        r8 = .tuple #[.int .i64 n7, .int .i64 n8] ∧
                        FnH Tryz.prog 20 #[.pointer p1] H8 fun r9 H9 =>
                          ∃ l1 : Sl,
                          r9 = .slice l1.p l1.n l1.c ∧
                          ∀ q1 : Nat,
                          H9 q1 = none →
                          letH (Heap.upd H9 q1 (.cells #[.int .i64 1, .int .i64 0, .string (⟨#[]⟩ : ByteArray), .int .i64 5, .int .i64 10, .string (⟨#[]⟩ : ByteArray), .int .i64 6, .int .i64 30, .string (⟨#[]⟩ : ByteArray)] 51 (0, 0))) fun H10 =>
                          FnH Tryz.prog 21 #[.slice l1.p l1.n l1.c, .slice (some ⟨q1, 0, none⟩) 3 3] H10 fun r10 H11 =>
                            ∃ b1 : Bool,
                            r10 = .bool b1 ∧
                            br ((n2 : Int) == 0) (
                              br ((n3 : Int) == 0) (
                                br ((n4 : Int) == 13) (
                                  br ((n5 : Int) == 0) (
                                    br ((n6 : Int) == 0) (
                                      br ((n7 : Int) == 1) (
                                        br ((n8 : Int) == 10) (
                                          br (b1) (
                                            FnH Tryz.prog 25 #[.pointer p1] H11 fun r11 H12 =>
                                              ∃ n9 : Int,
                                              r11 = .int .i64 n9 ∧
                                              br ((n9 : Int) == 6) (
                                                FnH Tryz.prog 27 #[.pointer p2, .string (⟨#[101, 112, 111, 99, 104, 115]⟩ : ByteArray)] H12 fun r12 H13 =>
                                                  ∃ n10 : Int,
                                                  r12 = .int .i64 n10 ∧
                                                  K (.bool (decide ((n10 : Int) > 0))) H13)
                                               (
                                                K (.bool false) H12))
                                           (
                                            K (.bool false) H11))
                                         (
                                          K (.bool false) H11))
                                       (
                                        K (.bool false) H11))
                                     (
                                      K (.bool false) H11))
                                   (
                                    K (.bool false) H11))
                                 (
                                  K (.bool false) H11))
                               (
                                K (.bool false) H11))
                             (
                              K (.bool false) H11))))
theorem logboomlaw7_shown_eq  (H : Heap) (K : Value → Heap → Prop) : logboomlaw7_shown_vc  H K = denFn Tryz.prog logboomlaw7_shown_ann Tryz.f4 (bodyOf Tryz.f4) [] H K := by kernel_rfl
theorem logboomlaw7_shown_fn  {H : Heap} {K : Value → Heap → Prop} (h : logboomlaw7_shown_vc  H K) : FnH Tryz.prog 4 #[] H K :=
  denFn_fn Tryz.mixed logboomlaw7_shown_ann Tryz.func4 (bodyOf_spec (by kernel_rfl)) (logboomlaw7_shown_eq  H K) h

/-! function 8: logboom/logboomref7.Open -/
def logboomref7_Open_ann : Anns := { hid := [], loops := [], joins := [], mix := [] }
def logboomref7_Open_vc (d0 : Nat) (d0o : Nat) (name : ByteArray) (H : Heap) (K : Value → Heap → Prop) : Prop :=
  FnH Tryz.prog 24 #[.pointer (some ⟨d0, d0o, none⟩), .string name] H fun r1 H1 =>
    ∃ s1 : ByteArray,
    ∃ n1 : Int,
    r1 = .tuple #[.string s1, .int .i64 n1] ∧
    br ((n1 : Int) != 0) (
      ∀ q1 : Nat,
      H1 q1 = none →
      letH (Heap.upd H1 q1 (.cells #[.pointer (some ⟨d0, d0o, none⟩), .string name, .slice none 0 0] 60 (0, 0))) fun H2 =>
      K (.tuple #[.pointer (some ⟨q1, 0, none⟩), .int .i64 0]) H2)
     (
      FnH Tryz.prog 29 #[.string s1] H1 fun r2 H3 =>
        ∃ l1 : Sl,
        ∃ n2 : Int,
        r2 = .tuple #[.slice l1.p l1.n l1.c, .int .i64 n2] ∧
        br ((n2 : Int) != 0) (
          K (.tuple #[.pointer none, .int .i64 n2]) H3)
         (
          ∀ q2 : Nat,
          H3 q2 = none →
          letH (Heap.upd H3 q2 (.cells #[.pointer (some ⟨d0, d0o, none⟩), .string name, .slice l1.p l1.n l1.c] 60 (0, 0))) fun H4 =>
          K (.tuple #[.pointer (some ⟨q2, 0, none⟩), .int .i64 0]) H4))
theorem logboomref7_Open_eq (d0 : Nat) (d0o : Nat) (name : ByteArray) (H : Heap) (K : Value → Heap → Prop) : logboomref7_Open_vc d0 d0o name H K = denFn Tryz.prog logboomref7_Open_ann Tryz.f8 (bodyOf Tryz.f8) [.pointer (some ⟨d0, d0o, none⟩), .string name] H K := by kernel_rfl
theorem logboomref7_Open_fn (d0 : Nat) (d0o : Nat) (name : ByteArray) {H : Heap} {K : Value → Heap → Prop} (h : logboomref7_Open_vc d0 d0o name H K) : FnH Tryz.prog 8 #[.pointer (some ⟨d0, d0o, none⟩), .string name] H K :=
  denFn_fn Tryz.mixed logboomref7_Open_ann Tryz.func8 (bodyOf_spec (by kernel_rfl)) (logboomref7_Open_eq d0 d0o name H K) h

/-! function 10: (*logboom/logboomref7.Cache).Begin -/
def logboomref7_Cache_Begin_ann : Anns := { hid := [9], loops := [], joins := [], mix := [(6, [13])] }
def logboomref7_Cache_Begin_vc (c : Nat) (co : Nat) (epoch : Int) (offset : Int) (H : Heap) (K : Value → Heap → Prop) : Prop :=
  FnH Tryz.prog 34 #[.int .i64 epoch] H fun r1 H1 =>
    ∃ b1 : Bool,
    r1 = .bool b1 ∧
    FnH Tryz.prog 34 #[.int .i64 offset] H1 fun r2 H2 =>
      ∃ b2 : Bool,
      r2 = .bool b2 ∧
      br (!b1) (
        K (.int .i64 1) H2)
       (
        br (!b2) (
          K (.int .i64 1) H2)
         (
          ∃ l1 : Sl,
          cellH H2 ⟨c, co + 2, none⟩ = some (.slice l1.p l1.n l1.c) ∧
          br (decide (((l1.n : Nat) : Int) > 0)) (
            ∃ l2 : Sl,
            cellH H2 ⟨c, co + 2, none⟩ = some (.slice l2.p l2.n l2.c) ∧
            ∃ l3 : Sl,
            cellH H2 ⟨c, co + 2, none⟩ = some (.slice l3.p l3.n l3.c) ∧
            ∃ q1 : Nat,
            ∃ o1 : Nat,
            (l2.p : Option Addr) = some ⟨q1, o1, none⟩ ∧
            0 ≤ ((IntKind.wrap .i64 ((l3.n : Nat) - 1)) : Int) ∧
            ((IntKind.wrap .i64 ((l3.n : Nat) - 1)) : Int) < (l2.n : Nat) ∧
            ∃ n1 : Int,
            cellH H2 ⟨q1, o1 + Int.toNat (IntKind.wrap .i64 ((l3.n : Nat) - 1)) * 3, none⟩ = some (.int .i64 n1) ∧
            ∃ n2 : Int,
            cellH H2 ⟨q1, o1 + Int.toNat (IntKind.wrap .i64 ((l3.n : Nat) - 1)) * 3 + 1, none⟩ = some (.int .i64 n2) ∧
            ∃ s1 : ByteArray,
            cellH H2 ⟨q1, o1 + Int.toNat (IntKind.wrap .i64 ((l3.n : Nat) - 1)) * 3 + 2, none⟩ = some (.string s1) ∧
            Sub H2 H2 ∧
            br ((epoch : Int) == n1) (
              br (decide ((offset : Int) ≥ n2)) (
                K (.int .i64 0) H2)
               (
                br (decide ((epoch : Int) ≤ n1)) (
                  K (.int .i64 13) H2)
                 (
                  FnH Tryz.prog 35 #[.pointer (some ⟨c, co, none⟩), .int .i64 offset] H2 fun r3 H3 =>
                    ∃ l4 : Sl,
                    r3 = .slice l4.p l4.n l4.c ∧
                    ∀ q2 : Nat,
                    H3 q2 = none →
                    letH (Heap.upd H3 q2 (.cells #[.int .i64 epoch, .int .i64 offset, .string (⟨#[]⟩ : ByteArray)] 51 (0, 0))) fun H4 =>
                    runH Tryz.prog (Builtin.append_ #[44, 44] 44 #[.slice l4.p l4.n l4.c, .slice (some ⟨q2, 0, none⟩) 1 1]) H4 fun r4 H5 =>
                      ∃ l5 : Sl,
                      r4 = .slice l5.p l5.n l5.c ∧
                      br (decide (((l5.n : Nat) : Int) > 200)) (
                        K (.int .i64 3) H5)
                       (
                        FnH Tryz.prog 36 #[.pointer (some ⟨c, co, none⟩), .slice l5.p l5.n l5.c] H5 fun r5 H6 =>
                          ∃ n3 : Int,
                          r5 = .int .i64 n3 ∧
                          K (.int .i64 n3) H6))))
             (
              br (decide ((epoch : Int) ≤ n1)) (
                K (.int .i64 13) H2)
               (
                FnH Tryz.prog 35 #[.pointer (some ⟨c, co, none⟩), .int .i64 offset] H2 fun r6 H7 =>
                  ∃ l6 : Sl,
                  r6 = .slice l6.p l6.n l6.c ∧
                  ∀ q3 : Nat,
                  H7 q3 = none →
                  letH (Heap.upd H7 q3 (.cells #[.int .i64 epoch, .int .i64 offset, .string (⟨#[]⟩ : ByteArray)] 51 (0, 0))) fun H8 =>
                  runH Tryz.prog (Builtin.append_ #[44, 44] 44 #[.slice l6.p l6.n l6.c, .slice (some ⟨q3, 0, none⟩) 1 1]) H8 fun r7 H9 =>
                    ∃ l7 : Sl,
                    r7 = .slice l7.p l7.n l7.c ∧
                    br (decide (((l7.n : Nat) : Int) > 200)) (
                      K (.int .i64 3) H9)
                     (
                      FnH Tryz.prog 36 #[.pointer (some ⟨c, co, none⟩), .slice l7.p l7.n l7.c] H9 fun r8 H10 =>
                        ∃ n4 : Int,
                        r8 = .int .i64 n4 ∧
                        K (.int .i64 n4) H10))))
           (
            FnH Tryz.prog 35 #[.pointer (some ⟨c, co, none⟩), .int .i64 offset] H2 fun r9 H11 =>
              ∃ l8 : Sl,
              r9 = .slice l8.p l8.n l8.c ∧
              ∀ q4 : Nat,
              H11 q4 = none →
              letH (Heap.upd H11 q4 (.cells #[.int .i64 epoch, .int .i64 offset, .string (⟨#[]⟩ : ByteArray)] 51 (0, 0))) fun H12 =>
              runH Tryz.prog (Builtin.append_ #[44, 44] 44 #[.slice l8.p l8.n l8.c, .slice (some ⟨q4, 0, none⟩) 1 1]) H12 fun r10 H13 =>
                ∃ l9 : Sl,
                r10 = .slice l9.p l9.n l9.c ∧
                br (decide (((l9.n : Nat) : Int) > 200)) (
                  K (.int .i64 3) H13)
                 (
                  FnH Tryz.prog 36 #[.pointer (some ⟨c, co, none⟩), .slice l9.p l9.n l9.c] H13 fun r11 H14 =>
                    ∃ n5 : Int,
                    r11 = .int .i64 n5 ∧
                    K (.int .i64 n5) H14))))
theorem logboomref7_Cache_Begin_eq (c : Nat) (co : Nat) (epoch : Int) (offset : Int) (H : Heap) (K : Value → Heap → Prop) : logboomref7_Cache_Begin_vc c co epoch offset H K = denFn Tryz.prog logboomref7_Cache_Begin_ann Tryz.f10 (bodyOf Tryz.f10) [.pointer (some ⟨c, co, none⟩), .int .i64 epoch, .int .i64 offset] H K := by kernel_rfl
theorem logboomref7_Cache_Begin_fn (c : Nat) (co : Nat) (epoch : Int) (offset : Int) {H : Heap} {K : Value → Heap → Prop} (h : logboomref7_Cache_Begin_vc c co epoch offset H K) : FnH Tryz.prog 10 #[.pointer (some ⟨c, co, none⟩), .int .i64 epoch, .int .i64 offset] H K :=
  denFn_fn Tryz.mixed logboomref7_Cache_Begin_ann Tryz.func10 (bodyOf_spec (by kernel_rfl)) (logboomref7_Cache_Begin_eq c co epoch offset H K) h

/-! function 12: (*logboom/logboomref7.Cache).Cut -/
def logboomref7_Cache_Cut_ann : Anns := { hid := [], loops := [], joins := [], mix := [] }
def logboomref7_Cache_Cut_vc (c : Nat) (co : Nat) (offset : Int) (H : Heap) (K : Value → Heap → Prop) : Prop :=
  FnH Tryz.prog 34 #[.int .i64 offset] H fun r1 H1 =>
    ∃ b1 : Bool,
    r1 = .bool b1 ∧
    br (!b1) (
      K (.int .i64 1) H1)
     (
      FnH Tryz.prog 35 #[.pointer (some ⟨c, co, none⟩), .int .i64 offset] H1 fun r2 H2 =>
        ∃ l1 : Sl,
        r2 = .slice l1.p l1.n l1.c ∧
        FnH Tryz.prog 36 #[.pointer (some ⟨c, co, none⟩), .slice l1.p l1.n l1.c] H2 fun r3 H3 =>
          ∃ n1 : Int,
          r3 = .int .i64 n1 ∧
          K (.int .i64 n1) H3)
theorem logboomref7_Cache_Cut_eq (c : Nat) (co : Nat) (offset : Int) (H : Heap) (K : Value → Heap → Prop) : logboomref7_Cache_Cut_vc c co offset H K = denFn Tryz.prog logboomref7_Cache_Cut_ann Tryz.f12 (bodyOf Tryz.f12) [.pointer (some ⟨c, co, none⟩), .int .i64 offset] H K := by kernel_rfl
theorem logboomref7_Cache_Cut_fn (c : Nat) (co : Nat) (offset : Int) {H : Heap} {K : Value → Heap → Prop} (h : logboomref7_Cache_Cut_vc c co offset H K) : FnH Tryz.prog 12 #[.pointer (some ⟨c, co, none⟩), .int .i64 offset] H K :=
  denFn_fn Tryz.mixed logboomref7_Cache_Cut_ann Tryz.func12 (bodyOf_spec (by kernel_rfl)) (logboomref7_Cache_Cut_eq c co offset H K) h

/-! function 14: (*logboom/logboomref7.Cache).Delete -/
def logboomref7_Cache_Delete_ann : Anns := { hid := [8], loops := [(0, { slots := [(6, .slice), (7, .int .i64)], kept := [0, 1], locs := [], keptL := [] })], joins := [], mix := [] }
def logboomref7_Cache_Delete_vc (c : Nat) (co : Nat) (offset : Int) (H : Heap) (K : Value → Heap → Prop) : Prop :=
  FnH Tryz.prog 34 #[.int .i64 offset] H fun r1 H1 =>
    ∃ b1 : Bool,
    r1 = .bool b1 ∧
    br (!b1) (
      K (.int .i64 1) H1)
     (
      ∃ I1 : Sl → Int → Heap → Prop,
      ∃ M1 : Sl → Int → Heap → Nat,
      I1 ⟨none, 0, 0⟩ 0 H1 ∧
      ∀ out_1 : Sl,
      ∀ i_1 : Int,
      ∀ H2 : Heap,
      I1 out_1 i_1 H2 →
      ∃ l1 : Sl,
      cellH H2 ⟨c, co + 2, none⟩ = some (.slice l1.p l1.n l1.c) ∧
      br (decide ((i_1 : Int) < (l1.n : Nat))) (
        ∃ l2 : Sl,
        cellH H2 ⟨c, co + 2, none⟩ = some (.slice l2.p l2.n l2.c) ∧
        br (decide (((IntKind.wrap .i64 (i_1 + 1)) : Int) < (l2.n : Nat))) (
          ∃ l3 : Sl,
          cellH H2 ⟨c, co + 2, none⟩ = some (.slice l3.p l3.n l3.c) ∧
          ∃ q1 : Nat,
          ∃ o1 : Nat,
          (l3.p : Option Addr) = some ⟨q1, o1, none⟩ ∧
          0 ≤ ((IntKind.wrap .i64 (i_1 + 1)) : Int) ∧
          ((IntKind.wrap .i64 (i_1 + 1)) : Int) < (l3.n : Nat) ∧
          ∃ n1 : Int,
          cellH H2 ⟨q1, o1 + Int.toNat (IntKind.wrap .i64 (i_1 + 1)) * 3 + 1, none⟩ = some (.int .i64 n1) ∧
          br (decide ((n1 : Int) ≤ offset)) (
            SelfEq ([.v (.pointer (some ⟨c, co, none⟩)), .v (.int .i64 offset)], [], []) ∧
            I1 out_1 (IntKind.wrap .i64 (i_1 + 1)) H2 ∧
            M1 out_1 (IntKind.wrap .i64 (i_1 + 1)) H2 < M1 out_1 i_1 H2)
           (
            ∃ l4 : Sl,
            cellH H2 ⟨c, co + 2, none⟩ = some (.slice l4.p l4.n l4.c) ∧
            ∃ q2 : Nat,
            ∃ o2 : Nat,
            (l4.p : Option Addr) = some ⟨q2, o2, none⟩ ∧
            0 ≤ (i_1 : Int) ∧
            (i_1 : Int) < (l4.n : Nat) ∧
            ∃ n2 : Int,
            cellH H2 ⟨q2, o2 + Int.toNat i_1 * 3, none⟩ = some (.int .i64 n2) ∧
            ∃ n3 : Int,
            cellH H2 ⟨q2, o2 + Int.toNat i_1 * 3 + 1, none⟩ = some (.int .i64 n3) ∧
            ∃ s1 : ByteArray,
            cellH H2 ⟨q2, o2 + Int.toNat i_1 * 3 + 2, none⟩ = some (.string s1) ∧
            br (decide (((out_1.n : Nat) : Int) > 0)) (
              ∃ l5 : Sl,
              cellH H2 ⟨c, co + 2, none⟩ = some (.slice l5.p l5.n l5.c) ∧
              ∃ q3 : Nat,
              ∃ o3 : Nat,
              (l5.p : Option Addr) = some ⟨q3, o3, none⟩ ∧
              0 ≤ (i_1 : Int) ∧
              (i_1 : Int) < (l5.n : Nat) ∧
              ∃ n4 : Int,
              cellH H2 ⟨q3, o3 + Int.toNat i_1 * 3 + 1, none⟩ = some (.int .i64 n4) ∧
              ∀ q4 : Nat,
              H2 q4 = none →
              letH (Heap.upd H2 q4 (.cells #[.int .i64 n2, .int .i64 n4, .string s1] 51 (0, 0))) fun H3 =>
              runH Tryz.prog (Builtin.append_ #[44, 44] 44 #[.slice out_1.p out_1.n out_1.c, .slice (some ⟨q4, 0, none⟩) 1 1]) H3 fun r2 H4 =>
                ∃ l6 : Sl,
                r2 = .slice l6.p l6.n l6.c ∧
                SelfEq ([.v (.pointer (some ⟨c, co, none⟩)), .v (.int .i64 offset)], [], []) ∧
                I1 l6 (IntKind.wrap .i64 (i_1 + 1)) H4 ∧
                M1 l6 (IntKind.wrap .i64 (i_1 + 1)) H4 < M1 out_1 i_1 H2)
             (
              ∀ q5 : Nat,
              H2 q5 = none →
              letH (Heap.upd H2 q5 (.cells #[.int .i64 n2, .int .i64 (if offset > n3 then offset else n3), .string s1] 51 (0, 0))) fun H5 =>
              runH Tryz.prog (Builtin.append_ #[44, 44] 44 #[.slice out_1.p out_1.n out_1.c, .slice (some ⟨q5, 0, none⟩) 1 1]) H5 fun r3 H6 =>
                ∃ l7 : Sl,
                r3 = .slice l7.p l7.n l7.c ∧
                SelfEq ([.v (.pointer (some ⟨c, co, none⟩)), .v (.int .i64 offset)], [], []) ∧
                I1 l7 (IntKind.wrap .i64 (i_1 + 1)) H6 ∧
                M1 l7 (IntKind.wrap .i64 (i_1 + 1)) H6 < M1 out_1 i_1 H2)))
         (
          ∃ l8 : Sl,
          cellH H2 ⟨c, co + 2, none⟩ = some (.slice l8.p l8.n l8.c) ∧
          ∃ q6 : Nat,
          ∃ o4 : Nat,
          (l8.p : Option Addr) = some ⟨q6, o4, none⟩ ∧
          0 ≤ (i_1 : Int) ∧
          (i_1 : Int) < (l8.n : Nat) ∧
          ∃ n5 : Int,
          cellH H2 ⟨q6, o4 + Int.toNat i_1 * 3, none⟩ = some (.int .i64 n5) ∧
          ∃ n6 : Int,
          cellH H2 ⟨q6, o4 + Int.toNat i_1 * 3 + 1, none⟩ = some (.int .i64 n6) ∧
          ∃ s2 : ByteArray,
          cellH H2 ⟨q6, o4 + Int.toNat i_1 * 3 + 2, none⟩ = some (.string s2) ∧
          br (decide (((out_1.n : Nat) : Int) > 0)) (
            ∃ l9 : Sl,
            cellH H2 ⟨c, co + 2, none⟩ = some (.slice l9.p l9.n l9.c) ∧
            ∃ q7 : Nat,
            ∃ o5 : Nat,
            (l9.p : Option Addr) = some ⟨q7, o5, none⟩ ∧
            0 ≤ (i_1 : Int) ∧
            (i_1 : Int) < (l9.n : Nat) ∧
            ∃ n7 : Int,
            cellH H2 ⟨q7, o5 + Int.toNat i_1 * 3 + 1, none⟩ = some (.int .i64 n7) ∧
            ∀ q8 : Nat,
            H2 q8 = none →
            letH (Heap.upd H2 q8 (.cells #[.int .i64 n5, .int .i64 n7, .string s2] 51 (0, 0))) fun H7 =>
            runH Tryz.prog (Builtin.append_ #[44, 44] 44 #[.slice out_1.p out_1.n out_1.c, .slice (some ⟨q8, 0, none⟩) 1 1]) H7 fun r4 H8 =>
              ∃ l10 : Sl,
              r4 = .slice l10.p l10.n l10.c ∧
              SelfEq ([.v (.pointer (some ⟨c, co, none⟩)), .v (.int .i64 offset)], [], []) ∧
              I1 l10 (IntKind.wrap .i64 (i_1 + 1)) H8 ∧
              M1 l10 (IntKind.wrap .i64 (i_1 + 1)) H8 < M1 out_1 i_1 H2)
           (
            ∀ q9 : Nat,
            H2 q9 = none →
            letH (Heap.upd H2 q9 (.cells #[.int .i64 n5, .int .i64 (if offset > n6 then offset else n6), .string s2] 51 (0, 0))) fun H9 =>
            runH Tryz.prog (Builtin.append_ #[44, 44] 44 #[.slice out_1.p out_1.n out_1.c, .slice (some ⟨q9, 0, none⟩) 1 1]) H9 fun r5 H10 =>
              ∃ l11 : Sl,
              r5 = .slice l11.p l11.n l11.c ∧
              SelfEq ([.v (.pointer (some ⟨c, co, none⟩)), .v (.int .i64 offset)], [], []) ∧
              I1 l11 (IntKind.wrap .i64 (i_1 + 1)) H10 ∧
              M1 l11 (IntKind.wrap .i64 (i_1 + 1)) H10 < M1 out_1 i_1 H2)))
       (
        FnH Tryz.prog 36 #[.pointer (some ⟨c, co, none⟩), .slice out_1.p out_1.n out_1.c] H2 fun r6 H11 =>
          ∃ n8 : Int,
          r6 = .int .i64 n8 ∧
          K (.int .i64 n8) H11))
theorem logboomref7_Cache_Delete_eq (c : Nat) (co : Nat) (offset : Int) (H : Heap) (K : Value → Heap → Prop) : logboomref7_Cache_Delete_vc c co offset H K = denFn Tryz.prog logboomref7_Cache_Delete_ann Tryz.f14 (bodyOf Tryz.f14) [.pointer (some ⟨c, co, none⟩), .int .i64 offset] H K := by kernel_rfl
theorem logboomref7_Cache_Delete_fn (c : Nat) (co : Nat) (offset : Int) {H : Heap} {K : Value → Heap → Prop} (h : logboomref7_Cache_Delete_vc c co offset H K) : FnH Tryz.prog 14 #[.pointer (some ⟨c, co, none⟩), .int .i64 offset] H K :=
  denFn_fn Tryz.mixed logboomref7_Cache_Delete_ann Tryz.func14 (bodyOf_spec (by kernel_rfl)) (logboomref7_Cache_Delete_eq c co offset H K) h

/-! function 16: (*logboom/logboomref7.Cache).End -/
def logboomref7_Cache_End_ann : Anns := { hid := [], loops := [(0, { slots := [(8, .int .i64)], kept := [0, 1, 2], locs := [], keptL := [] })], joins := [], mix := [] }
def logboomref7_Cache_End_vc (c : Nat) (co : Nat) (epoch : Int) (next : Int) (H : Heap) (K : Value → Heap → Prop) : Prop :=
  ∃ l1 : Sl,
  cellH H ⟨c, co + 2, none⟩ = some (.slice l1.p l1.n l1.c) ∧
  ∃ I1 : Int → Heap → Prop,
  ∃ M1 : Int → Heap → Nat,
  I1 (IntKind.wrap .i64 ((l1.n : Nat) - 1)) H ∧
  ∀ i_1 : Int,
  ∀ H1 : Heap,
  I1 i_1 H1 →
  br (decide ((i_1 : Int) ≥ 0)) (
    ∃ l2 : Sl,
    cellH H1 ⟨c, co + 2, none⟩ = some (.slice l2.p l2.n l2.c) ∧
    ∃ q1 : Nat,
    ∃ o1 : Nat,
    (l2.p : Option Addr) = some ⟨q1, o1, none⟩ ∧
    0 ≤ (i_1 : Int) ∧
    (i_1 : Int) < (l2.n : Nat) ∧
    ∃ n1 : Int,
    cellH H1 ⟨q1, o1 + Int.toNat i_1 * 3, none⟩ = some (.int .i64 n1) ∧
    br (decide ((n1 : Int) > epoch)) (
      SelfEq ([.v (.pointer (some ⟨c, co, none⟩)), .v (.int .i64 epoch), .v (.int .i64 next)], [], []) ∧
      I1 (IntKind.wrap .i64 (i_1 - 1)) H1 ∧
      M1 (IntKind.wrap .i64 (i_1 - 1)) H1 < M1 i_1 H1)
     (
      ∃ l3 : Sl,
      cellH H1 ⟨c, co + 2, none⟩ = some (.slice l3.p l3.n l3.c) ∧
      br (decide (((IntKind.wrap .i64 (i_1 + 1)) : Int) < (l3.n : Nat))) (
        ∃ l4 : Sl,
        cellH H1 ⟨c, co + 2, none⟩ = some (.slice l4.p l4.n l4.c) ∧
        ∃ q2 : Nat,
        ∃ o2 : Nat,
        (l4.p : Option Addr) = some ⟨q2, o2, none⟩ ∧
        0 ≤ (i_1 : Int) ∧
        (i_1 : Int) < (l4.n : Nat) ∧
        ∃ n2 : Int,
        cellH H1 ⟨q2, o2 + Int.toNat i_1 * 3, none⟩ = some (.int .i64 n2) ∧
        ∃ l5 : Sl,
        cellH H1 ⟨c, co + 2, none⟩ = some (.slice l5.p l5.n l5.c) ∧
        ∃ q3 : Nat,
        ∃ o3 : Nat,
        (l5.p : Option Addr) = some ⟨q3, o3, none⟩ ∧
        0 ≤ ((IntKind.wrap .i64 (i_1 + 1)) : Int) ∧
        ((IntKind.wrap .i64 (i_1 + 1)) : Int) < (l5.n : Nat) ∧
        ∃ n3 : Int,
        cellH H1 ⟨q3, o3 + Int.toNat (IntKind.wrap .i64 (i_1 + 1)) * 3 + 1, none⟩ = some (.int .i64 n3) ∧
        K (.tuple #[.int .i64 n2, .int .i64 n3]) H1)
       (
        ∃ l6 : Sl,
        cellH H1 ⟨c, co + 2, none⟩ = some (.slice l6.p l6.n l6.c) ∧
        ∃ q4 : Nat,
        ∃ o4 : Nat,
        (l6.p : Option Addr) = some ⟨q4, o4, none⟩ ∧
        0 ≤ (i_1 : Int) ∧
        (i_1 : Int) < (l6.n : Nat) ∧
        ∃ n4 : Int,
        cellH H1 ⟨q4, o4 + Int.toNat i_1 * 3, none⟩ = some (.int .i64 n4) ∧
        K (.tuple #[.int .i64 n4, .int .i64 next]) H1)))
   (
    K (.tuple #[.int .i64 (-1), .int .i64 (-1)]) H1)
theorem logboomref7_Cache_End_eq (c : Nat) (co : Nat) (epoch : Int) (next : Int) (H : Heap) (K : Value → Heap → Prop) : logboomref7_Cache_End_vc c co epoch next H K = denFn Tryz.prog logboomref7_Cache_End_ann Tryz.f16 (bodyOf Tryz.f16) [.pointer (some ⟨c, co, none⟩), .int .i64 epoch, .int .i64 next] H K := by kernel_rfl
theorem logboomref7_Cache_End_fn (c : Nat) (co : Nat) (epoch : Int) (next : Int) {H : Heap} {K : Value → Heap → Prop} (h : logboomref7_Cache_End_vc c co epoch next H K) : FnH Tryz.prog 16 #[.pointer (some ⟨c, co, none⟩), .int .i64 epoch, .int .i64 next] H K :=
  denFn_fn Tryz.mixed logboomref7_Cache_End_ann Tryz.func16 (bodyOf_spec (by kernel_rfl)) (logboomref7_Cache_End_eq c co epoch next H K) h

/-! function 22: (*logboom/logboomref7.Cache).All -/
def logboomref7_Cache_All_ann : Anns := { hid := [], loops := [], joins := [], mix := [] }
def logboomref7_Cache_All_vc (c : Nat) (co : Nat) (H : Heap) (K : Value → Heap → Prop) : Prop :=
  ∀ q1 : Nat,
  H q1 = none →
  letH (Heap.upd H q1 (.cells #[] 51 (0, 0))) fun H1 =>
  ∃ l1 : Sl,
  cellH H1 ⟨c, co + 2, none⟩ = some (.slice l1.p l1.n l1.c) ∧
  runH Tryz.prog (Builtin.append_ #[44, 44] 44 #[.slice (some ⟨q1, 0, none⟩) 0 0, .slice l1.p l1.n l1.c]) H1 fun r1 H2 =>
    ∃ l2 : Sl,
    r1 = .slice l2.p l2.n l2.c ∧
    K (.slice l2.p l2.n l2.c) H2
theorem logboomref7_Cache_All_eq (c : Nat) (co : Nat) (H : Heap) (K : Value → Heap → Prop) : logboomref7_Cache_All_vc c co H K = denFn Tryz.prog logboomref7_Cache_All_ann Tryz.f22 (bodyOf Tryz.f22) [.pointer (some ⟨c, co, none⟩)] H K := by kernel_rfl
theorem logboomref7_Cache_All_fn (c : Nat) (co : Nat) {H : Heap} {K : Value → Heap → Prop} (h : logboomref7_Cache_All_vc c co H K) : FnH Tryz.prog 22 #[.pointer (some ⟨c, co, none⟩)] H K :=
  denFn_fn Tryz.mixed logboomref7_Cache_All_ann Tryz.func22 (bodyOf_spec (by kernel_rfl)) (logboomref7_Cache_All_eq c co H K) h

/-! function 26: (*logboom/logboomref7.Cache).Last -/
def logboomref7_Cache_Last_ann : Anns := { hid := [], loops := [], joins := [], mix := [] }
def logboomref7_Cache_Last_vc (c : Nat) (co : Nat) (H : Heap) (K : Value → Heap → Prop) : Prop :=
  ∃ l1 : Sl,
  cellH H ⟨c, co + 2, none⟩ = some (.slice l1.p l1.n l1.c) ∧
  br (((l1.n : Nat) : Int) == 0) (
    K (.int .i64 (-1)) H)
   (
    ∃ l2 : Sl,
    cellH H ⟨c, co + 2, none⟩ = some (.slice l2.p l2.n l2.c) ∧
    ∃ l3 : Sl,
    cellH H ⟨c, co + 2, none⟩ = some (.slice l3.p l3.n l3.c) ∧
    ∃ q1 : Nat,
    ∃ o1 : Nat,
    (l2.p : Option Addr) = some ⟨q1, o1, none⟩ ∧
    0 ≤ ((IntKind.wrap .i64 ((l3.n : Nat) - 1)) : Int) ∧
    ((IntKind.wrap .i64 ((l3.n : Nat) - 1)) : Int) < (l2.n : Nat) ∧
    ∃ n1 : Int,
    cellH H ⟨q1, o1 + Int.toNat (IntKind.wrap .i64 ((l3.n : Nat) - 1)) * 3, none⟩ = some (.int .i64 n1) ∧
    K (.int .i64 n1) H)
theorem logboomref7_Cache_Last_eq (c : Nat) (co : Nat) (H : Heap) (K : Value → Heap → Prop) : logboomref7_Cache_Last_vc c co H K = denFn Tryz.prog logboomref7_Cache_Last_ann Tryz.f26 (bodyOf Tryz.f26) [.pointer (some ⟨c, co, none⟩)] H K := by kernel_rfl
theorem logboomref7_Cache_Last_fn (c : Nat) (co : Nat) {H : Heap} {K : Value → Heap → Prop} (h : logboomref7_Cache_Last_vc c co H K) : FnH Tryz.prog 26 #[.pointer (some ⟨c, co, none⟩)] H K :=
  denFn_fn Tryz.mixed logboomref7_Cache_Last_ann Tryz.func26 (bodyOf_spec (by kernel_rfl)) (logboomref7_Cache_Last_eq c co H K) h

end Go.Proofs.YtdgmifbcbmndgaaGreatDoor
