/- Formulas of functions, printed by this session's vc.py; each is tied to the program by the kernel. -/
import Derived.Test.YtokceblmbmajgaaGreatDoorProg
import Derived.KernelRfl
import Derived.Test.YtokceblmbmajgaaGreatDoorHlFn
import Derived.Test.YtokceblmbmajgaaGreatDoorV2
namespace Go.Proofs.YtokceblmbmajgaaGreatDoor
open Go.HL
set_option maxRecDepth 100000
/-! function 40: logboom/segment.end -/
def segment_end_ann : Anns := { hid := [1], loops := [], joins := [], mix := [] }
def segment_end_vc (b_0 : Int) (b_1 : Int) (b_2 : Int) (b_3 : Int) (b_4 : Int) (b_5 : Sl) (H : Heap) (K : Value → Heap → Prop) : Prop :=
  K (.int .i64 (IntKind.wrap .i64 (b_0 + (b_5.n : Nat)))) H
theorem segment_end_eq (b_0 : Int) (b_1 : Int) (b_2 : Int) (b_3 : Int) (b_4 : Int) (b_5 : Sl) (H : Heap) (K : Value → Heap → Prop) : segment_end_vc b_0 b_1 b_2 b_3 b_4 b_5 H K = denFn Tryz.prog segment_end_ann Tryz.f40 (bodyOf Tryz.f40) [.agg #[.int .i64 b_0, .int .i64 b_1, .int .i64 b_2, .int .i64 b_3, .int .i64 b_4, .slice b_5.p b_5.n b_5.c]] H K := by kernel_rfl
theorem segment_end_fn (b_0 : Int) (b_1 : Int) (b_2 : Int) (b_3 : Int) (b_4 : Int) (b_5 : Sl) {H : Heap} {K : Value → Heap → Prop} (h : segment_end_vc b_0 b_1 b_2 b_3 b_4 b_5 H K) : FnH Tryz.prog 40 #[.agg #[.int .i64 b_0, .int .i64 b_1, .int .i64 b_2, .int .i64 b_3, .int .i64 b_4, .slice b_5.p b_5.n b_5.c]] H K :=
  denFn_fn Tryz.mixed segment_end_ann Tryz.func40 (bodyOf_spec (by kernel_rfl)) (segment_end_eq b_0 b_1 b_2 b_3 b_4 b_5 H K) h

/-! function 41: (*logboom/segment.Segment).add -/
def segment_Segment_add_ann : Anns := { hid := [3], loops := [], joins := [((0, 2), { slots := [(32, .bool)], kept := [0, 3], locs := [], keptL := [0] })], mix := [(3, [11, 14]), (4, [7, 10])] }
def segment_Segment_add_vc (s : Nat) (so : Nat) (x_0 : Int) (x_1 : Int) (x_2 : Int) (x_3 : Int) (H : Heap) (K : Value → Heap → Prop) : Prop :=
  ∃ l1 : Sl,
  cellH H ⟨s, so + 4, none⟩ = some (.slice l1.p l1.n l1.c) ∧
  ∃ J1 : Bool → Heap → Prop,
  (br (((l1.n : Nat) : Int) == 0) (
    SelfEq ([.v (.pointer (some ⟨s, so, none⟩)), .loc 0 0], [some (82, [.int .i64 x_0, .int .i64 x_1, .int .i64 x_2, .int .i64 x_3])], []) ∧
    J1 true H)
   (
    ∃ l2 : Sl,
    cellH H ⟨s, so + 3, none⟩ = some (.slice l2.p l2.n l2.c) ∧
    ∃ l3 : Sl,
    cellH H ⟨s, so + 4, none⟩ = some (.slice l3.p l3.n l3.c) ∧
    ∃ q1 : Nat,
    ∃ o1 : Nat,
    (l3.p : Option Addr) = some ⟨q1, o1, none⟩ ∧
    0 ≤ ((IntKind.wrap .i64 ((l1.n : Nat) - 1)) : Int) ∧
    ((IntKind.wrap .i64 ((l1.n : Nat) - 1)) : Int) < (l3.n : Nat) ∧
    ∃ n1 : Int,
    cellH H ⟨q1, o1 + Int.toNat (IntKind.wrap .i64 ((l1.n : Nat) - 1)), none⟩ = some (.int .i64 n1) ∧
    ∃ q2 : Nat,
    ∃ o2 : Nat,
    (l2.p : Option Addr) = some ⟨q2, o2, none⟩ ∧
    0 ≤ (n1 : Int) ∧
    (n1 : Int) < (l2.n : Nat) ∧
    ∃ n2 : Int,
    cellH H ⟨q2, o2 + Int.toNat n1 * 4 + 2, none⟩ = some (.int .i64 n2) ∧
    SelfEq ([.v (.pointer (some ⟨s, so, none⟩)), .loc 0 0], [some (82, [.int .i64 x_0, .int .i64 x_1, .int .i64 x_2, .int .i64 x_3])], []) ∧
    J1 (decide (((IntKind.wrap .i64 (x_2 - n2)) : Int) ≥ 256)) H)) ∧
  ∀ b_1 : Bool,
  ∀ H1 : Heap,
  J1 b_1 H1 →
  br (b_1) (
    ∃ l4 : Sl,
    cellH H1 ⟨s, so + 4, none⟩ = some (.slice l4.p l4.n l4.c) ∧
    ∃ l5 : Sl,
    cellH H1 ⟨s, so + 3, none⟩ = some (.slice l5.p l5.n l5.c) ∧
    ∀ q3 : Nat,
    H1 q3 = none →
    letH (Heap.upd H1 q3 (.cells #[.int .i64 (l5.n : Nat)] 3 (0, 0))) fun H2 =>
    Sub H1 H2 ∧
    runH Tryz.prog (Builtin.append_ #[41, 41] 41 #[.slice l4.p l4.n l4.c, .slice (some ⟨q3, 0, none⟩) 1 1]) H2 fun r1 H3 =>
      ∃ l6 : Sl,
      r1 = .slice l6.p l6.n l6.c ∧
      (∃ u, cellH H3 ⟨s, so + 4, none⟩ = some u) ∧
      frozenH H3 ⟨s, so + 4, none⟩ = false ∧
      letH (Heap.set H3 ⟨s, so + 4, none⟩ (.slice l6.p l6.n l6.c)) fun H4 =>
      ∃ l7 : Sl,
      cellH H4 ⟨s, so + 3, none⟩ = some (.slice l7.p l7.n l7.c) ∧
      ∀ q4 : Nat,
      H4 q4 = none →
      letH (Heap.upd H4 q4 (.cells #[.int .i64 x_0, .int .i64 x_1, .int .i64 x_2, .int .i64 x_3] 82 (0, 0))) fun H5 =>
      Sub H4 H5 ∧
      runH Tryz.prog (Builtin.append_ #[74, 74] 74 #[.slice l7.p l7.n l7.c, .slice (some ⟨q4, 0, none⟩) 1 1]) H5 fun r2 H6 =>
        ∃ l8 : Sl,
        r2 = .slice l8.p l8.n l8.c ∧
        (∃ u, cellH H6 ⟨s, so + 3, none⟩ = some u) ∧
        frozenH H6 ⟨s, so + 3, none⟩ = false ∧
        letH (Heap.set H6 ⟨s, so + 3, none⟩ (.slice l8.p l8.n l8.c)) fun H7 =>
        K (.tuple #[]) H7)
   (
    ∃ l9 : Sl,
    cellH H1 ⟨s, so + 3, none⟩ = some (.slice l9.p l9.n l9.c) ∧
    ∀ q5 : Nat,
    H1 q5 = none →
    letH (Heap.upd H1 q5 (.cells #[.int .i64 x_0, .int .i64 x_1, .int .i64 x_2, .int .i64 x_3] 82 (0, 0))) fun H8 =>
    Sub H1 H8 ∧
    runH Tryz.prog (Builtin.append_ #[74, 74] 74 #[.slice l9.p l9.n l9.c, .slice (some ⟨q5, 0, none⟩) 1 1]) H8 fun r3 H9 =>
      ∃ l10 : Sl,
      r3 = .slice l10.p l10.n l10.c ∧
      (∃ u, cellH H9 ⟨s, so + 3, none⟩ = some u) ∧
      frozenH H9 ⟨s, so + 3, none⟩ = false ∧
      letH (Heap.set H9 ⟨s, so + 3, none⟩ (.slice l10.p l10.n l10.c)) fun H10 =>
      K (.tuple #[]) H10)
theorem segment_Segment_add_eq (s : Nat) (so : Nat) (x_0 : Int) (x_1 : Int) (x_2 : Int) (x_3 : Int) (H : Heap) (K : Value → Heap → Prop) : segment_Segment_add_vc s so x_0 x_1 x_2 x_3 H K = denFn Tryz.prog segment_Segment_add_ann Tryz.f41 (bodyOf Tryz.f41) [.pointer (some ⟨s, so, none⟩), .agg #[.int .i64 x_0, .int .i64 x_1, .int .i64 x_2, .int .i64 x_3]] H K := by kernel_rfl
theorem segment_Segment_add_fn (s : Nat) (so : Nat) (x_0 : Int) (x_1 : Int) (x_2 : Int) (x_3 : Int) {H : Heap} {K : Value → Heap → Prop} (h : segment_Segment_add_vc s so x_0 x_1 x_2 x_3 H K) : FnH Tryz.prog 41 #[.pointer (some ⟨s, so, none⟩), .agg #[.int .i64 x_0, .int .i64 x_1, .int .i64 x_2, .int .i64 x_3]] H K :=
  denFn_fn Tryz.mixed segment_Segment_add_ann Tryz.func41 (bodyOf_spec (by kernel_rfl)) (segment_Segment_add_eq s so x_0 x_1 x_2 x_3 H K) h

/-! function 12: (*logboom/segment.Segment).Next -/
def segment_Segment_Next_ann : Anns := { hid := [], loops := [], joins := [], mix := [] }
def segment_Segment_Next_vc (s : Nat) (so : Nat) (H : Heap) (K : Value → Heap → Prop) : Prop :=
  ∃ l1 : Sl,
  cellH H ⟨s, so + 3, none⟩ = some (.slice l1.p l1.n l1.c) ∧
  br (decide (((l1.n : Nat) : Int) > 0)) (
    ∃ l2 : Sl,
    cellH H ⟨s, so + 3, none⟩ = some (.slice l2.p l2.n l2.c) ∧
    ∃ q1 : Nat,
    ∃ o1 : Nat,
    (l2.p : Option Addr) = some ⟨q1, o1, none⟩ ∧
    0 ≤ ((IntKind.wrap .i64 ((l1.n : Nat) - 1)) : Int) ∧
    ((IntKind.wrap .i64 ((l1.n : Nat) - 1)) : Int) < (l2.n : Nat) ∧
    ∃ n1 : Int,
    cellH H ⟨q1, o1 + Int.toNat (IntKind.wrap .i64 ((l1.n : Nat) - 1)) * 4 + 1, none⟩ = some (.int .i64 n1) ∧
    K (.int .i64 n1) H)
   (
    ∃ n2 : Int,
    cellH H ⟨s, so + 2, none⟩ = some (.int .i64 n2) ∧
    K (.int .i64 n2) H)
theorem segment_Segment_Next_eq (s : Nat) (so : Nat) (H : Heap) (K : Value → Heap → Prop) : segment_Segment_Next_vc s so H K = denFn Tryz.prog segment_Segment_Next_ann Tryz.f12 (bodyOf Tryz.f12) [.pointer (some ⟨s, so, none⟩)] H K := by kernel_rfl
theorem segment_Segment_Next_fn (s : Nat) (so : Nat) {H : Heap} {K : Value → Heap → Prop} (h : segment_Segment_Next_vc s so H K) : FnH Tryz.prog 12 #[.pointer (some ⟨s, so, none⟩)] H K :=
  denFn_fn Tryz.mixed segment_Segment_Next_ann Tryz.func12 (bodyOf_spec (by kernel_rfl)) (segment_Segment_Next_eq s so H K) h

/-! function 13: (*logboom/segment.Segment).Append -/
def segment_Segment_Append_ann : Anns := { hid := [3], loops := [], joins := [], mix := [(4, []), (11, [9]), (13, [9]), (15, [11])] }
def segment_Segment_Append_vc (s : Nat) (so : Nat) (b_0 : Int) (b_1 : Int) (b_2 : Int) (b_3 : Int) (b_4 : Int) (b_5 : Sl) (H : Heap) (K : Value → Heap → Prop) : Prop :=
  FnH Tryz.prog 44 #[.agg #[.int .i64 b_0, .int .i64 b_1, .int .i64 b_2, .int .i64 b_3, .int .i64 b_4, .slice b_5.p b_5.n b_5.c]] H fun r1 H1 =>
    ∃ s1 : ByteArray,
    ∃ n1 : Int,
    r1 = .tuple #[.string s1, .int .i64 n1] ∧
    br ((n1 : Int) != 0) (
      K (.int .i64 n1) H1)
     (
      FnH Tryz.prog 12 #[.pointer (some ⟨s, so, none⟩)] H1 fun r2 H2 =>
        ∃ n2 : Int,
        r2 = .int .i64 n2 ∧
        Sub H1 H2 ∧
        br ((b_0 : Int) != n2) (
          K (.int .i64 11) H2)
         (
          FnH Tryz.prog 40 #[.agg #[.int .i64 b_0, .int .i64 b_1, .int .i64 b_2, .int .i64 b_3, .int .i64 b_4, .slice b_5.p b_5.n b_5.c]] H2 fun r3 H3 =>
            ∃ n3 : Int,
            r3 = .int .i64 n3 ∧
            br (decide ((n3 : Int) > 1000000000)) (
              K (.int .i64 20) H3)
             (
              ∃ l1 : Sl,
              cellH H3 ⟨s, so + 3, none⟩ = some (.slice l1.p l1.n l1.c) ∧
              br (decide (((l1.n : Nat) : Int) ≥ 4096)) (
                K (.int .i64 3) H3)
               (
                FnH Tryz.prog 17 #[.pointer (some ⟨s, so, none⟩)] H3 fun r4 H4 =>
                  ∃ n4 : Int,
                  r4 = .int .i64 n4 ∧
                  ∃ p1 : Option Addr,
                  cellH H4 ⟨s, so, none⟩ = some (.pointer p1) ∧
                  ∃ s2 : ByteArray,
                  cellH H4 ⟨s, so + 1, none⟩ = some (.string s2) ∧
                  FnH Tryz.prog 38 #[.pointer p1, .string s2, .string s1] H4 fun r5 H5 =>
                    ∃ n5 : Int,
                    r5 = .int .i64 n5 ∧
                    br ((n5 : Int) != 0) (
                      ∃ p2 : Option Addr,
                      cellH H5 ⟨s, so, none⟩ = some (.pointer p2) ∧
                      ∃ s3 : ByteArray,
                      cellH H5 ⟨s, so + 1, none⟩ = some (.string s3) ∧
                      FnH Tryz.prog 42 #[.pointer p2, .string s3, .int .i64 n4] H5 fun r6 H6 =>
                        ∃ n6 : Int,
                        r6 = .int .i64 n6 ∧
                        K (.int .i64 n5) H6)
                     (
                      FnH Tryz.prog 40 #[.agg #[.int .i64 b_0, .int .i64 b_1, .int .i64 b_2, .int .i64 b_3, .int .i64 b_4, .slice b_5.p b_5.n b_5.c]] H5 fun r7 H7 =>
                        ∃ n7 : Int,
                        r7 = .int .i64 n7 ∧
                        Sub H5 H7 ∧
                        FnH Tryz.prog 41 #[.pointer (some ⟨s, so, none⟩), .agg #[.int .i64 b_0, .int .i64 n7, .int .i64 n4, .int .i64 (IntKind.wrap .i64 (n4 + (s1.size : Nat)))]] H7 fun r8 H8 =>
                          r8 = .tuple #[] ∧
                          K (.int .i64 0) H8)))))
theorem segment_Segment_Append_eq (s : Nat) (so : Nat) (b_0 : Int) (b_1 : Int) (b_2 : Int) (b_3 : Int) (b_4 : Int) (b_5 : Sl) (H : Heap) (K : Value → Heap → Prop) : segment_Segment_Append_vc s so b_0 b_1 b_2 b_3 b_4 b_5 H K = denFn Tryz.prog segment_Segment_Append_ann Tryz.f13 (bodyOf Tryz.f13) [.pointer (some ⟨s, so, none⟩), .agg #[.int .i64 b_0, .int .i64 b_1, .int .i64 b_2, .int .i64 b_3, .int .i64 b_4, .slice b_5.p b_5.n b_5.c]] H K := by kernel_rfl
theorem segment_Segment_Append_fn (s : Nat) (so : Nat) (b_0 : Int) (b_1 : Int) (b_2 : Int) (b_3 : Int) (b_4 : Int) (b_5 : Sl) {H : Heap} {K : Value → Heap → Prop} (h : segment_Segment_Append_vc s so b_0 b_1 b_2 b_3 b_4 b_5 H K) : FnH Tryz.prog 13 #[.pointer (some ⟨s, so, none⟩), .agg #[.int .i64 b_0, .int .i64 b_1, .int .i64 b_2, .int .i64 b_3, .int .i64 b_4, .slice b_5.p b_5.n b_5.c]] H K :=
  denFn_fn Tryz.mixed segment_Segment_Append_ann Tryz.func13 (bodyOf_spec (by kernel_rfl)) (segment_Segment_Append_eq s so b_0 b_1 b_2 b_3 b_4 b_5 H K) h

/-! function 16: (*logboom/segment.Segment).Sync -/
def segment_Segment_Sync_ann : Anns := { hid := [], loops := [], joins := [], mix := [(1, [8])] }
def segment_Segment_Sync_vc (s : Nat) (so : Nat) (H : Heap) (K : Value → Heap → Prop) : Prop :=
  ∃ p1 : Option Addr,
  cellH H ⟨s, so, none⟩ = some (.pointer p1) ∧
  ∃ s1 : ByteArray,
  cellH H ⟨s, so + 1, none⟩ = some (.string s1) ∧
  FnH Tryz.prog 43 #[.pointer p1, .string s1] H fun r1 H1 =>
    ∃ n1 : Int,
    r1 = .int .i64 n1 ∧
    K (.int .i64 n1) H1
theorem segment_Segment_Sync_eq (s : Nat) (so : Nat) (H : Heap) (K : Value → Heap → Prop) : segment_Segment_Sync_vc s so H K = denFn Tryz.prog segment_Segment_Sync_ann Tryz.f16 (bodyOf Tryz.f16) [.pointer (some ⟨s, so, none⟩)] H K := by kernel_rfl
theorem segment_Segment_Sync_fn (s : Nat) (so : Nat) {H : Heap} {K : Value → Heap → Prop} (h : segment_Segment_Sync_vc s so H K) : FnH Tryz.prog 16 #[.pointer (some ⟨s, so, none⟩)] H K :=
  denFn_fn Tryz.mixed segment_Segment_Sync_ann Tryz.func16 (bodyOf_spec (by kernel_rfl)) (segment_Segment_Sync_eq s so H K) h

/-! function 15: (*logboom/segment.Segment).Safe -/
def segment_Segment_Safe_ann : Anns := { hid := [], loops := [], joins := [], mix := [(1, [10])] }
def segment_Segment_Safe_vc (s : Nat) (so : Nat) (H : Heap) (K : Value → Heap → Prop) : Prop :=
  ∀ q1 : Nat,
  H q1 = none →
  letH (Heap.upd H q1 (.cells #[.pointer (some ⟨s, so, none⟩)] 32 (0, 0))) fun H1 =>
  ∃ p1 : Option Addr,
  cellH H1 ⟨q1, 0, none⟩ = some (.pointer p1) ∧
  ptrm p1 fun q2 o1 =>
  ∃ p2 : Option Addr,
  cellH H1 ⟨q2, o1, none⟩ = some (.pointer p2) ∧
  ∃ p3 : Option Addr,
  cellH H1 ⟨q1, 0, none⟩ = some (.pointer p3) ∧
  ptrm p3 fun q3 o2 =>
  ∃ s1 : ByteArray,
  cellH H1 ⟨q3, o2 + 1, none⟩ = some (.string s1) ∧
  (FnH Tryz.prog 34 #[.pointer p2, .string s1] H1 fun r1 H2 =>
    ∃ n1 : Int,
    r1 = .int .i64 n1 ∧
    Sub H1 H2 ∧
    ∀ q4 : Nat,
    H2 q4 = none →
    letH (Heap.upd H2 q4 (.cells #[.int .i64 0] 3 (0, 0))) fun H3 =>
    Sub H1 H3 ∧
    (∃ u, cellH H3 ⟨q4, 0, none⟩ = some u) ∧
    frozenH H3 ⟨q4, 0, none⟩ = false ∧
    letH (Heap.set H3 ⟨q4, 0, none⟩ (.int .i64 n1)) fun H4 =>
    ∃ p4 : Option Addr,
    cellH H4 ⟨q1, 0, none⟩ = some (.pointer p4) ∧
    ptrm p4 fun q5 o3 =>
    ∃ l1 : Sl,
    cellH H4 ⟨q5, o3 + 3, none⟩ = some (.slice l1.p l1.n l1.c) ∧
    FnH Tryz.prog 45 #[.int .i64 (l1.n : Nat), .func (.func 46) #[] #[.pointer (some ⟨q1, 0, none⟩), .pointer (some ⟨q4, 0, none⟩)]] H4 fun r2 H5 =>
      ∃ n2 : Int,
      r2 = .int .i64 n2 ∧
      br ((n2 : Int) == 0) (
        ∃ p5 : Option Addr,
        cellH H5 ⟨q1, 0, none⟩ = some (.pointer p5) ∧
        ptrm p5 fun q6 o4 =>
        ∃ n3 : Int,
        cellH H5 ⟨q6, o4 + 2, none⟩ = some (.int .i64 n3) ∧
        K (.int .i64 n3) H5)
       (
        ∃ p6 : Option Addr,
        cellH H5 ⟨q1, 0, none⟩ = some (.pointer p6) ∧
        ptrm p6 fun q7 o5 =>
        ∃ l2 : Sl,
        cellH H5 ⟨q7, o5 + 3, none⟩ = some (.slice l2.p l2.n l2.c) ∧
        ∃ q8 : Nat,
        ∃ o6 : Nat,
        (l2.p : Option Addr) = some ⟨q8, o6, none⟩ ∧
        0 ≤ ((IntKind.wrap .i64 (n2 - 1)) : Int) ∧
        ((IntKind.wrap .i64 (n2 - 1)) : Int) < (l2.n : Nat) ∧
        ∃ n4 : Int,
        cellH H5 ⟨q8, o6 + Int.toNat (IntKind.wrap .i64 (n2 - 1)) * 4 + 1, none⟩ = some (.int .i64 n4) ∧
        K (.int .i64 n4) H5)) ∧
  ∀ q9 : Nat,
  H1 q9 = none →
  letH (Heap.upd H1 q9 (.cells #[.int .i64 0] 3 (0, 0))) fun H6 =>
  Sub H1 H6 ∧
  FnH Tryz.prog 34 #[.pointer p2, .string s1] H6 fun r3 H7 =>
    ∃ n5 : Int,
    r3 = .int .i64 n5 ∧
    Sub H1 H7 ∧
    (∃ u, cellH H7 ⟨q9, 0, none⟩ = some u) ∧
    frozenH H7 ⟨q9, 0, none⟩ = false ∧
    letH (Heap.set H7 ⟨q9, 0, none⟩ (.int .i64 n5)) fun H8 =>
    ∃ p7 : Option Addr,
    cellH H8 ⟨q1, 0, none⟩ = some (.pointer p7) ∧
    ptrm p7 fun q10 o7 =>
    ∃ l3 : Sl,
    cellH H8 ⟨q10, o7 + 3, none⟩ = some (.slice l3.p l3.n l3.c) ∧
    FnH Tryz.prog 45 #[.int .i64 (l3.n : Nat), .func (.func 46) #[] #[.pointer (some ⟨q1, 0, none⟩), .pointer (some ⟨q9, 0, none⟩)]] H8 fun r4 H9 =>
      ∃ n6 : Int,
      r4 = .int .i64 n6 ∧
      br ((n6 : Int) == 0) (
        ∃ p8 : Option Addr,
        cellH H9 ⟨q1, 0, none⟩ = some (.pointer p8) ∧
        ptrm p8 fun q11 o8 =>
        ∃ n7 : Int,
        cellH H9 ⟨q11, o8 + 2, none⟩ = some (.int .i64 n7) ∧
        K (.int .i64 n7) H9)
       (
        ∃ p9 : Option Addr,
        cellH H9 ⟨q1, 0, none⟩ = some (.pointer p9) ∧
        ptrm p9 fun q12 o9 =>
        ∃ l4 : Sl,
        cellH H9 ⟨q12, o9 + 3, none⟩ = some (.slice l4.p l4.n l4.c) ∧
        ∃ q13 : Nat,
        ∃ o10 : Nat,
        (l4.p : Option Addr) = some ⟨q13, o10, none⟩ ∧
        0 ≤ ((IntKind.wrap .i64 (n6 - 1)) : Int) ∧
        ((IntKind.wrap .i64 (n6 - 1)) : Int) < (l4.n : Nat) ∧
        ∃ n8 : Int,
        cellH H9 ⟨q13, o10 + Int.toNat (IntKind.wrap .i64 (n6 - 1)) * 4 + 1, none⟩ = some (.int .i64 n8) ∧
        K (.int .i64 n8) H9)
theorem segment_Segment_Safe_eq (s : Nat) (so : Nat) (H : Heap) (K : Value → Heap → Prop) : segment_Segment_Safe_vc s so H K = denFn Tryz.prog segment_Segment_Safe_ann Tryz.f15 (bodyOf Tryz.f15) [.pointer (some ⟨s, so, none⟩)] H K := by kernel_rfl
theorem segment_Segment_Safe_fn (s : Nat) (so : Nat) {H : Heap} {K : Value → Heap → Prop} (h : segment_Segment_Safe_vc s so H K) : FnH Tryz.prog 15 #[.pointer (some ⟨s, so, none⟩)] H K :=
  denFn_fn Tryz.mixed segment_Segment_Safe_ann Tryz.func15 (bodyOf_spec (by kernel_rfl)) (segment_Segment_Safe_eq s so H K) h

/-! function 19: (*logboom/segment.Segment).Read -/
def segment_Segment_Read_ann : Anns := { hid := [13, 14], loops := [(0, { slots := [(10, .slice), (11, .int .i64), (58, .int .i64)], kept := [2, 4, 7, 56, 57], locs := [], keptL := [] })], joins := [], mix := [(3, [])] }
def segment_Segment_Read_vc (s : Nat) (so : Nat) (offset : Int) (most : Int) (H : Heap) (K : Value → Heap → Prop) : Prop :=
  ∀ q1 : Nat,
  H q1 = none →
  letH (Heap.upd H q1 (.cells #[.pointer (some ⟨s, so, none⟩)] 32 (0, 0))) fun H1 =>
  ∀ q2 : Nat,
  H1 q2 = none →
  letH (Heap.upd H1 q2 (.cells #[.int .i64 offset] 3 (0, 0))) fun H2 =>
  ∃ n1 : Int,
  cellH H2 ⟨q2, 0, none⟩ = some (.int .i64 n1) ∧
  ∃ p1 : Option Addr,
  cellH H2 ⟨q1, 0, none⟩ = some (.pointer p1) ∧
  ptrm p1 fun q3 o1 =>
  ∃ n2 : Int,
  cellH H2 ⟨q3, o1 + 2, none⟩ = some (.int .i64 n2) ∧
  br (decide ((n1 : Int) < n2)) (
    K (.slice none 0 0) H2)
   (
    ∃ p2 : Option Addr,
    cellH H2 ⟨q1, 0, none⟩ = some (.pointer p2) ∧
    ptrm p2 fun q4 o2 =>
    ∃ p3 : Option Addr,
    cellH H2 ⟨q4, o2, none⟩ = some (.pointer p3) ∧
    ∃ p4 : Option Addr,
    cellH H2 ⟨q1, 0, none⟩ = some (.pointer p4) ∧
    ptrm p4 fun q5 o3 =>
    ∃ s1 : ByteArray,
    cellH H2 ⟨q5, o3 + 1, none⟩ = some (.string s1) ∧
    FnH Tryz.prog 30 #[.pointer p3, .string s1] H2 fun r1 H3 =>
      ∃ s2 : ByteArray,
      ∃ n3 : Int,
      r1 = .tuple #[.string s2, .int .i64 n3] ∧
      Sub H2 H3 ∧
      ∃ p5 : Option Addr,
      cellH H3 ⟨q1, 0, none⟩ = some (.pointer p5) ∧
      ptrm p5 fun q6 o4 =>
      ∃ l1 : Sl,
      cellH H3 ⟨q6, o4 + 4, none⟩ = some (.slice l1.p l1.n l1.c) ∧
      FnH Tryz.prog 45 #[.int .i64 (l1.n : Nat), .func (.func 50) #[] #[.pointer (some ⟨q1, 0, none⟩), .pointer (some ⟨q2, 0, none⟩)]] H3 fun r2 H4 =>
        ∃ n4 : Int,
        r2 = .int .i64 n4 ∧
        br (decide (((IntKind.wrap .i64 (n4 - 1)) : Int) < 0)) (
          K (.slice none 0 0) H4)
         (
          ∃ p6 : Option Addr,
          cellH H4 ⟨q1, 0, none⟩ = some (.pointer p6) ∧
          ptrm p6 fun q7 o5 =>
          ∃ l2 : Sl,
          cellH H4 ⟨q7, o5 + 3, none⟩ = some (.slice l2.p l2.n l2.c) ∧
          ∃ p7 : Option Addr,
          cellH H4 ⟨q1, 0, none⟩ = some (.pointer p7) ∧
          ptrm p7 fun q8 o6 =>
          ∃ l3 : Sl,
          cellH H4 ⟨q8, o6 + 4, none⟩ = some (.slice l3.p l3.n l3.c) ∧
          ∃ q9 : Nat,
          ∃ o7 : Nat,
          (l3.p : Option Addr) = some ⟨q9, o7, none⟩ ∧
          0 ≤ ((IntKind.wrap .i64 (n4 - 1)) : Int) ∧
          ((IntKind.wrap .i64 (n4 - 1)) : Int) < (l3.n : Nat) ∧
          ∃ n5 : Int,
          cellH H4 ⟨q9, o7 + Int.toNat (IntKind.wrap .i64 (n4 - 1)), none⟩ = some (.int .i64 n5) ∧
          0 ≤ (n5 : Int) ∧
          (n5 : Int) ≤ (l2.n : Nat) ∧
          ∃ I1 : Sl → Int → Int → Heap → Prop,
          ∃ M1 : Sl → Int → Int → Heap → Nat,
          I1 ⟨none, 0, 0⟩ 0 0 H4 ∧
          ∀ l_1 : Sl,
          ∀ sum_1 : Int,
          ∀ n_1 : Int,
          ∀ H5 : Heap,
          I1 l_1 sum_1 n_1 H5 →
          br (decide ((n_1 : Int) < (Int.toNat ((l2.n : Nat) - n5) : Nat))) (
            ∃ q10 : Nat,
            ∃ o8 : Nat,
            ((slP l2.p l2.c n5 4) : Option Addr) = some ⟨q10, o8, none⟩ ∧
            0 ≤ (n_1 : Int) ∧
            (n_1 : Int) < (Int.toNat ((l2.n : Nat) - n5) : Nat) ∧
            ∃ n6 : Int,
            cellH H5 ⟨q10, o8 + Int.toNat n_1 * 4, none⟩ = some (.int .i64 n6) ∧
            ∃ n7 : Int,
            cellH H5 ⟨q10, o8 + Int.toNat n_1 * 4 + 1, none⟩ = some (.int .i64 n7) ∧
            ∃ n8 : Int,
            cellH H5 ⟨q10, o8 + Int.toNat n_1 * 4 + 2, none⟩ = some (.int .i64 n8) ∧
            ∃ n9 : Int,
            cellH H5 ⟨q10, o8 + Int.toNat n_1 * 4 + 3, none⟩ = some (.int .i64 n9) ∧
            ∃ n10 : Int,
            cellH H5 ⟨q2, 0, none⟩ = some (.int .i64 n10) ∧
            br (decide ((n7 : Int) ≤ n10)) (
              SelfEq ([.v (.int .i64 most), .v (.pointer (some ⟨q2, 0, none⟩)), .v (.string s2), .v (.slice (slP l2.p l2.c n5 4) (Int.toNat ((l2.n : Nat) - n5)) (Int.toNat ((l2.c : Nat) - n5))), .v (.int .i64 (Int.toNat ((l2.n : Nat) - n5) : Nat))], [], []) ∧
              I1 l_1 sum_1 (IntKind.wrap .i64 (n_1 + 1)) H5 ∧
              M1 l_1 sum_1 (IntKind.wrap .i64 (n_1 + 1)) H5 < M1 l_1 sum_1 n_1 H5)
             (
              br (decide (((l_1.n : Nat) : Int) > 0)) (
                br (decide (((IntKind.wrap .i64 (sum_1 + (IntKind.wrap .i64 (n9 - n8)))) : Int) > most)) (
                  K (.slice l_1.p l_1.n l_1.c) H5)
                 (
                  0 ≤ (n9 : Int) ∧
                  (n9 : Int) ≤ (s2.size : Nat) ∧
                  0 ≤ (n8 : Int) ∧
                  (n8 : Int) ≤ n9 ∧
                  FnH Tryz.prog 39 #[.string (s2.extract (Int.toNat n8) (Int.toNat n9))] H5 fun r3 H6 =>
                    ∃ n11 : Int,
                    ∃ n12 : Int,
                    ∃ n13 : Int,
                    ∃ n14 : Int,
                    ∃ n15 : Int,
                    ∃ l4 : Sl,
                    ∃ n16 : Int,
                    ∃ n17 : Int,
                    r3 = .tuple #[.agg #[.int .i64 n11, .int .i64 n12, .int .i64 n13, .int .i64 n14, .int .i64 n15, .slice l4.p l4.n l4.c], .int .i64 n16, .int .i64 n17] ∧
                    ∀ q11 : Nat,
                    H6 q11 = none →
                    letH (Heap.upd H6 q11 (.cells #[.int .i64 n11, .int .i64 n12, .int .i64 n13, .int .i64 n14, .int .i64 n15, .slice l4.p l4.n l4.c] 40 (0, 0))) fun H7 =>
                    runH Tryz.prog (Builtin.append_ #[52, 52] 52 #[.slice l_1.p l_1.n l_1.c, .slice (some ⟨q11, 0, none⟩) 1 1]) H7 fun r4 H8 =>
                      ∃ l5 : Sl,
                      r4 = .slice l5.p l5.n l5.c ∧
                      SelfEq ([.v (.int .i64 most), .v (.pointer (some ⟨q2, 0, none⟩)), .v (.string s2), .v (.slice (slP l2.p l2.c n5 4) (Int.toNat ((l2.n : Nat) - n5)) (Int.toNat ((l2.c : Nat) - n5))), .v (.int .i64 (Int.toNat ((l2.n : Nat) - n5) : Nat))], [], []) ∧
                      I1 l5 (IntKind.wrap .i64 (sum_1 + (IntKind.wrap .i64 (n9 - n8)))) (IntKind.wrap .i64 (n_1 + 1)) H8 ∧
                      M1 l5 (IntKind.wrap .i64 (sum_1 + (IntKind.wrap .i64 (n9 - n8)))) (IntKind.wrap .i64 (n_1 + 1)) H8 < M1 l_1 sum_1 n_1 H5))
               (
                0 ≤ (n9 : Int) ∧
                (n9 : Int) ≤ (s2.size : Nat) ∧
                0 ≤ (n8 : Int) ∧
                (n8 : Int) ≤ n9 ∧
                FnH Tryz.prog 39 #[.string (s2.extract (Int.toNat n8) (Int.toNat n9))] H5 fun r5 H9 =>
                  ∃ n18 : Int,
                  ∃ n19 : Int,
                  ∃ n20 : Int,
                  ∃ n21 : Int,
                  ∃ n22 : Int,
                  ∃ l6 : Sl,
                  ∃ n23 : Int,
                  ∃ n24 : Int,
                  r5 = .tuple #[.agg #[.int .i64 n18, .int .i64 n19, .int .i64 n20, .int .i64 n21, .int .i64 n22, .slice l6.p l6.n l6.c], .int .i64 n23, .int .i64 n24] ∧
                  ∀ q12 : Nat,
                  H9 q12 = none →
                  letH (Heap.upd H9 q12 (.cells #[.int .i64 n18, .int .i64 n19, .int .i64 n20, .int .i64 n21, .int .i64 n22, .slice l6.p l6.n l6.c] 40 (0, 0))) fun H10 =>
                  runH Tryz.prog (Builtin.append_ #[52, 52] 52 #[.slice l_1.p l_1.n l_1.c, .slice (some ⟨q12, 0, none⟩) 1 1]) H10 fun r6 H11 =>
                    ∃ l7 : Sl,
                    r6 = .slice l7.p l7.n l7.c ∧
                    SelfEq ([.v (.int .i64 most), .v (.pointer (some ⟨q2, 0, none⟩)), .v (.string s2), .v (.slice (slP l2.p l2.c n5 4) (Int.toNat ((l2.n : Nat) - n5)) (Int.toNat ((l2.c : Nat) - n5))), .v (.int .i64 (Int.toNat ((l2.n : Nat) - n5) : Nat))], [], []) ∧
                    I1 l7 (IntKind.wrap .i64 (sum_1 + (IntKind.wrap .i64 (n9 - n8)))) (IntKind.wrap .i64 (n_1 + 1)) H11 ∧
                    M1 l7 (IntKind.wrap .i64 (sum_1 + (IntKind.wrap .i64 (n9 - n8)))) (IntKind.wrap .i64 (n_1 + 1)) H11 < M1 l_1 sum_1 n_1 H5)))
           (
            K (.slice l_1.p l_1.n l_1.c) H5)))
theorem segment_Segment_Read_eq (s : Nat) (so : Nat) (offset : Int) (most : Int) (H : Heap) (K : Value → Heap → Prop) : segment_Segment_Read_vc s so offset most H K = denFn Tryz.prog segment_Segment_Read_ann Tryz.f19 (bodyOf Tryz.f19) [.pointer (some ⟨s, so, none⟩), .int .i64 offset, .int .i64 most] H K := by kernel_rfl
theorem segment_Segment_Read_fn (s : Nat) (so : Nat) (offset : Int) (most : Int) {H : Heap} {K : Value → Heap → Prop} (h : segment_Segment_Read_vc s so offset most H K) : FnH Tryz.prog 19 #[.pointer (some ⟨s, so, none⟩), .int .i64 offset, .int .i64 most] H K :=
  denFn_fn Tryz.mixed segment_Segment_Read_ann Tryz.func19 (bodyOf_spec (by kernel_rfl)) (segment_Segment_Read_eq s so offset most H K) h

/-! function 20: (*logboom/segment.Segment).Index -/
def segment_Segment_Index_ann : Anns := { hid := [], loops := [(0, { slots := [(3, .slice), (11, .int .i64)], kept := [0, 9, 10], locs := [], keptL := [] })], joins := [], mix := [(5, [19])] }
def segment_Segment_Index_vc (s : Nat) (so : Nat) (H : Heap) (K : Value → Heap → Prop) : Prop :=
  ∃ l1 : Sl,
  cellH H ⟨s, so + 4, none⟩ = some (.slice l1.p l1.n l1.c) ∧
  ∃ I1 : Sl → Int → Heap → Prop,
  ∃ M1 : Sl → Int → Heap → Nat,
  I1 ⟨none, 0, 0⟩ 0 H ∧
  ∀ l_1 : Sl,
  ∀ n_1 : Int,
  ∀ H1 : Heap,
  I1 l_1 n_1 H1 →
  br (decide ((n_1 : Int) < (l1.n : Nat))) (
    ∃ q1 : Nat,
    ∃ o1 : Nat,
    (l1.p : Option Addr) = some ⟨q1, o1, none⟩ ∧
    0 ≤ (n_1 : Int) ∧
    (n_1 : Int) < (l1.n : Nat) ∧
    ∃ n1 : Int,
    cellH H1 ⟨q1, o1 + Int.toNat n_1, none⟩ = some (.int .i64 n1) ∧
    ∃ l2 : Sl,
    cellH H1 ⟨s, so + 3, none⟩ = some (.slice l2.p l2.n l2.c) ∧
    ∃ q2 : Nat,
    ∃ o2 : Nat,
    (l2.p : Option Addr) = some ⟨q2, o2, none⟩ ∧
    0 ≤ (n1 : Int) ∧
    (n1 : Int) < (l2.n : Nat) ∧
    ∃ n2 : Int,
    cellH H1 ⟨q2, o2 + Int.toNat n1 * 4 + 2, none⟩ = some (.int .i64 n2) ∧
    ∃ l3 : Sl,
    cellH H1 ⟨s, so + 3, none⟩ = some (.slice l3.p l3.n l3.c) ∧
    ∃ q3 : Nat,
    ∃ o3 : Nat,
    (l3.p : Option Addr) = some ⟨q3, o3, none⟩ ∧
    0 ≤ (n1 : Int) ∧
    (n1 : Int) < (l3.n : Nat) ∧
    ∃ n3 : Int,
    cellH H1 ⟨q3, o3 + Int.toNat n1 * 4, none⟩ = some (.int .i64 n3) ∧
    ∀ q4 : Nat,
    H1 q4 = none →
    letH (Heap.upd H1 q4 (.cells #[.int .i64 n2, .int .i64 n3, .string (⟨#[]⟩ : ByteArray)] 94 (0, 0))) fun H2 =>
    Sub H1 H2 ∧
    runH Tryz.prog (Builtin.append_ #[54, 54] 54 #[.slice l_1.p l_1.n l_1.c, .slice (some ⟨q4, 0, none⟩) 1 1]) H2 fun r1 H3 =>
      ∃ l4 : Sl,
      r1 = .slice l4.p l4.n l4.c ∧
      SelfEq ([.v (.pointer (some ⟨s, so, none⟩)), .v (.slice l1.p l1.n l1.c), .v (.int .i64 (l1.n : Nat))], [], []) ∧
      I1 l4 (IntKind.wrap .i64 (n_1 + 1)) H3 ∧
      M1 l4 (IntKind.wrap .i64 (n_1 + 1)) H3 < M1 l_1 n_1 H1)
   (
    K (.slice l_1.p l_1.n l_1.c) H1)
theorem segment_Segment_Index_eq (s : Nat) (so : Nat) (H : Heap) (K : Value → Heap → Prop) : segment_Segment_Index_vc s so H K = denFn Tryz.prog segment_Segment_Index_ann Tryz.f20 (bodyOf Tryz.f20) [.pointer (some ⟨s, so, none⟩)] H K := by kernel_rfl
theorem segment_Segment_Index_fn (s : Nat) (so : Nat) {H : Heap} {K : Value → Heap → Prop} (h : segment_Segment_Index_vc s so H K) : FnH Tryz.prog 20 #[.pointer (some ⟨s, so, none⟩)] H K :=
  denFn_fn Tryz.mixed segment_Segment_Index_ann Tryz.func20 (bodyOf_spec (by kernel_rfl)) (segment_Segment_Index_eq s so H K) h

/-! function 25: (*logboom/segment.Segment).Cut -/
def segment_Segment_Cut_ann : Anns := { hid := [], loops := [], joins := [], mix := [(5, [16]), (6, [9]), (7, [6, 9])] }
def segment_Segment_Cut_vc (s : Nat) (so : Nat) (offset : Int) (H : Heap) (K : Value → Heap → Prop) : Prop :=
  ∀ q1 : Nat,
  H q1 = none →
  letH (Heap.upd H q1 (.cells #[.pointer (some ⟨s, so, none⟩)] 32 (0, 0))) fun H1 =>
  ∀ q2 : Nat,
  H1 q2 = none →
  letH (Heap.upd H1 q2 (.cells #[.int .i64 offset] 3 (0, 0))) fun H2 =>
  ∃ n1 : Int,
  cellH H2 ⟨q2, 0, none⟩ = some (.int .i64 n1) ∧
  ∃ p1 : Option Addr,
  cellH H2 ⟨q1, 0, none⟩ = some (.pointer p1) ∧
  ptrm p1 fun q3 o1 =>
  ∃ n2 : Int,
  cellH H2 ⟨q3, o1 + 2, none⟩ = some (.int .i64 n2) ∧
  br (decide ((n1 : Int) < n2)) (
    K (.int .i64 1) H2)
   (
    ∃ p2 : Option Addr,
    cellH H2 ⟨q1, 0, none⟩ = some (.pointer p2) ∧
    ptrm p2 fun q4 o2 =>
    ∃ l1 : Sl,
    cellH H2 ⟨q4, o2 + 3, none⟩ = some (.slice l1.p l1.n l1.c) ∧
    FnH Tryz.prog 45 #[.int .i64 (l1.n : Nat), .func (.func 58) #[] #[.pointer (some ⟨q1, 0, none⟩), .pointer (some ⟨q2, 0, none⟩)]] H2 fun r1 H3 =>
      ∃ n3 : Int,
      r1 = .int .i64 n3 ∧
      ∀ q5 : Nat,
      H3 q5 = none →
      letH (Heap.upd H3 q5 (.cells #[.int .i64 0] 3 (0, 0))) fun H4 =>
      (∃ u, cellH H4 ⟨q5, 0, none⟩ = some u) ∧
      frozenH H4 ⟨q5, 0, none⟩ = false ∧
      letH (Heap.set H4 ⟨q5, 0, none⟩ (.int .i64 n3)) fun H5 =>
      ∃ n4 : Int,
      cellH H5 ⟨q5, 0, none⟩ = some (.int .i64 n4) ∧
      ∃ p3 : Option Addr,
      cellH H5 ⟨q1, 0, none⟩ = some (.pointer p3) ∧
      ptrm p3 fun q6 o3 =>
      ∃ l2 : Sl,
      cellH H5 ⟨q6, o3 + 3, none⟩ = some (.slice l2.p l2.n l2.c) ∧
      br (decide ((n4 : Int) < (l2.n : Nat))) (
        ∃ p4 : Option Addr,
        cellH H5 ⟨q1, 0, none⟩ = some (.pointer p4) ∧
        ptrm p4 fun q7 o4 =>
        ∃ p5 : Option Addr,
        cellH H5 ⟨q7, o4, none⟩ = some (.pointer p5) ∧
        ∃ p6 : Option Addr,
        cellH H5 ⟨q1, 0, none⟩ = some (.pointer p6) ∧
        ptrm p6 fun q8 o5 =>
        ∃ s1 : ByteArray,
        cellH H5 ⟨q8, o5 + 1, none⟩ = some (.string s1) ∧
        ∃ p7 : Option Addr,
        cellH H5 ⟨q1, 0, none⟩ = some (.pointer p7) ∧
        ptrm p7 fun q9 o6 =>
        ∃ l3 : Sl,
        cellH H5 ⟨q9, o6 + 3, none⟩ = some (.slice l3.p l3.n l3.c) ∧
        ∃ n5 : Int,
        cellH H5 ⟨q5, 0, none⟩ = some (.int .i64 n5) ∧
        ∃ q10 : Nat,
        ∃ o7 : Nat,
        (l3.p : Option Addr) = some ⟨q10, o7, none⟩ ∧
        0 ≤ (n5 : Int) ∧
        (n5 : Int) < (l3.n : Nat) ∧
        ∃ n6 : Int,
        cellH H5 ⟨q10, o7 + Int.toNat n5 * 4 + 2, none⟩ = some (.int .i64 n6) ∧
        FnH Tryz.prog 42 #[.pointer p5, .string s1, .int .i64 n6] H5 fun r2 H6 =>
          ∃ n7 : Int,
          r2 = .int .i64 n7 ∧
          ∃ p8 : Option Addr,
          cellH H6 ⟨q1, 0, none⟩ = some (.pointer p8) ∧
          ∃ p9 : Option Addr,
          cellH H6 ⟨q1, 0, none⟩ = some (.pointer p9) ∧
          ptrm p9 fun q11 o8 =>
          ∃ l4 : Sl,
          cellH H6 ⟨q11, o8 + 3, none⟩ = some (.slice l4.p l4.n l4.c) ∧
          ∃ n8 : Int,
          cellH H6 ⟨q5, 0, none⟩ = some (.int .i64 n8) ∧
          0 ≤ (n8 : Int) ∧
          (n8 : Int) ≤ (l4.c : Nat) ∧
          ptrm p8 fun q12 o9 =>
          (∃ u, cellH H6 ⟨q12, o9 + 3, none⟩ = some u) ∧
          frozenH H6 ⟨q12, o9 + 3, none⟩ = false ∧
          letH (Heap.set H6 ⟨q12, o9 + 3, none⟩ (.slice (slP l4.p l4.c (0 : Int) 4) (Int.toNat (n8 - (0 : Int))) (Int.toNat ((l4.c : Nat) - (0 : Int))))) fun H7 =>
          ∃ p10 : Option Addr,
          cellH H7 ⟨q1, 0, none⟩ = some (.pointer p10) ∧
          ptrm p10 fun q13 o10 =>
          ∃ l5 : Sl,
          cellH H7 ⟨q13, o10 + 4, none⟩ = some (.slice l5.p l5.n l5.c) ∧
          (∃ p11 : Option Addr,
          cellH H7 ⟨q1, 0, none⟩ = some (.pointer p11) ∧
          Sub H7 H7 ∧
          FnH Tryz.prog 59 #[.slice l5.p l5.n l5.c, .func (.func 60) #[] #[.pointer (some ⟨q5, 0, none⟩)]] H7 fun r3 H8 =>
            ∃ l6 : Sl,
            r3 = .slice l6.p l6.n l6.c ∧
            ptrm p11 fun q14 o11 =>
            (∃ u, cellH H8 ⟨q14, o11 + 4, none⟩ = some u) ∧
            frozenH H8 ⟨q14, o11 + 4, none⟩ = false ∧
            letH (Heap.set H8 ⟨q14, o11 + 4, none⟩ (.slice l6.p l6.n l6.c)) fun H9 =>
            K (.int .i64 0) H9) ∧
          FnH Tryz.prog 59 #[.slice l5.p l5.n l5.c, .func (.func 60) #[] #[.pointer (some ⟨q5, 0, none⟩)]] H7 fun r4 H10 =>
            ∃ l7 : Sl,
            r4 = .slice l7.p l7.n l7.c ∧
            ∃ p12 : Option Addr,
            cellH H10 ⟨q1, 0, none⟩ = some (.pointer p12) ∧
            ptrm p12 fun q15 o12 =>
            (∃ u, cellH H10 ⟨q15, o12 + 4, none⟩ = some u) ∧
            frozenH H10 ⟨q15, o12 + 4, none⟩ = false ∧
            letH (Heap.set H10 ⟨q15, o12 + 4, none⟩ (.slice l7.p l7.n l7.c)) fun H11 =>
            K (.int .i64 0) H11)
       (
        K (.int .i64 0) H5))
theorem segment_Segment_Cut_eq (s : Nat) (so : Nat) (offset : Int) (H : Heap) (K : Value → Heap → Prop) : segment_Segment_Cut_vc s so offset H K = denFn Tryz.prog segment_Segment_Cut_ann Tryz.f25 (bodyOf Tryz.f25) [.pointer (some ⟨s, so, none⟩), .int .i64 offset] H K := by kernel_rfl
theorem segment_Segment_Cut_fn (s : Nat) (so : Nat) (offset : Int) {H : Heap} {K : Value → Heap → Prop} (h : segment_Segment_Cut_vc s so offset H K) : FnH Tryz.prog 25 #[.pointer (some ⟨s, so, none⟩), .int .i64 offset] H K :=
  denFn_fn Tryz.mixed segment_Segment_Cut_ann Tryz.func25 (bodyOf_spec (by kernel_rfl)) (segment_Segment_Cut_eq s so offset H K) h

/-! function 17: (*logboom/segment.Segment).Bytes -/
def segment_Segment_Bytes_ann : Anns := { hid := [], loops := [], joins := [], mix := [(1, [])] }
def segment_Segment_Bytes_vc (s : Nat) (so : Nat) (H : Heap) (K : Value → Heap → Prop) : Prop :=
  ∃ p1 : Option Addr,
  cellH H ⟨s, so, none⟩ = some (.pointer p1) ∧
  ∃ s1 : ByteArray,
  cellH H ⟨s, so + 1, none⟩ = some (.string s1) ∧
  FnH Tryz.prog 47 #[.pointer p1, .string s1] H fun r1 H1 =>
    ∃ n1 : Int,
    r1 = .int .i64 n1 ∧
    Sub H H1 ∧
    K (.int .i64 n1) H1
theorem segment_Segment_Bytes_eq (s : Nat) (so : Nat) (H : Heap) (K : Value → Heap → Prop) : segment_Segment_Bytes_vc s so H K = denFn Tryz.prog segment_Segment_Bytes_ann Tryz.f17 (bodyOf Tryz.f17) [.pointer (some ⟨s, so, none⟩)] H K := by kernel_rfl
theorem segment_Segment_Bytes_fn (s : Nat) (so : Nat) {H : Heap} {K : Value → Heap → Prop} (h : segment_Segment_Bytes_vc s so H K) : FnH Tryz.prog 17 #[.pointer (some ⟨s, so, none⟩)] H K :=
  denFn_fn Tryz.mixed segment_Segment_Bytes_ann Tryz.func17 (bodyOf_spec (by kernel_rfl)) (segment_Segment_Bytes_eq s so H K) h

/-! function 45: sort.Search -/
def Search_Safe_ann : Anns := { hid := [], loops := [(0, { slots := [(5, .int .i64), (6, .int .i64)], kept := [1], locs := [], keptL := [] })], joins := [], mix := [] }
def Search_Safe_vc (n : Int) (f_c0 : Nat) (f_c1 : Nat) (H : Heap) (K : Value → Heap → Prop) : Prop :=
  ∃ I1 : Int → Int → Heap → Prop,
  ∃ M1 : Int → Int → Heap → Nat,
  I1 0 n H ∧
  ∀ i_1 : Int,
  ∀ j_1 : Int,
  ∀ H1 : Heap,
  I1 i_1 j_1 H1 →
  br (decide ((i_1 : Int) < j_1)) (
    FnH Tryz.prog 46 #[.int .i64 (IntKind.wrap .i64 (shrI .u64 (IntKind.wrap .u64 (IntKind.wrap .i64 (i_1 + j_1))) 1)), .pointer (some ⟨f_c0, 0, none⟩), .pointer (some ⟨f_c1, 0, none⟩)] H1 fun r1 H2 =>
      ∃ b1 : Bool,
      r1 = .bool b1 ∧
      br (!b1) (
        SelfEq ([.v (.func (.func 46) #[] #[.pointer (some ⟨f_c0, 0, none⟩), .pointer (some ⟨f_c1, 0, none⟩)])], [], []) ∧
        I1 (IntKind.wrap .i64 ((IntKind.wrap .i64 (shrI .u64 (IntKind.wrap .u64 (IntKind.wrap .i64 (i_1 + j_1))) 1)) + 1)) j_1 H2 ∧
        M1 (IntKind.wrap .i64 ((IntKind.wrap .i64 (shrI .u64 (IntKind.wrap .u64 (IntKind.wrap .i64 (i_1 + j_1))) 1)) + 1)) j_1 H2 < M1 i_1 j_1 H1)
       (
        SelfEq ([.v (.func (.func 46) #[] #[.pointer (some ⟨f_c0, 0, none⟩), .pointer (some ⟨f_c1, 0, none⟩)])], [], []) ∧
        I1 i_1 (IntKind.wrap .i64 (shrI .u64 (IntKind.wrap .u64 (IntKind.wrap .i64 (i_1 + j_1))) 1)) H2 ∧
        M1 i_1 (IntKind.wrap .i64 (shrI .u64 (IntKind.wrap .u64 (IntKind.wrap .i64 (i_1 + j_1))) 1)) H2 < M1 i_1 j_1 H1))
   (
    K (.int .i64 i_1) H1)
theorem Search_Safe_eq (n : Int) (f_c0 : Nat) (f_c1 : Nat) (H : Heap) (K : Value → Heap → Prop) : Search_Safe_vc n f_c0 f_c1 H K = denFn Tryz.prog Search_Safe_ann Tryz.f45 (bodyOf Tryz.f45) [.int .i64 n, .func (.func 46) #[] #[.pointer (some ⟨f_c0, 0, none⟩), .pointer (some ⟨f_c1, 0, none⟩)]] H K := by kernel_rfl
theorem Search_Safe_fn (n : Int) (f_c0 : Nat) (f_c1 : Nat) {H : Heap} {K : Value → Heap → Prop} (h : Search_Safe_vc n f_c0 f_c1 H K) : FnH Tryz.prog 45 #[.int .i64 n, .func (.func 46) #[] #[.pointer (some ⟨f_c0, 0, none⟩), .pointer (some ⟨f_c1, 0, none⟩)]] H K :=
  denFn_fn Tryz.mixed Search_Safe_ann Tryz.func45 (bodyOf_spec (by kernel_rfl)) (Search_Safe_eq n f_c0 f_c1 H K) h

/-! function 45: sort.Search -/
def Search_Read_ann : Anns := { hid := [], loops := [(0, { slots := [(5, .int .i64), (6, .int .i64)], kept := [1], locs := [], keptL := [] })], joins := [], mix := [] }
def Search_Read_vc (n : Int) (f_c0 : Nat) (f_c1 : Nat) (H : Heap) (K : Value → Heap → Prop) : Prop :=
  ∃ I1 : Int → Int → Heap → Prop,
  ∃ M1 : Int → Int → Heap → Nat,
  I1 0 n H ∧
  ∀ i_1 : Int,
  ∀ j_1 : Int,
  ∀ H1 : Heap,
  I1 i_1 j_1 H1 →
  br (decide ((i_1 : Int) < j_1)) (
    FnH Tryz.prog 50 #[.int .i64 (IntKind.wrap .i64 (shrI .u64 (IntKind.wrap .u64 (IntKind.wrap .i64 (i_1 + j_1))) 1)), .pointer (some ⟨f_c0, 0, none⟩), .pointer (some ⟨f_c1, 0, none⟩)] H1 fun r1 H2 =>
      ∃ b1 : Bool,
      r1 = .bool b1 ∧
      br (!b1) (
        SelfEq ([.v (.func (.func 50) #[] #[.pointer (some ⟨f_c0, 0, none⟩), .pointer (some ⟨f_c1, 0, none⟩)])], [], []) ∧
        I1 (IntKind.wrap .i64 ((IntKind.wrap .i64 (shrI .u64 (IntKind.wrap .u64 (IntKind.wrap .i64 (i_1 + j_1))) 1)) + 1)) j_1 H2 ∧
        M1 (IntKind.wrap .i64 ((IntKind.wrap .i64 (shrI .u64 (IntKind.wrap .u64 (IntKind.wrap .i64 (i_1 + j_1))) 1)) + 1)) j_1 H2 < M1 i_1 j_1 H1)
       (
        SelfEq ([.v (.func (.func 50) #[] #[.pointer (some ⟨f_c0, 0, none⟩), .pointer (some ⟨f_c1, 0, none⟩)])], [], []) ∧
        I1 i_1 (IntKind.wrap .i64 (shrI .u64 (IntKind.wrap .u64 (IntKind.wrap .i64 (i_1 + j_1))) 1)) H2 ∧
        M1 i_1 (IntKind.wrap .i64 (shrI .u64 (IntKind.wrap .u64 (IntKind.wrap .i64 (i_1 + j_1))) 1)) H2 < M1 i_1 j_1 H1))
   (
    K (.int .i64 i_1) H1)
theorem Search_Read_eq (n : Int) (f_c0 : Nat) (f_c1 : Nat) (H : Heap) (K : Value → Heap → Prop) : Search_Read_vc n f_c0 f_c1 H K = denFn Tryz.prog Search_Read_ann Tryz.f45 (bodyOf Tryz.f45) [.int .i64 n, .func (.func 50) #[] #[.pointer (some ⟨f_c0, 0, none⟩), .pointer (some ⟨f_c1, 0, none⟩)]] H K := by kernel_rfl
theorem Search_Read_fn (n : Int) (f_c0 : Nat) (f_c1 : Nat) {H : Heap} {K : Value → Heap → Prop} (h : Search_Read_vc n f_c0 f_c1 H K) : FnH Tryz.prog 45 #[.int .i64 n, .func (.func 50) #[] #[.pointer (some ⟨f_c0, 0, none⟩), .pointer (some ⟨f_c1, 0, none⟩)]] H K :=
  denFn_fn Tryz.mixed Search_Read_ann Tryz.func45 (bodyOf_spec (by kernel_rfl)) (Search_Read_eq n f_c0 f_c1 H K) h

/-! function 45: sort.Search -/
def Search_Cut_ann : Anns := { hid := [], loops := [(0, { slots := [(5, .int .i64), (6, .int .i64)], kept := [1], locs := [], keptL := [] })], joins := [], mix := [] }
def Search_Cut_vc (n : Int) (f_c0 : Nat) (f_c1 : Nat) (H : Heap) (K : Value → Heap → Prop) : Prop :=
  ∃ I1 : Int → Int → Heap → Prop,
  ∃ M1 : Int → Int → Heap → Nat,
  I1 0 n H ∧
  ∀ i_1 : Int,
  ∀ j_1 : Int,
  ∀ H1 : Heap,
  I1 i_1 j_1 H1 →
  br (decide ((i_1 : Int) < j_1)) (
    FnH Tryz.prog 58 #[.int .i64 (IntKind.wrap .i64 (shrI .u64 (IntKind.wrap .u64 (IntKind.wrap .i64 (i_1 + j_1))) 1)), .pointer (some ⟨f_c0, 0, none⟩), .pointer (some ⟨f_c1, 0, none⟩)] H1 fun r1 H2 =>
      ∃ b1 : Bool,
      r1 = .bool b1 ∧
      br (!b1) (
        SelfEq ([.v (.func (.func 58) #[] #[.pointer (some ⟨f_c0, 0, none⟩), .pointer (some ⟨f_c1, 0, none⟩)])], [], []) ∧
        I1 (IntKind.wrap .i64 ((IntKind.wrap .i64 (shrI .u64 (IntKind.wrap .u64 (IntKind.wrap .i64 (i_1 + j_1))) 1)) + 1)) j_1 H2 ∧
        M1 (IntKind.wrap .i64 ((IntKind.wrap .i64 (shrI .u64 (IntKind.wrap .u64 (IntKind.wrap .i64 (i_1 + j_1))) 1)) + 1)) j_1 H2 < M1 i_1 j_1 H1)
       (
        SelfEq ([.v (.func (.func 58) #[] #[.pointer (some ⟨f_c0, 0, none⟩), .pointer (some ⟨f_c1, 0, none⟩)])], [], []) ∧
        I1 i_1 (IntKind.wrap .i64 (shrI .u64 (IntKind.wrap .u64 (IntKind.wrap .i64 (i_1 + j_1))) 1)) H2 ∧
        M1 i_1 (IntKind.wrap .i64 (shrI .u64 (IntKind.wrap .u64 (IntKind.wrap .i64 (i_1 + j_1))) 1)) H2 < M1 i_1 j_1 H1))
   (
    K (.int .i64 i_1) H1)
theorem Search_Cut_eq (n : Int) (f_c0 : Nat) (f_c1 : Nat) (H : Heap) (K : Value → Heap → Prop) : Search_Cut_vc n f_c0 f_c1 H K = denFn Tryz.prog Search_Cut_ann Tryz.f45 (bodyOf Tryz.f45) [.int .i64 n, .func (.func 58) #[] #[.pointer (some ⟨f_c0, 0, none⟩), .pointer (some ⟨f_c1, 0, none⟩)]] H K := by kernel_rfl
theorem Search_Cut_fn (n : Int) (f_c0 : Nat) (f_c1 : Nat) {H : Heap} {K : Value → Heap → Prop} (h : Search_Cut_vc n f_c0 f_c1 H K) : FnH Tryz.prog 45 #[.int .i64 n, .func (.func 58) #[] #[.pointer (some ⟨f_c0, 0, none⟩), .pointer (some ⟨f_c1, 0, none⟩)]] H K :=
  denFn_fn Tryz.mixed Search_Cut_ann Tryz.func45 (bodyOf_spec (by kernel_rfl)) (Search_Cut_eq n f_c0 f_c1 H K) h

/-! function 46: (*logboom/segment.Segment).Safe$1 -/
def segment_Segment_Safe_1_ann : Anns := { hid := [], loops := [], joins := [], mix := [] }
def segment_Segment_Safe_1_vc (i : Int) (c0_c : Nat) (c1_c : Nat) (H : Heap) (K : Value → Heap → Prop) : Prop :=
  ∃ p1 : Option Addr,
  cellH H ⟨c0_c, 0, none⟩ = some (.pointer p1) ∧
  ptrm p1 fun q1 o1 =>
  ∃ l1 : Sl,
  cellH H ⟨q1, o1 + 3, none⟩ = some (.slice l1.p l1.n l1.c) ∧
  ∃ q2 : Nat,
  ∃ o2 : Nat,
  (l1.p : Option Addr) = some ⟨q2, o2, none⟩ ∧
  0 ≤ (i : Int) ∧
  (i : Int) < (l1.n : Nat) ∧
  ∃ n1 : Int,
  cellH H ⟨q2, o2 + Int.toNat i * 4 + 3, none⟩ = some (.int .i64 n1) ∧
  ∃ n2 : Int,
  cellH H ⟨c1_c, 0, none⟩ = some (.int .i64 n2) ∧
  K (.bool (decide ((n1 : Int) > n2))) H
theorem segment_Segment_Safe_1_eq (i : Int) (c0_c : Nat) (c1_c : Nat) (H : Heap) (K : Value → Heap → Prop) : segment_Segment_Safe_1_vc i c0_c c1_c H K = denFn Tryz.prog segment_Segment_Safe_1_ann Tryz.f46 (bodyOf Tryz.f46) [.int .i64 i, .pointer (some ⟨c0_c, 0, none⟩), .pointer (some ⟨c1_c, 0, none⟩)] H K := by kernel_rfl
theorem segment_Segment_Safe_1_fn (i : Int) (c0_c : Nat) (c1_c : Nat) {H : Heap} {K : Value → Heap → Prop} (h : segment_Segment_Safe_1_vc i c0_c c1_c H K) : FnH Tryz.prog 46 #[.int .i64 i, .pointer (some ⟨c0_c, 0, none⟩), .pointer (some ⟨c1_c, 0, none⟩)] H K :=
  denFn_fn Tryz.mixed segment_Segment_Safe_1_ann Tryz.func46 (bodyOf_spec (by kernel_rfl)) (segment_Segment_Safe_1_eq i c0_c c1_c H K) h

/-! function 50: (*logboom/segment.Segment).Read$1 -/
def segment_Segment_Read_1_ann : Anns := { hid := [], loops := [], joins := [], mix := [] }
def segment_Segment_Read_1_vc (i : Int) (c0_c : Nat) (c1_c : Nat) (H : Heap) (K : Value → Heap → Prop) : Prop :=
  ∃ p1 : Option Addr,
  cellH H ⟨c0_c, 0, none⟩ = some (.pointer p1) ∧
  ptrm p1 fun q1 o1 =>
  ∃ l1 : Sl,
  cellH H ⟨q1, o1 + 3, none⟩ = some (.slice l1.p l1.n l1.c) ∧
  ∃ p2 : Option Addr,
  cellH H ⟨c0_c, 0, none⟩ = some (.pointer p2) ∧
  ptrm p2 fun q2 o2 =>
  ∃ l2 : Sl,
  cellH H ⟨q2, o2 + 4, none⟩ = some (.slice l2.p l2.n l2.c) ∧
  ∃ q3 : Nat,
  ∃ o3 : Nat,
  (l2.p : Option Addr) = some ⟨q3, o3, none⟩ ∧
  0 ≤ (i : Int) ∧
  (i : Int) < (l2.n : Nat) ∧
  ∃ n1 : Int,
  cellH H ⟨q3, o3 + Int.toNat i, none⟩ = some (.int .i64 n1) ∧
  ∃ q4 : Nat,
  ∃ o4 : Nat,
  (l1.p : Option Addr) = some ⟨q4, o4, none⟩ ∧
  0 ≤ (n1 : Int) ∧
  (n1 : Int) < (l1.n : Nat) ∧
  ∃ n2 : Int,
  cellH H ⟨q4, o4 + Int.toNat n1 * 4, none⟩ = some (.int .i64 n2) ∧
  ∃ n3 : Int,
  cellH H ⟨c1_c, 0, none⟩ = some (.int .i64 n3) ∧
  K (.bool (decide ((n2 : Int) > n3))) H
theorem segment_Segment_Read_1_eq (i : Int) (c0_c : Nat) (c1_c : Nat) (H : Heap) (K : Value → Heap → Prop) : segment_Segment_Read_1_vc i c0_c c1_c H K = denFn Tryz.prog segment_Segment_Read_1_ann Tryz.f50 (bodyOf Tryz.f50) [.int .i64 i, .pointer (some ⟨c0_c, 0, none⟩), .pointer (some ⟨c1_c, 0, none⟩)] H K := by kernel_rfl
theorem segment_Segment_Read_1_fn (i : Int) (c0_c : Nat) (c1_c : Nat) {H : Heap} {K : Value → Heap → Prop} (h : segment_Segment_Read_1_vc i c0_c c1_c H K) : FnH Tryz.prog 50 #[.int .i64 i, .pointer (some ⟨c0_c, 0, none⟩), .pointer (some ⟨c1_c, 0, none⟩)] H K :=
  denFn_fn Tryz.mixed segment_Segment_Read_1_ann Tryz.func50 (bodyOf_spec (by kernel_rfl)) (segment_Segment_Read_1_eq i c0_c c1_c H K) h

/-! function 58: (*logboom/segment.Segment).Cut$1 -/
def segment_Segment_Cut_1_ann : Anns := { hid := [], loops := [], joins := [], mix := [] }
def segment_Segment_Cut_1_vc (i : Int) (c0_c : Nat) (c1_c : Nat) (H : Heap) (K : Value → Heap → Prop) : Prop :=
  ∃ p1 : Option Addr,
  cellH H ⟨c0_c, 0, none⟩ = some (.pointer p1) ∧
  ptrm p1 fun q1 o1 =>
  ∃ l1 : Sl,
  cellH H ⟨q1, o1 + 3, none⟩ = some (.slice l1.p l1.n l1.c) ∧
  ∃ q2 : Nat,
  ∃ o2 : Nat,
  (l1.p : Option Addr) = some ⟨q2, o2, none⟩ ∧
  0 ≤ (i : Int) ∧
  (i : Int) < (l1.n : Nat) ∧
  ∃ n1 : Int,
  cellH H ⟨q2, o2 + Int.toNat i * 4 + 1, none⟩ = some (.int .i64 n1) ∧
  ∃ n2 : Int,
  cellH H ⟨c1_c, 0, none⟩ = some (.int .i64 n2) ∧
  K (.bool (decide ((n1 : Int) > n2))) H
theorem segment_Segment_Cut_1_eq (i : Int) (c0_c : Nat) (c1_c : Nat) (H : Heap) (K : Value → Heap → Prop) : segment_Segment_Cut_1_vc i c0_c c1_c H K = denFn Tryz.prog segment_Segment_Cut_1_ann Tryz.f58 (bodyOf Tryz.f58) [.int .i64 i, .pointer (some ⟨c0_c, 0, none⟩), .pointer (some ⟨c1_c, 0, none⟩)] H K := by kernel_rfl
theorem segment_Segment_Cut_1_fn (i : Int) (c0_c : Nat) (c1_c : Nat) {H : Heap} {K : Value → Heap → Prop} (h : segment_Segment_Cut_1_vc i c0_c c1_c H K) : FnH Tryz.prog 58 #[.int .i64 i, .pointer (some ⟨c0_c, 0, none⟩), .pointer (some ⟨c1_c, 0, none⟩)] H K :=
  denFn_fn Tryz.mixed segment_Segment_Cut_1_ann Tryz.func58 (bodyOf_spec (by kernel_rfl)) (segment_Segment_Cut_1_eq i c0_c c1_c H K) h

/-! function 59: slices.DeleteFunc[[]int,int] -/
def DeleteFunc_Cut_ann : Anns := { hid := [], loops := [(0, { slots := [(5, .int .i64), (6, .int .i64)], kept := [0, 1], locs := [], keptL := [] })], joins := [], mix := [] }
def DeleteFunc_Cut_vc (s : Sl) (del_c0 : Nat) (H : Heap) (K : Value → Heap → Prop) : Prop :=
  FnH Tryz.prog 81 #[.slice s.p s.n s.c, .func (.func 60) #[] #[.pointer (some ⟨del_c0, 0, none⟩)]] H fun r1 H1 =>
    ∃ n1 : Int,
    r1 = .int .i64 n1 ∧
    br ((n1 : Int) == (-1)) (
      K (.slice s.p s.n s.c) H1)
     (
      ∃ I1 : Int → Int → Heap → Prop,
      ∃ M1 : Int → Int → Heap → Nat,
      I1 n1 (IntKind.wrap .i64 (n1 + 1)) H1 ∧
      ∀ i_1 : Int,
      ∀ j_1 : Int,
      ∀ H2 : Heap,
      I1 i_1 j_1 H2 →
      br (decide ((j_1 : Int) < (s.n : Nat))) (
        ∃ q1 : Nat,
        ∃ o1 : Nat,
        (s.p : Option Addr) = some ⟨q1, o1, none⟩ ∧
        0 ≤ (j_1 : Int) ∧
        (j_1 : Int) < (s.n : Nat) ∧
        ∃ n2 : Int,
        cellH H2 ⟨q1, o1 + Int.toNat j_1, none⟩ = some (.int .i64 n2) ∧
        FnH Tryz.prog 60 #[.int .i64 n2, .pointer (some ⟨del_c0, 0, none⟩)] H2 fun r2 H3 =>
          ∃ b1 : Bool,
          r2 = .bool b1 ∧
          br (!b1) (
            ∃ q2 : Nat,
            ∃ o2 : Nat,
            (s.p : Option Addr) = some ⟨q2, o2, none⟩ ∧
            0 ≤ (i_1 : Int) ∧
            (i_1 : Int) < (s.n : Nat) ∧
            (∃ u, cellH H3 ⟨q2, o2 + Int.toNat i_1, none⟩ = some u) ∧
            frozenH H3 ⟨q2, o2 + Int.toNat i_1, none⟩ = false ∧
            letH (Heap.set H3 ⟨q2, o2 + Int.toNat i_1, none⟩ (.int .i64 n2)) fun H4 =>
            SelfEq ([.v (.slice s.p s.n s.c), .v (.func (.func 60) #[] #[.pointer (some ⟨del_c0, 0, none⟩)])], [], []) ∧
            I1 (IntKind.wrap .i64 (i_1 + 1)) (IntKind.wrap .i64 (j_1 + 1)) H4 ∧
            M1 (IntKind.wrap .i64 (i_1 + 1)) (IntKind.wrap .i64 (j_1 + 1)) H4 < M1 i_1 j_1 H2)
           (
            SelfEq ([.v (.slice s.p s.n s.c), .v (.func (.func 60) #[] #[.pointer (some ⟨del_c0, 0, none⟩)])], [], []) ∧
            I1 i_1 (IntKind.wrap .i64 (j_1 + 1)) H3 ∧
            M1 i_1 (IntKind.wrap .i64 (j_1 + 1)) H3 < M1 i_1 j_1 H2))
       (
        0 ≤ (i_1 : Int) ∧
        (i_1 : Int) ≤ (s.n : Nat) ∧
        runH Tryz.prog (Builtin.clear_ #[41] 0 #[.slice (slP s.p s.c i_1 1) (Int.toNat ((s.n : Nat) - i_1)) (Int.toNat ((s.c : Nat) - i_1))]) H2 fun r3 H5 =>
          r3 = .tuple #[] ∧
          0 ≤ (i_1 : Int) ∧
          (i_1 : Int) ≤ (s.c : Nat) ∧
          K (.slice (slP s.p s.c (0 : Int) 1) (Int.toNat (i_1 - (0 : Int))) (Int.toNat ((s.c : Nat) - (0 : Int)))) H5))
theorem DeleteFunc_Cut_eq (s : Sl) (del_c0 : Nat) (H : Heap) (K : Value → Heap → Prop) : DeleteFunc_Cut_vc s del_c0 H K = denFn Tryz.prog DeleteFunc_Cut_ann Tryz.f59 (bodyOf Tryz.f59) [.slice s.p s.n s.c, .func (.func 60) #[] #[.pointer (some ⟨del_c0, 0, none⟩)]] H K := by kernel_rfl
theorem DeleteFunc_Cut_fn (s : Sl) (del_c0 : Nat) {H : Heap} {K : Value → Heap → Prop} (h : DeleteFunc_Cut_vc s del_c0 H K) : FnH Tryz.prog 59 #[.slice s.p s.n s.c, .func (.func 60) #[] #[.pointer (some ⟨del_c0, 0, none⟩)]] H K :=
  denFn_fn Tryz.mixed DeleteFunc_Cut_ann Tryz.func59 (bodyOf_spec (by kernel_rfl)) (DeleteFunc_Cut_eq s del_c0 H K) h

/-! function 60: (*logboom/segment.Segment).Cut$2 -/
def segment_Segment_Cut_2_ann : Anns := { hid := [], loops := [], joins := [], mix := [] }
def segment_Segment_Cut_2_vc (i : Int) (c0_c : Nat) (H : Heap) (K : Value → Heap → Prop) : Prop :=
  ∃ n1 : Int,
  cellH H ⟨c0_c, 0, none⟩ = some (.int .i64 n1) ∧
  K (.bool (decide ((i : Int) ≥ n1))) H
theorem segment_Segment_Cut_2_eq (i : Int) (c0_c : Nat) (H : Heap) (K : Value → Heap → Prop) : segment_Segment_Cut_2_vc i c0_c H K = denFn Tryz.prog segment_Segment_Cut_2_ann Tryz.f60 (bodyOf Tryz.f60) [.int .i64 i, .pointer (some ⟨c0_c, 0, none⟩)] H K := by kernel_rfl
theorem segment_Segment_Cut_2_fn (i : Int) (c0_c : Nat) {H : Heap} {K : Value → Heap → Prop} (h : segment_Segment_Cut_2_vc i c0_c H K) : FnH Tryz.prog 60 #[.int .i64 i, .pointer (some ⟨c0_c, 0, none⟩)] H K :=
  denFn_fn Tryz.mixed segment_Segment_Cut_2_ann Tryz.func60 (bodyOf_spec (by kernel_rfl)) (segment_Segment_Cut_2_eq i c0_c H K) h

/-! function 81: slices.IndexFunc[[]int,int] -/
def IndexFunc_Cut_ann : Anns := { hid := [], loops := [(0, { slots := [(8, .int .i64)], kept := [0, 1, 7], locs := [], keptL := [] })], joins := [], mix := [] }
def IndexFunc_Cut_vc (s : Sl) (f_c0 : Nat) (H : Heap) (K : Value → Heap → Prop) : Prop :=
  ∃ I1 : Int → Heap → Prop,
  ∃ M1 : Int → Heap → Nat,
  I1 0 H ∧
  ∀ n_1 : Int,
  ∀ H1 : Heap,
  I1 n_1 H1 →
  br (decide ((n_1 : Int) < (s.n : Nat))) (
    ∃ q1 : Nat,
    ∃ o1 : Nat,
    (s.p : Option Addr) = some ⟨q1, o1, none⟩ ∧
    0 ≤ (n_1 : Int) ∧
    (n_1 : Int) < (s.n : Nat) ∧
    ∃ n1 : Int,
    cellH H1 ⟨q1, o1 + Int.toNat n_1, none⟩ = some (.int .i64 n1) ∧
    FnH Tryz.prog 60 #[.int .i64 n1, .pointer (some ⟨f_c0, 0, none⟩)] H1 fun r1 H2 =>
      ∃ b1 : Bool,
      r1 = .bool b1 ∧
      br (b1) (
        K (.int .i64 n_1) H2)
       (
        SelfEq ([.v (.slice s.p s.n s.c), .v (.func (.func 60) #[] #[.pointer (some ⟨f_c0, 0, none⟩)]), .v (.int .i64 (s.n : Nat))], [], []) ∧
        I1 (IntKind.wrap .i64 (n_1 + 1)) H2 ∧
        M1 (IntKind.wrap .i64 (n_1 + 1)) H2 < M1 n_1 H1))
   (
    K (.int .i64 (-1)) H1)
theorem IndexFunc_Cut_eq (s : Sl) (f_c0 : Nat) (H : Heap) (K : Value → Heap → Prop) : IndexFunc_Cut_vc s f_c0 H K = denFn Tryz.prog IndexFunc_Cut_ann Tryz.f81 (bodyOf Tryz.f81) [.slice s.p s.n s.c, .func (.func 60) #[] #[.pointer (some ⟨f_c0, 0, none⟩)]] H K := by kernel_rfl
theorem IndexFunc_Cut_fn (s : Sl) (f_c0 : Nat) {H : Heap} {K : Value → Heap → Prop} (h : IndexFunc_Cut_vc s f_c0 H K) : FnH Tryz.prog 81 #[.slice s.p s.n s.c, .func (.func 60) #[] #[.pointer (some ⟨f_c0, 0, none⟩)]] H K :=
  denFn_fn Tryz.mixed IndexFunc_Cut_ann Tryz.func81 (bodyOf_spec (by kernel_rfl)) (IndexFunc_Cut_eq s f_c0 H K) h

/-! function 11: logboom/segment.Open -/
def segment_Open_ann : Anns := { hid := [14], loops := [(0, { slots := [(13, .int .i64)], kept := [0, 1, 10, 11], locs := [], keptL := [] })], joins := [((2, 0), { slots := [(13, .int .i64)], kept := [0, 1, 10, 11], locs := [], keptL := [] })], mix := [(11, []), (12, [10])] }
def segment_Open_vc (d0 : Nat) (d0o : Nat) (name : ByteArray) (base : Int) (H : Heap) (K : Value → Heap → Prop) : Prop :=
  br (decide ((base : Int) < 0)) (
    K (.tuple #[.pointer none, .int .i64 0, .int .i64 1]) H)
   (
    br (decide ((base : Int) > 1000000000)) (
      K (.tuple #[.pointer none, .int .i64 0, .int .i64 1]) H)
     (
      FnH Tryz.prog 38 #[.pointer (some ⟨d0, d0o, none⟩), .string name, .string (⟨#[]⟩ : ByteArray)] H fun r1 H1 =>
        ∃ n1 : Int,
        r1 = .int .i64 n1 ∧
        br ((n1 : Int) != 0) (
          K (.tuple #[.pointer none, .int .i64 0, .int .i64 n1]) H1)
         (
          ∀ q1 : Nat,
          H1 q1 = none →
          letH (Heap.upd H1 q1 (.cells #[.pointer (some ⟨d0, d0o, none⟩), .string name, .int .i64 base, .slice none 0 0, .slice none 0 0] 76 (0, 0))) fun H2 =>
          FnH Tryz.prog 30 #[.pointer (some ⟨d0, d0o, none⟩), .string name] H2 fun r2 H3 =>
            ∃ s1 : ByteArray,
            ∃ n2 : Int,
            r2 = .tuple #[.string s1, .int .i64 n2] ∧
            ∃ J1 : Int → Heap → Prop,
            (∃ I1 : Int → Heap → Prop,
            ∃ M1 : Int → Heap → Nat,
            I1 0 H3 ∧
            ∀ at_1 : Int,
            ∀ H4 : Heap,
            I1 at_1 H4 →
            br (decide ((at_1 : Int) < (s1.size : Nat))) (
              ∃ l1 : Sl,
              cellH H4 ⟨q1, 3, none⟩ = some (.slice l1.p l1.n l1.c) ∧
              br (decide (((l1.n : Nat) : Int) < 4096)) (
                0 ≤ (at_1 : Int) ∧
                (at_1 : Int) ≤ (s1.size : Nat) ∧
                FnH Tryz.prog 39 #[.string (s1.extract (Int.toNat at_1) (Int.toNat (s1.size : Nat)))] H4 fun r3 H5 =>
                  ∃ n3 : Int,
                  ∃ n4 : Int,
                  ∃ n5 : Int,
                  ∃ n6 : Int,
                  ∃ n7 : Int,
                  ∃ l2 : Sl,
                  ∃ n8 : Int,
                  ∃ n9 : Int,
                  r3 = .tuple #[.agg #[.int .i64 n3, .int .i64 n4, .int .i64 n5, .int .i64 n6, .int .i64 n7, .slice l2.p l2.n l2.c], .int .i64 n8, .int .i64 n9] ∧
                  br ((n9 : Int) != 0) (
                    SelfEq ([.v (.pointer (some ⟨d0, d0o, none⟩)), .v (.string name), .v (.pointer (some ⟨q1, 0, none⟩)), .v (.string s1)], [], []) ∧
                    J1 at_1 H5)
                   (
                    FnH Tryz.prog 12 #[.pointer (some ⟨q1, 0, none⟩)] H5 fun r4 H6 =>
                      ∃ n10 : Int,
                      r4 = .int .i64 n10 ∧
                      Sub H5 H6 ∧
                      br ((n3 : Int) != n10) (
                        SelfEq ([.v (.pointer (some ⟨d0, d0o, none⟩)), .v (.string name), .v (.pointer (some ⟨q1, 0, none⟩)), .v (.string s1)], [], []) ∧
                        J1 at_1 H6)
                       (
                        FnH Tryz.prog 40 #[.agg #[.int .i64 n3, .int .i64 n4, .int .i64 n5, .int .i64 n6, .int .i64 n7, .slice l2.p l2.n l2.c]] H6 fun r5 H7 =>
                          ∃ n11 : Int,
                          r5 = .int .i64 n11 ∧
                          Sub H5 H7 ∧
                          br (decide ((n11 : Int) > 1000000000)) (
                            SelfEq ([.v (.pointer (some ⟨d0, d0o, none⟩)), .v (.string name), .v (.pointer (some ⟨q1, 0, none⟩)), .v (.string s1)], [], []) ∧
                            J1 at_1 H7)
                           (
                            FnH Tryz.prog 40 #[.agg #[.int .i64 n3, .int .i64 n4, .int .i64 n5, .int .i64 n6, .int .i64 n7, .slice l2.p l2.n l2.c]] H7 fun r6 H8 =>
                              ∃ n12 : Int,
                              r6 = .int .i64 n12 ∧
                              Sub H7 H8 ∧
                              FnH Tryz.prog 41 #[.pointer (some ⟨q1, 0, none⟩), .agg #[.int .i64 n3, .int .i64 n12, .int .i64 at_1, .int .i64 (IntKind.wrap .i64 (at_1 + n8))]] H8 fun r7 H9 =>
                                r7 = .tuple #[] ∧
                                SelfEq ([.v (.pointer (some ⟨d0, d0o, none⟩)), .v (.string name), .v (.pointer (some ⟨q1, 0, none⟩)), .v (.string s1)], [], []) ∧
                                I1 (IntKind.wrap .i64 (at_1 + n8)) H9 ∧
                                M1 (IntKind.wrap .i64 (at_1 + n8)) H9 < M1 at_1 H4))))
               (
                SelfEq ([.v (.pointer (some ⟨d0, d0o, none⟩)), .v (.string name), .v (.pointer (some ⟨q1, 0, none⟩)), .v (.string s1)], [], []) ∧
                J1 at_1 H4))
             (
              SelfEq ([.v (.pointer (some ⟨d0, d0o, none⟩)), .v (.string name), .v (.pointer (some ⟨q1, 0, none⟩)), .v (.string s1)], [], []) ∧
              J1 at_1 H4)) ∧
            ∀ at_2 : Int,
            ∀ H10 : Heap,
            J1 at_2 H10 →
            FnH Tryz.prog 42 #[.pointer (some ⟨d0, d0o, none⟩), .string name, .int .i64 at_2] H10 fun r8 H11 =>
              ∃ n13 : Int,
              r8 = .int .i64 n13 ∧
              FnH Tryz.prog 43 #[.pointer (some ⟨d0, d0o, none⟩), .string name] H11 fun r9 H12 =>
                ∃ n14 : Int,
                r9 = .int .i64 n14 ∧
                K (.tuple #[.pointer (some ⟨q1, 0, none⟩), .int .i64 (IntKind.wrap .i64 ((s1.size : Nat) - at_2)), .int .i64 0]) H12)))
theorem segment_Open_eq (d0 : Nat) (d0o : Nat) (name : ByteArray) (base : Int) (H : Heap) (K : Value → Heap → Prop) : segment_Open_vc d0 d0o name base H K = denFn Tryz.prog segment_Open_ann Tryz.f11 (bodyOf Tryz.f11) [.pointer (some ⟨d0, d0o, none⟩), .string name, .int .i64 base] H K := by kernel_rfl
theorem segment_Open_fn (d0 : Nat) (d0o : Nat) (name : ByteArray) (base : Int) {H : Heap} {K : Value → Heap → Prop} (h : segment_Open_vc d0 d0o name base H K) : FnH Tryz.prog 11 #[.pointer (some ⟨d0, d0o, none⟩), .string name, .int .i64 base] H K :=
  denFn_fn Tryz.mixed segment_Open_ann Tryz.func11 (bodyOf_spec (by kernel_rfl)) (segment_Open_eq d0 d0o name base H K) h

/-! function 32: (*logboom/segment.Segment).Base -/
def segment_Segment_Base_ann : Anns := { hid := [], loops := [], joins := [], mix := [] }
def segment_Segment_Base_vc (s : Nat) (so : Nat) (H : Heap) (K : Value → Heap → Prop) : Prop :=
  ∃ n1 : Int,
  cellH H ⟨s, so + 2, none⟩ = some (.int .i64 n1) ∧
  K (.int .i64 n1) H
theorem segment_Segment_Base_eq (s : Nat) (so : Nat) (H : Heap) (K : Value → Heap → Prop) : segment_Segment_Base_vc s so H K = denFn Tryz.prog segment_Segment_Base_ann Tryz.f32 (bodyOf Tryz.f32) [.pointer (some ⟨s, so, none⟩)] H K := by kernel_rfl
theorem segment_Segment_Base_fn (s : Nat) (so : Nat) {H : Heap} {K : Value → Heap → Prop} (h : segment_Segment_Base_vc s so H K) : FnH Tryz.prog 32 #[.pointer (some ⟨s, so, none⟩)] H K :=
  denFn_fn Tryz.mixed segment_Segment_Base_ann Tryz.func32 (bodyOf_spec (by kernel_rfl)) (segment_Segment_Base_eq s so H K) h

end Go.Proofs.YtokceblmbmajgaaGreatDoor
