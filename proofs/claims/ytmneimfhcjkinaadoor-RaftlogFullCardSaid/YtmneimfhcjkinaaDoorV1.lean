/- Formulas of functions, printed by this session's vc.py; each is tied to the program by the kernel. -/
import Derived.Test.YtmneimfhcjkinaaDoorProg
import Derived.KernelRfl
import Derived.Test.YtmneimfhcjkinaaDoorHlFn
import Derived.Test.YtmneimfhcjkinaaDoorF1
namespace Go.Proofs.YtmneimfhcjkinaaDoor
open Go.HL
set_option maxRecDepth 100000
/-! function 9: (*logboom/raftlog.state).Last -/
def raftlog_state_Last_ann : Anns := { hid := [], loops := [], joins := [], mix := [] }
def raftlog_state_Last_vc (s : Nat) (so : Nat) (H : Heap) (K : Value → Heap → Prop) : Prop :=
  ∃ l1 : Sl,
  cellH H ⟨s, so + 5, none⟩ = some (.slice l1.p l1.n l1.c) ∧
  br (decide (((l1.n : Nat) : Int) > 0)) (
    ∃ l2 : Sl,
    cellH H ⟨s, so + 5, none⟩ = some (.slice l2.p l2.n l2.c) ∧
    ∃ q1 : Nat,
    ∃ o1 : Nat,
    (l2.p : Option Addr) = some ⟨q1, o1, none⟩ ∧
    0 ≤ ((IntKind.wrap .i64 ((l1.n : Nat) - 1)) : Int) ∧
    ((IntKind.wrap .i64 ((l1.n : Nat) - 1)) : Int) < (l2.n : Nat) ∧
    ∃ n1 : Int,
    cellH H ⟨q1, o1 + Int.toNat (IntKind.wrap .i64 ((l1.n : Nat) - 1)) * 3 + 1, none⟩ = some (.int .i64 n1) ∧
    ∃ l3 : Sl,
    cellH H ⟨s, so + 5, none⟩ = some (.slice l3.p l3.n l3.c) ∧
    ∃ q2 : Nat,
    ∃ o2 : Nat,
    (l3.p : Option Addr) = some ⟨q2, o2, none⟩ ∧
    0 ≤ ((IntKind.wrap .i64 ((l1.n : Nat) - 1)) : Int) ∧
    ((IntKind.wrap .i64 ((l1.n : Nat) - 1)) : Int) < (l3.n : Nat) ∧
    ∃ n2 : Int,
    cellH H ⟨q2, o2 + Int.toNat (IntKind.wrap .i64 ((l1.n : Nat) - 1)) * 3, none⟩ = some (.int .i64 n2) ∧
    K (.tuple #[.int .i64 n1, .int .i64 n2]) H)
   (
    ∃ n3 : Int,
    cellH H ⟨s, so + 2, none⟩ = some (.int .i64 n3) ∧
    ∃ n4 : Int,
    cellH H ⟨s, so + 3, none⟩ = some (.int .i64 n4) ∧
    K (.tuple #[.int .i64 n3, .int .i64 n4]) H)
theorem raftlog_state_Last_eq (s : Nat) (so : Nat) (H : Heap) (K : Value → Heap → Prop) : raftlog_state_Last_vc s so H K = denFn Tryd.prog raftlog_state_Last_ann Tryd.f9 (bodyOf Tryd.f9) [.pointer (some ⟨s, so, none⟩)] H K := by kernel_rfl
theorem raftlog_state_Last_fn (s : Nat) (so : Nat) {H : Heap} {K : Value → Heap → Prop} (h : raftlog_state_Last_vc s so H K) : FnH Tryd.prog 9 #[.pointer (some ⟨s, so, none⟩)] H K :=
  denFn_fn Tryd.mixed raftlog_state_Last_ann Tryd.func9 (bodyOf_spec (by kernel_rfl)) (raftlog_state_Last_eq s so H K) h

/-! function 10: logboom/logboomlaw9.pick -/
def logboomlaw9_pick_ann : Anns := { hid := [], loops := [], joins := [], mix := [] }
def logboomlaw9_pick_vc (c : Int) (n : Int) (H : Heap) (K : Value → Heap → Prop) : Prop :=
  br (decide ((c : Int) < 0)) (
    (n : Int) ≠ 0 ∧
    K (.int .i64 (Int.tmod (IntKind.wrap .i64 (0 - (IntKind.wrap .i64 (c + 1)))) n)) H)
   (
    (n : Int) ≠ 0 ∧
    K (.int .i64 (Int.tmod c n)) H)
theorem logboomlaw9_pick_eq (c : Int) (n : Int) (H : Heap) (K : Value → Heap → Prop) : logboomlaw9_pick_vc c n H K = denFn Tryd.prog logboomlaw9_pick_ann Tryd.f10 (bodyOf Tryd.f10) [.int .i64 c, .int .i64 n] H K := by kernel_rfl
theorem logboomlaw9_pick_fn (c : Int) (n : Int) {H : Heap} {K : Value → Heap → Prop} (h : logboomlaw9_pick_vc c n H K) : FnH Tryd.prog 10 #[.int .i64 c, .int .i64 n] H K :=
  denFn_fn Tryd.mixed logboomlaw9_pick_ann Tryd.func10 (bodyOf_spec (by kernel_rfl)) (logboomlaw9_pick_eq c n H K) h

/-! function 13: (*logboom/raftlog.state).Snapshot -/
def raftlog_state_Snapshot_ann : Anns := { hid := [], loops := [], joins := [], mix := [] }
def raftlog_state_Snapshot_vc (s : Nat) (so : Nat) (H : Heap) (K : Value → Heap → Prop) : Prop :=
  ∃ n1 : Int,
  cellH H ⟨s, so + 2, none⟩ = some (.int .i64 n1) ∧
  ∃ n2 : Int,
  cellH H ⟨s, so + 3, none⟩ = some (.int .i64 n2) ∧
  ∃ s1 : ByteArray,
  cellH H ⟨s, so + 4, none⟩ = some (.string s1) ∧
  K (.tuple #[.int .i64 n1, .int .i64 n2, .string s1]) H
theorem raftlog_state_Snapshot_eq (s : Nat) (so : Nat) (H : Heap) (K : Value → Heap → Prop) : raftlog_state_Snapshot_vc s so H K = denFn Tryd.prog raftlog_state_Snapshot_ann Tryd.f13 (bodyOf Tryd.f13) [.pointer (some ⟨s, so, none⟩)] H K := by kernel_rfl
theorem raftlog_state_Snapshot_fn (s : Nat) (so : Nat) {H : Heap} {K : Value → Heap → Prop} (h : raftlog_state_Snapshot_vc s so H K) : FnH Tryd.prog 13 #[.pointer (some ⟨s, so, none⟩)] H K :=
  denFn_fn Tryd.mixed raftlog_state_Snapshot_ann Tryd.func13 (bodyOf_spec (by kernel_rfl)) (raftlog_state_Snapshot_eq s so H K) h

/-! function 14: (*logboom/raftlog.state).From -/
def raftlog_state_From_ann : Anns := { hid := [7], loops := [], joins := [], mix := [] }
def raftlog_state_From_vc (s : Nat) (so : Nat) (index : Int) (most : Int) (H : Heap) (K : Value → Heap → Prop) : Prop :=
  FnH Tryd.prog 16 #[.pointer (some ⟨s, so, none⟩), .int .i64 index] H fun r1 H1 =>
    ∃ n1 : Int,
    ∃ n2 : Int,
    ∃ s1 : ByteArray,
    ∃ b1 : Bool,
    r1 = .tuple #[.agg #[.int .i64 n1, .int .i64 n2, .string s1], .bool b1] ∧
    br (!b1) (
      K (.slice none 0 0) H1)
     (
      br (decide ((most : Int) < 1)) (
        K (.slice none 0 0) H1)
       (
        ∃ l1 : Sl,
        cellH H1 ⟨s, so + 5, none⟩ = some (.slice l1.p l1.n l1.c) ∧
        ∃ n3 : Int,
        cellH H1 ⟨s, so + 2, none⟩ = some (.int .i64 n3) ∧
        0 ≤ (IntKind.wrap .i64 ((IntKind.wrap .i64 (index - n3)) - 1) : Int) ∧
        (IntKind.wrap .i64 ((IntKind.wrap .i64 (index - n3)) - 1) : Int) ≤ (l1.n : Nat) ∧
        0 ≤ (if ((Int.toNat ((l1.n : Nat) - (IntKind.wrap .i64 ((IntKind.wrap .i64 (index - n3)) - 1))) : Nat) : Int) < most then ((Int.toNat ((l1.n : Nat) - (IntKind.wrap .i64 ((IntKind.wrap .i64 (index - n3)) - 1))) : Nat) : Int) else most : Int) ∧
        (if ((Int.toNat ((l1.n : Nat) - (IntKind.wrap .i64 ((IntKind.wrap .i64 (index - n3)) - 1))) : Nat) : Int) < most then ((Int.toNat ((l1.n : Nat) - (IntKind.wrap .i64 ((IntKind.wrap .i64 (index - n3)) - 1))) : Nat) : Int) else most : Int) ≤ (Int.toNat ((l1.c : Nat) - (IntKind.wrap .i64 ((IntKind.wrap .i64 (index - n3)) - 1))) : Nat) ∧
        FnH Tryd.prog 32 #[.slice (slP (slP l1.p l1.c (IntKind.wrap .i64 ((IntKind.wrap .i64 (index - n3)) - 1)) 3) (Int.toNat ((l1.c : Nat) - (IntKind.wrap .i64 ((IntKind.wrap .i64 (index - n3)) - 1)))) (0 : Int) 3) (Int.toNat ((if ((Int.toNat ((l1.n : Nat) - (IntKind.wrap .i64 ((IntKind.wrap .i64 (index - n3)) - 1))) : Nat) : Int) < most then ((Int.toNat ((l1.n : Nat) - (IntKind.wrap .i64 ((IntKind.wrap .i64 (index - n3)) - 1))) : Nat) : Int) else most) - (0 : Int))) (Int.toNat ((Int.toNat ((l1.c : Nat) - (IntKind.wrap .i64 ((IntKind.wrap .i64 (index - n3)) - 1))) : Nat) - (0 : Int)))] H1 fun r2 H2 =>
          ∃ l2 : Sl,
          r2 = .slice l2.p l2.n l2.c ∧
          K (.slice l2.p l2.n l2.c) H2))
theorem raftlog_state_From_eq (s : Nat) (so : Nat) (index : Int) (most : Int) (H : Heap) (K : Value → Heap → Prop) : raftlog_state_From_vc s so index most H K = denFn Tryd.prog raftlog_state_From_ann Tryd.f14 (bodyOf Tryd.f14) [.pointer (some ⟨s, so, none⟩), .int .i64 index, .int .i64 most] H K := by kernel_rfl
theorem raftlog_state_From_fn (s : Nat) (so : Nat) (index : Int) (most : Int) {H : Heap} {K : Value → Heap → Prop} (h : raftlog_state_From_vc s so index most H K) : FnH Tryd.prog 14 #[.pointer (some ⟨s, so, none⟩), .int .i64 index, .int .i64 most] H K :=
  denFn_fn Tryd.mixed raftlog_state_From_ann Tryd.func14 (bodyOf_spec (by kernel_rfl)) (raftlog_state_From_eq s so index most H K) h

/-! function 15: (*logboom/raftlog.state).First -/
def raftlog_state_First_ann : Anns := { hid := [], loops := [], joins := [], mix := [] }
def raftlog_state_First_vc (s : Nat) (so : Nat) (H : Heap) (K : Value → Heap → Prop) : Prop :=
  ∃ n1 : Int,
  cellH H ⟨s, so + 2, none⟩ = some (.int .i64 n1) ∧
  K (.int .i64 (IntKind.wrap .i64 (n1 + 1))) H
theorem raftlog_state_First_eq (s : Nat) (so : Nat) (H : Heap) (K : Value → Heap → Prop) : raftlog_state_First_vc s so H K = denFn Tryd.prog raftlog_state_First_ann Tryd.f15 (bodyOf Tryd.f15) [.pointer (some ⟨s, so, none⟩)] H K := by kernel_rfl
theorem raftlog_state_First_fn (s : Nat) (so : Nat) {H : Heap} {K : Value → Heap → Prop} (h : raftlog_state_First_vc s so H K) : FnH Tryd.prog 15 #[.pointer (some ⟨s, so, none⟩)] H K :=
  denFn_fn Tryd.mixed raftlog_state_First_ann Tryd.func15 (bodyOf_spec (by kernel_rfl)) (raftlog_state_First_eq s so H K) h

/-! function 16: (*logboom/raftlog.state).At -/
def raftlog_state_At_ann : Anns := { hid := [4], loops := [], joins := [], mix := [] }
def raftlog_state_At_vc (s : Nat) (so : Nat) (index : Int) (H : Heap) (K : Value → Heap → Prop) : Prop :=
  ∃ n1 : Int,
  cellH H ⟨s, so + 2, none⟩ = some (.int .i64 n1) ∧
  ∃ n2 : Int,
  cellH H ⟨s, so + 2, none⟩ = some (.int .i64 n2) ∧
  br (decide ((index : Int) ≤ n2)) (
    K (.tuple #[.agg #[.int .i64 0, .int .i64 0, .string (⟨#[]⟩ : ByteArray)], .bool false]) H)
   (
    ∃ l1 : Sl,
    cellH H ⟨s, so + 5, none⟩ = some (.slice l1.p l1.n l1.c) ∧
    br (decide (((IntKind.wrap .i64 ((IntKind.wrap .i64 (index - n1)) - 1)) : Int) ≥ (l1.n : Nat))) (
      K (.tuple #[.agg #[.int .i64 0, .int .i64 0, .string (⟨#[]⟩ : ByteArray)], .bool false]) H)
     (
      ∃ l2 : Sl,
      cellH H ⟨s, so + 5, none⟩ = some (.slice l2.p l2.n l2.c) ∧
      ∃ q1 : Nat,
      ∃ o1 : Nat,
      (l2.p : Option Addr) = some ⟨q1, o1, none⟩ ∧
      0 ≤ ((IntKind.wrap .i64 ((IntKind.wrap .i64 (index - n1)) - 1)) : Int) ∧
      ((IntKind.wrap .i64 ((IntKind.wrap .i64 (index - n1)) - 1)) : Int) < (l2.n : Nat) ∧
      ∃ n3 : Int,
      cellH H ⟨q1, o1 + Int.toNat (IntKind.wrap .i64 ((IntKind.wrap .i64 (index - n1)) - 1)) * 3, none⟩ = some (.int .i64 n3) ∧
      ∃ n4 : Int,
      cellH H ⟨q1, o1 + Int.toNat (IntKind.wrap .i64 ((IntKind.wrap .i64 (index - n1)) - 1)) * 3 + 1, none⟩ = some (.int .i64 n4) ∧
      ∃ s1 : ByteArray,
      cellH H ⟨q1, o1 + Int.toNat (IntKind.wrap .i64 ((IntKind.wrap .i64 (index - n1)) - 1)) * 3 + 2, none⟩ = some (.string s1) ∧
      K (.tuple #[.agg #[.int .i64 n3, .int .i64 n4, .string s1], .bool true]) H))
theorem raftlog_state_At_eq (s : Nat) (so : Nat) (index : Int) (H : Heap) (K : Value → Heap → Prop) : raftlog_state_At_vc s so index H K = denFn Tryd.prog raftlog_state_At_ann Tryd.f16 (bodyOf Tryd.f16) [.pointer (some ⟨s, so, none⟩), .int .i64 index] H K := by kernel_rfl
theorem raftlog_state_At_fn (s : Nat) (so : Nat) (index : Int) {H : Heap} {K : Value → Heap → Prop} (h : raftlog_state_At_vc s so index H K) : FnH Tryd.prog 16 #[.pointer (some ⟨s, so, none⟩), .int .i64 index] H K :=
  denFn_fn Tryd.mixed raftlog_state_At_ann Tryd.func16 (bodyOf_spec (by kernel_rfl)) (raftlog_state_At_eq s so index H K) h

/-! function 17: logboom/logboomlaw9.same -/
def logboomlaw9_same_ann : Anns := { hid := [], loops := [(0, { slots := [(5, .int .i64)], kept := [0, 1], locs := [], keptL := [] })], joins := [], mix := [] }
def logboomlaw9_same_vc (a : Sl) (b : Sl) (H : Heap) (K : Value → Heap → Prop) : Prop :=
  br (((a.n : Nat) : Int) != (b.n : Nat)) (
    K (.bool false) H)
   (
    ∃ I1 : Int → Heap → Prop,
    ∃ M1 : Int → Heap → Nat,
    I1 0 H ∧
    ∀ i_1 : Int,
    ∀ H1 : Heap,
    I1 i_1 H1 →
    br (decide ((i_1 : Int) < (a.n : Nat))) (
      ∃ q1 : Nat,
      ∃ o1 : Nat,
      (a.p : Option Addr) = some ⟨q1, o1, none⟩ ∧
      0 ≤ (i_1 : Int) ∧
      (i_1 : Int) < (a.n : Nat) ∧
      ∃ n1 : Int,
      cellH H1 ⟨q1, o1 + Int.toNat i_1 * 3, none⟩ = some (.int .i64 n1) ∧
      ∃ n2 : Int,
      cellH H1 ⟨q1, o1 + Int.toNat i_1 * 3 + 1, none⟩ = some (.int .i64 n2) ∧
      ∃ s1 : ByteArray,
      cellH H1 ⟨q1, o1 + Int.toNat i_1 * 3 + 2, none⟩ = some (.string s1) ∧
      ∃ q2 : Nat,
      ∃ o2 : Nat,
      (b.p : Option Addr) = some ⟨q2, o2, none⟩ ∧
      0 ≤ (i_1 : Int) ∧
      (i_1 : Int) < (b.n : Nat) ∧
      ∃ n3 : Int,
      cellH H1 ⟨q2, o2 + Int.toNat i_1 * 3, none⟩ = some (.int .i64 n3) ∧
      ∃ n4 : Int,
      cellH H1 ⟨q2, o2 + Int.toNat i_1 * 3 + 1, none⟩ = some (.int .i64 n4) ∧
      ∃ s2 : ByteArray,
      cellH H1 ⟨q2, o2 + Int.toNat i_1 * 3 + 2, none⟩ = some (.string s2) ∧
      runR Tryd.prog (binOp .neq 43 (.agg #[.int .i64 n1, .int .i64 n2, .string s1]) (.agg #[.int .i64 n3, .int .i64 n4, .string s2])) H1 fun r1 =>
        ∃ b1 : Bool,
        r1 = .bool b1 ∧
        br (b1) (
          K (.bool false) H1)
         (
          SelfEq ([.v (.slice a.p a.n a.c), .v (.slice b.p b.n b.c)], [], []) ∧
          I1 (IntKind.wrap .i64 (i_1 + 1)) H1 ∧
          M1 (IntKind.wrap .i64 (i_1 + 1)) H1 < M1 i_1 H1))
     (
      K (.bool true) H1))
theorem logboomlaw9_same_eq (a : Sl) (b : Sl) (H : Heap) (K : Value → Heap → Prop) : logboomlaw9_same_vc a b H K = denFn Tryd.prog logboomlaw9_same_ann Tryd.f17 (bodyOf Tryd.f17) [.slice a.p a.n a.c, .slice b.p b.n b.c] H K := by kernel_rfl
theorem logboomlaw9_same_fn (a : Sl) (b : Sl) {H : Heap} {K : Value → Heap → Prop} (h : logboomlaw9_same_vc a b H K) : FnH Tryd.prog 17 #[.slice a.p a.n a.c, .slice b.p b.n b.c] H K :=
  denFn_fn Tryd.mixed logboomlaw9_same_ann Tryd.func17 (bodyOf_spec (by kernel_rfl)) (logboomlaw9_same_eq a b H K) h

/-! function 18: (*logboom/raftlog.state).Term -/
def raftlog_state_Term_ann : Anns := { hid := [], loops := [], joins := [], mix := [] }
def raftlog_state_Term_vc (s : Nat) (so : Nat) (H : Heap) (K : Value → Heap → Prop) : Prop :=
  ∃ n1 : Int,
  cellH H ⟨s, so, none⟩ = some (.int .i64 n1) ∧
  K (.int .i64 n1) H
theorem raftlog_state_Term_eq (s : Nat) (so : Nat) (H : Heap) (K : Value → Heap → Prop) : raftlog_state_Term_vc s so H K = denFn Tryd.prog raftlog_state_Term_ann Tryd.f18 (bodyOf Tryd.f18) [.pointer (some ⟨s, so, none⟩)] H K := by kernel_rfl
theorem raftlog_state_Term_fn (s : Nat) (so : Nat) {H : Heap} {K : Value → Heap → Prop} (h : raftlog_state_Term_vc s so H K) : FnH Tryd.prog 18 #[.pointer (some ⟨s, so, none⟩)] H K :=
  denFn_fn Tryd.mixed raftlog_state_Term_ann Tryd.func18 (bodyOf_spec (by kernel_rfl)) (raftlog_state_Term_eq s so H K) h

/-! function 19: (*logboom/raftlog.state).Vote -/
def raftlog_state_Vote_ann : Anns := { hid := [], loops := [], joins := [], mix := [] }
def raftlog_state_Vote_vc (s : Nat) (so : Nat) (H : Heap) (K : Value → Heap → Prop) : Prop :=
  ∃ n1 : Int,
  cellH H ⟨s, so + 1, none⟩ = some (.int .i64 n1) ∧
  K (.int .i64 n1) H
theorem raftlog_state_Vote_eq (s : Nat) (so : Nat) (H : Heap) (K : Value → Heap → Prop) : raftlog_state_Vote_vc s so H K = denFn Tryd.prog raftlog_state_Vote_ann Tryd.f19 (bodyOf Tryd.f19) [.pointer (some ⟨s, so, none⟩)] H K := by kernel_rfl
theorem raftlog_state_Vote_fn (s : Nat) (so : Nat) {H : Heap} {K : Value → Heap → Prop} (h : raftlog_state_Vote_vc s so H K) : FnH Tryd.prog 19 #[.pointer (some ⟨s, so, none⟩)] H K :=
  denFn_fn Tryd.mixed raftlog_state_Vote_ann Tryd.func19 (bodyOf_spec (by kernel_rfl)) (raftlog_state_Vote_eq s so H K) h

/-! function 20: logboom/logboomlaw9.some -/
def logboomlaw9_some_ann : Anns := { hid := [], loops := [(0, { slots := [(7, .slice), (8, .int .i64)], kept := [0, 1, 2], locs := [], keptL := [] })], joins := [], mix := [] }
def logboomlaw9_some_vc (after : Int) (n : Int) (term0 : Int) (H : Heap) (K : Value → Heap → Prop) : Prop :=
  ∃ I1 : Sl → Int → Heap → Prop,
  ∃ M1 : Sl → Int → Heap → Nat,
  I1 ⟨none, 0, 0⟩ 1 H ∧
  ∀ out_1 : Sl,
  ∀ i_1 : Int,
  ∀ H1 : Heap,
  I1 out_1 i_1 H1 →
  br (decide ((i_1 : Int) ≤ n)) (
    ∀ q1 : Nat,
    H1 q1 = none →
    letH (Heap.upd H1 q1 (.cells #[.int .i64 term0, .int .i64 (IntKind.wrap .i64 (after + i_1)), .string (⟨#[100]⟩ : ByteArray)] 43 (0, 0))) fun H2 =>
    runH Tryd.prog (Builtin.append_ #[31, 31] 31 #[.slice out_1.p out_1.n out_1.c, .slice (some ⟨q1, 0, none⟩) 1 1]) H2 fun r1 H3 =>
      ∃ l1 : Sl,
      r1 = .slice l1.p l1.n l1.c ∧
      SelfEq ([.v (.int .i64 after), .v (.int .i64 n), .v (.int .i64 term0)], [], []) ∧
      I1 l1 (IntKind.wrap .i64 (i_1 + 1)) H3 ∧
      M1 l1 (IntKind.wrap .i64 (i_1 + 1)) H3 < M1 out_1 i_1 H1)
   (
    K (.slice out_1.p out_1.n out_1.c) H1)
theorem logboomlaw9_some_eq (after : Int) (n : Int) (term0 : Int) (H : Heap) (K : Value → Heap → Prop) : logboomlaw9_some_vc after n term0 H K = denFn Tryd.prog logboomlaw9_some_ann Tryd.f20 (bodyOf Tryd.f20) [.int .i64 after, .int .i64 n, .int .i64 term0] H K := by kernel_rfl
theorem logboomlaw9_some_fn (after : Int) (n : Int) (term0 : Int) {H : Heap} {K : Value → Heap → Prop} (h : logboomlaw9_some_vc after n term0 H K) : FnH Tryd.prog 20 #[.int .i64 after, .int .i64 n, .int .i64 term0] H K :=
  denFn_fn Tryd.mixed logboomlaw9_some_ann Tryd.func20 (bodyOf_spec (by kernel_rfl)) (logboomlaw9_some_eq after n term0 H K) h

/-! function 26: logboom/raftlog.unsummed -/
def raftlog_unsummed_ann : Anns := { hid := [], loops := [], joins := [], mix := [(3, [])] }
def raftlog_unsummed_vc (s : ByteArray) (H : Heap) (K : Value → Heap → Prop) : Prop :=
  br (decide (((s.size : Nat) : Int) < 4)) (
    K (.tuple #[.string (⟨#[]⟩ : ByteArray), .int .i64 5]) H)
   (
    0 ≤ (4 : Int) ∧
    (4 : Int) ≤ (s.size : Nat) ∧
    FnH Tryd.prog 44 #[.string s] H fun r1 H1 =>
      ∃ n1 : Int,
      r1 = .int .i64 n1 ∧
      Sub H H1 ∧
      FnH Tryd.prog 45 #[.string (s.extract (Int.toNat 4) (Int.toNat (s.size : Nat)))] H1 fun r2 H2 =>
        ∃ n2 : Int,
        r2 = .int .i64 n2 ∧
        Sub H H2 ∧
        br ((n1 : Int) != n2) (
          K (.tuple #[.string (⟨#[]⟩ : ByteArray), .int .i64 6]) H2)
         (
          0 ≤ (4 : Int) ∧
          (4 : Int) ≤ (s.size : Nat) ∧
          K (.tuple #[.string (s.extract (Int.toNat 4) (Int.toNat (s.size : Nat))), .int .i64 0]) H2))
theorem raftlog_unsummed_eq (s : ByteArray) (H : Heap) (K : Value → Heap → Prop) : raftlog_unsummed_vc s H K = denFn Tryd.prog raftlog_unsummed_ann Tryd.f26 (bodyOf Tryd.f26) [.string s] H K := by kernel_rfl
theorem raftlog_unsummed_fn (s : ByteArray) {H : Heap} {K : Value → Heap → Prop} (h : raftlog_unsummed_vc s H K) : FnH Tryd.prog 26 #[.string s] H K :=
  denFn_fn Tryd.mixed raftlog_unsummed_ann Tryd.func26 (bodyOf_spec (by kernel_rfl)) (raftlog_unsummed_eq s H K) h

/-! function 28: logboom/raftlog.within -/
def raftlog_within_ann : Anns := { hid := [], loops := [], joins := [], mix := [] }
def raftlog_within_vc (n : Int) (least : Int) (H : Heap) (K : Value → Heap → Prop) : Prop :=
  br (decide ((n : Int) ≥ least)) (
    K (.bool (decide ((n : Int) ≤ 1000000000))) H)
   (
    K (.bool false) H)
theorem raftlog_within_eq (n : Int) (least : Int) (H : Heap) (K : Value → Heap → Prop) : raftlog_within_vc n least H K = denFn Tryd.prog raftlog_within_ann Tryd.f28 (bodyOf Tryd.f28) [.int .i64 n, .int .i64 least] H K := by kernel_rfl
theorem raftlog_within_fn (n : Int) (least : Int) {H : Heap} {K : Value → Heap → Prop} (h : raftlog_within_vc n least H K) : FnH Tryd.prog 28 #[.int .i64 n, .int .i64 least] H K :=
  denFn_fn Tryd.mixed raftlog_within_ann Tryd.func28 (bodyOf_spec (by kernel_rfl)) (raftlog_within_eq n least H K) h

/-! function 30: logboom/raftlog.summed -/
def raftlog_summed_ann : Anns := { hid := [], loops := [], joins := [], mix := [] }
def raftlog_summed_vc (s : ByteArray) (H : Heap) (K : Value → Heap → Prop) : Prop :=
  FnH Tryd.prog 45 #[.string s] H fun r1 H1 =>
    ∃ n1 : Int,
    r1 = .int .i64 n1 ∧
    FnH Tryd.prog 48 #[.int .i64 n1] H1 fun r2 H2 =>
      ∃ s1 : ByteArray,
      r2 = .string s1 ∧
      s1.size + s.size < 9223372036854775808 ∧
      K (.string (s1 ++ s)) H2
theorem raftlog_summed_eq (s : ByteArray) (H : Heap) (K : Value → Heap → Prop) : raftlog_summed_vc s H K = denFn Tryd.prog raftlog_summed_ann Tryd.f30 (bodyOf Tryd.f30) [.string s] H K := by kernel_rfl
theorem raftlog_summed_fn (s : ByteArray) {H : Heap} {K : Value → Heap → Prop} (h : raftlog_summed_vc s H K) : FnH Tryd.prog 30 #[.string s] H K :=
  denFn_fn Tryd.mixed raftlog_summed_ann Tryd.func30 (bodyOf_spec (by kernel_rfl)) (raftlog_summed_eq s H K) h

/-! function 32: slices.Clone[[]logboom/api.Entry,logboom/api.Entry] -/
def slices_Clone_Lapi_Entry_api_Entry_ann : Anns := { hid := [], loops := [], joins := [], mix := [] }
def slices_Clone_Lapi_Entry_api_Entry_vc (s : Sl) (H : Heap) (K : Value → Heap → Prop) : Prop :=
  br (Option.isNone s.p) (
    K (.slice none 0 0) H)
   (
    ∀ q1 : Nat,
    H q1 = none →
    letH (Heap.upd H q1 (.cells #[] 43 (0, 0))) fun H1 =>
    runH Tryd.prog (Builtin.append_ #[31, 31] 31 #[.slice (some ⟨q1, 0, none⟩) 0 0, .slice s.p s.n s.c]) H1 fun r1 H2 =>
      ∃ l1 : Sl,
      r1 = .slice l1.p l1.n l1.c ∧
      K (.slice l1.p l1.n l1.c) H2)
theorem slices_Clone_Lapi_Entry_api_Entry_eq (s : Sl) (H : Heap) (K : Value → Heap → Prop) : slices_Clone_Lapi_Entry_api_Entry_vc s H K = denFn Tryd.prog slices_Clone_Lapi_Entry_api_Entry_ann Tryd.f32 (bodyOf Tryd.f32) [.slice s.p s.n s.c] H K := by kernel_rfl
theorem slices_Clone_Lapi_Entry_api_Entry_fn (s : Sl) {H : Heap} {K : Value → Heap → Prop} (h : slices_Clone_Lapi_Entry_api_Entry_vc s H K) : FnH Tryd.prog 32 #[.slice s.p s.n s.c] H K :=
  denFn_fn Tryd.mixed slices_Clone_Lapi_Entry_api_Entry_ann Tryd.func32 (bodyOf_spec (by kernel_rfl)) (slices_Clone_Lapi_Entry_api_Entry_eq s H K) h

/-! function 34: logboom/raftlog.right -/
def raftlog_right_ann : Anns := { hid := [6], loops := [(0, { slots := [(9, .int .i64)], kept := [0, 1, 7, 8], locs := [], keptL := [] })], joins := [((0, 4), { slots := [(14, .bool)], kept := [0, 1, 6, 7, 8, 9], locs := [], keptL := [0] })], mix := [(4, [])] }
def raftlog_right_vc (after : Int) (l : Sl) (H : Heap) (K : Value → Heap → Prop) : Prop :=
  ∃ I1 : Int → Heap → Prop,
  ∃ M1 : Int → Heap → Nat,
  I1 0 H ∧
  ∀ n_1 : Int,
  ∀ H1 : Heap,
  I1 n_1 H1 →
  br (decide ((n_1 : Int) < (l.n : Nat))) (
    ∃ q1 : Nat,
    ∃ o1 : Nat,
    (l.p : Option Addr) = some ⟨q1, o1, none⟩ ∧
    0 ≤ (n_1 : Int) ∧
    (n_1 : Int) < (l.n : Nat) ∧
    ∃ n1 : Int,
    cellH H1 ⟨q1, o1 + Int.toNat n_1 * 3, none⟩ = some (.int .i64 n1) ∧
    ∃ n2 : Int,
    cellH H1 ⟨q1, o1 + Int.toNat n_1 * 3 + 1, none⟩ = some (.int .i64 n2) ∧
    ∃ s1 : ByteArray,
    cellH H1 ⟨q1, o1 + Int.toNat n_1 * 3 + 2, none⟩ = some (.string s1) ∧
    ∃ J1 : Bool → Heap → Prop,
    (br ((n2 : Int) != (IntKind.wrap .i64 ((IntKind.wrap .i64 (after + 1)) + n_1))) (
      SelfEq ([.v (.int .i64 after), .v (.slice l.p l.n l.c), .loc 0 0, .v (.slice l.p l.n l.c), .v (.int .i64 (l.n : Nat)), .v (.int .i64 n_1)], [some (43, [.int .i64 n1, .int .i64 n2, .string s1])], []) ∧
      J1 true H1)
     (
      br (decide ((n2 : Int) > 1000000000)) (
        SelfEq ([.v (.int .i64 after), .v (.slice l.p l.n l.c), .loc 0 0, .v (.slice l.p l.n l.c), .v (.int .i64 (l.n : Nat)), .v (.int .i64 n_1)], [some (43, [.int .i64 n1, .int .i64 n2, .string s1])], []) ∧
        J1 true H1)
       (
        FnH Tryd.prog 28 #[.int .i64 n1, .int .i64 1] H1 fun r1 H2 =>
          ∃ b1 : Bool,
          r1 = .bool b1 ∧
          Sub H1 H2 ∧
          br (!b1) (
            SelfEq ([.v (.int .i64 after), .v (.slice l.p l.n l.c), .loc 0 0, .v (.slice l.p l.n l.c), .v (.int .i64 (l.n : Nat)), .v (.int .i64 n_1)], [some (43, [.int .i64 n1, .int .i64 n2, .string s1])], []) ∧
            J1 true H2)
           (
            br (decide ((n_1 : Int) > 0)) (
              ∃ q2 : Nat,
              ∃ o2 : Nat,
              (l.p : Option Addr) = some ⟨q2, o2, none⟩ ∧
              0 ≤ ((IntKind.wrap .i64 (n_1 - 1)) : Int) ∧
              ((IntKind.wrap .i64 (n_1 - 1)) : Int) < (l.n : Nat) ∧
              ∃ n3 : Int,
              cellH H1 ⟨q2, o2 + Int.toNat (IntKind.wrap .i64 (n_1 - 1)) * 3, none⟩ = some (.int .i64 n3) ∧
              SelfEq ([.v (.int .i64 after), .v (.slice l.p l.n l.c), .loc 0 0, .v (.slice l.p l.n l.c), .v (.int .i64 (l.n : Nat)), .v (.int .i64 n_1)], [some (43, [.int .i64 n1, .int .i64 n2, .string s1])], []) ∧
              J1 (decide ((n1 : Int) < n3)) H2)
             (
              SelfEq ([.v (.int .i64 after), .v (.slice l.p l.n l.c), .loc 0 0, .v (.slice l.p l.n l.c), .v (.int .i64 (l.n : Nat)), .v (.int .i64 n_1)], [some (43, [.int .i64 n1, .int .i64 n2, .string s1])], []) ∧
              J1 false H2))))) ∧
    ∀ b_1 : Bool,
    ∀ H3 : Heap,
    J1 b_1 H3 →
    br (b_1) (
      K (.int .i64 1) H3)
     (
      br (decide (((s1.size : Nat) : Int) > 2048)) (
        K (.int .i64 2) H3)
       (
        SelfEq ([.v (.int .i64 after), .v (.slice l.p l.n l.c), .v (.slice l.p l.n l.c), .v (.int .i64 (l.n : Nat))], [], []) ∧
        I1 (IntKind.wrap .i64 (n_1 + 1)) H3 ∧
        M1 (IntKind.wrap .i64 (n_1 + 1)) H3 < M1 n_1 H1)))
   (
    K (.int .i64 0) H1)
theorem raftlog_right_eq (after : Int) (l : Sl) (H : Heap) (K : Value → Heap → Prop) : raftlog_right_vc after l H K = denFn Tryd.prog raftlog_right_ann Tryd.f34 (bodyOf Tryd.f34) [.int .i64 after, .slice l.p l.n l.c] H K := by kernel_rfl
theorem raftlog_right_fn (after : Int) (l : Sl) {H : Heap} {K : Value → Heap → Prop} (h : raftlog_right_vc after l H K) : FnH Tryd.prog 34 #[.int .i64 after, .slice l.p l.n l.c] H K :=
  denFn_fn Tryd.mixed raftlog_right_ann Tryd.func34 (bodyOf_spec (by kernel_rfl)) (raftlog_right_eq after l H K) h

/-! function 42: logboom/raftlog.numbers -/
def raftlog_numbers_ann : Anns := { hid := [], loops := [], joins := [], mix := [(5, [])] }
def raftlog_numbers_vc (s : ByteArray) (least : Int) (H : Heap) (K : Value → Heap → Prop) : Prop :=
  FnH Tryd.prog 53 #[.string s] H fun r1 H1 =>
    ∃ n1 : Int,
    ∃ n2 : Int,
    ∃ n3 : Int,
    r1 = .tuple #[.int .i64 n1, .int .i64 n2, .int .i64 n3] ∧
    br ((n3 : Int) != 0) (
      K (.tuple #[.int .i64 0, .int .i64 0, .string (⟨#[]⟩ : ByteArray), .bool false]) H1)
     (
      0 ≤ (n2 : Int) ∧
      (n2 : Int) ≤ (s.size : Nat) ∧
      FnH Tryd.prog 53 #[.string (s.extract (Int.toNat n2) (Int.toNat (s.size : Nat)))] H1 fun r2 H2 =>
        ∃ n4 : Int,
        ∃ n5 : Int,
        ∃ n6 : Int,
        r2 = .tuple #[.int .i64 n4, .int .i64 n5, .int .i64 n6] ∧
        0 ≤ (if ((s.size : Nat) : Int) < (IntKind.wrap .i64 (n2 + n5)) then ((s.size : Nat) : Int) else (IntKind.wrap .i64 (n2 + n5)) : Int) ∧
        (if ((s.size : Nat) : Int) < (IntKind.wrap .i64 (n2 + n5)) then ((s.size : Nat) : Int) else (IntKind.wrap .i64 (n2 + n5)) : Int) ≤ (s.size : Nat) ∧
        br ((n6 : Int) == 0) (
          FnH Tryd.prog 28 #[.int .i64 n1, .int .i64 least] H2 fun r3 H3 =>
            ∃ b1 : Bool,
            r3 = .bool b1 ∧
            Sub H2 H3 ∧
            br (b1) (
              FnH Tryd.prog 28 #[.int .i64 n4, .int .i64 least] H3 fun r4 H4 =>
                ∃ b2 : Bool,
                r4 = .bool b2 ∧
                Sub H2 H4 ∧
                K (.tuple #[.int .i64 n1, .int .i64 n4, .string (s.extract (Int.toNat (if ((s.size : Nat) : Int) < (IntKind.wrap .i64 (n2 + n5)) then ((s.size : Nat) : Int) else (IntKind.wrap .i64 (n2 + n5)))) (Int.toNat (s.size : Nat))), .bool b2]) H4)
             (
              K (.tuple #[.int .i64 n1, .int .i64 n4, .string (s.extract (Int.toNat (if ((s.size : Nat) : Int) < (IntKind.wrap .i64 (n2 + n5)) then ((s.size : Nat) : Int) else (IntKind.wrap .i64 (n2 + n5)))) (Int.toNat (s.size : Nat))), .bool false]) H3))
         (
          K (.tuple #[.int .i64 n1, .int .i64 n4, .string (s.extract (Int.toNat (if ((s.size : Nat) : Int) < (IntKind.wrap .i64 (n2 + n5)) then ((s.size : Nat) : Int) else (IntKind.wrap .i64 (n2 + n5)))) (Int.toNat (s.size : Nat))), .bool false]) H2))
theorem raftlog_numbers_eq (s : ByteArray) (least : Int) (H : Heap) (K : Value → Heap → Prop) : raftlog_numbers_vc s least H K = denFn Tryd.prog raftlog_numbers_ann Tryd.f42 (bodyOf Tryd.f42) [.string s, .int .i64 least] H K := by kernel_rfl
theorem raftlog_numbers_fn (s : ByteArray) (least : Int) {H : Heap} {K : Value → Heap → Prop} (h : raftlog_numbers_vc s least H K) : FnH Tryd.prog 42 #[.string s, .int .i64 least] H K :=
  denFn_fn Tryd.mixed raftlog_numbers_ann Tryd.func42 (bodyOf_spec (by kernel_rfl)) (raftlog_numbers_eq s least H K) h

/-! function 43: logboom/raftlog.text -/
def raftlog_text_ann : Anns := { hid := [], loops := [], joins := [], mix := [] }
def raftlog_text_vc (s : ByteArray) (most : Int) (H : Heap) (K : Value → Heap → Prop) : Prop :=
  FnH Tryd.prog 53 #[.string s] H fun r1 H1 =>
    ∃ n1 : Int,
    ∃ n2 : Int,
    ∃ n3 : Int,
    r1 = .tuple #[.int .i64 n1, .int .i64 n2, .int .i64 n3] ∧
    br ((n3 : Int) != 0) (
      K (.tuple #[.string (⟨#[]⟩ : ByteArray), .bool false]) H1)
     (
      br (decide ((n1 : Int) < 0)) (
        K (.tuple #[.string (⟨#[]⟩ : ByteArray), .bool false]) H1)
       (
        br (decide ((n1 : Int) > most)) (
          K (.tuple #[.string (⟨#[]⟩ : ByteArray), .bool false]) H1)
         (
          br (((IntKind.wrap .i64 ((s.size : Nat) - n2)) : Int) != n1) (
            K (.tuple #[.string (⟨#[]⟩ : ByteArray), .bool false]) H1)
           (
            0 ≤ (n2 : Int) ∧
            (n2 : Int) ≤ (s.size : Nat) ∧
            K (.tuple #[.string (s.extract (Int.toNat n2) (Int.toNat (s.size : Nat))), .bool true]) H1))))
theorem raftlog_text_eq (s : ByteArray) (most : Int) (H : Heap) (K : Value → Heap → Prop) : raftlog_text_vc s most H K = denFn Tryd.prog raftlog_text_ann Tryd.f43 (bodyOf Tryd.f43) [.string s, .int .i64 most] H K := by kernel_rfl
theorem raftlog_text_fn (s : ByteArray) (most : Int) {H : Heap} {K : Value → Heap → Prop} (h : raftlog_text_vc s most H K) : FnH Tryd.prog 43 #[.string s, .int .i64 most] H K :=
  denFn_fn Tryd.mixed raftlog_text_ann Tryd.func43 (bodyOf_spec (by kernel_rfl)) (raftlog_text_eq s most H K) h

/-! function 44: logboom/raftlog.fourth -/
def raftlog_fourth_ann : Anns := { hid := [], loops := [], joins := [], mix := [] }
def raftlog_fourth_vc (s : ByteArray) (H : Heap) (K : Value → Heap → Prop) : Prop :=
  0 ≤ (0 : Int) ∧
  ∃ c1 : UInt8,
  s[Int.toNat 0]? = some c1 ∧
  0 ≤ (1 : Int) ∧
  ∃ c2 : UInt8,
  s[Int.toNat 1]? = some c2 ∧
  0 ≤ (2 : Int) ∧
  ∃ c3 : UInt8,
  s[Int.toNat 2]? = some c3 ∧
  0 ≤ (3 : Int) ∧
  ∃ c4 : UInt8,
  s[Int.toNat 3]? = some c4 ∧
  K (.int .i64 (orI .i64 (orI .i64 (orI .i64 (shlI .i64 (IntKind.wrap .i64 (c1.toNat : Int)) 24) (shlI .i64 (IntKind.wrap .i64 (c2.toNat : Int)) 16)) (shlI .i64 (IntKind.wrap .i64 (c3.toNat : Int)) 8)) (IntKind.wrap .i64 (c4.toNat : Int)))) H
theorem raftlog_fourth_eq (s : ByteArray) (H : Heap) (K : Value → Heap → Prop) : raftlog_fourth_vc s H K = denFn Tryd.prog raftlog_fourth_ann Tryd.f44 (bodyOf Tryd.f44) [.string s] H K := by kernel_rfl
theorem raftlog_fourth_fn (s : ByteArray) {H : Heap} {K : Value → Heap → Prop} (h : raftlog_fourth_vc s H K) : FnH Tryd.prog 44 #[.string s] H K :=
  denFn_fn Tryd.mixed raftlog_fourth_ann Tryd.func44 (bodyOf_spec (by kernel_rfl)) (raftlog_fourth_eq s H K) h

/-! function 48: logboom/raftlog.four -/
def raftlog_four_ann : Anns := { hid := [], loops := [], joins := [], mix := [] }
def raftlog_four_vc (n : Int) (H : Heap) (K : Value → Heap → Prop) : Prop :=
  ∀ q1 : Nat,
  H q1 = none →
  letH (Heap.upd H q1 (.cells #[.int .u8 (IntKind.wrap .u8 (shrI .i64 n 24)), .int .u8 (IntKind.wrap .u8 (shrI .i64 n 16)), .int .u8 (IntKind.wrap .u8 (shrI .i64 n 8)), .int .u8 (IntKind.wrap .u8 n)] 5 (0, 0))) fun H1 =>
  runH Tryd.prog (convert 53 9 (.slice (some ⟨q1, 0, none⟩) 4 4)) H1 fun r1 H2 =>
    ∃ s1 : ByteArray,
    r1 = .string s1 ∧
    K (.string s1) H2
theorem raftlog_four_eq (n : Int) (H : Heap) (K : Value → Heap → Prop) : raftlog_four_vc n H K = denFn Tryd.prog raftlog_four_ann Tryd.f48 (bodyOf Tryd.f48) [.int .i64 n] H K := by kernel_rfl
theorem raftlog_four_fn (n : Int) {H : Heap} {K : Value → Heap → Prop} (h : raftlog_four_vc n H K) : FnH Tryd.prog 48 #[.int .i64 n] H K :=
  denFn_fn Tryd.mixed raftlog_four_ann Tryd.func48 (bodyOf_spec (by kernel_rfl)) (raftlog_four_eq n H K) h

/-! function 50: logboom/raftlog.body -/
def raftlog_body_ann : Anns := { hid := [1], loops := [], joins := [], mix := [(1, [])] }
def raftlog_body_vc (x_0 : Int) (x_1 : Int) (x_2 : ByteArray) (H : Heap) (K : Value → Heap → Prop) : Prop :=
  FnH Tryd.prog 31 #[.int .i64 x_0] H fun r1 H1 =>
    ∃ s1 : ByteArray,
    r1 = .string s1 ∧
    Sub H H1 ∧
    FnH Tryd.prog 31 #[.int .i64 x_1] H1 fun r2 H2 =>
      ∃ s2 : ByteArray,
      r2 = .string s2 ∧
      Sub H H2 ∧
      s1.size + s2.size < 9223372036854775808 ∧
      FnH Tryd.prog 31 #[.int .i64 (x_2.size : Nat)] H2 fun r3 H3 =>
        ∃ s3 : ByteArray,
        r3 = .string s3 ∧
        Sub H H3 ∧
        (s1 ++ s2).size + s3.size < 9223372036854775808 ∧
        ((s1 ++ s2) ++ s3).size + x_2.size < 9223372036854775808 ∧
        K (.string (((s1 ++ s2) ++ s3) ++ x_2)) H3
theorem raftlog_body_eq (x_0 : Int) (x_1 : Int) (x_2 : ByteArray) (H : Heap) (K : Value → Heap → Prop) : raftlog_body_vc x_0 x_1 x_2 H K = denFn Tryd.prog raftlog_body_ann Tryd.f50 (bodyOf Tryd.f50) [.agg #[.int .i64 x_0, .int .i64 x_1, .string x_2]] H K := by kernel_rfl
theorem raftlog_body_fn (x_0 : Int) (x_1 : Int) (x_2 : ByteArray) {H : Heap} {K : Value → Heap → Prop} (h : raftlog_body_vc x_0 x_1 x_2 H K) : FnH Tryd.prog 50 #[.agg #[.int .i64 x_0, .int .i64 x_1, .string x_2]] H K :=
  denFn_fn Tryd.mixed raftlog_body_ann Tryd.func50 (bodyOf_spec (by kernel_rfl)) (raftlog_body_eq x_0 x_1 x_2 H K) h

end Go.Proofs.YtmneimfhcjkinaaDoor
