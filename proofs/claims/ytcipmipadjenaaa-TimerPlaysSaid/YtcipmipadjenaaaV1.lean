/- Formulas of functions, printed by this session's vc.py; each is tied to the program by the kernel. -/
import Derived.Test.YtcipmipadjenaaaProg
import Derived.KernelRfl
import Derived.Test.YtcipmipadjenaaaHlFn
namespace Go.Proofs.Ytcipmipadjenaaa
open Go.HL
set_option maxRecDepth 100000
theorem Try.mixed : Try.prog.follows .mixedOrders = true := by kernel_rfl
/-! function 7: logboom/timer.New -/
def timer_New_ann : Anns := { hid := [], loops := [], joins := [], mix := [] }
def timer_New_vc  (H : Heap) (K : Value → Heap → Prop) : Prop :=
  ∀ q1 : Nat,
  H q1 = none →
  letH (Heap.upd H q1 (.map #[] 0)) fun H1 =>
  ∀ q2 : Nat,
  H1 q2 = none →
  letH (Heap.upd H1 q2 (.cells #[.slice none 0 0, .map (some q1)] 50 (0, 0))) fun H2 =>
  K (.pointer (some ⟨q2, 0, none⟩)) H2
theorem timer_New_eq  (H : Heap) (K : Value → Heap → Prop) : timer_New_vc  H K = denFn Try.prog timer_New_ann Try.f7 (bodyOf Try.f7) [] H K := by kernel_rfl
theorem timer_New_fn  {H : Heap} {K : Value → Heap → Prop} (h : timer_New_vc  H K) : FnH Try.prog 7 #[] H K :=
  denFn_sound Try.mixed timer_New_ann Try.func7 (bodyOf_spec (by kernel_rfl)) ((timer_New_eq  H K) ▸ h)

/-! function 8: logboom/logboomlaw2.pick -/
def logboomlaw2_pick_ann : Anns := { hid := [], loops := [], joins := [], mix := [] }
def logboomlaw2_pick_vc (c : Int) (n : Int) (H : Heap) (K : Value → Heap → Prop) : Prop :=
  br (decide ((c : Int) < 0)) (
    (n : Int) ≠ 0 ∧
    K (.int .i64 (Int.tmod (IntKind.wrap .i64 (0 - (IntKind.wrap .i64 (c + 1)))) n)) H)
   (
    (n : Int) ≠ 0 ∧
    K (.int .i64 (Int.tmod c n)) H)
theorem logboomlaw2_pick_eq (c : Int) (n : Int) (H : Heap) (K : Value → Heap → Prop) : logboomlaw2_pick_vc c n H K = denFn Try.prog logboomlaw2_pick_ann Try.f8 (bodyOf Try.f8) [.int .i64 c, .int .i64 n] H K := by kernel_rfl
theorem logboomlaw2_pick_fn (c : Int) (n : Int) {H : Heap} {K : Value → Heap → Prop} (h : logboomlaw2_pick_vc c n H K) : FnH Try.prog 8 #[.int .i64 c, .int .i64 n] H K :=
  denFn_sound Try.mixed logboomlaw2_pick_ann Try.func8 (bodyOf_spec (by kernel_rfl)) ((logboomlaw2_pick_eq c n H K) ▸ h)

/-! function 13: logboom/logboomlaw2.ints -/
def logboomlaw2_ints_ann : Anns := { hid := [], loops := [(0, { slots := [(5, .int .i64)], kept := [0, 1], locs := [], keptL := [] })], joins := [], mix := [] }
def logboomlaw2_ints_vc (a : Sl) (b : Sl) (H : Heap) (K : Value → Heap → Prop) : Prop :=
  br (((a.n : Nat) : Int) != (b.n : Nat)) (
    K (.bool false) H)
   (
    ∃ I1 : Int → Heap → Prop,
    ∃ M1 : Int → Heap → Nat,
    I1 0 H ∧
    ∀ i_1 : Int,
    ∀ H1 : Heap,
    I1 i_1 H1 →
    br (decide ((i_1 : Int) < (a.n : Nat))) (
      ∃ q1 : Nat,
      ∃ o1 : Nat,
      (a.p : Option Addr) = some ⟨q1, o1, none⟩ ∧
      0 ≤ (i_1 : Int) ∧
      (i_1 : Int) < (a.n : Nat) ∧
      ∃ n1 : Int,
      cellH H1 ⟨q1, o1 + Int.toNat i_1, none⟩ = some (.int .i64 n1) ∧
      ∃ q2 : Nat,
      ∃ o2 : Nat,
      (b.p : Option Addr) = some ⟨q2, o2, none⟩ ∧
      0 ≤ (i_1 : Int) ∧
      (i_1 : Int) < (b.n : Nat) ∧
      ∃ n2 : Int,
      cellH H1 ⟨q2, o2 + Int.toNat i_1, none⟩ = some (.int .i64 n2) ∧
      br ((n1 : Int) != n2) (
        K (.bool false) H1)
       (
        SelfEq ([.v (.slice a.p a.n a.c), .v (.slice b.p b.n b.c)], [], []) ∧
        I1 (IntKind.wrap .i64 (i_1 + 1)) H1 ∧
        M1 (IntKind.wrap .i64 (i_1 + 1)) H1 < M1 i_1 H1))
     (
      K (.bool true) H1))
theorem logboomlaw2_ints_eq (a : Sl) (b : Sl) (H : Heap) (K : Value → Heap → Prop) : logboomlaw2_ints_vc a b H K = denFn Try.prog logboomlaw2_ints_ann Try.f13 (bodyOf Try.f13) [.slice a.p a.n a.c, .slice b.p b.n b.c] H K := by kernel_rfl
theorem logboomlaw2_ints_fn (a : Sl) (b : Sl) {H : Heap} {K : Value → Heap → Prop} (h : logboomlaw2_ints_vc a b H K) : FnH Try.prog 13 #[.slice a.p a.n a.c, .slice b.p b.n b.c] H K :=
  denFn_sound Try.mixed logboomlaw2_ints_ann Try.func13 (bodyOf_spec (by kernel_rfl)) ((logboomlaw2_ints_eq a b H K) ▸ h)

/-! function 18: (*logboom/timer.Timers).Len -/
def timer_Timers_Len_ann : Anns := { hid := [], loops := [], joins := [], mix := [] }
def timer_Timers_Len_vc (t : Nat) (to : Nat) (H : Heap) (K : Value → Heap → Prop) : Prop :=
  ∃ l1 : Sl,
  cellH H ⟨t, to, none⟩ = some (.slice l1.p l1.n l1.c) ∧
  K (.int .i64 (l1.n : Nat)) H
theorem timer_Timers_Len_eq (t : Nat) (to : Nat) (H : Heap) (K : Value → Heap → Prop) : timer_Timers_Len_vc t to H K = denFn Try.prog timer_Timers_Len_ann Try.f18 (bodyOf Try.f18) [.pointer (some ⟨t, to, none⟩)] H K := by kernel_rfl
theorem timer_Timers_Len_fn (t : Nat) (to : Nat) {H : Heap} {K : Value → Heap → Prop} (h : timer_Timers_Len_vc t to H K) : FnH Try.prog 18 #[.pointer (some ⟨t, to, none⟩)] H K :=
  denFn_sound Try.mixed timer_Timers_Len_ann Try.func18 (bodyOf_spec (by kernel_rfl)) ((timer_Timers_Len_eq t to H K) ▸ h)

/-! function 19: (*logboom/timer.Timers).Next -/
def timer_Timers_Next_ann : Anns := { hid := [], loops := [], joins := [], mix := [] }
def timer_Timers_Next_vc (t : Nat) (to : Nat) (H : Heap) (K : Value → Heap → Prop) : Prop :=
  ∃ l1 : Sl,
  cellH H ⟨t, to, none⟩ = some (.slice l1.p l1.n l1.c) ∧
  br (((l1.n : Nat) : Int) == 0) (
    K (.int .i64 (-1)) H)
   (
    ∃ l2 : Sl,
    cellH H ⟨t, to, none⟩ = some (.slice l2.p l2.n l2.c) ∧
    ∃ q1 : Nat,
    ∃ o1 : Nat,
    (l2.p : Option Addr) = some ⟨q1, o1, none⟩ ∧
    0 ≤ (0 : Int) ∧
    (0 : Int) < (l2.n : Nat) ∧
    ∃ p1 : Option Addr,
    cellH H ⟨q1, o1 + Int.toNat 0, none⟩ = some (.pointer p1) ∧
    ptrm p1 fun q2 o2 =>
    ∃ n1 : Int,
    cellH H ⟨q2, o2 + 1, none⟩ = some (.int .i64 n1) ∧
    K (.int .i64 n1) H)
theorem timer_Timers_Next_eq (t : Nat) (to : Nat) (H : Heap) (K : Value → Heap → Prop) : timer_Timers_Next_vc t to H K = denFn Try.prog timer_Timers_Next_ann Try.f19 (bodyOf Try.f19) [.pointer (some ⟨t, to, none⟩)] H K := by kernel_rfl
theorem timer_Timers_Next_fn (t : Nat) (to : Nat) {H : Heap} {K : Value → Heap → Prop} (h : timer_Timers_Next_vc t to H K) : FnH Try.prog 19 #[.pointer (some ⟨t, to, none⟩)] H K :=
  denFn_sound Try.mixed timer_Timers_Next_ann Try.func19 (bodyOf_spec (by kernel_rfl)) ((timer_Timers_Next_eq t to H K) ▸ h)

/-! function 16: (*logboom/timer.Timers).At -/
def timer_Timers_At_ann : Anns := { hid := [], loops := [], joins := [], mix := [] }
def timer_Timers_At_vc (t : Nat) (to : Nat) (key : Int) (H : Heap) (K : Value → Heap → Prop) : Prop :=
  ∃ m1 : Option Nat,
  cellH H ⟨t, to + 1, none⟩ = some (.map m1) ∧
  runH Try.prog (Instr.lookup 46 (.map m1) (.int .i64 key) true) H fun r1 H1 =>
    ∃ p1 : Option Addr,
    ∃ b1 : Bool,
    r1 = .tuple #[.pointer p1, .bool b1] ∧
    br (b1) (
      ptrm p1 fun q1 o1 =>
      ∃ n1 : Int,
      cellH H1 ⟨q1, o1 + 1, none⟩ = some (.int .i64 n1) ∧
      K (.int .i64 n1) H1)
     (
      K (.int .i64 (-1)) H1)
theorem timer_Timers_At_eq (t : Nat) (to : Nat) (key : Int) (H : Heap) (K : Value → Heap → Prop) : timer_Timers_At_vc t to key H K = denFn Try.prog timer_Timers_At_ann Try.f16 (bodyOf Try.f16) [.pointer (some ⟨t, to, none⟩), .int .i64 key] H K := by kernel_rfl
theorem timer_Timers_At_fn (t : Nat) (to : Nat) (key : Int) {H : Heap} {K : Value → Heap → Prop} (h : timer_Timers_At_vc t to key H K) : FnH Try.prog 16 #[.pointer (some ⟨t, to, none⟩), .int .i64 key] H K :=
  denFn_sound Try.mixed timer_Timers_At_ann Try.func16 (bodyOf_spec (by kernel_rfl)) ((timer_Timers_At_eq t to key H K) ▸ h)

/-! function 46: (logboom/timer.queue).Len -/
def timer_queue_Len_ann : Anns := { hid := [], loops := [], joins := [], mix := [] }
def timer_queue_Len_vc (q : Sl) (H : Heap) (K : Value → Heap → Prop) : Prop :=
  K (.int .i64 (q.n : Nat)) H
theorem timer_queue_Len_eq (q : Sl) (H : Heap) (K : Value → Heap → Prop) : timer_queue_Len_vc q H K = denFn Try.prog timer_queue_Len_ann Try.f46 (bodyOf Try.f46) [.slice q.p q.n q.c] H K := by kernel_rfl
theorem timer_queue_Len_fn (q : Sl) {H : Heap} {K : Value → Heap → Prop} (h : timer_queue_Len_vc q H K) : FnH Try.prog 46 #[.slice q.p q.n q.c] H K :=
  denFn_sound Try.mixed timer_queue_Len_ann Try.func46 (bodyOf_spec (by kernel_rfl)) ((timer_queue_Len_eq q H K) ▸ h)

/-! function 47: (logboom/timer.queue).Less -/
def timer_queue_Less_ann : Anns := { hid := [], loops := [], joins := [], mix := [] }
def timer_queue_Less_vc (q : Sl) (i : Int) (j : Int) (H : Heap) (K : Value → Heap → Prop) : Prop :=
  ∃ q1 : Nat,
  ∃ o1 : Nat,
  (q.p : Option Addr) = some ⟨q1, o1, none⟩ ∧
  0 ≤ (i : Int) ∧
  (i : Int) < (q.n : Nat) ∧
  ∃ p1 : Option Addr,
  cellH H ⟨q1, o1 + Int.toNat i, none⟩ = some (.pointer p1) ∧
  ptrm p1 fun q2 o2 =>
  ∃ n1 : Int,
  cellH H ⟨q2, o2 + 1, none⟩ = some (.int .i64 n1) ∧
  ∃ q3 : Nat,
  ∃ o3 : Nat,
  (q.p : Option Addr) = some ⟨q3, o3, none⟩ ∧
  0 ≤ (j : Int) ∧
  (j : Int) < (q.n : Nat) ∧
  ∃ p2 : Option Addr,
  cellH H ⟨q3, o3 + Int.toNat j, none⟩ = some (.pointer p2) ∧
  ptrm p2 fun q4 o4 =>
  ∃ n2 : Int,
  cellH H ⟨q4, o4 + 1, none⟩ = some (.int .i64 n2) ∧
  br ((n1 : Int) != n2) (
    ∃ q5 : Nat,
    ∃ o5 : Nat,
    (q.p : Option Addr) = some ⟨q5, o5, none⟩ ∧
    0 ≤ (i : Int) ∧
    (i : Int) < (q.n : Nat) ∧
    ∃ p3 : Option Addr,
    cellH H ⟨q5, o5 + Int.toNat i, none⟩ = some (.pointer p3) ∧
    ptrm p3 fun q6 o6 =>
    ∃ n3 : Int,
    cellH H ⟨q6, o6 + 1, none⟩ = some (.int .i64 n3) ∧
    ∃ q7 : Nat,
    ∃ o7 : Nat,
    (q.p : Option Addr) = some ⟨q7, o7, none⟩ ∧
    0 ≤ (j : Int) ∧
    (j : Int) < (q.n : Nat) ∧
    ∃ p4 : Option Addr,
    cellH H ⟨q7, o7 + Int.toNat j, none⟩ = some (.pointer p4) ∧
    ptrm p4 fun q8 o8 =>
    ∃ n4 : Int,
    cellH H ⟨q8, o8 + 1, none⟩ = some (.int .i64 n4) ∧
    K (.bool (decide ((n3 : Int) < n4))) H)
   (
    ∃ q9 : Nat,
    ∃ o9 : Nat,
    (q.p : Option Addr) = some ⟨q9, o9, none⟩ ∧
    0 ≤ (i : Int) ∧
    (i : Int) < (q.n : Nat) ∧
    ∃ p5 : Option Addr,
    cellH H ⟨q9, o9 + Int.toNat i, none⟩ = some (.pointer p5) ∧
    ptrm p5 fun q10 o10 =>
    ∃ n5 : Int,
    cellH H ⟨q10, o10, none⟩ = some (.int .i64 n5) ∧
    ∃ q11 : Nat,
    ∃ o11 : Nat,
    (q.p : Option Addr) = some ⟨q11, o11, none⟩ ∧
    0 ≤ (j : Int) ∧
    (j : Int) < (q.n : Nat) ∧
    ∃ p6 : Option Addr,
    cellH H ⟨q11, o11 + Int.toNat j, none⟩ = some (.pointer p6) ∧
    ptrm p6 fun q12 o12 =>
    ∃ n6 : Int,
    cellH H ⟨q12, o12, none⟩ = some (.int .i64 n6) ∧
    K (.bool (decide ((n5 : Int) < n6))) H)
theorem timer_queue_Less_eq (q : Sl) (i : Int) (j : Int) (H : Heap) (K : Value → Heap → Prop) : timer_queue_Less_vc q i j H K = denFn Try.prog timer_queue_Less_ann Try.f47 (bodyOf Try.f47) [.slice q.p q.n q.c, .int .i64 i, .int .i64 j] H K := by kernel_rfl
theorem timer_queue_Less_fn (q : Sl) (i : Int) (j : Int) {H : Heap} {K : Value → Heap → Prop} (h : timer_queue_Less_vc q i j H K) : FnH Try.prog 47 #[.slice q.p q.n q.c, .int .i64 i, .int .i64 j] H K :=
  denFn_sound Try.mixed timer_queue_Less_ann Try.func47 (bodyOf_spec (by kernel_rfl)) ((timer_queue_Less_eq q i j H K) ▸ h)

/-! function 48: (logboom/timer.queue).Swap -/
def timer_queue_Swap_ann : Anns := { hid := [], loops := [], joins := [], mix := [(0, [13, 15]), (1, [12, 15])] }
def timer_queue_Swap_vc (q : Sl) (i : Int) (j : Int) (H : Heap) (K : Value → Heap → Prop) : Prop :=
  ∃ q1 : Nat,
  ∃ o1 : Nat,
  (q.p : Option Addr) = some ⟨q1, o1, none⟩ ∧
  0 ≤ (j : Int) ∧
  (j : Int) < (q.n : Nat) ∧
  ∃ p1 : Option Addr,
  cellH H ⟨q1, o1 + Int.toNat j, none⟩ = some (.pointer p1) ∧
  ∃ q2 : Nat,
  ∃ o2 : Nat,
  (q.p : Option Addr) = some ⟨q2, o2, none⟩ ∧
  0 ≤ (i : Int) ∧
  (i : Int) < (q.n : Nat) ∧
  ∃ p2 : Option Addr,
  cellH H ⟨q2, o2 + Int.toNat i, none⟩ = some (.pointer p2) ∧
  ∃ q3 : Nat,
  ∃ o3 : Nat,
  (q.p : Option Addr) = some ⟨q3, o3, none⟩ ∧
  0 ≤ (i : Int) ∧
  (i : Int) < (q.n : Nat) ∧
  (∃ u, cellH H ⟨q3, o3 + Int.toNat i, none⟩ = some u) ∧
  frozenH H ⟨q3, o3 + Int.toNat i, none⟩ = false ∧
  letH (Heap.set H ⟨q3, o3 + Int.toNat i, none⟩ (.pointer p1)) fun H1 =>
  ∃ q4 : Nat,
  ∃ o4 : Nat,
  (q.p : Option Addr) = some ⟨q4, o4, none⟩ ∧
  0 ≤ (j : Int) ∧
  (j : Int) < (q.n : Nat) ∧
  (∃ u, cellH H1 ⟨q4, o4 + Int.toNat j, none⟩ = some u) ∧
  frozenH H1 ⟨q4, o4 + Int.toNat j, none⟩ = false ∧
  letH (Heap.set H1 ⟨q4, o4 + Int.toNat j, none⟩ (.pointer p2)) fun H2 =>
  ∃ q5 : Nat,
  ∃ o5 : Nat,
  (q.p : Option Addr) = some ⟨q5, o5, none⟩ ∧
  0 ≤ (i : Int) ∧
  (i : Int) < (q.n : Nat) ∧
  ∃ p3 : Option Addr,
  cellH H2 ⟨q5, o5 + Int.toNat i, none⟩ = some (.pointer p3) ∧
  ∃ q6 : Nat,
  ∃ o6 : Nat,
  (q.p : Option Addr) = some ⟨q6, o6, none⟩ ∧
  0 ≤ (j : Int) ∧
  (j : Int) < (q.n : Nat) ∧
  ∃ p4 : Option Addr,
  cellH H2 ⟨q6, o6 + Int.toNat j, none⟩ = some (.pointer p4) ∧
  ptrm p3 fun q7 o7 =>
  (∃ u, cellH H2 ⟨q7, o7 + 2, none⟩ = some u) ∧
  frozenH H2 ⟨q7, o7 + 2, none⟩ = false ∧
  letH (Heap.set H2 ⟨q7, o7 + 2, none⟩ (.int .i64 i)) fun H3 =>
  ptrm p4 fun q8 o8 =>
  (∃ u, cellH H3 ⟨q8, o8 + 2, none⟩ = some u) ∧
  frozenH H3 ⟨q8, o8 + 2, none⟩ = false ∧
  letH (Heap.set H3 ⟨q8, o8 + 2, none⟩ (.int .i64 j)) fun H4 =>
  K (.tuple #[]) H4
theorem timer_queue_Swap_eq (q : Sl) (i : Int) (j : Int) (H : Heap) (K : Value → Heap → Prop) : timer_queue_Swap_vc q i j H K = denFn Try.prog timer_queue_Swap_ann Try.f48 (bodyOf Try.f48) [.slice q.p q.n q.c, .int .i64 i, .int .i64 j] H K := by kernel_rfl
theorem timer_queue_Swap_fn (q : Sl) (i : Int) (j : Int) {H : Heap} {K : Value → Heap → Prop} (h : timer_queue_Swap_vc q i j H K) : FnH Try.prog 48 #[.slice q.p q.n q.c, .int .i64 i, .int .i64 j] H K :=
  denFn_sound Try.mixed timer_queue_Swap_ann Try.func48 (bodyOf_spec (by kernel_rfl)) ((timer_queue_Swap_eq q i j H K) ▸ h)

/-! function 49: (*logboom/timer.queue).Pop -/
def timer_queue_Pop_ann : Anns := { hid := [], loops := [], joins := [], mix := [] }
def timer_queue_Pop_vc (q : Nat) (qo : Nat) (H : Heap) (K : Value → Heap → Prop) : Prop :=
  ∃ l1 : Sl,
  cellH H ⟨q, qo, none⟩ = some (.slice l1.p l1.n l1.c) ∧
  ∃ q1 : Nat,
  ∃ o1 : Nat,
  (l1.p : Option Addr) = some ⟨q1, o1, none⟩ ∧
  0 ≤ ((IntKind.wrap .i64 ((l1.n : Nat) - 1)) : Int) ∧
  ((IntKind.wrap .i64 ((l1.n : Nat) - 1)) : Int) < (l1.n : Nat) ∧
  ∃ p1 : Option Addr,
  cellH H ⟨q1, o1 + Int.toNat (IntKind.wrap .i64 ((l1.n : Nat) - 1)), none⟩ = some (.pointer p1) ∧
  ∃ q2 : Nat,
  ∃ o2 : Nat,
  (l1.p : Option Addr) = some ⟨q2, o2, none⟩ ∧
  0 ≤ ((IntKind.wrap .i64 ((l1.n : Nat) - 1)) : Int) ∧
  ((IntKind.wrap .i64 ((l1.n : Nat) - 1)) : Int) < (l1.n : Nat) ∧
  (∃ u, cellH H ⟨q2, o2 + Int.toNat (IntKind.wrap .i64 ((l1.n : Nat) - 1)), none⟩ = some u) ∧
  frozenH H ⟨q2, o2 + Int.toNat (IntKind.wrap .i64 ((l1.n : Nat) - 1)), none⟩ = false ∧
  letH (Heap.set H ⟨q2, o2 + Int.toNat (IntKind.wrap .i64 ((l1.n : Nat) - 1)), none⟩ (.pointer none)) fun H1 =>
  0 ≤ (IntKind.wrap .i64 ((l1.n : Nat) - 1) : Int) ∧
  (IntKind.wrap .i64 ((l1.n : Nat) - 1) : Int) ≤ (l1.c : Nat) ∧
  (∃ u, cellH H1 ⟨q, qo, none⟩ = some u) ∧
  frozenH H1 ⟨q, qo, none⟩ = false ∧
  letH (Heap.set H1 ⟨q, qo, none⟩ (.slice (slP l1.p l1.c (0 : Int) 1) (Int.toNat ((IntKind.wrap .i64 ((l1.n : Nat) - 1)) - (0 : Int))) (Int.toNat ((l1.c : Nat) - (0 : Int))))) fun H2 =>
  K (.iface 51 (.pointer p1)) H2
theorem timer_queue_Pop_eq (q : Nat) (qo : Nat) (H : Heap) (K : Value → Heap → Prop) : timer_queue_Pop_vc q qo H K = denFn Try.prog timer_queue_Pop_ann Try.f49 (bodyOf Try.f49) [.pointer (some ⟨q, qo, none⟩)] H K := by kernel_rfl
theorem timer_queue_Pop_fn (q : Nat) (qo : Nat) {H : Heap} {K : Value → Heap → Prop} (h : timer_queue_Pop_vc q qo H K) : FnH Try.prog 49 #[.pointer (some ⟨q, qo, none⟩)] H K :=
  denFn_sound Try.mixed timer_queue_Pop_ann Try.func49 (bodyOf_spec (by kernel_rfl)) ((timer_queue_Pop_eq q qo H K) ▸ h)

/-! function 50: (*logboom/timer.queue).Push -/
def timer_queue_Push_ann : Anns := { hid := [], loops := [], joins := [], mix := [] }
def timer_queue_Push_vc (q : Nat) (qo : Nat) (x : Value) (H : Heap) (K : Value → Heap → Prop) : Prop :=
  ∃ p1 : Option Addr,
  (x : Value) = .iface 51 (.pointer p1) ∧
  ∃ l1 : Sl,
  cellH H ⟨q, qo, none⟩ = some (.slice l1.p l1.n l1.c) ∧
  ptrm p1 fun q1 o1 =>
  (∃ u, cellH H ⟨q1, o1 + 2, none⟩ = some u) ∧
  frozenH H ⟨q1, o1 + 2, none⟩ = false ∧
  letH (Heap.set H ⟨q1, o1 + 2, none⟩ (.int .i64 (l1.n : Nat))) fun H1 =>
  ∃ l2 : Sl,
  cellH H1 ⟨q, qo, none⟩ = some (.slice l2.p l2.n l2.c) ∧
  ∀ q2 : Nat,
  H1 q2 = none →
  letH (Heap.upd H1 q2 (.cells #[.pointer p1] 51 (0, 0))) fun H2 =>
  runH Try.prog (Builtin.append_ #[48, 48] 48 #[.slice l2.p l2.n l2.c, .slice (some ⟨q2, 0, none⟩) 1 1]) H2 fun r1 H3 =>
    ∃ l3 : Sl,
    r1 = .slice l3.p l3.n l3.c ∧
    (∃ u, cellH H3 ⟨q, qo, none⟩ = some u) ∧
    frozenH H3 ⟨q, qo, none⟩ = false ∧
    letH (Heap.set H3 ⟨q, qo, none⟩ (.slice l3.p l3.n l3.c)) fun H4 =>
    K (.tuple #[]) H4
theorem timer_queue_Push_eq (q : Nat) (qo : Nat) (x : Value) (H : Heap) (K : Value → Heap → Prop) : timer_queue_Push_vc q qo x H K = denFn Try.prog timer_queue_Push_ann Try.f50 (bodyOf Try.f50) [.pointer (some ⟨q, qo, none⟩), x] H K := by kernel_rfl
theorem timer_queue_Push_fn (q : Nat) (qo : Nat) (x : Value) {H : Heap} {K : Value → Heap → Prop} (h : timer_queue_Push_vc q qo x H K) : FnH Try.prog 50 #[.pointer (some ⟨q, qo, none⟩), x] H K :=
  denFn_sound Try.mixed timer_queue_Push_ann Try.func50 (bodyOf_spec (by kernel_rfl)) ((timer_queue_Push_eq q qo x H K) ▸ h)

/-! function 21: container/heap.Fix -/
def heap_Fix_ann : Anns := { hid := [], loops := [], joins := [], mix := [] }
def heap_Fix_vc (h0 : Nat) (h0o : Nat) (i : Int) (H : Heap) (K : Value → Heap → Prop) : Prop :=
  ∃ l1 : Sl,
  cellH H ⟨h0, h0o, none⟩ = some (.slice l1.p l1.n l1.c) ∧
  FnH Try.prog 46 #[.slice l1.p l1.n l1.c] H fun r1 H1 =>
    ∃ n1 : Int,
    r1 = .int .i64 n1 ∧
    FnH Try.prog 27 #[.iface 56 (.pointer (some ⟨h0, h0o, none⟩)), .int .i64 i, .int .i64 n1] H1 fun r2 H2 =>
      ∃ b1 : Bool,
      r2 = .bool b1 ∧
      br (!b1) (
        FnH Try.prog 28 #[.iface 56 (.pointer (some ⟨h0, h0o, none⟩)), .int .i64 i] H2 fun r3 H3 =>
          r3 = .tuple #[] ∧
          K (.tuple #[]) H3)
       (
        K (.tuple #[]) H2)
theorem heap_Fix_eq (h0 : Nat) (h0o : Nat) (i : Int) (H : Heap) (K : Value → Heap → Prop) : heap_Fix_vc h0 h0o i H K = denFn Try.prog heap_Fix_ann Try.f21 (bodyOf Try.f21) [.iface 56 (.pointer (some ⟨h0, h0o, none⟩)), .int .i64 i] H K := by kernel_rfl
theorem heap_Fix_fn (h0 : Nat) (h0o : Nat) (i : Int) {H : Heap} {K : Value → Heap → Prop} (h : heap_Fix_vc h0 h0o i H K) : FnH Try.prog 21 #[.iface 56 (.pointer (some ⟨h0, h0o, none⟩)), .int .i64 i] H K :=
  denFn_sound Try.mixed heap_Fix_ann Try.func21 (bodyOf_spec (by kernel_rfl)) ((heap_Fix_eq h0 h0o i H K) ▸ h)

/-! function 22: container/heap.Push -/
def heap_Push_ann : Anns := { hid := [], loops := [], joins := [], mix := [] }
def heap_Push_vc (h0 : Nat) (h0o : Nat) (x : Value) (H : Heap) (K : Value → Heap → Prop) : Prop :=
  FnH Try.prog 50 #[.pointer (some ⟨h0, h0o, none⟩), x] H fun r1 H1 =>
    r1 = .tuple #[] ∧
    ∃ l1 : Sl,
    cellH H1 ⟨h0, h0o, none⟩ = some (.slice l1.p l1.n l1.c) ∧
    FnH Try.prog 46 #[.slice l1.p l1.n l1.c] H1 fun r2 H2 =>
      ∃ n1 : Int,
      r2 = .int .i64 n1 ∧
      FnH Try.prog 28 #[.iface 56 (.pointer (some ⟨h0, h0o, none⟩)), .int .i64 (IntKind.wrap .i64 (n1 - 1))] H2 fun r3 H3 =>
        r3 = .tuple #[] ∧
        K (.tuple #[]) H3
theorem heap_Push_eq (h0 : Nat) (h0o : Nat) (x : Value) (H : Heap) (K : Value → Heap → Prop) : heap_Push_vc h0 h0o x H K = denFn Try.prog heap_Push_ann Try.f22 (bodyOf Try.f22) [.iface 56 (.pointer (some ⟨h0, h0o, none⟩)), x] H K := by kernel_rfl
theorem heap_Push_fn (h0 : Nat) (h0o : Nat) (x : Value) {H : Heap} {K : Value → Heap → Prop} (h : heap_Push_vc h0 h0o x H K) : FnH Try.prog 22 #[.iface 56 (.pointer (some ⟨h0, h0o, none⟩)), x] H K :=
  denFn_sound Try.mixed heap_Push_ann Try.func22 (bodyOf_spec (by kernel_rfl)) ((heap_Push_eq h0 h0o x H K) ▸ h)

/-! function 25: container/heap.Remove -/
def heap_Remove_ann : Anns := { hid := [], loops := [], joins := [], mix := [] }
def heap_Remove_vc (h0 : Nat) (h0o : Nat) (i : Int) (H : Heap) (K : Value → Heap → Prop) : Prop :=
  ∃ l1 : Sl,
  cellH H ⟨h0, h0o, none⟩ = some (.slice l1.p l1.n l1.c) ∧
  FnH Try.prog 46 #[.slice l1.p l1.n l1.c] H fun r1 H1 =>
    ∃ n1 : Int,
    r1 = .int .i64 n1 ∧
    br (((IntKind.wrap .i64 (n1 - 1)) : Int) != i) (
      ∃ l2 : Sl,
      cellH H1 ⟨h0, h0o, none⟩ = some (.slice l2.p l2.n l2.c) ∧
      FnH Try.prog 48 #[.slice l2.p l2.n l2.c, .int .i64 i, .int .i64 (IntKind.wrap .i64 (n1 - 1))] H1 fun r2 H2 =>
        r2 = .tuple #[] ∧
        FnH Try.prog 27 #[.iface 56 (.pointer (some ⟨h0, h0o, none⟩)), .int .i64 i, .int .i64 (IntKind.wrap .i64 (n1 - 1))] H2 fun r3 H3 =>
          ∃ b1 : Bool,
          r3 = .bool b1 ∧
          br (!b1) (
            FnH Try.prog 28 #[.iface 56 (.pointer (some ⟨h0, h0o, none⟩)), .int .i64 i] H3 fun r4 H4 =>
              r4 = .tuple #[] ∧
              FnH Try.prog 49 #[.pointer (some ⟨h0, h0o, none⟩)] H4 fun r5 H5 =>
                ∃ v1 : Value,
                r5 = v1 ∧
                K (v1) H5)
           (
            FnH Try.prog 49 #[.pointer (some ⟨h0, h0o, none⟩)] H3 fun r6 H6 =>
              ∃ v2 : Value,
              r6 = v2 ∧
              K (v2) H6))
     (
      FnH Try.prog 49 #[.pointer (some ⟨h0, h0o, none⟩)] H1 fun r7 H7 =>
        ∃ v3 : Value,
        r7 = v3 ∧
        K (v3) H7)
theorem heap_Remove_eq (h0 : Nat) (h0o : Nat) (i : Int) (H : Heap) (K : Value → Heap → Prop) : heap_Remove_vc h0 h0o i H K = denFn Try.prog heap_Remove_ann Try.f25 (bodyOf Try.f25) [.iface 56 (.pointer (some ⟨h0, h0o, none⟩)), .int .i64 i] H K := by kernel_rfl
theorem heap_Remove_fn (h0 : Nat) (h0o : Nat) (i : Int) {H : Heap} {K : Value → Heap → Prop} (h : heap_Remove_vc h0 h0o i H K) : FnH Try.prog 25 #[.iface 56 (.pointer (some ⟨h0, h0o, none⟩)), .int .i64 i] H K :=
  denFn_sound Try.mixed heap_Remove_ann Try.func25 (bodyOf_spec (by kernel_rfl)) ((heap_Remove_eq h0 h0o i H K) ▸ h)

/-! function 26: container/heap.Pop -/
def heap_Pop_ann : Anns := { hid := [], loops := [], joins := [], mix := [] }
def heap_Pop_vc (h0 : Nat) (h0o : Nat) (H : Heap) (K : Value → Heap → Prop) : Prop :=
  ∃ l1 : Sl,
  cellH H ⟨h0, h0o, none⟩ = some (.slice l1.p l1.n l1.c) ∧
  FnH Try.prog 46 #[.slice l1.p l1.n l1.c] H fun r1 H1 =>
    ∃ n1 : Int,
    r1 = .int .i64 n1 ∧
    ∃ l2 : Sl,
    cellH H1 ⟨h0, h0o, none⟩ = some (.slice l2.p l2.n l2.c) ∧
    FnH Try.prog 48 #[.slice l2.p l2.n l2.c, .int .i64 0, .int .i64 (IntKind.wrap .i64 (n1 - 1))] H1 fun r2 H2 =>
      r2 = .tuple #[] ∧
      FnH Try.prog 27 #[.iface 56 (.pointer (some ⟨h0, h0o, none⟩)), .int .i64 0, .int .i64 (IntKind.wrap .i64 (n1 - 1))] H2 fun r3 H3 =>
        ∃ b1 : Bool,
        r3 = .bool b1 ∧
        FnH Try.prog 49 #[.pointer (some ⟨h0, h0o, none⟩)] H3 fun r4 H4 =>
          ∃ v1 : Value,
          r4 = v1 ∧
          K (v1) H4
theorem heap_Pop_eq (h0 : Nat) (h0o : Nat) (H : Heap) (K : Value → Heap → Prop) : heap_Pop_vc h0 h0o H K = denFn Try.prog heap_Pop_ann Try.f26 (bodyOf Try.f26) [.iface 56 (.pointer (some ⟨h0, h0o, none⟩))] H K := by kernel_rfl
theorem heap_Pop_fn (h0 : Nat) (h0o : Nat) {H : Heap} {K : Value → Heap → Prop} (h : heap_Pop_vc h0 h0o H K) : FnH Try.prog 26 #[.iface 56 (.pointer (some ⟨h0, h0o, none⟩))] H K :=
  denFn_sound Try.mixed heap_Pop_ann Try.func26 (bodyOf_spec (by kernel_rfl)) ((heap_Pop_eq h0 h0o H K) ▸ h)

/-! function 27: container/heap.down -/
def heap_down_ann : Anns := { hid := [], loops := [(0, { slots := [(7, .int .i64)], kept := [0, 1, 2], locs := [], keptL := [] })], joins := [], mix := [] }
def heap_down_vc (h0 : Nat) (h0o : Nat) (i0 : Int) (n : Int) (H : Heap) (K : Value → Heap → Prop) : Prop :=
  ∃ I1 : Int → Heap → Prop,
  ∃ M1 : Int → Heap → Nat,
  I1 i0 H ∧
  ∀ i_1 : Int,
  ∀ H1 : Heap,
  I1 i_1 H1 →
  br (decide (((IntKind.wrap .i64 ((IntKind.wrap .i64 (2 * i_1)) + 1)) : Int) ≥ n)) (
    K (.bool (decide ((i_1 : Int) > i0))) H1)
   (
    br (decide (((IntKind.wrap .i64 ((IntKind.wrap .i64 (2 * i_1)) + 1)) : Int) < 0)) (
      K (.bool (decide ((i_1 : Int) > i0))) H1)
     (
      br (decide (((IntKind.wrap .i64 ((IntKind.wrap .i64 ((IntKind.wrap .i64 (2 * i_1)) + 1)) + 1)) : Int) < n)) (
        ∃ l1 : Sl,
        cellH H1 ⟨h0, h0o, none⟩ = some (.slice l1.p l1.n l1.c) ∧
        FnH Try.prog 47 #[.slice l1.p l1.n l1.c, .int .i64 (IntKind.wrap .i64 ((IntKind.wrap .i64 ((IntKind.wrap .i64 (2 * i_1)) + 1)) + 1)), .int .i64 (IntKind.wrap .i64 ((IntKind.wrap .i64 (2 * i_1)) + 1))] H1 fun r1 H2 =>
          ∃ b1 : Bool,
          r1 = .bool b1 ∧
          br (b1) (
            ∃ l2 : Sl,
            cellH H2 ⟨h0, h0o, none⟩ = some (.slice l2.p l2.n l2.c) ∧
            FnH Try.prog 47 #[.slice l2.p l2.n l2.c, .int .i64 (IntKind.wrap .i64 ((IntKind.wrap .i64 ((IntKind.wrap .i64 (2 * i_1)) + 1)) + 1)), .int .i64 i_1] H2 fun r2 H3 =>
              ∃ b2 : Bool,
              r2 = .bool b2 ∧
              br (!b2) (
                K (.bool (decide ((i_1 : Int) > i0))) H3)
               (
                ∃ l3 : Sl,
                cellH H3 ⟨h0, h0o, none⟩ = some (.slice l3.p l3.n l3.c) ∧
                FnH Try.prog 48 #[.slice l3.p l3.n l3.c, .int .i64 i_1, .int .i64 (IntKind.wrap .i64 ((IntKind.wrap .i64 ((IntKind.wrap .i64 (2 * i_1)) + 1)) + 1))] H3 fun r3 H4 =>
                  r3 = .tuple #[] ∧
                  SelfEq ([.v (.iface 56 (.pointer (some ⟨h0, h0o, none⟩))), .v (.int .i64 i0), .v (.int .i64 n)], [], []) ∧
                  I1 (IntKind.wrap .i64 ((IntKind.wrap .i64 ((IntKind.wrap .i64 (2 * i_1)) + 1)) + 1)) H4 ∧
                  M1 (IntKind.wrap .i64 ((IntKind.wrap .i64 ((IntKind.wrap .i64 (2 * i_1)) + 1)) + 1)) H4 < M1 i_1 H1))
           (
            ∃ l4 : Sl,
            cellH H2 ⟨h0, h0o, none⟩ = some (.slice l4.p l4.n l4.c) ∧
            FnH Try.prog 47 #[.slice l4.p l4.n l4.c, .int .i64 (IntKind.wrap .i64 ((IntKind.wrap .i64 (2 * i_1)) + 1)), .int .i64 i_1] H2 fun r4 H5 =>
              ∃ b3 : Bool,
              r4 = .bool b3 ∧
              br (!b3) (
                K (.bool (decide ((i_1 : Int) > i0))) H5)
               (
                ∃ l5 : Sl,
                cellH H5 ⟨h0, h0o, none⟩ = some (.slice l5.p l5.n l5.c) ∧
                FnH Try.prog 48 #[.slice l5.p l5.n l5.c, .int .i64 i_1, .int .i64 (IntKind.wrap .i64 ((IntKind.wrap .i64 (2 * i_1)) + 1))] H5 fun r5 H6 =>
                  r5 = .tuple #[] ∧
                  SelfEq ([.v (.iface 56 (.pointer (some ⟨h0, h0o, none⟩))), .v (.int .i64 i0), .v (.int .i64 n)], [], []) ∧
                  I1 (IntKind.wrap .i64 ((IntKind.wrap .i64 (2 * i_1)) + 1)) H6 ∧
                  M1 (IntKind.wrap .i64 ((IntKind.wrap .i64 (2 * i_1)) + 1)) H6 < M1 i_1 H1)))
       (
        ∃ l6 : Sl,
        cellH H1 ⟨h0, h0o, none⟩ = some (.slice l6.p l6.n l6.c) ∧
        FnH Try.prog 47 #[.slice l6.p l6.n l6.c, .int .i64 (IntKind.wrap .i64 ((IntKind.wrap .i64 (2 * i_1)) + 1)), .int .i64 i_1] H1 fun r6 H7 =>
          ∃ b4 : Bool,
          r6 = .bool b4 ∧
          br (!b4) (
            K (.bool (decide ((i_1 : Int) > i0))) H7)
           (
            ∃ l7 : Sl,
            cellH H7 ⟨h0, h0o, none⟩ = some (.slice l7.p l7.n l7.c) ∧
            FnH Try.prog 48 #[.slice l7.p l7.n l7.c, .int .i64 i_1, .int .i64 (IntKind.wrap .i64 ((IntKind.wrap .i64 (2 * i_1)) + 1))] H7 fun r7 H8 =>
              r7 = .tuple #[] ∧
              SelfEq ([.v (.iface 56 (.pointer (some ⟨h0, h0o, none⟩))), .v (.int .i64 i0), .v (.int .i64 n)], [], []) ∧
              I1 (IntKind.wrap .i64 ((IntKind.wrap .i64 (2 * i_1)) + 1)) H8 ∧
              M1 (IntKind.wrap .i64 ((IntKind.wrap .i64 (2 * i_1)) + 1)) H8 < M1 i_1 H1))))
theorem heap_down_eq (h0 : Nat) (h0o : Nat) (i0 : Int) (n : Int) (H : Heap) (K : Value → Heap → Prop) : heap_down_vc h0 h0o i0 n H K = denFn Try.prog heap_down_ann Try.f27 (bodyOf Try.f27) [.iface 56 (.pointer (some ⟨h0, h0o, none⟩)), .int .i64 i0, .int .i64 n] H K := by kernel_rfl
theorem heap_down_fn (h0 : Nat) (h0o : Nat) (i0 : Int) (n : Int) {H : Heap} {K : Value → Heap → Prop} (h : heap_down_vc h0 h0o i0 n H K) : FnH Try.prog 27 #[.iface 56 (.pointer (some ⟨h0, h0o, none⟩)), .int .i64 i0, .int .i64 n] H K :=
  denFn_sound Try.mixed heap_down_ann Try.func27 (bodyOf_spec (by kernel_rfl)) ((heap_down_eq h0 h0o i0 n H K) ▸ h)

/-! function 28: container/heap.up -/
def heap_up_ann : Anns := { hid := [], loops := [(0, { slots := [(1, .int .i64)], kept := [0], locs := [], keptL := [] })], joins := [], mix := [] }
def heap_up_vc (h0 : Nat) (h0o : Nat) (j : Int) (H : Heap) (K : Value → Heap → Prop) : Prop :=
  ∃ I1 : Int → Heap → Prop,
  ∃ M1 : Int → Heap → Nat,
  I1 j H ∧
  ∀ j_1 : Int,
  ∀ H1 : Heap,
  I1 j_1 H1 →
  (2 : Int) ≠ 0 ∧
  br (((IntKind.wrap .i64 (Int.tdiv (IntKind.wrap .i64 (j_1 - 1)) 2)) : Int) == j_1) (
    K (.tuple #[]) H1)
   (
    ∃ l1 : Sl,
    cellH H1 ⟨h0, h0o, none⟩ = some (.slice l1.p l1.n l1.c) ∧
    FnH Try.prog 47 #[.slice l1.p l1.n l1.c, .int .i64 j_1, .int .i64 (IntKind.wrap .i64 (Int.tdiv (IntKind.wrap .i64 (j_1 - 1)) 2))] H1 fun r1 H2 =>
      ∃ b1 : Bool,
      r1 = .bool b1 ∧
      br (!b1) (
        K (.tuple #[]) H2)
       (
        ∃ l2 : Sl,
        cellH H2 ⟨h0, h0o, none⟩ = some (.slice l2.p l2.n l2.c) ∧
        FnH Try.prog 48 #[.slice l2.p l2.n l2.c, .int .i64 (IntKind.wrap .i64 (Int.tdiv (IntKind.wrap .i64 (j_1 - 1)) 2)), .int .i64 j_1] H2 fun r2 H3 =>
          r2 = .tuple #[] ∧
          SelfEq ([.v (.iface 56 (.pointer (some ⟨h0, h0o, none⟩)))], [], []) ∧
          I1 (IntKind.wrap .i64 (Int.tdiv (IntKind.wrap .i64 (j_1 - 1)) 2)) H3 ∧
          M1 (IntKind.wrap .i64 (Int.tdiv (IntKind.wrap .i64 (j_1 - 1)) 2)) H3 < M1 j_1 H1))
theorem heap_up_eq (h0 : Nat) (h0o : Nat) (j : Int) (H : Heap) (K : Value → Heap → Prop) : heap_up_vc h0 h0o j H K = denFn Try.prog heap_up_ann Try.f28 (bodyOf Try.f28) [.iface 56 (.pointer (some ⟨h0, h0o, none⟩)), .int .i64 j] H K := by kernel_rfl
theorem heap_up_fn (h0 : Nat) (h0o : Nat) (j : Int) {H : Heap} {K : Value → Heap → Prop} (h : heap_up_vc h0 h0o j H K) : FnH Try.prog 28 #[.iface 56 (.pointer (some ⟨h0, h0o, none⟩)), .int .i64 j] H K :=
  denFn_sound Try.mixed heap_up_ann Try.func28 (bodyOf_spec (by kernel_rfl)) ((heap_up_eq h0 h0o j H K) ▸ h)

end Go.Proofs.Ytcipmipadjenaaa
