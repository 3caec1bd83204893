/- Formulas of functions, printed by this session's vc.py; each is tied to the program by the kernel. -/
import Derived.Test.YtkabaoigablphaaProg
import Derived.KernelRfl
import Derived.Test.YtkabaoigablphaaHlFn
namespace Go.Proofs.Ytkabaoigablphaa
open Go.HL
set_option maxRecDepth 100000
theorem Try.mixed : Try.prog.follows .mixedOrders = true := by kernel_rfl
/-! function 8: logboom/dedup.New -/
def dedup_New_ann : Anns := { hid := [], loops := [], joins := [], mix := [] }
def dedup_New_vc  (H : Heap) (K : Value → Heap → Prop) : Prop :=
  ∀ q1 : Nat,
  H q1 = none →
  letH (Heap.upd H q1 (.map #[] 0)) fun H1 =>
  ∀ q2 : Nat,
  H1 q2 = none →
  letH (Heap.upd H1 q2 (.cells #[.map (some q1)] 55 (0, 0))) fun H2 =>
  K (.pointer (some ⟨q2, 0, none⟩)) H2
theorem dedup_New_eq  (H : Heap) (K : Value → Heap → Prop) : dedup_New_vc  H K = denFn Try.prog dedup_New_ann Try.f8 (bodyOf Try.f8) [] H K := by kernel_rfl
theorem dedup_New_fn  {H : Heap} {K : Value → Heap → Prop} (h : dedup_New_vc  H K) : FnH Try.prog 8 #[] H K :=
  denFn_fn Try.mixed dedup_New_ann Try.func8 (bodyOf_spec (by kernel_rfl)) (dedup_New_eq  H K) h

/-! function 9: logboom/logboomlaw8.small -/
def logboomlaw8_small_ann : Anns := { hid := [1, 2], loops := [], joins := [], mix := [(1, [20])] }
def logboomlaw8_small_vc (o_0 : Int) (o_1 : Int) (o_2 : Int) (o_3 : Int) (o_4 : Int) (o_5 : Int) (H : Heap) (K : Value → Heap → Prop) : Prop :=
  FnH Try.prog 10 #[.int .i64 o_0, .int .i64 8] H fun r1 H1 =>
    ∃ n1 : Int,
    r1 = .int .i64 n1 ∧
    Sub H H1 ∧
    FnH Try.prog 10 #[.int .i64 o_1, .int .i64 3] H1 fun r2 H2 =>
      ∃ n2 : Int,
      r2 = .int .i64 n2 ∧
      Sub H H2 ∧
      FnH Try.prog 10 #[.int .i64 o_2, .int .i64 3] H2 fun r3 H3 =>
        ∃ n3 : Int,
        r3 = .int .i64 n3 ∧
        Sub H H3 ∧
        FnH Try.prog 10 #[.int .i64 o_3, .int .i64 12] H3 fun r4 H4 =>
          ∃ n4 : Int,
          r4 = .int .i64 n4 ∧
          Sub H H4 ∧
          FnH Try.prog 10 #[.int .i64 o_4, .int .i64 3] H4 fun r5 H5 =>
            ∃ n5 : Int,
            r5 = .int .i64 n5 ∧
            Sub H H5 ∧
            K (.agg #[.int .i64 n1, .int .i64 (IntKind.wrap .i64 (1 + n2)), .int .i64 n3, .int .i64 n4, .int .i64 (IntKind.wrap .i64 (1 + n5)), .int .i64 o_5]) H5
theorem logboomlaw8_small_eq (o_0 : Int) (o_1 : Int) (o_2 : Int) (o_3 : Int) (o_4 : Int) (o_5 : Int) (H : Heap) (K : Value → Heap → Prop) : logboomlaw8_small_vc o_0 o_1 o_2 o_3 o_4 o_5 H K = denFn Try.prog logboomlaw8_small_ann Try.f9 (bodyOf Try.f9) [.agg #[.int .i64 o_0, .int .i64 o_1, .int .i64 o_2, .int .i64 o_3, .int .i64 o_4, .int .i64 o_5]] H K := by kernel_rfl
theorem logboomlaw8_small_fn (o_0 : Int) (o_1 : Int) (o_2 : Int) (o_3 : Int) (o_4 : Int) (o_5 : Int) {H : Heap} {K : Value → Heap → Prop} (h : logboomlaw8_small_vc o_0 o_1 o_2 o_3 o_4 o_5 H K) : FnH Try.prog 9 #[.agg #[.int .i64 o_0, .int .i64 o_1, .int .i64 o_2, .int .i64 o_3, .int .i64 o_4, .int .i64 o_5]] H K :=
  denFn_fn Try.mixed logboomlaw8_small_ann Try.func9 (bodyOf_spec (by kernel_rfl)) (logboomlaw8_small_eq o_0 o_1 o_2 o_3 o_4 o_5 H K) h

/-! function 10: logboom/logboomlaw8.pick -/
def logboomlaw8_pick_ann : Anns := { hid := [], loops := [], joins := [], mix := [] }
def logboomlaw8_pick_vc (c : Int) (n : Int) (H : Heap) (K : Value → Heap → Prop) : Prop :=
  br (decide ((c : Int) < 0)) (
    (n : Int) ≠ 0 ∧
    K (.int .i64 (Int.tmod (IntKind.wrap .i64 (0 - (IntKind.wrap .i64 (c + 1)))) n)) H)
   (
    (n : Int) ≠ 0 ∧
    K (.int .i64 (Int.tmod c n)) H)
theorem logboomlaw8_pick_eq (c : Int) (n : Int) (H : Heap) (K : Value → Heap → Prop) : logboomlaw8_pick_vc c n H K = denFn Try.prog logboomlaw8_pick_ann Try.f10 (bodyOf Try.f10) [.int .i64 c, .int .i64 n] H K := by kernel_rfl
theorem logboomlaw8_pick_fn (c : Int) (n : Int) {H : Heap} {K : Value → Heap → Prop} (h : logboomlaw8_pick_vc c n H K) : FnH Try.prog 10 #[.int .i64 c, .int .i64 n] H K :=
  denFn_fn Try.mixed logboomlaw8_pick_ann Try.func10 (bodyOf_spec (by kernel_rfl)) (logboomlaw8_pick_eq c n H K) h

/-! function 13: logboom/logboomlaw8.batch -/
def logboomlaw8_batch_ann : Anns := { hid := [10], loops := [], joins := [], mix := [] }
def logboomlaw8_batch_vc (pid : Int) (epoch : Int) (seq : Int) (n : Int) (base : Int) (H : Heap) (K : Value → Heap → Prop) : Prop :=
  runH Try.prog (Instr.makeSlice 31 (.int .i64 n) (.int .i64 n)) H fun r1 H1 =>
    ∃ l1 : Sl,
    r1 = .slice l1.p l1.n l1.c ∧
    K (.agg #[.int .i64 base, .int .i64 0, .int .i64 pid, .int .i64 epoch, .int .i64 seq, .slice l1.p l1.n l1.c]) H1
theorem logboomlaw8_batch_eq (pid : Int) (epoch : Int) (seq : Int) (n : Int) (base : Int) (H : Heap) (K : Value → Heap → Prop) : logboomlaw8_batch_vc pid epoch seq n base H K = denFn Try.prog logboomlaw8_batch_ann Try.f13 (bodyOf Try.f13) [.int .i64 pid, .int .i64 epoch, .int .i64 seq, .int .i64 n, .int .i64 base] H K := by kernel_rfl
theorem logboomlaw8_batch_fn (pid : Int) (epoch : Int) (seq : Int) (n : Int) (base : Int) {H : Heap} {K : Value → Heap → Prop} (h : logboomlaw8_batch_vc pid epoch seq n base H K) : FnH Try.prog 13 #[.int .i64 pid, .int .i64 epoch, .int .i64 seq, .int .i64 n, .int .i64 base] H K :=
  denFn_fn Try.mixed logboomlaw8_batch_ann Try.func13 (bodyOf_spec (by kernel_rfl)) (logboomlaw8_batch_eq pid epoch seq n base H K) h

/-! function 28: logboom/dedup.ahead -/
def dedup_ahead_ann : Anns := { hid := [], loops := [], joins := [], mix := [] }
def dedup_ahead_vc (l : Sl) (offset : Int) (H : Heap) (K : Value → Heap → Prop) : Prop :=
  ∀ q1 : Nat,
  H q1 = none →
  letH (Heap.upd H q1 (.cells #[.int .i64 offset] 3 (0, 0))) fun H1 =>
  FnH Try.prog 48 #[.slice l.p l.n l.c, .func (.func 49) #[] #[.pointer (some ⟨q1, 0, none⟩)]] H1 fun r1 H2 =>
    ∃ n1 : Int,
    r1 = .int .i64 n1 ∧
    br (decide ((n1 : Int) < 0)) (
      K (.int .i64 (l.n : Nat)) H2)
     (
      K (.int .i64 n1) H2)
theorem dedup_ahead_eq (l : Sl) (offset : Int) (H : Heap) (K : Value → Heap → Prop) : dedup_ahead_vc l offset H K = denFn Try.prog dedup_ahead_ann Try.f28 (bodyOf Try.f28) [.slice l.p l.n l.c, .int .i64 offset] H K := by kernel_rfl
theorem dedup_ahead_fn (l : Sl) (offset : Int) {H : Heap} {K : Value → Heap → Prop} (h : dedup_ahead_vc l offset H K) : FnH Try.prog 28 #[.slice l.p l.n l.c, .int .i64 offset] H K :=
  denFn_fn Try.mixed dedup_ahead_ann Try.func28 (bodyOf_spec (by kernel_rfl)) (dedup_ahead_eq l offset H K) h

/-! function 29: slices.Clone[[]logboom/dedup.note,logboom/dedup.note] -/
def slices_Clone_Ldedup_note_dedup_note_ann : Anns := { hid := [], loops := [], joins := [], mix := [] }
def slices_Clone_Ldedup_note_dedup_note_vc (s : Sl) (H : Heap) (K : Value → Heap → Prop) : Prop :=
  br (Option.isNone s.p) (
    K (.slice none 0 0) H)
   (
    ∀ q1 : Nat,
    H q1 = none →
    letH (Heap.upd H q1 (.cells #[] 62 (0, 0))) fun H1 =>
    runH Try.prog (Builtin.append_ #[56, 56] 56 #[.slice (some ⟨q1, 0, none⟩) 0 0, .slice s.p s.n s.c]) H1 fun r1 H2 =>
      ∃ l1 : Sl,
      r1 = .slice l1.p l1.n l1.c ∧
      K (.slice l1.p l1.n l1.c) H2)
theorem slices_Clone_Ldedup_note_dedup_note_eq (s : Sl) (H : Heap) (K : Value → Heap → Prop) : slices_Clone_Ldedup_note_dedup_note_vc s H K = denFn Try.prog slices_Clone_Ldedup_note_dedup_note_ann Try.f29 (bodyOf Try.f29) [.slice s.p s.n s.c] H K := by kernel_rfl
theorem slices_Clone_Ldedup_note_dedup_note_fn (s : Sl) {H : Heap} {K : Value → Heap → Prop} (h : slices_Clone_Ldedup_note_dedup_note_vc s H K) : FnH Try.prog 29 #[.slice s.p s.n s.c] H K :=
  denFn_fn Try.mixed slices_Clone_Ldedup_note_dedup_note_ann Try.func29 (bodyOf_spec (by kernel_rfl)) (slices_Clone_Ldedup_note_dedup_note_eq s H K) h

/-! function 30: slices.Concat[[]logboom/dedup.note,logboom/dedup.note] -/
def slices_Concat_Ldedup_note_dedup_note_ann : Anns := { hid := [], loops := [(0, { slots := [(3, .int .i64), (11, .int .i64)], kept := [0, 9, 10], locs := [], keptL := [] }), (2, { slots := [(6, .slice), (27, .int .i64)], kept := [25, 26], locs := [], keptL := [] })], joins := [], mix := [] }
def slices_Concat_Ldedup_note_dedup_note_vc (slices : Sl) (H : Heap) (K : Value → Heap → Prop) : Prop :=
  ∃ I1 : Int → Int → Heap → Prop,
  ∃ M1 : Int → Int → Heap → Nat,
  I1 0 0 H ∧
  ∀ size_1 : Int,
  ∀ n_1 : Int,
  ∀ H1 : Heap,
  I1 size_1 n_1 H1 →
  br (decide ((n_1 : Int) < (slices.n : Nat))) (
    ∃ q1 : Nat,
    ∃ o1 : Nat,
    (slices.p : Option Addr) = some ⟨q1, o1, none⟩ ∧
    0 ≤ (n_1 : Int) ∧
    (n_1 : Int) < (slices.n : Nat) ∧
    ∃ l1 : Sl,
    cellH H1 ⟨q1, o1 + Int.toNat n_1, none⟩ = some (.slice l1.p l1.n l1.c) ∧
    br (decide (((IntKind.wrap .i64 (size_1 + (l1.n : Nat))) : Int) < 0)) (
      False)
     (
      SelfEq ([.v (.slice slices.p slices.n slices.c), .v (.slice slices.p slices.n slices.c), .v (.int .i64 (slices.n : Nat))], [], []) ∧
      I1 (IntKind.wrap .i64 (size_1 + (l1.n : Nat))) (IntKind.wrap .i64 (n_1 + 1)) H1 ∧
      M1 (IntKind.wrap .i64 (size_1 + (l1.n : Nat))) (IntKind.wrap .i64 (n_1 + 1)) H1 < M1 size_1 n_1 H1))
   (
    FnH Try.prog 50 #[.slice none 0 0, .int .i64 size_1] H1 fun r1 H2 =>
      ∃ l2 : Sl,
      r1 = .slice l2.p l2.n l2.c ∧
      ∃ I2 : Sl → Int → Heap → Prop,
      ∃ M2 : Sl → Int → Heap → Nat,
      I2 l2 0 H2 ∧
      ∀ newslice_1 : Sl,
      ∀ n_2 : Int,
      ∀ H3 : Heap,
      I2 newslice_1 n_2 H3 →
      br (decide ((n_2 : Int) < (slices.n : Nat))) (
        ∃ q2 : Nat,
        ∃ o2 : Nat,
        (slices.p : Option Addr) = some ⟨q2, o2, none⟩ ∧
        0 ≤ (n_2 : Int) ∧
        (n_2 : Int) < (slices.n : Nat) ∧
        ∃ l3 : Sl,
        cellH H3 ⟨q2, o2 + Int.toNat n_2, none⟩ = some (.slice l3.p l3.n l3.c) ∧
        runH Try.prog (Builtin.append_ #[56, 56] 56 #[.slice newslice_1.p newslice_1.n newslice_1.c, .slice l3.p l3.n l3.c]) H3 fun r2 H4 =>
          ∃ l4 : Sl,
          r2 = .slice l4.p l4.n l4.c ∧
          SelfEq ([.v (.slice slices.p slices.n slices.c), .v (.int .i64 (slices.n : Nat))], [], []) ∧
          I2 l4 (IntKind.wrap .i64 (n_2 + 1)) H4 ∧
          M2 l4 (IntKind.wrap .i64 (n_2 + 1)) H4 < M2 newslice_1 n_2 H3)
       (
        K (.slice newslice_1.p newslice_1.n newslice_1.c) H3))
theorem slices_Concat_Ldedup_note_dedup_note_eq (slices : Sl) (H : Heap) (K : Value → Heap → Prop) : slices_Concat_Ldedup_note_dedup_note_vc slices H K = denFn Try.prog slices_Concat_Ldedup_note_dedup_note_ann Try.f30 (bodyOf Try.f30) [.slice slices.p slices.n slices.c] H K := by kernel_rfl
theorem slices_Concat_Ldedup_note_dedup_note_fn (slices : Sl) {H : Heap} {K : Value → Heap → Prop} (h : slices_Concat_Ldedup_note_dedup_note_vc slices H K) : FnH Try.prog 30 #[.slice slices.p slices.n slices.c] H K :=
  denFn_fn Try.mixed slices_Concat_Ldedup_note_dedup_note_ann Try.func30 (bodyOf_spec (by kernel_rfl)) (slices_Concat_Ldedup_note_dedup_note_eq slices H K) h

/-! function 31: logboom/dedup.latest -/
def dedup_latest_ann : Anns := { hid := [], loops := [(0, { slots := [(5, .int .i64)], kept := [0, 1], locs := [], keptL := [] })], joins := [], mix := [] }
def dedup_latest_vc (l : Sl) (most : Int) (H : Heap) (K : Value → Heap → Prop) : Prop :=
  ∃ I1 : Int → Heap → Prop,
  ∃ M1 : Int → Heap → Nat,
  I1 (l.n : Nat) H ∧
  ∀ i_1 : Int,
  ∀ H1 : Heap,
  I1 i_1 H1 →
  br (decide ((i_1 : Int) > 0)) (
    br (decide (((IntKind.wrap .i64 ((l.n : Nat) - i_1)) : Int) < most)) (
      ∃ q1 : Nat,
      ∃ o1 : Nat,
      (l.p : Option Addr) = some ⟨q1, o1, none⟩ ∧
      0 ≤ ((IntKind.wrap .i64 (i_1 - 1)) : Int) ∧
      ((IntKind.wrap .i64 (i_1 - 1)) : Int) < (l.n : Nat) ∧
      ∃ n1 : Int,
      cellH H1 ⟨q1, o1 + Int.toNat (IntKind.wrap .i64 (i_1 - 1)) * 4, none⟩ = some (.int .i64 n1) ∧
      ∃ q2 : Nat,
      ∃ o2 : Nat,
      (l.p : Option Addr) = some ⟨q2, o2, none⟩ ∧
      0 ≤ ((IntKind.wrap .i64 ((l.n : Nat) - 1)) : Int) ∧
      ((IntKind.wrap .i64 ((l.n : Nat) - 1)) : Int) < (l.n : Nat) ∧
      ∃ n2 : Int,
      cellH H1 ⟨q2, o2 + Int.toNat (IntKind.wrap .i64 ((l.n : Nat) - 1)) * 4, none⟩ = some (.int .i64 n2) ∧
      br ((n1 : Int) == n2) (
        SelfEq ([.v (.slice l.p l.n l.c), .v (.int .i64 most)], [], []) ∧
        I1 (IntKind.wrap .i64 (i_1 - 1)) H1 ∧
        M1 (IntKind.wrap .i64 (i_1 - 1)) H1 < M1 i_1 H1)
       (
        0 ≤ (i_1 : Int) ∧
        (i_1 : Int) ≤ (l.n : Nat) ∧
        K (.slice (slP l.p l.c i_1 4) (Int.toNat ((l.n : Nat) - i_1)) (Int.toNat ((l.c : Nat) - i_1))) H1))
     (
      0 ≤ (i_1 : Int) ∧
      (i_1 : Int) ≤ (l.n : Nat) ∧
      K (.slice (slP l.p l.c i_1 4) (Int.toNat ((l.n : Nat) - i_1)) (Int.toNat ((l.c : Nat) - i_1))) H1))
   (
    0 ≤ (i_1 : Int) ∧
    (i_1 : Int) ≤ (l.n : Nat) ∧
    K (.slice (slP l.p l.c i_1 4) (Int.toNat ((l.n : Nat) - i_1)) (Int.toNat ((l.c : Nat) - i_1))) H1)
theorem dedup_latest_eq (l : Sl) (most : Int) (H : Heap) (K : Value → Heap → Prop) : dedup_latest_vc l most H K = denFn Try.prog dedup_latest_ann Try.f31 (bodyOf Try.f31) [.slice l.p l.n l.c, .int .i64 most] H K := by kernel_rfl
theorem dedup_latest_fn (l : Sl) (most : Int) {H : Heap} {K : Value → Heap → Prop} (h : dedup_latest_vc l most H K) : FnH Try.prog 31 #[.slice l.p l.n l.c, .int .i64 most] H K :=
  denFn_fn Try.mixed dedup_latest_ann Try.func31 (bodyOf_spec (by kernel_rfl)) (dedup_latest_eq l most H K) h

/-! function 32: logboom/dedup.within -/
def dedup_within_ann : Anns := { hid := [], loops := [], joins := [], mix := [] }
def dedup_within_vc (n : Int) (most : Int) (H : Heap) (K : Value → Heap → Prop) : Prop :=
  br (decide ((n : Int) ≥ 0)) (
    K (.bool (decide ((n : Int) ≤ most))) H)
   (
    K (.bool false) H)
theorem dedup_within_eq (n : Int) (most : Int) (H : Heap) (K : Value → Heap → Prop) : dedup_within_vc n most H K = denFn Try.prog dedup_within_ann Try.f32 (bodyOf Try.f32) [.int .i64 n, .int .i64 most] H K := by kernel_rfl
theorem dedup_within_fn (n : Int) (most : Int) {H : Heap} {K : Value → Heap → Prop} (h : dedup_within_vc n most H K) : FnH Try.prog 32 #[.int .i64 n, .int .i64 most] H K :=
  denFn_fn Try.mixed dedup_within_ann Try.func32 (bodyOf_spec (by kernel_rfl)) (dedup_within_eq n most H K) h

/-! function 33: logboom/logboomlaw8.overlap -/
def logboomlaw8_overlap_ann : Anns := { hid := [2, 3], loops := [], joins := [], mix := [] }
def logboomlaw8_overlap_vc (a_0 : Int) (a_1 : Int) (a_2 : Int) (a_3 : Int) (a_4 : Int) (a_5 : Sl) (b_0 : Int) (b_1 : Int) (b_2 : Int) (b_3 : Int) (b_4 : Int) (b_5 : Sl) (H : Heap) (K : Value → Heap → Prop) : Prop :=
  br ((a_2 : Int) == b_2) (
    br ((a_3 : Int) == b_3) (
      br (decide ((a_4 : Int) < (IntKind.wrap .i64 (b_4 + (b_5.n : Nat))))) (
        K (.bool (decide ((b_4 : Int) < (IntKind.wrap .i64 (a_4 + (a_5.n : Nat)))))) H)
       (
        K (.bool false) H))
     (
      K (.bool false) H))
   (
    K (.bool false) H)
theorem logboomlaw8_overlap_eq (a_0 : Int) (a_1 : Int) (a_2 : Int) (a_3 : Int) (a_4 : Int) (a_5 : Sl) (b_0 : Int) (b_1 : Int) (b_2 : Int) (b_3 : Int) (b_4 : Int) (b_5 : Sl) (H : Heap) (K : Value → Heap → Prop) : logboomlaw8_overlap_vc a_0 a_1 a_2 a_3 a_4 a_5 b_0 b_1 b_2 b_3 b_4 b_5 H K = denFn Try.prog logboomlaw8_overlap_ann Try.f33 (bodyOf Try.f33) [.agg #[.int .i64 a_0, .int .i64 a_1, .int .i64 a_2, .int .i64 a_3, .int .i64 a_4, .slice a_5.p a_5.n a_5.c], .agg #[.int .i64 b_0, .int .i64 b_1, .int .i64 b_2, .int .i64 b_3, .int .i64 b_4, .slice b_5.p b_5.n b_5.c]] H K := by kernel_rfl
theorem logboomlaw8_overlap_fn (a_0 : Int) (a_1 : Int) (a_2 : Int) (a_3 : Int) (a_4 : Int) (a_5 : Sl) (b_0 : Int) (b_1 : Int) (b_2 : Int) (b_3 : Int) (b_4 : Int) (b_5 : Sl) {H : Heap} {K : Value → Heap → Prop} (h : logboomlaw8_overlap_vc a_0 a_1 a_2 a_3 a_4 a_5 b_0 b_1 b_2 b_3 b_4 b_5 H K) : FnH Try.prog 33 #[.agg #[.int .i64 a_0, .int .i64 a_1, .int .i64 a_2, .int .i64 a_3, .int .i64 a_4, .slice a_5.p a_5.n a_5.c], .agg #[.int .i64 b_0, .int .i64 b_1, .int .i64 b_2, .int .i64 b_3, .int .i64 b_4, .slice b_5.p b_5.n b_5.c]] H K :=
  denFn_fn Try.mixed logboomlaw8_overlap_ann Try.func33 (bodyOf_spec (by kernel_rfl)) (logboomlaw8_overlap_eq a_0 a_1 a_2 a_3 a_4 a_5 b_0 b_1 b_2 b_3 b_4 b_5 H K) h

/-! function 48: slices.IndexFunc[[]logboom/dedup.note,logboom/dedup.note] -/
def IndexFunc_ahead_ann : Anns := { hid := [], loops := [(0, { slots := [(8, .int .i64)], kept := [0, 1, 7], locs := [], keptL := [] })], joins := [], mix := [] }
def IndexFunc_ahead_vc (s : Sl) (f_c0 : Nat) (H : Heap) (K : Value → Heap → Prop) : Prop :=
  ∃ I1 : Int → Heap → Prop,
  ∃ M1 : Int → Heap → Nat,
  I1 0 H ∧
  ∀ n_1 : Int,
  ∀ H1 : Heap,
  I1 n_1 H1 →
  br (decide ((n_1 : Int) < (s.n : Nat))) (
    ∃ q1 : Nat,
    ∃ o1 : Nat,
    (s.p : Option Addr) = some ⟨q1, o1, none⟩ ∧
    0 ≤ (n_1 : Int) ∧
    (n_1 : Int) < (s.n : Nat) ∧
    ∃ n1 : Int,
    cellH H1 ⟨q1, o1 + Int.toNat n_1 * 4, none⟩ = some (.int .i64 n1) ∧
    ∃ n2 : Int,
    cellH H1 ⟨q1, o1 + Int.toNat n_1 * 4 + 1, none⟩ = some (.int .i64 n2) ∧
    ∃ n3 : Int,
    cellH H1 ⟨q1, o1 + Int.toNat n_1 * 4 + 2, none⟩ = some (.int .i64 n3) ∧
    ∃ n4 : Int,
    cellH H1 ⟨q1, o1 + Int.toNat n_1 * 4 + 3, none⟩ = some (.int .i64 n4) ∧
    FnH Try.prog 49 #[.agg #[.int .i64 n1, .int .i64 n2, .int .i64 n3, .int .i64 n4], .pointer (some ⟨f_c0, 0, none⟩)] H1 fun r1 H2 =>
      ∃ b1 : Bool,
      r1 = .bool b1 ∧
      br (b1) (
        K (.int .i64 n_1) H2)
       (
        SelfEq ([.v (.slice s.p s.n s.c), .v (.func (.func 49) #[] #[.pointer (some ⟨f_c0, 0, none⟩)]), .v (.int .i64 (s.n : Nat))], [], []) ∧
        I1 (IntKind.wrap .i64 (n_1 + 1)) H2 ∧
        M1 (IntKind.wrap .i64 (n_1 + 1)) H2 < M1 n_1 H1))
   (
    K (.int .i64 (-1)) H1)
theorem IndexFunc_ahead_eq (s : Sl) (f_c0 : Nat) (H : Heap) (K : Value → Heap → Prop) : IndexFunc_ahead_vc s f_c0 H K = denFn Try.prog IndexFunc_ahead_ann Try.f48 (bodyOf Try.f48) [.slice s.p s.n s.c, .func (.func 49) #[] #[.pointer (some ⟨f_c0, 0, none⟩)]] H K := by kernel_rfl
theorem IndexFunc_ahead_fn (s : Sl) (f_c0 : Nat) {H : Heap} {K : Value → Heap → Prop} (h : IndexFunc_ahead_vc s f_c0 H K) : FnH Try.prog 48 #[.slice s.p s.n s.c, .func (.func 49) #[] #[.pointer (some ⟨f_c0, 0, none⟩)]] H K :=
  denFn_fn Try.mixed IndexFunc_ahead_ann Try.func48 (bodyOf_spec (by kernel_rfl)) (IndexFunc_ahead_eq s f_c0 H K) h

/-! function 49: logboom/dedup.ahead$1 -/
def dedup_ahead_1_ann : Anns := { hid := [2], loops := [], joins := [], mix := [] }
def dedup_ahead_1_vc (x_0 : Int) (x_1 : Int) (x_2 : Int) (x_3 : Int) (c0_c : Nat) (H : Heap) (K : Value → Heap → Prop) : Prop :=
  ∃ n1 : Int,
  cellH H ⟨c0_c, 0, none⟩ = some (.int .i64 n1) ∧
  K (.bool (decide ((x_3 : Int) ≥ n1))) H
theorem dedup_ahead_1_eq (x_0 : Int) (x_1 : Int) (x_2 : Int) (x_3 : Int) (c0_c : Nat) (H : Heap) (K : Value → Heap → Prop) : dedup_ahead_1_vc x_0 x_1 x_2 x_3 c0_c H K = denFn Try.prog dedup_ahead_1_ann Try.f49 (bodyOf Try.f49) [.agg #[.int .i64 x_0, .int .i64 x_1, .int .i64 x_2, .int .i64 x_3], .pointer (some ⟨c0_c, 0, none⟩)] H K := by kernel_rfl
theorem dedup_ahead_1_fn (x_0 : Int) (x_1 : Int) (x_2 : Int) (x_3 : Int) (c0_c : Nat) {H : Heap} {K : Value → Heap → Prop} (h : dedup_ahead_1_vc x_0 x_1 x_2 x_3 c0_c H K) : FnH Try.prog 49 #[.agg #[.int .i64 x_0, .int .i64 x_1, .int .i64 x_2, .int .i64 x_3], .pointer (some ⟨c0_c, 0, none⟩)] H K :=
  denFn_fn Try.mixed dedup_ahead_1_ann Try.func49 (bodyOf_spec (by kernel_rfl)) (dedup_ahead_1_eq x_0 x_1 x_2 x_3 c0_c H K) h

/-! function 50: slices.Grow[[]logboom/dedup.note,logboom/dedup.note] -/
def slices_Grow_Ldedup_note_dedup_note_ann : Anns := { hid := [], loops := [], joins := [], mix := [] }
def slices_Grow_Ldedup_note_dedup_note_vc (s : Sl) (n : Int) (H : Heap) (K : Value → Heap → Prop) : Prop :=
  br (decide ((n : Int) < 0)) (
    False)
   (
    br (decide (((IntKind.wrap .i64 (n - (IntKind.wrap .i64 ((s.c : Nat) - (s.n : Nat))))) : Int) > 0)) (
      0 ≤ ((s.c : Nat) : Int) ∧
      ((s.c : Nat) : Int) ≤ (s.c : Nat) ∧
      runH Try.prog (Builtin.append_ #[56, 3] 56 #[.slice (slP s.p s.c (0 : Int) 4) (Int.toNat ((s.c : Nat) - (0 : Int))) (Int.toNat ((s.c : Nat) - (0 : Int))), .int .i64 (IntKind.wrap .i64 (n - (IntKind.wrap .i64 ((s.c : Nat) - (s.n : Nat)))))]) H fun r1 H1 =>
        ∃ l1 : Sl,
        r1 = .slice l1.p l1.n l1.c ∧
        0 ≤ ((s.n : Nat) : Int) ∧
        ((s.n : Nat) : Int) ≤ (l1.c : Nat) ∧
        K (.slice (slP l1.p l1.c (0 : Int) 4) (Int.toNat ((s.n : Nat) - (0 : Int))) (Int.toNat ((l1.c : Nat) - (0 : Int)))) H1)
     (
      K (.slice s.p s.n s.c) H))
theorem slices_Grow_Ldedup_note_dedup_note_eq (s : Sl) (n : Int) (H : Heap) (K : Value → Heap → Prop) : slices_Grow_Ldedup_note_dedup_note_vc s n H K = denFn Try.prog slices_Grow_Ldedup_note_dedup_note_ann Try.f50 (bodyOf Try.f50) [.slice s.p s.n s.c, .int .i64 n] H K := by kernel_rfl
theorem slices_Grow_Ldedup_note_dedup_note_fn (s : Sl) (n : Int) {H : Heap} {K : Value → Heap → Prop} (h : slices_Grow_Ldedup_note_dedup_note_vc s n H K) : FnH Try.prog 50 #[.slice s.p s.n s.c, .int .i64 n] H K :=
  denFn_fn Try.mixed slices_Grow_Ldedup_note_dedup_note_ann Try.func50 (bodyOf_spec (by kernel_rfl)) (slices_Grow_Ldedup_note_dedup_note_eq s n H K) h

/-! function 51: logboom/wire.within -/
def wire_within_ann : Anns := { hid := [], loops := [], joins := [], mix := [] }
def wire_within_vc (n : Int) (most : Int) (H : Heap) (K : Value → Heap → Prop) : Prop :=
  br (decide ((n : Int) ≥ 0)) (
    K (.bool (decide ((n : Int) ≤ most))) H)
   (
    K (.bool false) H)
theorem wire_within_eq (n : Int) (most : Int) (H : Heap) (K : Value → Heap → Prop) : wire_within_vc n most H K = denFn Try.prog wire_within_ann Try.f51 (bodyOf Try.f51) [.int .i64 n, .int .i64 most] H K := by kernel_rfl
theorem wire_within_fn (n : Int) (most : Int) {H : Heap} {K : Value → Heap → Prop} (h : wire_within_vc n most H K) : FnH Try.prog 51 #[.int .i64 n, .int .i64 most] H K :=
  denFn_fn Try.mixed wire_within_ann Try.func51 (bodyOf_spec (by kernel_rfl)) (wire_within_eq n most H K) h

/-! function 52: logboom/wire.body -/
def wire_body_ann : Anns := { hid := [1, 7], loops := [(0, { slots := [(3, .slice), (22, .int .i64)], kept := [1, 21], locs := [], keptL := [0] }), (2, { slots := [(3, .slice), (32, .int .i64)], kept := [30, 31], locs := [], keptL := [0] })], joins := [], mix := [(10, [3, 6, 9])] }
def wire_body_vc (b_0 : Int) (b_1 : Int) (b_2 : Int) (b_3 : Int) (b_4 : Int) (b_5 : Sl) (H : Heap) (K : Value → Heap → Prop) : Prop :=
  ∃ I1 : Sl → Int → Heap → Prop,
  ∃ M1 : Sl → Int → Heap → Nat,
  I1 ⟨none, 0, 0⟩ 0 H ∧
  ∀ out_1 : Sl,
  ∀ n_1 : Int,
  ∀ H1 : Heap,
  I1 out_1 n_1 H1 →
  br (decide ((n_1 : Int) < 6)) (
    0 ≤ (n_1 : Int) ∧
    (n_1 : Int) < (6 : Nat) ∧
    ∃ n1 : Int,
    (#[.int .i64 b_0, .int .i64 b_1, .int .i64 b_2, .int .i64 b_3, .int .i64 b_4, .int .i64 (b_5.n : Nat)] : Array Value)[Int.toNat n_1]? = some (.int .i64 n1) ∧
    FnH Try.prog 56 #[.slice out_1.p out_1.n out_1.c, .int .i64 n1] H1 fun r1 H2 =>
      ∃ l1 : Sl,
      r1 = .slice l1.p l1.n l1.c ∧
      SelfEq ([.loc 0 0, .v (.agg #[.int .i64 b_0, .int .i64 b_1, .int .i64 b_2, .int .i64 b_3, .int .i64 b_4, .int .i64 (b_5.n : Nat)])], [some (33, [.int .i64 b_0, .int .i64 b_1, .int .i64 b_2, .int .i64 b_3, .int .i64 b_4, .slice b_5.p b_5.n b_5.c])], []) ∧
      I1 l1 (IntKind.wrap .i64 (n_1 + 1)) H2 ∧
      M1 l1 (IntKind.wrap .i64 (n_1 + 1)) H2 < M1 out_1 n_1 H1)
   (
    ∃ I2 : Sl → Int → Heap → Prop,
    ∃ M2 : Sl → Int → Heap → Nat,
    I2 out_1 0 H1 ∧
    ∀ out_2 : Sl,
    ∀ n_2 : Int,
    ∀ H3 : Heap,
    I2 out_2 n_2 H3 →
    br (decide ((n_2 : Int) < (b_5.n : Nat))) (
      ∃ q1 : Nat,
      ∃ o1 : Nat,
      (b_5.p : Option Addr) = some ⟨q1, o1, none⟩ ∧
      0 ≤ (n_2 : Int) ∧
      (n_2 : Int) < (b_5.n : Nat) ∧
      ∃ s1 : ByteArray,
      cellH H3 ⟨q1, o1 + Int.toNat n_2 * 3, none⟩ = some (.string s1) ∧
      ∃ s2 : ByteArray,
      cellH H3 ⟨q1, o1 + Int.toNat n_2 * 3 + 1, none⟩ = some (.string s2) ∧
      ∃ n2 : Int,
      cellH H3 ⟨q1, o1 + Int.toNat n_2 * 3 + 2, none⟩ = some (.int .i64 n2) ∧
      (FnH Try.prog 56 #[.slice out_2.p out_2.n out_2.c, .int .i64 n2] H3 fun r2 H4 =>
        ∃ l2 : Sl,
        r2 = .slice l2.p l2.n l2.c ∧
        ((FnH Try.prog 61 #[.slice l2.p l2.n l2.c, .string s1] H4 fun r3 H5 =>
          ∃ l3 : Sl,
          r3 = .slice l3.p l3.n l3.c ∧
          FnH Try.prog 61 #[.slice l3.p l3.n l3.c, .string s2] H5 fun r4 H6 =>
            ∃ l4 : Sl,
            r4 = .slice l4.p l4.n l4.c ∧
            SelfEq ([.v (.slice b_5.p b_5.n b_5.c), .v (.int .i64 (b_5.n : Nat))], [some (33, [.int .i64 b_0, .int .i64 b_1, .int .i64 b_2, .int .i64 b_3, .int .i64 b_4, .slice b_5.p b_5.n b_5.c])], []) ∧
            I2 l4 (IntKind.wrap .i64 (n_2 + 1)) H6 ∧
            M2 l4 (IntKind.wrap .i64 (n_2 + 1)) H6 < M2 out_2 n_2 H3) ∧
        FnH Try.prog 61 #[.slice l2.p l2.n l2.c, .string s1] H4 fun r5 H7 =>
          ∃ l5 : Sl,
          r5 = .slice l5.p l5.n l5.c ∧
          FnH Try.prog 61 #[.slice l5.p l5.n l5.c, .string s2] H7 fun r6 H8 =>
            ∃ l6 : Sl,
            r6 = .slice l6.p l6.n l6.c ∧
            SelfEq ([.v (.slice b_5.p b_5.n b_5.c), .v (.int .i64 (b_5.n : Nat))], [some (33, [.int .i64 b_0, .int .i64 b_1, .int .i64 b_2, .int .i64 b_3, .int .i64 b_4, .slice b_5.p b_5.n b_5.c])], []) ∧
            I2 l6 (IntKind.wrap .i64 (n_2 + 1)) H8 ∧
            M2 l6 (IntKind.wrap .i64 (n_2 + 1)) H8 < M2 out_2 n_2 H3) ∧
        FnH Try.prog 61 #[.slice l2.p l2.n l2.c, .string s1] H4 fun r7 H9 =>
          ∃ l7 : Sl,
          r7 = .slice l7.p l7.n l7.c ∧
          FnH Try.prog 61 #[.slice l7.p l7.n l7.c, .string s2] H9 fun r8 H10 =>
            ∃ l8 : Sl,
            r8 = .slice l8.p l8.n l8.c ∧
            SelfEq ([.v (.slice b_5.p b_5.n b_5.c), .v (.int .i64 (b_5.n : Nat))], [some (33, [.int .i64 b_0, .int .i64 b_1, .int .i64 b_2, .int .i64 b_3, .int .i64 b_4, .slice b_5.p b_5.n b_5.c])], []) ∧
            I2 l8 (IntKind.wrap .i64 (n_2 + 1)) H10 ∧
            M2 l8 (IntKind.wrap .i64 (n_2 + 1)) H10 < M2 out_2 n_2 H3) ∧
      (Sub H3 H3 ∧
      (FnH Try.prog 56 #[.slice out_2.p out_2.n out_2.c, .int .i64 n2] H3 fun r9 H11 =>
        ∃ l9 : Sl,
        r9 = .slice l9.p l9.n l9.c ∧
        (FnH Try.prog 61 #[.slice l9.p l9.n l9.c, .string s1] H11 fun r10 H12 =>
          ∃ l10 : Sl,
          r10 = .slice l10.p l10.n l10.c ∧
          FnH Try.prog 61 #[.slice l10.p l10.n l10.c, .string s2] H12 fun r11 H13 =>
            ∃ l11 : Sl,
            r11 = .slice l11.p l11.n l11.c ∧
            SelfEq ([.v (.slice b_5.p b_5.n b_5.c), .v (.int .i64 (b_5.n : Nat))], [some (33, [.int .i64 b_0, .int .i64 b_1, .int .i64 b_2, .int .i64 b_3, .int .i64 b_4, .slice b_5.p b_5.n b_5.c])], []) ∧
            I2 l11 (IntKind.wrap .i64 (n_2 + 1)) H13 ∧
            M2 l11 (IntKind.wrap .i64 (n_2 + 1)) H13 < M2 out_2 n_2 H3) ∧
        FnH Try.prog 61 #[.slice l9.p l9.n l9.c, .string s1] H11 fun r12 H14 =>
          ∃ l12 : Sl,
          r12 = .slice l12.p l12.n l12.c ∧
          FnH Try.prog 61 #[.slice l12.p l12.n l12.c, .string s2] H14 fun r13 H15 =>
            ∃ l13 : Sl,
            r13 = .slice l13.p l13.n l13.c ∧
            SelfEq ([.v (.slice b_5.p b_5.n b_5.c), .v (.int .i64 (b_5.n : Nat))], [some (33, [.int .i64 b_0, .int .i64 b_1, .int .i64 b_2, .int .i64 b_3, .int .i64 b_4, .slice b_5.p b_5.n b_5.c])], []) ∧
            I2 l13 (IntKind.wrap .i64 (n_2 + 1)) H15 ∧
            M2 l13 (IntKind.wrap .i64 (n_2 + 1)) H15 < M2 out_2 n_2 H3) ∧
      Sub H3 H3 ∧
      FnH Try.prog 56 #[.slice out_2.p out_2.n out_2.c, .int .i64 n2] H3 fun r14 H16 =>
        ∃ l14 : Sl,
        r14 = .slice l14.p l14.n l14.c ∧
        FnH Try.prog 61 #[.slice l14.p l14.n l14.c, .string s1] H16 fun r15 H17 =>
          ∃ l15 : Sl,
          r15 = .slice l15.p l15.n l15.c ∧
          FnH Try.prog 61 #[.slice l15.p l15.n l15.c, .string s2] H17 fun r16 H18 =>
            ∃ l16 : Sl,
            r16 = .slice l16.p l16.n l16.c ∧
            SelfEq ([.v (.slice b_5.p b_5.n b_5.c), .v (.int .i64 (b_5.n : Nat))], [some (33, [.int .i64 b_0, .int .i64 b_1, .int .i64 b_2, .int .i64 b_3, .int .i64 b_4, .slice b_5.p b_5.n b_5.c])], []) ∧
            I2 l16 (IntKind.wrap .i64 (n_2 + 1)) H18 ∧
            M2 l16 (IntKind.wrap .i64 (n_2 + 1)) H18 < M2 out_2 n_2 H3) ∧
      Sub H3 H3 ∧
      (FnH Try.prog 56 #[.slice out_2.p out_2.n out_2.c, .int .i64 n2] H3 fun r17 H19 =>
        ∃ l17 : Sl,
        r17 = .slice l17.p l17.n l17.c ∧
        FnH Try.prog 61 #[.slice l17.p l17.n l17.c, .string s1] H19 fun r18 H20 =>
          ∃ l18 : Sl,
          r18 = .slice l18.p l18.n l18.c ∧
          FnH Try.prog 61 #[.slice l18.p l18.n l18.c, .string s2] H20 fun r19 H21 =>
            ∃ l19 : Sl,
            r19 = .slice l19.p l19.n l19.c ∧
            SelfEq ([.v (.slice b_5.p b_5.n b_5.c), .v (.int .i64 (b_5.n : Nat))], [some (33, [.int .i64 b_0, .int .i64 b_1, .int .i64 b_2, .int .i64 b_3, .int .i64 b_4, .slice b_5.p b_5.n b_5.c])], []) ∧
            I2 l19 (IntKind.wrap .i64 (n_2 + 1)) H21 ∧
            M2 l19 (IntKind.wrap .i64 (n_2 + 1)) H21 < M2 out_2 n_2 H3) ∧
      Sub H3 H3 ∧
      FnH Try.prog 56 #[.slice out_2.p out_2.n out_2.c, .int .i64 n2] H3 fun r20 H22 =>
        ∃ l20 : Sl,
        r20 = .slice l20.p l20.n l20.c ∧
        FnH Try.prog 61 #[.slice l20.p l20.n l20.c, .string s1] H22 fun r21 H23 =>
          ∃ l21 : Sl,
          r21 = .slice l21.p l21.n l21.c ∧
          FnH Try.prog 61 #[.slice l21.p l21.n l21.c, .string s2] H23 fun r22 H24 =>
            ∃ l22 : Sl,
            r22 = .slice l22.p l22.n l22.c ∧
            SelfEq ([.v (.slice b_5.p b_5.n b_5.c), .v (.int .i64 (b_5.n : Nat))], [some (33, [.int .i64 b_0, .int .i64 b_1, .int .i64 b_2, .int .i64 b_3, .int .i64 b_4, .slice b_5.p b_5.n b_5.c])], []) ∧
            I2 l22 (IntKind.wrap .i64 (n_2 + 1)) H24 ∧
            M2 l22 (IntKind.wrap .i64 (n_2 + 1)) H24 < M2 out_2 n_2 H3)
     (
      K (.slice out_2.p out_2.n out_2.c) H3))
theorem wire_body_eq (b_0 : Int) (b_1 : Int) (b_2 : Int) (b_3 : Int) (b_4 : Int) (b_5 : Sl) (H : Heap) (K : Value → Heap → Prop) : wire_body_vc b_0 b_1 b_2 b_3 b_4 b_5 H K = denFn Try.prog wire_body_ann Try.f52 (bodyOf Try.f52) [.agg #[.int .i64 b_0, .int .i64 b_1, .int .i64 b_2, .int .i64 b_3, .int .i64 b_4, .slice b_5.p b_5.n b_5.c]] H K := by kernel_rfl
theorem wire_body_fn (b_0 : Int) (b_1 : Int) (b_2 : Int) (b_3 : Int) (b_4 : Int) (b_5 : Sl) {H : Heap} {K : Value → Heap → Prop} (h : wire_body_vc b_0 b_1 b_2 b_3 b_4 b_5 H K) : FnH Try.prog 52 #[.agg #[.int .i64 b_0, .int .i64 b_1, .int .i64 b_2, .int .i64 b_3, .int .i64 b_4, .slice b_5.p b_5.n b_5.c]] H K :=
  denFn_fn Try.mixed wire_body_ann Try.func52 (bodyOf_spec (by kernel_rfl)) (wire_body_eq b_0 b_1 b_2 b_3 b_4 b_5 H K) h

/-! function 56: logboom/wire.appendInt -/
def wire_appendInt_ann : Anns := { hid := [], loops := [(0, { slots := [(0, .slice), (5, .int .u64)], kept := [], locs := [], keptL := [] })], joins := [], mix := [] }
def wire_appendInt_vc (b : Sl) (n : Int) (H : Heap) (K : Value → Heap → Prop) : Prop :=
  ∃ I1 : Sl → Int → Heap → Prop,
  ∃ M1 : Sl → Int → Heap → Nat,
  I1 b (IntKind.wrap .u64 (xorI .i64 (shlI .i64 n 1) (shrI .i64 n 63))) H ∧
  ∀ b_1 : Sl,
  ∀ z_1 : Int,
  ∀ H1 : Heap,
  I1 b_1 z_1 H1 →
  br (decide ((z_1 : Int) ≥ 128)) (
    ∀ q1 : Nat,
    H1 q1 = none →
    letH (Heap.upd H1 q1 (.cells #[.int .u8 (orI .u8 (IntKind.wrap .u8 z_1) 128)] 5 (0, 0))) fun H2 =>
    runH Try.prog (Builtin.append_ #[68, 68] 68 #[.slice b_1.p b_1.n b_1.c, .slice (some ⟨q1, 0, none⟩) 1 1]) H2 fun r1 H3 =>
      ∃ l1 : Sl,
      r1 = .slice l1.p l1.n l1.c ∧
      SelfEq ([], [], []) ∧
      I1 l1 (shrI .u64 z_1 7) H3 ∧
      M1 l1 (shrI .u64 z_1 7) H3 < M1 b_1 z_1 H1)
   (
    ∀ q2 : Nat,
    H1 q2 = none →
    letH (Heap.upd H1 q2 (.cells #[.int .u8 (IntKind.wrap .u8 z_1)] 5 (0, 0))) fun H4 =>
    runH Try.prog (Builtin.append_ #[68, 68] 68 #[.slice b_1.p b_1.n b_1.c, .slice (some ⟨q2, 0, none⟩) 1 1]) H4 fun r2 H5 =>
      ∃ l2 : Sl,
      r2 = .slice l2.p l2.n l2.c ∧
      K (.slice l2.p l2.n l2.c) H5)
theorem wire_appendInt_eq (b : Sl) (n : Int) (H : Heap) (K : Value → Heap → Prop) : wire_appendInt_vc b n H K = denFn Try.prog wire_appendInt_ann Try.f56 (bodyOf Try.f56) [.slice b.p b.n b.c, .int .i64 n] H K := by kernel_rfl
theorem wire_appendInt_fn (b : Sl) (n : Int) {H : Heap} {K : Value → Heap → Prop} (h : wire_appendInt_vc b n H K) : FnH Try.prog 56 #[.slice b.p b.n b.c, .int .i64 n] H K :=
  denFn_fn Try.mixed wire_appendInt_ann Try.func56 (bodyOf_spec (by kernel_rfl)) (wire_appendInt_eq b n H K) h

/-! function 61: logboom/wire.appendText -/
def wire_appendText_ann : Anns := { hid := [], loops := [], joins := [], mix := [] }
def wire_appendText_vc (b : Sl) (s : ByteArray) (H : Heap) (K : Value → Heap → Prop) : Prop :=
  FnH Try.prog 56 #[.slice b.p b.n b.c, .int .i64 (s.size : Nat)] H fun r1 H1 =>
    ∃ l1 : Sl,
    r1 = .slice l1.p l1.n l1.c ∧
    runH Try.prog (Builtin.append_ #[68, 9] 68 #[.slice l1.p l1.n l1.c, .string s]) H1 fun r2 H2 =>
      ∃ l2 : Sl,
      r2 = .slice l2.p l2.n l2.c ∧
      K (.slice l2.p l2.n l2.c) H2
theorem wire_appendText_eq (b : Sl) (s : ByteArray) (H : Heap) (K : Value → Heap → Prop) : wire_appendText_vc b s H K = denFn Try.prog wire_appendText_ann Try.f61 (bodyOf Try.f61) [.slice b.p b.n b.c, .string s] H K := by kernel_rfl
theorem wire_appendText_fn (b : Sl) (s : ByteArray) {H : Heap} {K : Value → Heap → Prop} (h : wire_appendText_vc b s H K) : FnH Try.prog 61 #[.slice b.p b.n b.c, .string s] H K :=
  denFn_fn Try.mixed wire_appendText_ann Try.func61 (bodyOf_spec (by kernel_rfl)) (wire_appendText_eq b s H K) h

end Go.Proofs.Ytkabaoigablphaa
