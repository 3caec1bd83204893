/- Formulas of functions, printed by this session's vc.py; each is tied to the program by the kernel. -/
import Derived.Test.YtokceblmbmajgaaGreatDoorProg
import Derived.KernelRfl
import Derived.Test.YtokceblmbmajgaaGreatDoorHlFn
import Derived.Test.YtokceblmbmajgaaGreatDoorV5
namespace Go.Proofs.YtokceblmbmajgaaGreatDoor
open Go.HL
set_option maxRecDepth 100000
/-! function 55: logboom/logboomref5.End -/
def logboomref5_End_ann : Anns := { hid := [1], loops := [], joins := [], mix := [] }
def logboomref5_End_vc (b_0 : Int) (b_1 : Int) (b_2 : Int) (b_3 : Int) (b_4 : Int) (b_5 : Sl) (H : Heap) (K : Value → Heap → Prop) : Prop :=
  K (.int .i64 (IntKind.wrap .i64 (b_0 + (b_5.n : Nat)))) H
theorem logboomref5_End_eq (b_0 : Int) (b_1 : Int) (b_2 : Int) (b_3 : Int) (b_4 : Int) (b_5 : Sl) (H : Heap) (K : Value → Heap → Prop) : logboomref5_End_vc b_0 b_1 b_2 b_3 b_4 b_5 H K = denFn Tryz.prog logboomref5_End_ann Tryz.f55 (bodyOf Tryz.f55) [.agg #[.int .i64 b_0, .int .i64 b_1, .int .i64 b_2, .int .i64 b_3, .int .i64 b_4, .slice b_5.p b_5.n b_5.c]] H K := by kernel_rfl
theorem logboomref5_End_fn (b_0 : Int) (b_1 : Int) (b_2 : Int) (b_3 : Int) (b_4 : Int) (b_5 : Sl) {H : Heap} {K : Value → Heap → Prop} (h : logboomref5_End_vc b_0 b_1 b_2 b_3 b_4 b_5 H K) : FnH Tryz.prog 55 #[.agg #[.int .i64 b_0, .int .i64 b_1, .int .i64 b_2, .int .i64 b_3, .int .i64 b_4, .slice b_5.p b_5.n b_5.c]] H K :=
  denFn_fn Tryz.mixed logboomref5_End_ann Tryz.func55 (bodyOf_spec (by kernel_rfl)) (logboomref5_End_eq b_0 b_1 b_2 b_3 b_4 b_5 H K) h

/-! function 52: (*logboom/logboomref5.Segment).All -/
def logboomref5_Segment_All_ann : Anns := { hid := [9], loops := [(0, { slots := [(6, .slice), (7, .int .i64), (8, .int .i64)], kept := [4], locs := [], keptL := [] })], joins := [], mix := [(1, [])] }
def logboomref5_Segment_All_vc (s : Nat) (so : Nat) (H : Heap) (K : Value → Heap → Prop) : Prop :=
  ∃ p1 : Option Addr,
  cellH H ⟨s, so, none⟩ = some (.pointer p1) ∧
  ∃ s1 : ByteArray,
  cellH H ⟨s, so + 1, none⟩ = some (.string s1) ∧
  FnH Tryz.prog 31 #[.pointer p1, .string s1] H fun r1 H1 =>
    ∃ s2 : ByteArray,
    ∃ n1 : Int,
    r1 = .tuple #[.string s2, .int .i64 n1] ∧
    Sub H H1 ∧
    ∃ n2 : Int,
    cellH H1 ⟨s, so + 2, none⟩ = some (.int .i64 n2) ∧
    ∃ I1 : Sl → Int → Int → Heap → Prop,
    ∃ M1 : Sl → Int → Int → Heap → Nat,
    I1 ⟨none, 0, 0⟩ 0 n2 H1 ∧
    ∀ out_1 : Sl,
    ∀ at_1 : Int,
    ∀ next_1 : Int,
    ∀ H2 : Heap,
    I1 out_1 at_1 next_1 H2 →
    br (decide ((at_1 : Int) < (s2.size : Nat))) (
      br (decide (((out_1.n : Nat) : Int) < 4096)) (
        0 ≤ (at_1 : Int) ∧
        (at_1 : Int) ≤ (s2.size : Nat) ∧
        FnH Tryz.prog 76 #[.string (s2.extract (Int.toNat at_1) (Int.toNat (s2.size : Nat)))] H2 fun r2 H3 =>
          ∃ n3 : Int,
          ∃ n4 : Int,
          ∃ n5 : Int,
          ∃ n6 : Int,
          ∃ n7 : Int,
          ∃ l1 : Sl,
          ∃ n8 : Int,
          ∃ n9 : Int,
          r2 = .tuple #[.agg #[.int .i64 n3, .int .i64 n4, .int .i64 n5, .int .i64 n6, .int .i64 n7, .slice l1.p l1.n l1.c], .int .i64 n8, .int .i64 n9] ∧
          br ((n9 : Int) != 0) (
            K (.tuple #[.slice out_1.p out_1.n out_1.c, .int .i64 at_1]) H3)
           (
            br ((n3 : Int) != next_1) (
              K (.tuple #[.slice out_1.p out_1.n out_1.c, .int .i64 at_1]) H3)
             (
              FnH Tryz.prog 55 #[.agg #[.int .i64 n3, .int .i64 n4, .int .i64 n5, .int .i64 n6, .int .i64 n7, .slice l1.p l1.n l1.c]] H3 fun r3 H4 =>
                ∃ n10 : Int,
                r3 = .int .i64 n10 ∧
                br (decide ((n10 : Int) > 1000000000)) (
                  K (.tuple #[.slice out_1.p out_1.n out_1.c, .int .i64 at_1]) H4)
                 (
                  ∀ q1 : Nat,
                  H4 q1 = none →
                  letH (Heap.upd H4 q1 (.cells #[.int .i64 n3, .int .i64 n4, .int .i64 n5, .int .i64 n6, .int .i64 n7, .slice l1.p l1.n l1.c, .int .i64 at_1, .int .i64 (IntKind.wrap .i64 (at_1 + n8))] 99 (0, 0))) fun H5 =>
                  runH Tryz.prog (Builtin.append_ #[95, 95] 95 #[.slice out_1.p out_1.n out_1.c, .slice (some ⟨q1, 0, none⟩) 1 1]) H5 fun r4 H6 =>
                    ∃ l2 : Sl,
                    r4 = .slice l2.p l2.n l2.c ∧
                    FnH Tryz.prog 55 #[.agg #[.int .i64 n3, .int .i64 n4, .int .i64 n5, .int .i64 n6, .int .i64 n7, .slice l1.p l1.n l1.c]] H6 fun r5 H7 =>
                      ∃ n11 : Int,
                      r5 = .int .i64 n11 ∧
                      SelfEq ([.v (.string s2)], [], []) ∧
                      I1 l2 (IntKind.wrap .i64 (at_1 + n8)) n11 H7 ∧
                      M1 l2 (IntKind.wrap .i64 (at_1 + n8)) n11 H7 < M1 out_1 at_1 next_1 H2))))
       (
        K (.tuple #[.slice out_1.p out_1.n out_1.c, .int .i64 at_1]) H2))
     (
      K (.tuple #[.slice out_1.p out_1.n out_1.c, .int .i64 at_1]) H2)
theorem logboomref5_Segment_All_eq (s : Nat) (so : Nat) (H : Heap) (K : Value → Heap → Prop) : logboomref5_Segment_All_vc s so H K = denFn Tryz.prog logboomref5_Segment_All_ann Tryz.f52 (bodyOf Tryz.f52) [.pointer (some ⟨s, so, none⟩)] H K := by kernel_rfl
theorem logboomref5_Segment_All_fn (s : Nat) (so : Nat) {H : Heap} {K : Value → Heap → Prop} (h : logboomref5_Segment_All_vc s so H K) : FnH Tryz.prog 52 #[.pointer (some ⟨s, so, none⟩)] H K :=
  denFn_fn Tryz.mixed logboomref5_Segment_All_ann Tryz.func52 (bodyOf_spec (by kernel_rfl)) (logboomref5_Segment_All_eq s so H K) h

/-! function 21: logboom/logboomref5.Open -/
def logboomref5_Open_ann : Anns := { hid := [], loops := [], joins := [], mix := [] }
def logboomref5_Open_vc (d0 : Nat) (d0o : Nat) (name : ByteArray) (base : Int) (H : Heap) (K : Value → Heap → Prop) : Prop :=
  br (decide ((base : Int) < 0)) (
    K (.tuple #[.pointer none, .int .i64 0, .int .i64 1]) H)
   (
    br (decide ((base : Int) > 1000000000)) (
      K (.tuple #[.pointer none, .int .i64 0, .int .i64 1]) H)
     (
      FnH Tryz.prog 51 #[.pointer (some ⟨d0, d0o, none⟩), .string name, .string (⟨#[]⟩ : ByteArray)] H fun r1 H1 =>
        ∃ n1 : Int,
        r1 = .int .i64 n1 ∧
        br ((n1 : Int) != 0) (
          K (.tuple #[.pointer none, .int .i64 0, .int .i64 n1]) H1)
         (
          ∀ q1 : Nat,
          H1 q1 = none →
          letH (Heap.upd H1 q1 (.cells #[.pointer (some ⟨d0, d0o, none⟩), .string name, .int .i64 base] 68 (0, 0))) fun H2 =>
          FnH Tryz.prog 52 #[.pointer (some ⟨q1, 0, none⟩)] H2 fun r2 H3 =>
            ∃ l1 : Sl,
            ∃ n2 : Int,
            r2 = .tuple #[.slice l1.p l1.n l1.c, .int .i64 n2] ∧
            FnH Tryz.prog 53 #[.pointer (some ⟨d0, d0o, none⟩), .string name] H3 fun r3 H4 =>
              ∃ n3 : Int,
              r3 = .int .i64 n3 ∧
              FnH Tryz.prog 54 #[.pointer (some ⟨d0, d0o, none⟩), .string name, .int .i64 n2] H4 fun r4 H5 =>
                ∃ n4 : Int,
                r4 = .int .i64 n4 ∧
                FnH Tryz.prog 24 #[.pointer (some ⟨d0, d0o, none⟩), .string name] H5 fun r5 H6 =>
                  ∃ n5 : Int,
                  r5 = .int .i64 n5 ∧
                  K (.tuple #[.pointer (some ⟨q1, 0, none⟩), .int .i64 (IntKind.wrap .i64 (n3 - n2)), .int .i64 0]) H6)))
theorem logboomref5_Open_eq (d0 : Nat) (d0o : Nat) (name : ByteArray) (base : Int) (H : Heap) (K : Value → Heap → Prop) : logboomref5_Open_vc d0 d0o name base H K = denFn Tryz.prog logboomref5_Open_ann Tryz.f21 (bodyOf Tryz.f21) [.pointer (some ⟨d0, d0o, none⟩), .string name, .int .i64 base] H K := by kernel_rfl
theorem logboomref5_Open_fn (d0 : Nat) (d0o : Nat) (name : ByteArray) (base : Int) {H : Heap} {K : Value → Heap → Prop} (h : logboomref5_Open_vc d0 d0o name base H K) : FnH Tryz.prog 21 #[.pointer (some ⟨d0, d0o, none⟩), .string name, .int .i64 base] H K :=
  denFn_fn Tryz.mixed logboomref5_Open_ann Tryz.func21 (bodyOf_spec (by kernel_rfl)) (logboomref5_Open_eq d0 d0o name base H K) h

/-! function 22: (*logboom/logboomref5.Segment).Next -/
def logboomref5_Segment_Next_ann : Anns := { hid := [], loops := [], joins := [], mix := [] }
def logboomref5_Segment_Next_vc (s : Nat) (so : Nat) (H : Heap) (K : Value → Heap → Prop) : Prop :=
  FnH Tryz.prog 52 #[.pointer (some ⟨s, so, none⟩)] H fun r1 H1 =>
    ∃ l1 : Sl,
    ∃ n1 : Int,
    r1 = .tuple #[.slice l1.p l1.n l1.c, .int .i64 n1] ∧
    br (((l1.n : Nat) : Int) == 0) (
      ∃ n2 : Int,
      cellH H1 ⟨s, so + 2, none⟩ = some (.int .i64 n2) ∧
      K (.int .i64 n2) H1)
     (
      ∃ q1 : Nat,
      ∃ o1 : Nat,
      (l1.p : Option Addr) = some ⟨q1, o1, none⟩ ∧
      0 ≤ ((IntKind.wrap .i64 ((l1.n : Nat) - 1)) : Int) ∧
      ((IntKind.wrap .i64 ((l1.n : Nat) - 1)) : Int) < (l1.n : Nat) ∧
      ∃ n3 : Int,
      cellH H1 ⟨q1, o1 + Int.toNat (IntKind.wrap .i64 ((l1.n : Nat) - 1)) * 8, none⟩ = some (.int .i64 n3) ∧
      ∃ n4 : Int,
      cellH H1 ⟨q1, o1 + Int.toNat (IntKind.wrap .i64 ((l1.n : Nat) - 1)) * 8 + 1, none⟩ = some (.int .i64 n4) ∧
      ∃ n5 : Int,
      cellH H1 ⟨q1, o1 + Int.toNat (IntKind.wrap .i64 ((l1.n : Nat) - 1)) * 8 + 2, none⟩ = some (.int .i64 n5) ∧
      ∃ n6 : Int,
      cellH H1 ⟨q1, o1 + Int.toNat (IntKind.wrap .i64 ((l1.n : Nat) - 1)) * 8 + 3, none⟩ = some (.int .i64 n6) ∧
      ∃ n7 : Int,
      cellH H1 ⟨q1, o1 + Int.toNat (IntKind.wrap .i64 ((l1.n : Nat) - 1)) * 8 + 4, none⟩ = some (.int .i64 n7) ∧
      ∃ l2 : Sl,
      cellH H1 ⟨q1, o1 + Int.toNat (IntKind.wrap .i64 ((l1.n : Nat) - 1)) * 8 + 5, none⟩ = some (.slice l2.p l2.n l2.c) ∧
      FnH Tryz.prog 55 #[.agg #[.int .i64 n3, .int .i64 n4, .int .i64 n5, .int .i64 n6, .int .i64 n7, .slice l2.p l2.n l2.c]] H1 fun r2 H2 =>
        ∃ n8 : Int,
        r2 = .int .i64 n8 ∧
        K (.int .i64 n8) H2)
theorem logboomref5_Segment_Next_eq (s : Nat) (so : Nat) (H : Heap) (K : Value → Heap → Prop) : logboomref5_Segment_Next_vc s so H K = denFn Tryz.prog logboomref5_Segment_Next_ann Tryz.f22 (bodyOf Tryz.f22) [.pointer (some ⟨s, so, none⟩)] H K := by kernel_rfl
theorem logboomref5_Segment_Next_fn (s : Nat) (so : Nat) {H : Heap} {K : Value → Heap → Prop} (h : logboomref5_Segment_Next_vc s so H K) : FnH Tryz.prog 22 #[.pointer (some ⟨s, so, none⟩)] H K :=
  denFn_fn Tryz.mixed logboomref5_Segment_Next_ann Tryz.func22 (bodyOf_spec (by kernel_rfl)) (logboomref5_Segment_Next_eq s so H K) h

/-! function 23: (*logboom/logboomref5.Segment).Append -/
def logboomref5_Segment_Append_ann : Anns := { hid := [3], loops := [], joins := [], mix := [(5, []), (11, [9]), (13, [9])] }
def logboomref5_Segment_Append_vc (s : Nat) (so : Nat) (b_0 : Int) (b_1 : Int) (b_2 : Int) (b_3 : Int) (b_4 : Int) (b_5 : Sl) (H : Heap) (K : Value → Heap → Prop) : Prop :=
  FnH Tryz.prog 56 #[.agg #[.int .i64 b_0, .int .i64 b_1, .int .i64 b_2, .int .i64 b_3, .int .i64 b_4, .slice b_5.p b_5.n b_5.c]] H fun r1 H1 =>
    ∃ s1 : ByteArray,
    ∃ n1 : Int,
    r1 = .tuple #[.string s1, .int .i64 n1] ∧
    FnH Tryz.prog 52 #[.pointer (some ⟨s, so, none⟩)] H1 fun r2 H2 =>
      ∃ l1 : Sl,
      ∃ n2 : Int,
      r2 = .tuple #[.slice l1.p l1.n l1.c, .int .i64 n2] ∧
      br ((n1 : Int) != 0) (
        K (.int .i64 n1) H2)
       (
        FnH Tryz.prog 22 #[.pointer (some ⟨s, so, none⟩)] H2 fun r3 H3 =>
          ∃ n3 : Int,
          r3 = .int .i64 n3 ∧
          Sub H2 H3 ∧
          br ((b_0 : Int) != n3) (
            K (.int .i64 11) H3)
           (
            FnH Tryz.prog 55 #[.agg #[.int .i64 b_0, .int .i64 b_1, .int .i64 b_2, .int .i64 b_3, .int .i64 b_4, .slice b_5.p b_5.n b_5.c]] H3 fun r4 H4 =>
              ∃ n4 : Int,
              r4 = .int .i64 n4 ∧
              br (decide ((n4 : Int) > 1000000000)) (
                K (.int .i64 20) H4)
               (
                br (decide (((l1.n : Nat) : Int) ≥ 4096)) (
                  K (.int .i64 3) H4)
                 (
                  ∃ p1 : Option Addr,
                  cellH H4 ⟨s, so, none⟩ = some (.pointer p1) ∧
                  ∃ s2 : ByteArray,
                  cellH H4 ⟨s, so + 1, none⟩ = some (.string s2) ∧
                  FnH Tryz.prog 51 #[.pointer p1, .string s2, .string s1] H4 fun r5 H5 =>
                    ∃ n5 : Int,
                    r5 = .int .i64 n5 ∧
                    br ((n5 : Int) != 0) (
                      ∃ p2 : Option Addr,
                      cellH H5 ⟨s, so, none⟩ = some (.pointer p2) ∧
                      ∃ s3 : ByteArray,
                      cellH H5 ⟨s, so + 1, none⟩ = some (.string s3) ∧
                      FnH Tryz.prog 54 #[.pointer p2, .string s3, .int .i64 n2] H5 fun r6 H6 =>
                        ∃ n6 : Int,
                        r6 = .int .i64 n6 ∧
                        K (.int .i64 n5) H6)
                     (
                      K (.int .i64 n5) H5)))))
theorem logboomref5_Segment_Append_eq (s : Nat) (so : Nat) (b_0 : Int) (b_1 : Int) (b_2 : Int) (b_3 : Int) (b_4 : Int) (b_5 : Sl) (H : Heap) (K : Value → Heap → Prop) : logboomref5_Segment_Append_vc s so b_0 b_1 b_2 b_3 b_4 b_5 H K = denFn Tryz.prog logboomref5_Segment_Append_ann Tryz.f23 (bodyOf Tryz.f23) [.pointer (some ⟨s, so, none⟩), .agg #[.int .i64 b_0, .int .i64 b_1, .int .i64 b_2, .int .i64 b_3, .int .i64 b_4, .slice b_5.p b_5.n b_5.c]] H K := by kernel_rfl
theorem logboomref5_Segment_Append_fn (s : Nat) (so : Nat) (b_0 : Int) (b_1 : Int) (b_2 : Int) (b_3 : Int) (b_4 : Int) (b_5 : Sl) {H : Heap} {K : Value → Heap → Prop} (h : logboomref5_Segment_Append_vc s so b_0 b_1 b_2 b_3 b_4 b_5 H K) : FnH Tryz.prog 23 #[.pointer (some ⟨s, so, none⟩), .agg #[.int .i64 b_0, .int .i64 b_1, .int .i64 b_2, .int .i64 b_3, .int .i64 b_4, .slice b_5.p b_5.n b_5.c]] H K :=
  denFn_fn Tryz.mixed logboomref5_Segment_Append_ann Tryz.func23 (bodyOf_spec (by kernel_rfl)) (logboomref5_Segment_Append_eq s so b_0 b_1 b_2 b_3 b_4 b_5 H K) h

/-! function 26: (*logboom/logboomref5.Segment).Cut -/
def logboomref5_Segment_Cut_ann : Anns := { hid := [], loops := [(0, { slots := [(6, .int .i64), (7, .int .i64)], kept := [0, 1, 5], locs := [], keptL := [] })], joins := [], mix := [(8, [9])] }
def logboomref5_Segment_Cut_vc (s : Nat) (so : Nat) (offset : Int) (H : Heap) (K : Value → Heap → Prop) : Prop :=
  ∃ n1 : Int,
  cellH H ⟨s, so + 2, none⟩ = some (.int .i64 n1) ∧
  br (decide ((offset : Int) < n1)) (
    K (.int .i64 1) H)
   (
    FnH Tryz.prog 52 #[.pointer (some ⟨s, so, none⟩)] H fun r1 H1 =>
      ∃ l1 : Sl,
      ∃ n2 : Int,
      r1 = .tuple #[.slice l1.p l1.n l1.c, .int .i64 n2] ∧
      ∃ I1 : Int → Int → Heap → Prop,
      ∃ M1 : Int → Int → Heap → Nat,
      I1 n2 (IntKind.wrap .i64 ((l1.n : Nat) - 1)) H1 ∧
      ∀ n_1 : Int,
      ∀ i_1 : Int,
      ∀ H2 : Heap,
      I1 n_1 i_1 H2 →
      br (decide ((i_1 : Int) ≥ 0)) (
        ∃ q1 : Nat,
        ∃ o1 : Nat,
        (l1.p : Option Addr) = some ⟨q1, o1, none⟩ ∧
        0 ≤ (i_1 : Int) ∧
        (i_1 : Int) < (l1.n : Nat) ∧
        ∃ n3 : Int,
        cellH H2 ⟨q1, o1 + Int.toNat i_1 * 8, none⟩ = some (.int .i64 n3) ∧
        ∃ n4 : Int,
        cellH H2 ⟨q1, o1 + Int.toNat i_1 * 8 + 1, none⟩ = some (.int .i64 n4) ∧
        ∃ n5 : Int,
        cellH H2 ⟨q1, o1 + Int.toNat i_1 * 8 + 2, none⟩ = some (.int .i64 n5) ∧
        ∃ n6 : Int,
        cellH H2 ⟨q1, o1 + Int.toNat i_1 * 8 + 3, none⟩ = some (.int .i64 n6) ∧
        ∃ n7 : Int,
        cellH H2 ⟨q1, o1 + Int.toNat i_1 * 8 + 4, none⟩ = some (.int .i64 n7) ∧
        ∃ l2 : Sl,
        cellH H2 ⟨q1, o1 + Int.toNat i_1 * 8 + 5, none⟩ = some (.slice l2.p l2.n l2.c) ∧
        FnH Tryz.prog 55 #[.agg #[.int .i64 n3, .int .i64 n4, .int .i64 n5, .int .i64 n6, .int .i64 n7, .slice l2.p l2.n l2.c]] H2 fun r2 H3 =>
          ∃ n8 : Int,
          r2 = .int .i64 n8 ∧
          br (decide ((n8 : Int) > offset)) (
            ∃ q2 : Nat,
            ∃ o2 : Nat,
            (l1.p : Option Addr) = some ⟨q2, o2, none⟩ ∧
            0 ≤ (i_1 : Int) ∧
            (i_1 : Int) < (l1.n : Nat) ∧
            ∃ n9 : Int,
            cellH H3 ⟨q2, o2 + Int.toNat i_1 * 8 + 6, none⟩ = some (.int .i64 n9) ∧
            SelfEq ([.v (.pointer (some ⟨s, so, none⟩)), .v (.int .i64 offset), .v (.slice l1.p l1.n l1.c)], [], []) ∧
            I1 n9 (IntKind.wrap .i64 (i_1 - 1)) H3 ∧
            M1 n9 (IntKind.wrap .i64 (i_1 - 1)) H3 < M1 n_1 i_1 H2)
           (
            ∃ p1 : Option Addr,
            cellH H3 ⟨s, so, none⟩ = some (.pointer p1) ∧
            ∃ s1 : ByteArray,
            cellH H3 ⟨s, so + 1, none⟩ = some (.string s1) ∧
            FnH Tryz.prog 54 #[.pointer p1, .string s1, .int .i64 n_1] H3 fun r3 H4 =>
              ∃ n10 : Int,
              r3 = .int .i64 n10 ∧
              K (.int .i64 0) H4))
       (
        ∃ p2 : Option Addr,
        cellH H2 ⟨s, so, none⟩ = some (.pointer p2) ∧
        ∃ s2 : ByteArray,
        cellH H2 ⟨s, so + 1, none⟩ = some (.string s2) ∧
        FnH Tryz.prog 54 #[.pointer p2, .string s2, .int .i64 n_1] H2 fun r4 H5 =>
          ∃ n11 : Int,
          r4 = .int .i64 n11 ∧
          K (.int .i64 0) H5))
theorem logboomref5_Segment_Cut_eq (s : Nat) (so : Nat) (offset : Int) (H : Heap) (K : Value → Heap → Prop) : logboomref5_Segment_Cut_vc s so offset H K = denFn Tryz.prog logboomref5_Segment_Cut_ann Tryz.f26 (bodyOf Tryz.f26) [.pointer (some ⟨s, so, none⟩), .int .i64 offset] H K := by kernel_rfl
theorem logboomref5_Segment_Cut_fn (s : Nat) (so : Nat) (offset : Int) {H : Heap} {K : Value → Heap → Prop} (h : logboomref5_Segment_Cut_vc s so offset H K) : FnH Tryz.prog 26 #[.pointer (some ⟨s, so, none⟩), .int .i64 offset] H K :=
  denFn_fn Tryz.mixed logboomref5_Segment_Cut_ann Tryz.func26 (bodyOf_spec (by kernel_rfl)) (logboomref5_Segment_Cut_eq s so offset H K) h

/-! function 28: (*logboom/logboomref5.Segment).Read -/
def logboomref5_Segment_Read_ann : Anns := { hid := [], loops := [(0, { slots := [(9, .slice), (10, .int .i64), (11, .int .i64)], kept := [1, 2, 7], locs := [], keptL := [] })], joins := [], mix := [] }
def logboomref5_Segment_Read_vc (s : Nat) (so : Nat) (offset : Int) (most : Int) (H : Heap) (K : Value → Heap → Prop) : Prop :=
  FnH Tryz.prog 52 #[.pointer (some ⟨s, so, none⟩)] H fun r1 H1 =>
    ∃ l1 : Sl,
    ∃ n1 : Int,
    r1 = .tuple #[.slice l1.p l1.n l1.c, .int .i64 n1] ∧
    ∃ n2 : Int,
    cellH H1 ⟨s, so + 2, none⟩ = some (.int .i64 n2) ∧
    br (decide ((offset : Int) < n2)) (
      K (.slice none 0 0) H1)
     (
      ∃ I1 : Sl → Int → Int → Heap → Prop,
      ∃ M1 : Sl → Int → Int → Heap → Nat,
      I1 ⟨none, 0, 0⟩ 0 0 H1 ∧
      ∀ out_1 : Sl,
      ∀ sum_1 : Int,
      ∀ i_1 : Int,
      ∀ H2 : Heap,
      I1 out_1 sum_1 i_1 H2 →
      br (decide ((i_1 : Int) < (l1.n : Nat))) (
        ∃ q1 : Nat,
        ∃ o1 : Nat,
        (l1.p : Option Addr) = some ⟨q1, o1, none⟩ ∧
        0 ≤ (i_1 : Int) ∧
        (i_1 : Int) < (l1.n : Nat) ∧
        ∃ n3 : Int,
        cellH H2 ⟨q1, o1 + Int.toNat i_1 * 8, none⟩ = some (.int .i64 n3) ∧
        ∃ n4 : Int,
        cellH H2 ⟨q1, o1 + Int.toNat i_1 * 8 + 1, none⟩ = some (.int .i64 n4) ∧
        ∃ n5 : Int,
        cellH H2 ⟨q1, o1 + Int.toNat i_1 * 8 + 2, none⟩ = some (.int .i64 n5) ∧
        ∃ n6 : Int,
        cellH H2 ⟨q1, o1 + Int.toNat i_1 * 8 + 3, none⟩ = some (.int .i64 n6) ∧
        ∃ n7 : Int,
        cellH H2 ⟨q1, o1 + Int.toNat i_1 * 8 + 4, none⟩ = some (.int .i64 n7) ∧
        ∃ l2 : Sl,
        cellH H2 ⟨q1, o1 + Int.toNat i_1 * 8 + 5, none⟩ = some (.slice l2.p l2.n l2.c) ∧
        FnH Tryz.prog 55 #[.agg #[.int .i64 n3, .int .i64 n4, .int .i64 n5, .int .i64 n6, .int .i64 n7, .slice l2.p l2.n l2.c]] H2 fun r2 H3 =>
          ∃ n8 : Int,
          r2 = .int .i64 n8 ∧
          br (decide ((n8 : Int) ≤ offset)) (
            SelfEq ([.v (.int .i64 offset), .v (.int .i64 most), .v (.slice l1.p l1.n l1.c)], [], []) ∧
            I1 out_1 sum_1 (IntKind.wrap .i64 (i_1 + 1)) H3 ∧
            M1 out_1 sum_1 (IntKind.wrap .i64 (i_1 + 1)) H3 < M1 out_1 sum_1 i_1 H2)
           (
            ∃ q2 : Nat,
            ∃ o2 : Nat,
            (l1.p : Option Addr) = some ⟨q2, o2, none⟩ ∧
            0 ≤ (i_1 : Int) ∧
            (i_1 : Int) < (l1.n : Nat) ∧
            ∃ n9 : Int,
            cellH H3 ⟨q2, o2 + Int.toNat i_1 * 8 + 7, none⟩ = some (.int .i64 n9) ∧
            ∃ q3 : Nat,
            ∃ o3 : Nat,
            (l1.p : Option Addr) = some ⟨q3, o3, none⟩ ∧
            0 ≤ (i_1 : Int) ∧
            (i_1 : Int) < (l1.n : Nat) ∧
            ∃ n10 : Int,
            cellH H3 ⟨q3, o3 + Int.toNat i_1 * 8 + 6, none⟩ = some (.int .i64 n10) ∧
            br (decide (((out_1.n : Nat) : Int) > 0)) (
              br (decide (((IntKind.wrap .i64 ((IntKind.wrap .i64 (sum_1 + n9)) - n10)) : Int) > most)) (
                K (.slice out_1.p out_1.n out_1.c) H3)
               (
                ∃ q4 : Nat,
                ∃ o4 : Nat,
                (l1.p : Option Addr) = some ⟨q4, o4, none⟩ ∧
                0 ≤ (i_1 : Int) ∧
                (i_1 : Int) < (l1.n : Nat) ∧
                ∃ n11 : Int,
                cellH H3 ⟨q4, o4 + Int.toNat i_1 * 8, none⟩ = some (.int .i64 n11) ∧
                ∃ n12 : Int,
                cellH H3 ⟨q4, o4 + Int.toNat i_1 * 8 + 1, none⟩ = some (.int .i64 n12) ∧
                ∃ n13 : Int,
                cellH H3 ⟨q4, o4 + Int.toNat i_1 * 8 + 2, none⟩ = some (.int .i64 n13) ∧
                ∃ n14 : Int,
                cellH H3 ⟨q4, o4 + Int.toNat i_1 * 8 + 3, none⟩ = some (.int .i64 n14) ∧
                ∃ n15 : Int,
                cellH H3 ⟨q4, o4 + Int.toNat i_1 * 8 + 4, none⟩ = some (.int .i64 n15) ∧
                ∃ l3 : Sl,
                cellH H3 ⟨q4, o4 + Int.toNat i_1 * 8 + 5, none⟩ = some (.slice l3.p l3.n l3.c) ∧
                ∀ q5 : Nat,
                H3 q5 = none →
                letH (Heap.upd H3 q5 (.cells #[.int .i64 n11, .int .i64 n12, .int .i64 n13, .int .i64 n14, .int .i64 n15, .slice l3.p l3.n l3.c] 40 (0, 0))) fun H4 =>
                runH Tryz.prog (Builtin.append_ #[52, 52] 52 #[.slice out_1.p out_1.n out_1.c, .slice (some ⟨q5, 0, none⟩) 1 1]) H4 fun r3 H5 =>
                  ∃ l4 : Sl,
                  r3 = .slice l4.p l4.n l4.c ∧
                  SelfEq ([.v (.int .i64 offset), .v (.int .i64 most), .v (.slice l1.p l1.n l1.c)], [], []) ∧
                  I1 l4 (IntKind.wrap .i64 ((IntKind.wrap .i64 (sum_1 + n9)) - n10)) (IntKind.wrap .i64 (i_1 + 1)) H5 ∧
                  M1 l4 (IntKind.wrap .i64 ((IntKind.wrap .i64 (sum_1 + n9)) - n10)) (IntKind.wrap .i64 (i_1 + 1)) H5 < M1 out_1 sum_1 i_1 H2))
             (
              ∃ q6 : Nat,
              ∃ o5 : Nat,
              (l1.p : Option Addr) = some ⟨q6, o5, none⟩ ∧
              0 ≤ (i_1 : Int) ∧
              (i_1 : Int) < (l1.n : Nat) ∧
              ∃ n16 : Int,
              cellH H3 ⟨q6, o5 + Int.toNat i_1 * 8, none⟩ = some (.int .i64 n16) ∧
              ∃ n17 : Int,
              cellH H3 ⟨q6, o5 + Int.toNat i_1 * 8 + 1, none⟩ = some (.int .i64 n17) ∧
              ∃ n18 : Int,
              cellH H3 ⟨q6, o5 + Int.toNat i_1 * 8 + 2, none⟩ = some (.int .i64 n18) ∧
              ∃ n19 : Int,
              cellH H3 ⟨q6, o5 + Int.toNat i_1 * 8 + 3, none⟩ = some (.int .i64 n19) ∧
              ∃ n20 : Int,
              cellH H3 ⟨q6, o5 + Int.toNat i_1 * 8 + 4, none⟩ = some (.int .i64 n20) ∧
              ∃ l5 : Sl,
              cellH H3 ⟨q6, o5 + Int.toNat i_1 * 8 + 5, none⟩ = some (.slice l5.p l5.n l5.c) ∧
              ∀ q7 : Nat,
              H3 q7 = none →
              letH (Heap.upd H3 q7 (.cells #[.int .i64 n16, .int .i64 n17, .int .i64 n18, .int .i64 n19, .int .i64 n20, .slice l5.p l5.n l5.c] 40 (0, 0))) fun H6 =>
              runH Tryz.prog (Builtin.append_ #[52, 52] 52 #[.slice out_1.p out_1.n out_1.c, .slice (some ⟨q7, 0, none⟩) 1 1]) H6 fun r4 H7 =>
                ∃ l6 : Sl,
                r4 = .slice l6.p l6.n l6.c ∧
                SelfEq ([.v (.int .i64 offset), .v (.int .i64 most), .v (.slice l1.p l1.n l1.c)], [], []) ∧
                I1 l6 (IntKind.wrap .i64 ((IntKind.wrap .i64 (sum_1 + n9)) - n10)) (IntKind.wrap .i64 (i_1 + 1)) H7 ∧
                M1 l6 (IntKind.wrap .i64 ((IntKind.wrap .i64 (sum_1 + n9)) - n10)) (IntKind.wrap .i64 (i_1 + 1)) H7 < M1 out_1 sum_1 i_1 H2)))
       (
        K (.slice out_1.p out_1.n out_1.c) H2))
theorem logboomref5_Segment_Read_eq (s : Nat) (so : Nat) (offset : Int) (most : Int) (H : Heap) (K : Value → Heap → Prop) : logboomref5_Segment_Read_vc s so offset most H K = denFn Tryz.prog logboomref5_Segment_Read_ann Tryz.f28 (bodyOf Tryz.f28) [.pointer (some ⟨s, so, none⟩), .int .i64 offset, .int .i64 most] H K := by kernel_rfl
theorem logboomref5_Segment_Read_fn (s : Nat) (so : Nat) (offset : Int) (most : Int) {H : Heap} {K : Value → Heap → Prop} (h : logboomref5_Segment_Read_vc s so offset most H K) : FnH Tryz.prog 28 #[.pointer (some ⟨s, so, none⟩), .int .i64 offset, .int .i64 most] H K :=
  denFn_fn Tryz.mixed logboomref5_Segment_Read_ann Tryz.func28 (bodyOf_spec (by kernel_rfl)) (logboomref5_Segment_Read_eq s so offset most H K) h

/-! function 33: (*logboom/logboomref5.Segment).Safe -/
def logboomref5_Segment_Safe_ann : Anns := { hid := [], loops := [(0, { slots := [(5, .int .i64), (6, .int .i64)], kept := [0, 3], locs := [], keptL := [] })], joins := [], mix := [(6, [])] }
def logboomref5_Segment_Safe_vc (s : Nat) (so : Nat) (H : Heap) (K : Value → Heap → Prop) : Prop :=
  FnH Tryz.prog 52 #[.pointer (some ⟨s, so, none⟩)] H fun r1 H1 =>
    ∃ l1 : Sl,
    ∃ n1 : Int,
    r1 = .tuple #[.slice l1.p l1.n l1.c, .int .i64 n1] ∧
    ∃ n2 : Int,
    cellH H1 ⟨s, so + 2, none⟩ = some (.int .i64 n2) ∧
    ∃ I1 : Int → Int → Heap → Prop,
    ∃ M1 : Int → Int → Heap → Nat,
    I1 n2 0 H1 ∧
    ∀ n_1 : Int,
    ∀ i_1 : Int,
    ∀ H2 : Heap,
    I1 n_1 i_1 H2 →
    br (decide ((i_1 : Int) < (l1.n : Nat))) (
      ∃ q1 : Nat,
      ∃ o1 : Nat,
      (l1.p : Option Addr) = some ⟨q1, o1, none⟩ ∧
      0 ≤ (i_1 : Int) ∧
      (i_1 : Int) < (l1.n : Nat) ∧
      ∃ n3 : Int,
      cellH H2 ⟨q1, o1 + Int.toNat i_1 * 8 + 7, none⟩ = some (.int .i64 n3) ∧
      ∃ p1 : Option Addr,
      cellH H2 ⟨s, so, none⟩ = some (.pointer p1) ∧
      ∃ s1 : ByteArray,
      cellH H2 ⟨s, so + 1, none⟩ = some (.string s1) ∧
      FnH Tryz.prog 35 #[.pointer p1, .string s1] H2 fun r2 H3 =>
        ∃ n4 : Int,
        r2 = .int .i64 n4 ∧
        Sub H2 H3 ∧
        br (decide ((n3 : Int) ≤ n4)) (
          ∃ q2 : Nat,
          ∃ o2 : Nat,
          (l1.p : Option Addr) = some ⟨q2, o2, none⟩ ∧
          0 ≤ (i_1 : Int) ∧
          (i_1 : Int) < (l1.n : Nat) ∧
          ∃ n5 : Int,
          cellH H3 ⟨q2, o2 + Int.toNat i_1 * 8, none⟩ = some (.int .i64 n5) ∧
          ∃ n6 : Int,
          cellH H3 ⟨q2, o2 + Int.toNat i_1 * 8 + 1, none⟩ = some (.int .i64 n6) ∧
          ∃ n7 : Int,
          cellH H3 ⟨q2, o2 + Int.toNat i_1 * 8 + 2, none⟩ = some (.int .i64 n7) ∧
          ∃ n8 : Int,
          cellH H3 ⟨q2, o2 + Int.toNat i_1 * 8 + 3, none⟩ = some (.int .i64 n8) ∧
          ∃ n9 : Int,
          cellH H3 ⟨q2, o2 + Int.toNat i_1 * 8 + 4, none⟩ = some (.int .i64 n9) ∧
          ∃ l2 : Sl,
          cellH H3 ⟨q2, o2 + Int.toNat i_1 * 8 + 5, none⟩ = some (.slice l2.p l2.n l2.c) ∧
          FnH Tryz.prog 55 #[.agg #[.int .i64 n5, .int .i64 n6, .int .i64 n7, .int .i64 n8, .int .i64 n9, .slice l2.p l2.n l2.c]] H3 fun r3 H4 =>
            ∃ n10 : Int,
            r3 = .int .i64 n10 ∧
            SelfEq ([.v (.pointer (some ⟨s, so, none⟩)), .v (.slice l1.p l1.n l1.c)], [], []) ∧
            I1 n10 (IntKind.wrap .i64 (i_1 + 1)) H4 ∧
            M1 n10 (IntKind.wrap .i64 (i_1 + 1)) H4 < M1 n_1 i_1 H2)
         (
          SelfEq ([.v (.pointer (some ⟨s, so, none⟩)), .v (.slice l1.p l1.n l1.c)], [], []) ∧
          I1 n_1 (IntKind.wrap .i64 (i_1 + 1)) H3 ∧
          M1 n_1 (IntKind.wrap .i64 (i_1 + 1)) H3 < M1 n_1 i_1 H2))
     (
      K (.int .i64 n_1) H2)
theorem logboomref5_Segment_Safe_eq (s : Nat) (so : Nat) (H : Heap) (K : Value → Heap → Prop) : logboomref5_Segment_Safe_vc s so H K = denFn Tryz.prog logboomref5_Segment_Safe_ann Tryz.f33 (bodyOf Tryz.f33) [.pointer (some ⟨s, so, none⟩)] H K := by kernel_rfl
theorem logboomref5_Segment_Safe_fn (s : Nat) (so : Nat) {H : Heap} {K : Value → Heap → Prop} (h : logboomref5_Segment_Safe_vc s so H K) : FnH Tryz.prog 33 #[.pointer (some ⟨s, so, none⟩)] H K :=
  denFn_fn Tryz.mixed logboomref5_Segment_Safe_ann Tryz.func33 (bodyOf_spec (by kernel_rfl)) (logboomref5_Segment_Safe_eq s so H K) h

/-! function 37: (*logboom/logboomref5.Segment).Index -/
def logboomref5_Segment_Index_ann : Anns := { hid := [], loops := [(0, { slots := [(5, .slice), (6, .int .i64)], kept := [3], locs := [], keptL := [] })], joins := [((0, 6), { slots := [(36, .bool)], kept := [3, 5, 6], locs := [], keptL := [] })], mix := [(7, [14])] }
def logboomref5_Segment_Index_vc (s : Nat) (so : Nat) (H : Heap) (K : Value → Heap → Prop) : Prop :=
  FnH Tryz.prog 52 #[.pointer (some ⟨s, so, none⟩)] H fun r1 H1 =>
    ∃ l1 : Sl,
    ∃ n1 : Int,
    r1 = .tuple #[.slice l1.p l1.n l1.c, .int .i64 n1] ∧
    ∃ I1 : Sl → Int → Heap → Prop,
    ∃ M1 : Sl → Int → Heap → Nat,
    I1 ⟨none, 0, 0⟩ 0 H1 ∧
    ∀ out_1 : Sl,
    ∀ i_1 : Int,
    ∀ H2 : Heap,
    I1 out_1 i_1 H2 →
    br (decide ((i_1 : Int) < (l1.n : Nat))) (
      ∃ J1 : Bool → Heap → Prop,
      (br (((out_1.n : Nat) : Int) == 0) (
        SelfEq ([.v (.slice l1.p l1.n l1.c), .v (.slice out_1.p out_1.n out_1.c), .v (.int .i64 i_1)], [], []) ∧
        J1 true H2)
       (
        ∃ q1 : Nat,
        ∃ o1 : Nat,
        (l1.p : Option Addr) = some ⟨q1, o1, none⟩ ∧
        0 ≤ (i_1 : Int) ∧
        (i_1 : Int) < (l1.n : Nat) ∧
        ∃ n2 : Int,
        cellH H2 ⟨q1, o1 + Int.toNat i_1 * 8 + 6, none⟩ = some (.int .i64 n2) ∧
        ∃ q2 : Nat,
        ∃ o2 : Nat,
        (out_1.p : Option Addr) = some ⟨q2, o2, none⟩ ∧
        0 ≤ ((IntKind.wrap .i64 ((out_1.n : Nat) - 1)) : Int) ∧
        ((IntKind.wrap .i64 ((out_1.n : Nat) - 1)) : Int) < (out_1.n : Nat) ∧
        ∃ n3 : Int,
        cellH H2 ⟨q2, o2 + Int.toNat (IntKind.wrap .i64 ((out_1.n : Nat) - 1)) * 3, none⟩ = some (.int .i64 n3) ∧
        SelfEq ([.v (.slice l1.p l1.n l1.c), .v (.slice out_1.p out_1.n out_1.c), .v (.int .i64 i_1)], [], []) ∧
        J1 (decide (((IntKind.wrap .i64 (n2 - n3)) : Int) ≥ 256)) H2)) ∧
      ∀ b_1 : Bool,
      ∀ H3 : Heap,
      J1 b_1 H3 →
      br (b_1) (
        ∃ q3 : Nat,
        ∃ o3 : Nat,
        (l1.p : Option Addr) = some ⟨q3, o3, none⟩ ∧
        0 ≤ (i_1 : Int) ∧
        (i_1 : Int) < (l1.n : Nat) ∧
        ∃ n4 : Int,
        cellH H3 ⟨q3, o3 + Int.toNat i_1 * 8 + 6, none⟩ = some (.int .i64 n4) ∧
        ∃ q4 : Nat,
        ∃ o4 : Nat,
        (l1.p : Option Addr) = some ⟨q4, o4, none⟩ ∧
        0 ≤ (i_1 : Int) ∧
        (i_1 : Int) < (l1.n : Nat) ∧
        ∃ n5 : Int,
        cellH H3 ⟨q4, o4 + Int.toNat i_1 * 8, none⟩ = some (.int .i64 n5) ∧
        ∀ q5 : Nat,
        H3 q5 = none →
        letH (Heap.upd H3 q5 (.cells #[.int .i64 n4, .int .i64 n5, .string (⟨#[]⟩ : ByteArray)] 94 (0, 0))) fun H4 =>
        Sub H3 H4 ∧
        runH Tryz.prog (Builtin.append_ #[54, 54] 54 #[.slice out_1.p out_1.n out_1.c, .slice (some ⟨q5, 0, none⟩) 1 1]) H4 fun r2 H5 =>
          ∃ l2 : Sl,
          r2 = .slice l2.p l2.n l2.c ∧
          SelfEq ([.v (.slice l1.p l1.n l1.c)], [], []) ∧
          I1 l2 (IntKind.wrap .i64 (i_1 + 1)) H5 ∧
          M1 l2 (IntKind.wrap .i64 (i_1 + 1)) H5 < M1 out_1 i_1 H2)
       (
        SelfEq ([.v (.slice l1.p l1.n l1.c)], [], []) ∧
        I1 out_1 (IntKind.wrap .i64 (i_1 + 1)) H3 ∧
        M1 out_1 (IntKind.wrap .i64 (i_1 + 1)) H3 < M1 out_1 i_1 H2))
     (
      K (.slice out_1.p out_1.n out_1.c) H2)
theorem logboomref5_Segment_Index_eq (s : Nat) (so : Nat) (H : Heap) (K : Value → Heap → Prop) : logboomref5_Segment_Index_vc s so H K = denFn Tryz.prog logboomref5_Segment_Index_ann Tryz.f37 (bodyOf Tryz.f37) [.pointer (some ⟨s, so, none⟩)] H K := by kernel_rfl
theorem logboomref5_Segment_Index_fn (s : Nat) (so : Nat) {H : Heap} {K : Value → Heap → Prop} (h : logboomref5_Segment_Index_vc s so H K) : FnH Tryz.prog 37 #[.pointer (some ⟨s, so, none⟩)] H K :=
  denFn_fn Tryz.mixed logboomref5_Segment_Index_ann Tryz.func37 (bodyOf_spec (by kernel_rfl)) (logboomref5_Segment_Index_eq s so H K) h

end Go.Proofs.YtokceblmbmajgaaGreatDoor
