/- Formulas of functions, printed by this session's vc.py; each is tied to the program by the kernel. -/
import Derived.Test.YtcipmipadjenaaaProg
import Derived.KernelRfl
import Derived.Test.YtcipmipadjenaaaHlFn
import Derived.Test.YtcipmipadjenaaaV1
namespace Go.Proofs.Ytcipmipadjenaaa
open Go.HL
set_option maxRecDepth 100000
/-! function 9: (*logboom/timer.Timers).Set -/
def timer_Timers_Set_ann : Anns := { hid := [], loops := [], joins := [], mix := [(6, [8])] }
def timer_Timers_Set_vc (t : Nat) (to : Nat) (key : Int) (at0 : Int) (H : Heap) (K : Value → Heap → Prop) : Prop :=
  br (decide ((at0 : Int) < 0)) (
    K (.int .i64 1) H)
   (
    br (decide ((at0 : Int) > 1000000000)) (
      K (.int .i64 1) H)
     (
      ∃ m1 : Option Nat,
      cellH H ⟨t, to + 1, none⟩ = some (.map m1) ∧
      runH Try.prog (Instr.lookup 46 (.map m1) (.int .i64 key) true) H fun r1 H1 =>
        ∃ p1 : Option Addr,
        ∃ b1 : Bool,
        r1 = .tuple #[.pointer p1, .bool b1] ∧
        br (b1) (
          ptrm p1 fun q1 o1 =>
          (∃ u, cellH H1 ⟨q1, o1 + 1, none⟩ = some u) ∧
          frozenH H1 ⟨q1, o1 + 1, none⟩ = false ∧
          letH (Heap.set H1 ⟨q1, o1 + 1, none⟩ (.int .i64 at0)) fun H2 =>
          ptrm p1 fun q2 o2 =>
          ∃ n1 : Int,
          cellH H2 ⟨q2, o2 + 2, none⟩ = some (.int .i64 n1) ∧
          FnH Try.prog 21 #[.iface 56 (.pointer (some ⟨t, to, none⟩)), .int .i64 n1] H2 fun r2 H3 =>
            r2 = .tuple #[] ∧
            K (.int .i64 0) H3)
         (
          ∃ m2 : Option Nat,
          cellH H1 ⟨t, to + 1, none⟩ = some (.map m2) ∧
          lenM H1 m2 fun n2 =>
          br (decide (((n2 : Nat) : Int) ≥ 1000)) (
            K (.int .i64 3) H1)
           (
            ∀ q3 : Nat,
            H1 q3 = none →
            letH (Heap.upd H1 q3 (.cells #[.int .i64 key, .int .i64 at0, .int .i64 0] 54 (0, 0))) fun H4 =>
            ∃ m3 : Option Nat,
            cellH H4 ⟨t, to + 1, none⟩ = some (.map m3) ∧
            runH Try.prog (Instr.mapUpdate 46 (.map m3) (.int .i64 key) (.pointer (some ⟨q3, 0, none⟩))) H4 fun _ H5 =>
              FnH Try.prog 22 #[.iface 56 (.pointer (some ⟨t, to, none⟩)), .iface 51 (.pointer (some ⟨q3, 0, none⟩))] H5 fun r3 H6 =>
                r3 = .tuple #[] ∧
                K (.int .i64 0) H6))))
theorem timer_Timers_Set_eq (t : Nat) (to : Nat) (key : Int) (at0 : Int) (H : Heap) (K : Value → Heap → Prop) : timer_Timers_Set_vc t to key at0 H K = denFn Try.prog timer_Timers_Set_ann Try.f9 (bodyOf Try.f9) [.pointer (some ⟨t, to, none⟩), .int .i64 key, .int .i64 at0] H K := by kernel_rfl
theorem timer_Timers_Set_fn (t : Nat) (to : Nat) (key : Int) (at0 : Int) {H : Heap} {K : Value → Heap → Prop} (h : timer_Timers_Set_vc t to key at0 H K) : FnH Try.prog 9 #[.pointer (some ⟨t, to, none⟩), .int .i64 key, .int .i64 at0] H K :=
  denFn_sound Try.mixed timer_Timers_Set_ann Try.func9 (bodyOf_spec (by kernel_rfl)) ((timer_Timers_Set_eq t to key at0 H K) ▸ h)

/-! function 11: (*logboom/timer.Timers).Cancel -/
def timer_Timers_Cancel_ann : Anns := { hid := [], loops := [], joins := [], mix := [(4, [8])] }
def timer_Timers_Cancel_vc (t : Nat) (to : Nat) (key : Int) (H : Heap) (K : Value → Heap → Prop) : Prop :=
  ∃ m1 : Option Nat,
  cellH H ⟨t, to + 1, none⟩ = some (.map m1) ∧
  runH Try.prog (Instr.lookup 46 (.map m1) (.int .i64 key) true) H fun r1 H1 =>
    ∃ p1 : Option Addr,
    ∃ b1 : Bool,
    r1 = .tuple #[.pointer p1, .bool b1] ∧
    br (!b1) (
      K (.int .i64 8) H1)
     (
      ptrm p1 fun q1 o1 =>
      ∃ n1 : Int,
      cellH H1 ⟨q1, o1 + 2, none⟩ = some (.int .i64 n1) ∧
      FnH Try.prog 25 #[.iface 56 (.pointer (some ⟨t, to, none⟩)), .int .i64 n1] H1 fun r2 H2 =>
        ∃ v1 : Value,
        r2 = v1 ∧
        ∃ m2 : Option Nat,
        cellH H2 ⟨t, to + 1, none⟩ = some (.map m2) ∧
        runH Try.prog (Builtin.delete_ #[46, 3] 0 #[.map m2, .int .i64 key]) H2 fun r3 H3 =>
          r3 = .tuple #[] ∧
          K (.int .i64 0) H3)
theorem timer_Timers_Cancel_eq (t : Nat) (to : Nat) (key : Int) (H : Heap) (K : Value → Heap → Prop) : timer_Timers_Cancel_vc t to key H K = denFn Try.prog timer_Timers_Cancel_ann Try.f11 (bodyOf Try.f11) [.pointer (some ⟨t, to, none⟩), .int .i64 key] H K := by kernel_rfl
theorem timer_Timers_Cancel_fn (t : Nat) (to : Nat) (key : Int) {H : Heap} {K : Value → Heap → Prop} (h : timer_Timers_Cancel_vc t to key H K) : FnH Try.prog 11 #[.pointer (some ⟨t, to, none⟩), .int .i64 key] H K :=
  denFn_sound Try.mixed timer_Timers_Cancel_ann Try.func11 (bodyOf_spec (by kernel_rfl)) ((timer_Timers_Cancel_eq t to key H K) ▸ h)

/-! function 14: (*logboom/timer.Timers).Due -/
def timer_Timers_Due_ann : Anns := { hid := [], loops := [(0, { slots := [(5, .slice)], kept := [0, 1], locs := [], keptL := [] })], joins := [], mix := [(4, [8])] }
def timer_Timers_Due_vc (t : Nat) (to : Nat) (now : Int) (H : Heap) (K : Value → Heap → Prop) : Prop :=
  ∃ I1 : Sl → Heap → Prop,
  ∃ M1 : Sl → Heap → Nat,
  I1 ⟨none, 0, 0⟩ H ∧
  ∀ l_1 : Sl,
  ∀ H1 : Heap,
  I1 l_1 H1 →
  ∃ l1 : Sl,
  cellH H1 ⟨t, to, none⟩ = some (.slice l1.p l1.n l1.c) ∧
  br (decide (((l1.n : Nat) : Int) > 0)) (
    ∃ l2 : Sl,
    cellH H1 ⟨t, to, none⟩ = some (.slice l2.p l2.n l2.c) ∧
    ∃ q1 : Nat,
    ∃ o1 : Nat,
    (l2.p : Option Addr) = some ⟨q1, o1, none⟩ ∧
    0 ≤ (0 : Int) ∧
    (0 : Int) < (l2.n : Nat) ∧
    ∃ p1 : Option Addr,
    cellH H1 ⟨q1, o1 + Int.toNat 0, none⟩ = some (.pointer p1) ∧
    ptrm p1 fun q2 o2 =>
    ∃ n1 : Int,
    cellH H1 ⟨q2, o2 + 1, none⟩ = some (.int .i64 n1) ∧
    br (decide ((n1 : Int) ≤ now)) (
      FnH Try.prog 26 #[.iface 56 (.pointer (some ⟨t, to, none⟩))] H1 fun r1 H2 =>
        ∃ v1 : Value,
        r1 = v1 ∧
        ∃ p2 : Option Addr,
        (v1 : Value) = .iface 51 (.pointer p2) ∧
        ∃ m1 : Option Nat,
        cellH H2 ⟨t, to + 1, none⟩ = some (.map m1) ∧
        ptrm p2 fun q3 o3 =>
        ∃ n2 : Int,
        cellH H2 ⟨q3, o3, none⟩ = some (.int .i64 n2) ∧
        runH Try.prog (Builtin.delete_ #[46, 3] 0 #[.map m1, .int .i64 n2]) H2 fun r2 H3 =>
          r2 = .tuple #[] ∧
          ptrm p2 fun q4 o4 =>
          ∃ n3 : Int,
          cellH H3 ⟨q4, o4, none⟩ = some (.int .i64 n3) ∧
          ∀ q5 : Nat,
          H3 q5 = none →
          letH (Heap.upd H3 q5 (.cells #[.int .i64 n3] 3 (0, 0))) fun H4 =>
          runH Try.prog (Builtin.append_ #[37, 37] 37 #[.slice l_1.p l_1.n l_1.c, .slice (some ⟨q5, 0, none⟩) 1 1]) H4 fun r3 H5 =>
            ∃ l3 : Sl,
            r3 = .slice l3.p l3.n l3.c ∧
            SelfEq ([.v (.pointer (some ⟨t, to, none⟩)), .v (.int .i64 now)], [], []) ∧
            I1 l3 H5 ∧
            M1 l3 H5 < M1 l_1 H1)
     (
      K (.slice l_1.p l_1.n l_1.c) H1))
   (
    K (.slice l_1.p l_1.n l_1.c) H1)
theorem timer_Timers_Due_eq (t : Nat) (to : Nat) (now : Int) (H : Heap) (K : Value → Heap → Prop) : timer_Timers_Due_vc t to now H K = denFn Try.prog timer_Timers_Due_ann Try.f14 (bodyOf Try.f14) [.pointer (some ⟨t, to, none⟩), .int .i64 now] H K := by kernel_rfl
theorem timer_Timers_Due_fn (t : Nat) (to : Nat) (now : Int) {H : Heap} {K : Value → Heap → Prop} (h : timer_Timers_Due_vc t to now H K) : FnH Try.prog 14 #[.pointer (some ⟨t, to, none⟩), .int .i64 now] H K :=
  denFn_sound Try.mixed timer_Timers_Due_ann Try.func14 (bodyOf_spec (by kernel_rfl)) ((timer_Timers_Due_eq t to now H K) ▸ h)

/-! function 10: (*logboom/logboomref2.Timers).Set -/
def logboomref2_Timers_Set_ann : Anns := { hid := [8], loops := [(0, { slots := [(9, .slice), (10, .int .i64)], kept := [0, 7, 8], locs := [], keptL := [0] })], joins := [((11, 5), { slots := [], kept := [0, 1, 2, 7], locs := [], keptL := [] })], mix := [(11, [])] }
def logboomref2_Timers_Set_vc (t : Nat) (to : Nat) (key : Int) (at0 : Int) (H : Heap) (K : Value → Heap → Prop) : Prop :=
  br (decide ((at0 : Int) < 0)) (
    K (.int .i64 1) H)
   (
    br (decide ((at0 : Int) > 1000000000)) (
      K (.int .i64 1) H)
     (
      FnH Try.prog 23 #[.pointer (some ⟨t, to, none⟩), .int .i64 key] H fun r1 H1 =>
        ∃ l1 : Sl,
        r1 = .slice l1.p l1.n l1.c ∧
        ∃ J1 : Heap → Prop,
        (∃ l2 : Sl,
        cellH H1 ⟨t, to, none⟩ = some (.slice l2.p l2.n l2.c) ∧
        br (((l1.n : Nat) : Int) == (l2.n : Nat)) (
          br (decide (((l1.n : Nat) : Int) ≥ 1000)) (
            K (.int .i64 3) H1)
           (
            SelfEq ([.v (.pointer (some ⟨t, to, none⟩)), .v (.int .i64 key), .v (.int .i64 at0), .v (.slice l1.p l1.n l1.c)], [], []) ∧
            J1 H1))
         (
          SelfEq ([.v (.pointer (some ⟨t, to, none⟩)), .v (.int .i64 key), .v (.int .i64 at0), .v (.slice l1.p l1.n l1.c)], [], []) ∧
          J1 H1)) ∧
        ∀ H2 : Heap,
        J1 H2 →
        ∃ I1 : Sl → Int → Heap → Prop,
        ∃ M1 : Sl → Int → Heap → Nat,
        I1 ⟨none, 0, 0⟩ 0 H2 ∧
        ∀ out_1 : Sl,
        ∀ i_1 : Int,
        ∀ H3 : Heap,
        I1 out_1 i_1 H3 →
        br (decide ((i_1 : Int) < (l1.n : Nat))) (
          ∃ q1 : Nat,
          ∃ o1 : Nat,
          (l1.p : Option Addr) = some ⟨q1, o1, none⟩ ∧
          0 ≤ (i_1 : Int) ∧
          (i_1 : Int) < (l1.n : Nat) ∧
          ∃ n1 : Int,
          cellH H3 ⟨q1, o1 + Int.toNat i_1 * 2, none⟩ = some (.int .i64 n1) ∧
          ∃ n2 : Int,
          cellH H3 ⟨q1, o1 + Int.toNat i_1 * 2 + 1, none⟩ = some (.int .i64 n2) ∧
          FnH Try.prog 24 #[.agg #[.int .i64 key, .int .i64 at0], .agg #[.int .i64 n1, .int .i64 n2]] H3 fun r2 H4 =>
            ∃ b1 : Bool,
            r2 = .bool b1 ∧
            Sub H3 H4 ∧
            br (b1) (
              br (((out_1.n : Nat) : Int) == i_1) (
                ∀ q2 : Nat,
                H4 q2 = none →
                letH (Heap.upd H4 q2 (.cells #[.int .i64 key, .int .i64 at0] 44 (0, 0))) fun H5 =>
                runH Try.prog (Builtin.append_ #[27, 27] 27 #[.slice out_1.p out_1.n out_1.c, .slice (some ⟨q2, 0, none⟩) 1 1]) H5 fun r3 H6 =>
                  ∃ l3 : Sl,
                  r3 = .slice l3.p l3.n l3.c ∧
                  ∃ q3 : Nat,
                  ∃ o2 : Nat,
                  (l1.p : Option Addr) = some ⟨q3, o2, none⟩ ∧
                  0 ≤ (i_1 : Int) ∧
                  (i_1 : Int) < (l1.n : Nat) ∧
                  ∃ n3 : Int,
                  cellH H6 ⟨q3, o2 + Int.toNat i_1 * 2, none⟩ = some (.int .i64 n3) ∧
                  ∃ n4 : Int,
                  cellH H6 ⟨q3, o2 + Int.toNat i_1 * 2 + 1, none⟩ = some (.int .i64 n4) ∧
                  ∀ q4 : Nat,
                  H6 q4 = none →
                  letH (Heap.upd H6 q4 (.cells #[.int .i64 n3, .int .i64 n4] 44 (0, 0))) fun H7 =>
                  runH Try.prog (Builtin.append_ #[27, 27] 27 #[.slice l3.p l3.n l3.c, .slice (some ⟨q4, 0, none⟩) 1 1]) H7 fun r4 H8 =>
                    ∃ l4 : Sl,
                    r4 = .slice l4.p l4.n l4.c ∧
                    SelfEq ([.v (.pointer (some ⟨t, to, none⟩)), .v (.slice l1.p l1.n l1.c), .loc 0 0], [some (44, [.int .i64 key, .int .i64 at0])], []) ∧
                    I1 l4 (IntKind.wrap .i64 (i_1 + 1)) H8 ∧
                    M1 l4 (IntKind.wrap .i64 (i_1 + 1)) H8 < M1 out_1 i_1 H3)
               (
                ∃ q5 : Nat,
                ∃ o3 : Nat,
                (l1.p : Option Addr) = some ⟨q5, o3, none⟩ ∧
                0 ≤ (i_1 : Int) ∧
                (i_1 : Int) < (l1.n : Nat) ∧
                ∃ n5 : Int,
                cellH H4 ⟨q5, o3 + Int.toNat i_1 * 2, none⟩ = some (.int .i64 n5) ∧
                ∃ n6 : Int,
                cellH H4 ⟨q5, o3 + Int.toNat i_1 * 2 + 1, none⟩ = some (.int .i64 n6) ∧
                ∀ q6 : Nat,
                H4 q6 = none →
                letH (Heap.upd H4 q6 (.cells #[.int .i64 n5, .int .i64 n6] 44 (0, 0))) fun H9 =>
                runH Try.prog (Builtin.append_ #[27, 27] 27 #[.slice out_1.p out_1.n out_1.c, .slice (some ⟨q6, 0, none⟩) 1 1]) H9 fun r5 H10 =>
                  ∃ l5 : Sl,
                  r5 = .slice l5.p l5.n l5.c ∧
                  SelfEq ([.v (.pointer (some ⟨t, to, none⟩)), .v (.slice l1.p l1.n l1.c), .loc 0 0], [some (44, [.int .i64 key, .int .i64 at0])], []) ∧
                  I1 l5 (IntKind.wrap .i64 (i_1 + 1)) H10 ∧
                  M1 l5 (IntKind.wrap .i64 (i_1 + 1)) H10 < M1 out_1 i_1 H3))
             (
              ∃ q7 : Nat,
              ∃ o4 : Nat,
              (l1.p : Option Addr) = some ⟨q7, o4, none⟩ ∧
              0 ≤ (i_1 : Int) ∧
              (i_1 : Int) < (l1.n : Nat) ∧
              ∃ n7 : Int,
              cellH H4 ⟨q7, o4 + Int.toNat i_1 * 2, none⟩ = some (.int .i64 n7) ∧
              ∃ n8 : Int,
              cellH H4 ⟨q7, o4 + Int.toNat i_1 * 2 + 1, none⟩ = some (.int .i64 n8) ∧
              ∀ q8 : Nat,
              H4 q8 = none →
              letH (Heap.upd H4 q8 (.cells #[.int .i64 n7, .int .i64 n8] 44 (0, 0))) fun H11 =>
              runH Try.prog (Builtin.append_ #[27, 27] 27 #[.slice out_1.p out_1.n out_1.c, .slice (some ⟨q8, 0, none⟩) 1 1]) H11 fun r6 H12 =>
                ∃ l6 : Sl,
                r6 = .slice l6.p l6.n l6.c ∧
                SelfEq ([.v (.pointer (some ⟨t, to, none⟩)), .v (.slice l1.p l1.n l1.c), .loc 0 0], [some (44, [.int .i64 key, .int .i64 at0])], []) ∧
                I1 l6 (IntKind.wrap .i64 (i_1 + 1)) H12 ∧
                M1 l6 (IntKind.wrap .i64 (i_1 + 1)) H12 < M1 out_1 i_1 H3))
         (
          br (((out_1.n : Nat) : Int) == (l1.n : Nat)) (
            ∀ q9 : Nat,
            H3 q9 = none →
            letH (Heap.upd H3 q9 (.cells #[.int .i64 key, .int .i64 at0] 44 (0, 0))) fun H13 =>
            runH Try.prog (Builtin.append_ #[27, 27] 27 #[.slice out_1.p out_1.n out_1.c, .slice (some ⟨q9, 0, none⟩) 1 1]) H13 fun r7 H14 =>
              ∃ l7 : Sl,
              r7 = .slice l7.p l7.n l7.c ∧
              (∃ u, cellH H14 ⟨t, to, none⟩ = some u) ∧
              frozenH H14 ⟨t, to, none⟩ = false ∧
              letH (Heap.set H14 ⟨t, to, none⟩ (.slice l7.p l7.n l7.c)) fun H15 =>
              K (.int .i64 0) H15)
           (
            (∃ u, cellH H3 ⟨t, to, none⟩ = some u) ∧
            frozenH H3 ⟨t, to, none⟩ = false ∧
            letH (Heap.set H3 ⟨t, to, none⟩ (.slice out_1.p out_1.n out_1.c)) fun H16 =>
            K (.int .i64 0) H16))))
theorem logboomref2_Timers_Set_eq (t : Nat) (to : Nat) (key : Int) (at0 : Int) (H : Heap) (K : Value → Heap → Prop) : logboomref2_Timers_Set_vc t to key at0 H K = denFn Try.prog logboomref2_Timers_Set_ann Try.f10 (bodyOf Try.f10) [.pointer (some ⟨t, to, none⟩), .int .i64 key, .int .i64 at0] H K := by kernel_rfl
theorem logboomref2_Timers_Set_fn (t : Nat) (to : Nat) (key : Int) (at0 : Int) {H : Heap} {K : Value → Heap → Prop} (h : logboomref2_Timers_Set_vc t to key at0 H K) : FnH Try.prog 10 #[.pointer (some ⟨t, to, none⟩), .int .i64 key, .int .i64 at0] H K :=
  denFn_sound Try.mixed logboomref2_Timers_Set_ann Try.func10 (bodyOf_spec (by kernel_rfl)) ((logboomref2_Timers_Set_eq t to key at0 H K) ▸ h)

/-! function 12: (*logboom/logboomref2.Timers).Cancel -/
def logboomref2_Timers_Cancel_ann : Anns := { hid := [], loops := [], joins := [], mix := [] }
def logboomref2_Timers_Cancel_vc (t : Nat) (to : Nat) (key : Int) (H : Heap) (K : Value → Heap → Prop) : Prop :=
  FnH Try.prog 23 #[.pointer (some ⟨t, to, none⟩), .int .i64 key] H fun r1 H1 =>
    ∃ l1 : Sl,
    r1 = .slice l1.p l1.n l1.c ∧
    ∃ l2 : Sl,
    cellH H1 ⟨t, to, none⟩ = some (.slice l2.p l2.n l2.c) ∧
    br (((l1.n : Nat) : Int) == (l2.n : Nat)) (
      K (.int .i64 8) H1)
     (
      (∃ u, cellH H1 ⟨t, to, none⟩ = some u) ∧
      frozenH H1 ⟨t, to, none⟩ = false ∧
      letH (Heap.set H1 ⟨t, to, none⟩ (.slice l1.p l1.n l1.c)) fun H2 =>
      K (.int .i64 0) H2)
theorem logboomref2_Timers_Cancel_eq (t : Nat) (to : Nat) (key : Int) (H : Heap) (K : Value → Heap → Prop) : logboomref2_Timers_Cancel_vc t to key H K = denFn Try.prog logboomref2_Timers_Cancel_ann Try.f12 (bodyOf Try.f12) [.pointer (some ⟨t, to, none⟩), .int .i64 key] H K := by kernel_rfl
theorem logboomref2_Timers_Cancel_fn (t : Nat) (to : Nat) (key : Int) {H : Heap} {K : Value → Heap → Prop} (h : logboomref2_Timers_Cancel_vc t to key H K) : FnH Try.prog 12 #[.pointer (some ⟨t, to, none⟩), .int .i64 key] H K :=
  denFn_sound Try.mixed logboomref2_Timers_Cancel_ann Try.func12 (bodyOf_spec (by kernel_rfl)) ((logboomref2_Timers_Cancel_eq t to key H K) ▸ h)

/-! function 15: (*logboom/logboomref2.Timers).Due -/
def logboomref2_Timers_Due_ann : Anns := { hid := [], loops := [(0, { slots := [(5, .slice)], kept := [0, 1], locs := [], keptL := [] })], joins := [], mix := [] }
def logboomref2_Timers_Due_vc (t : Nat) (to : Nat) (now : Int) (H : Heap) (K : Value → Heap → Prop) : Prop :=
  ∃ I1 : Sl → Heap → Prop,
  ∃ M1 : Sl → Heap → Nat,
  I1 ⟨none, 0, 0⟩ H ∧
  ∀ out_1 : Sl,
  ∀ H1 : Heap,
  I1 out_1 H1 →
  ∃ l1 : Sl,
  cellH H1 ⟨t, to, none⟩ = some (.slice l1.p l1.n l1.c) ∧
  br (decide (((l1.n : Nat) : Int) > 0)) (
    ∃ l2 : Sl,
    cellH H1 ⟨t, to, none⟩ = some (.slice l2.p l2.n l2.c) ∧
    ∃ q1 : Nat,
    ∃ o1 : Nat,
    (l2.p : Option Addr) = some ⟨q1, o1, none⟩ ∧
    0 ≤ (0 : Int) ∧
    (0 : Int) < (l2.n : Nat) ∧
    ∃ n1 : Int,
    cellH H1 ⟨q1, o1 + Int.toNat 0 * 2 + 1, none⟩ = some (.int .i64 n1) ∧
    br (decide ((n1 : Int) ≤ now)) (
      ∃ l3 : Sl,
      cellH H1 ⟨t, to, none⟩ = some (.slice l3.p l3.n l3.c) ∧
      ∃ q2 : Nat,
      ∃ o2 : Nat,
      (l3.p : Option Addr) = some ⟨q2, o2, none⟩ ∧
      0 ≤ (0 : Int) ∧
      (0 : Int) < (l3.n : Nat) ∧
      ∃ n2 : Int,
      cellH H1 ⟨q2, o2 + Int.toNat 0 * 2, none⟩ = some (.int .i64 n2) ∧
      ∀ q3 : Nat,
      H1 q3 = none →
      letH (Heap.upd H1 q3 (.cells #[.int .i64 n2] 3 (0, 0))) fun H2 =>
      runH Try.prog (Builtin.append_ #[37, 37] 37 #[.slice out_1.p out_1.n out_1.c, .slice (some ⟨q3, 0, none⟩) 1 1]) H2 fun r1 H3 =>
        ∃ l4 : Sl,
        r1 = .slice l4.p l4.n l4.c ∧
        ∃ l5 : Sl,
        cellH H3 ⟨t, to, none⟩ = some (.slice l5.p l5.n l5.c) ∧
        0 ≤ (1 : Int) ∧
        (1 : Int) ≤ (l5.n : Nat) ∧
        (∃ u, cellH H3 ⟨t, to, none⟩ = some u) ∧
        frozenH H3 ⟨t, to, none⟩ = false ∧
        letH (Heap.set H3 ⟨t, to, none⟩ (.slice (slP l5.p l5.c 1 2) (Int.toNat ((l5.n : Nat) - 1)) (Int.toNat ((l5.c : Nat) - 1)))) fun H4 =>
        SelfEq ([.v (.pointer (some ⟨t, to, none⟩)), .v (.int .i64 now)], [], []) ∧
        I1 l4 H4 ∧
        M1 l4 H4 < M1 out_1 H1)
     (
      K (.slice out_1.p out_1.n out_1.c) H1))
   (
    K (.slice out_1.p out_1.n out_1.c) H1)
theorem logboomref2_Timers_Due_eq (t : Nat) (to : Nat) (now : Int) (H : Heap) (K : Value → Heap → Prop) : logboomref2_Timers_Due_vc t to now H K = denFn Try.prog logboomref2_Timers_Due_ann Try.f15 (bodyOf Try.f15) [.pointer (some ⟨t, to, none⟩), .int .i64 now] H K := by kernel_rfl
theorem logboomref2_Timers_Due_fn (t : Nat) (to : Nat) (now : Int) {H : Heap} {K : Value → Heap → Prop} (h : logboomref2_Timers_Due_vc t to now H K) : FnH Try.prog 15 #[.pointer (some ⟨t, to, none⟩), .int .i64 now] H K :=
  denFn_sound Try.mixed logboomref2_Timers_Due_ann Try.func15 (bodyOf_spec (by kernel_rfl)) ((logboomref2_Timers_Due_eq t to now H K) ▸ h)

/-! function 17: (*logboom/logboomref2.Timers).At -/
def logboomref2_Timers_At_ann : Anns := { hid := [], loops := [(0, { slots := [(5, .int .i64)], kept := [0, 1], locs := [], keptL := [] })], joins := [], mix := [] }
def logboomref2_Timers_At_vc (t : Nat) (to : Nat) (key : Int) (H : Heap) (K : Value → Heap → Prop) : Prop :=
  ∃ I1 : Int → Heap → Prop,
  ∃ M1 : Int → Heap → Nat,
  I1 0 H ∧
  ∀ i_1 : Int,
  ∀ H1 : Heap,
  I1 i_1 H1 →
  ∃ l1 : Sl,
  cellH H1 ⟨t, to, none⟩ = some (.slice l1.p l1.n l1.c) ∧
  br (decide ((i_1 : Int) < (l1.n : Nat))) (
    ∃ l2 : Sl,
    cellH H1 ⟨t, to, none⟩ = some (.slice l2.p l2.n l2.c) ∧
    ∃ q1 : Nat,
    ∃ o1 : Nat,
    (l2.p : Option Addr) = some ⟨q1, o1, none⟩ ∧
    0 ≤ (i_1 : Int) ∧
    (i_1 : Int) < (l2.n : Nat) ∧
    ∃ n1 : Int,
    cellH H1 ⟨q1, o1 + Int.toNat i_1 * 2, none⟩ = some (.int .i64 n1) ∧
    br ((n1 : Int) == key) (
      ∃ l3 : Sl,
      cellH H1 ⟨t, to, none⟩ = some (.slice l3.p l3.n l3.c) ∧
      ∃ q2 : Nat,
      ∃ o2 : Nat,
      (l3.p : Option Addr) = some ⟨q2, o2, none⟩ ∧
      0 ≤ (i_1 : Int) ∧
      (i_1 : Int) < (l3.n : Nat) ∧
      ∃ n2 : Int,
      cellH H1 ⟨q2, o2 + Int.toNat i_1 * 2 + 1, none⟩ = some (.int .i64 n2) ∧
      K (.int .i64 n2) H1)
     (
      SelfEq ([.v (.pointer (some ⟨t, to, none⟩)), .v (.int .i64 key)], [], []) ∧
      I1 (IntKind.wrap .i64 (i_1 + 1)) H1 ∧
      M1 (IntKind.wrap .i64 (i_1 + 1)) H1 < M1 i_1 H1))
   (
    K (.int .i64 (-1)) H1)
theorem logboomref2_Timers_At_eq (t : Nat) (to : Nat) (key : Int) (H : Heap) (K : Value → Heap → Prop) : logboomref2_Timers_At_vc t to key H K = denFn Try.prog logboomref2_Timers_At_ann Try.f17 (bodyOf Try.f17) [.pointer (some ⟨t, to, none⟩), .int .i64 key] H K := by kernel_rfl
theorem logboomref2_Timers_At_fn (t : Nat) (to : Nat) (key : Int) {H : Heap} {K : Value → Heap → Prop} (h : logboomref2_Timers_At_vc t to key H K) : FnH Try.prog 17 #[.pointer (some ⟨t, to, none⟩), .int .i64 key] H K :=
  denFn_sound Try.mixed logboomref2_Timers_At_ann Try.func17 (bodyOf_spec (by kernel_rfl)) ((logboomref2_Timers_At_eq t to key H K) ▸ h)

/-! function 20: (*logboom/logboomref2.Timers).Next -/
def logboomref2_Timers_Next_ann : Anns := { hid := [], loops := [], joins := [], mix := [] }
def logboomref2_Timers_Next_vc (t : Nat) (to : Nat) (H : Heap) (K : Value → Heap → Prop) : Prop :=
  ∃ l1 : Sl,
  cellH H ⟨t, to, none⟩ = some (.slice l1.p l1.n l1.c) ∧
  br (((l1.n : Nat) : Int) == 0) (
    K (.int .i64 (-1)) H)
   (
    ∃ l2 : Sl,
    cellH H ⟨t, to, none⟩ = some (.slice l2.p l2.n l2.c) ∧
    ∃ q1 : Nat,
    ∃ o1 : Nat,
    (l2.p : Option Addr) = some ⟨q1, o1, none⟩ ∧
    0 ≤ (0 : Int) ∧
    (0 : Int) < (l2.n : Nat) ∧
    ∃ n1 : Int,
    cellH H ⟨q1, o1 + Int.toNat 0 * 2 + 1, none⟩ = some (.int .i64 n1) ∧
    K (.int .i64 n1) H)
theorem logboomref2_Timers_Next_eq (t : Nat) (to : Nat) (H : Heap) (K : Value → Heap → Prop) : logboomref2_Timers_Next_vc t to H K = denFn Try.prog logboomref2_Timers_Next_ann Try.f20 (bodyOf Try.f20) [.pointer (some ⟨t, to, none⟩)] H K := by kernel_rfl
theorem logboomref2_Timers_Next_fn (t : Nat) (to : Nat) {H : Heap} {K : Value → Heap → Prop} (h : logboomref2_Timers_Next_vc t to H K) : FnH Try.prog 20 #[.pointer (some ⟨t, to, none⟩)] H K :=
  denFn_sound Try.mixed logboomref2_Timers_Next_ann Try.func20 (bodyOf_spec (by kernel_rfl)) ((logboomref2_Timers_Next_eq t to H K) ▸ h)

/-! function 23: (*logboom/logboomref2.Timers).without -/
def logboomref2_Timers_without_ann : Anns := { hid := [], loops := [(0, { slots := [(5, .slice), (6, .int .i64)], kept := [0, 1], locs := [], keptL := [] })], joins := [], mix := [] }
def logboomref2_Timers_without_vc (t : Nat) (to : Nat) (key : Int) (H : Heap) (K : Value → Heap → Prop) : Prop :=
  ∃ I1 : Sl → Int → Heap → Prop,
  ∃ M1 : Sl → Int → Heap → Nat,
  I1 ⟨none, 0, 0⟩ 0 H ∧
  ∀ out_1 : Sl,
  ∀ i_1 : Int,
  ∀ H1 : Heap,
  I1 out_1 i_1 H1 →
  ∃ l1 : Sl,
  cellH H1 ⟨t, to, none⟩ = some (.slice l1.p l1.n l1.c) ∧
  br (decide ((i_1 : Int) < (l1.n : Nat))) (
    ∃ l2 : Sl,
    cellH H1 ⟨t, to, none⟩ = some (.slice l2.p l2.n l2.c) ∧
    ∃ q1 : Nat,
    ∃ o1 : Nat,
    (l2.p : Option Addr) = some ⟨q1, o1, none⟩ ∧
    0 ≤ (i_1 : Int) ∧
    (i_1 : Int) < (l2.n : Nat) ∧
    ∃ n1 : Int,
    cellH H1 ⟨q1, o1 + Int.toNat i_1 * 2, none⟩ = some (.int .i64 n1) ∧
    br ((n1 : Int) != key) (
      ∃ l3 : Sl,
      cellH H1 ⟨t, to, none⟩ = some (.slice l3.p l3.n l3.c) ∧
      ∃ q2 : Nat,
      ∃ o2 : Nat,
      (l3.p : Option Addr) = some ⟨q2, o2, none⟩ ∧
      0 ≤ (i_1 : Int) ∧
      (i_1 : Int) < (l3.n : Nat) ∧
      ∃ n2 : Int,
      cellH H1 ⟨q2, o2 + Int.toNat i_1 * 2, none⟩ = some (.int .i64 n2) ∧
      ∃ n3 : Int,
      cellH H1 ⟨q2, o2 + Int.toNat i_1 * 2 + 1, none⟩ = some (.int .i64 n3) ∧
      ∀ q3 : Nat,
      H1 q3 = none →
      letH (Heap.upd H1 q3 (.cells #[.int .i64 n2, .int .i64 n3] 44 (0, 0))) fun H2 =>
      runH Try.prog (Builtin.append_ #[27, 27] 27 #[.slice out_1.p out_1.n out_1.c, .slice (some ⟨q3, 0, none⟩) 1 1]) H2 fun r1 H3 =>
        ∃ l4 : Sl,
        r1 = .slice l4.p l4.n l4.c ∧
        SelfEq ([.v (.pointer (some ⟨t, to, none⟩)), .v (.int .i64 key)], [], []) ∧
        I1 l4 (IntKind.wrap .i64 (i_1 + 1)) H3 ∧
        M1 l4 (IntKind.wrap .i64 (i_1 + 1)) H3 < M1 out_1 i_1 H1)
     (
      SelfEq ([.v (.pointer (some ⟨t, to, none⟩)), .v (.int .i64 key)], [], []) ∧
      I1 out_1 (IntKind.wrap .i64 (i_1 + 1)) H1 ∧
      M1 out_1 (IntKind.wrap .i64 (i_1 + 1)) H1 < M1 out_1 i_1 H1))
   (
    K (.slice out_1.p out_1.n out_1.c) H1)
theorem logboomref2_Timers_without_eq (t : Nat) (to : Nat) (key : Int) (H : Heap) (K : Value → Heap → Prop) : logboomref2_Timers_without_vc t to key H K = denFn Try.prog logboomref2_Timers_without_ann Try.f23 (bodyOf Try.f23) [.pointer (some ⟨t, to, none⟩), .int .i64 key] H K := by kernel_rfl
theorem logboomref2_Timers_without_fn (t : Nat) (to : Nat) (key : Int) {H : Heap} {K : Value → Heap → Prop} (h : logboomref2_Timers_without_vc t to key H K) : FnH Try.prog 23 #[.pointer (some ⟨t, to, none⟩), .int .i64 key] H K :=
  denFn_sound Try.mixed logboomref2_Timers_without_ann Try.func23 (bodyOf_spec (by kernel_rfl)) ((logboomref2_Timers_without_eq t to key H K) ▸ h)

/-! function 24: logboom/logboomref2.before -/
def logboomref2_before_ann : Anns := { hid := [2, 3], loops := [], joins := [], mix := [] }
def logboomref2_before_vc (a_0 : Int) (a_1 : Int) (b_0 : Int) (b_1 : Int) (H : Heap) (K : Value → Heap → Prop) : Prop :=
  br (decide ((a_1 : Int) < b_1)) (
    K (.bool true) H)
   (
    br ((a_1 : Int) == b_1) (
      K (.bool (decide ((a_0 : Int) < b_0))) H)
     (
      K (.bool false) H))
theorem logboomref2_before_eq (a_0 : Int) (a_1 : Int) (b_0 : Int) (b_1 : Int) (H : Heap) (K : Value → Heap → Prop) : logboomref2_before_vc a_0 a_1 b_0 b_1 H K = denFn Try.prog logboomref2_before_ann Try.f24 (bodyOf Try.f24) [.agg #[.int .i64 a_0, .int .i64 a_1], .agg #[.int .i64 b_0, .int .i64 b_1]] H K := by kernel_rfl
theorem logboomref2_before_fn (a_0 : Int) (a_1 : Int) (b_0 : Int) (b_1 : Int) {H : Heap} {K : Value → Heap → Prop} (h : logboomref2_before_vc a_0 a_1 b_0 b_1 H K) : FnH Try.prog 24 #[.agg #[.int .i64 a_0, .int .i64 a_1], .agg #[.int .i64 b_0, .int .i64 b_1]] H K :=
  denFn_sound Try.mixed logboomref2_before_ann Try.func24 (bodyOf_spec (by kernel_rfl)) ((logboomref2_before_eq a_0 a_1 b_0 b_1 H K) ▸ h)

end Go.Proofs.Ytcipmipadjenaaa
