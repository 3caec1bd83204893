/- Formulas of functions, printed by this session's vc.py; each is tied to the program by the kernel. -/
import Derived.Test.YtkabaoigablphaaProg
import Derived.KernelRfl
import Derived.Test.YtkabaoigablphaaHlFn
import Derived.Test.YtkabaoigablphaaV3
namespace Go.Proofs.Ytkabaoigablphaa
open Go.HL
set_option maxRecDepth 100000
/-! function 35: logboom/dedup.sum -/
def dedup_sum_ann : Anns := { hid := [], loops := [], joins := [], mix := [] }
def dedup_sum_vc (b : Sl) (H : Heap) (K : Value → Heap → Prop) : Prop :=
  runH Try.prog (convert 68 9 (.slice b.p b.n b.c)) H fun r1 H1 =>
    ∃ s1 : ByteArray,
    r1 = .string s1 ∧
    FnH Try.prog 53 #[.string s1] H1 fun r2 H2 =>
      ∃ n1 : Int,
      r2 = .int .i64 n1 ∧
      ∀ q1 : Nat,
      H2 q1 = none →
      letH (Heap.upd H2 q1 (.cells #[.int .u8 (IntKind.wrap .u8 (shrI .i64 n1 24)), .int .u8 (IntKind.wrap .u8 (shrI .i64 n1 16)), .int .u8 (IntKind.wrap .u8 (shrI .i64 n1 8)), .int .u8 (IntKind.wrap .u8 n1)] 5 (0, 0))) fun H3 =>
      K (.slice (some ⟨q1, 0, none⟩) 4 4) H3
theorem dedup_sum_eq (b : Sl) (H : Heap) (K : Value → Heap → Prop) : dedup_sum_vc b H K = denFn Try.prog dedup_sum_ann Try.f35 (bodyOf Try.f35) [.slice b.p b.n b.c] H K := by kernel_rfl
theorem dedup_sum_fn (b : Sl) {H : Heap} {K : Value → Heap → Prop} (h : dedup_sum_vc b H K) : FnH Try.prog 35 #[.slice b.p b.n b.c] H K :=
  denFn_fn Try.mixed dedup_sum_ann Try.func35 (bodyOf_spec (by kernel_rfl)) (dedup_sum_eq b H K) h

/-! function 36: (*logboom/dedup.reader).int -/
def dedup_reader_int_ann : Anns := { hid := [], loops := [], joins := [((0, 2), { slots := [], kept := [0, 3, 4], locs := [], keptL := [] })], mix := [] }
def dedup_reader_int_vc (r : Nat) (ro : Nat) (H : Heap) (K : Value → Heap → Prop) : Prop :=
  ∃ s1 : ByteArray,
  cellH H ⟨r, ro, none⟩ = some (.string s1) ∧
  FnH Try.prog 54 #[.string s1] H fun r1 H1 =>
    ∃ n1 : Int,
    ∃ n2 : Int,
    ∃ n3 : Int,
    r1 = .tuple #[.int .i64 n1, .int .i64 n2, .int .i64 n3] ∧
    ∃ J1 : Heap → Prop,
    (∃ b1 : Bool,
    cellH H1 ⟨r, ro + 1, none⟩ = some (.bool b1) ∧
    br (b1) (
      (∃ u, cellH H1 ⟨r, ro + 1, none⟩ = some u) ∧
      frozenH H1 ⟨r, ro + 1, none⟩ = false ∧
      letH (Heap.set H1 ⟨r, ro + 1, none⟩ (.bool ((n3 : Int) == 0))) fun H2 =>
      SelfEq ([.v (.pointer (some ⟨r, ro, none⟩)), .v (.int .i64 n1), .v (.int .i64 n2)], [], []) ∧
      J1 H2)
     (
      (∃ u, cellH H1 ⟨r, ro + 1, none⟩ = some u) ∧
      frozenH H1 ⟨r, ro + 1, none⟩ = false ∧
      letH (Heap.set H1 ⟨r, ro + 1, none⟩ (.bool false)) fun H3 =>
      SelfEq ([.v (.pointer (some ⟨r, ro, none⟩)), .v (.int .i64 n1), .v (.int .i64 n2)], [], []) ∧
      J1 H3)) ∧
    ∀ H4 : Heap,
    J1 H4 →
    ∃ s2 : ByteArray,
    cellH H4 ⟨r, ro, none⟩ = some (.string s2) ∧
    0 ≤ (n2 : Int) ∧
    (n2 : Int) ≤ (s2.size : Nat) ∧
    (∃ u, cellH H4 ⟨r, ro, none⟩ = some u) ∧
    frozenH H4 ⟨r, ro, none⟩ = false ∧
    letH (Heap.set H4 ⟨r, ro, none⟩ (.string (s2.extract (Int.toNat n2) (Int.toNat (s2.size : Nat))))) fun H5 =>
    K (.int .i64 n1) H5
theorem dedup_reader_int_eq (r : Nat) (ro : Nat) (H : Heap) (K : Value → Heap → Prop) : dedup_reader_int_vc r ro H K = denFn Try.prog dedup_reader_int_ann Try.f36 (bodyOf Try.f36) [.pointer (some ⟨r, ro, none⟩)] H K := by kernel_rfl
theorem dedup_reader_int_fn (r : Nat) (ro : Nat) {H : Heap} {K : Value → Heap → Prop} (h : dedup_reader_int_vc r ro H K) : FnH Try.prog 36 #[.pointer (some ⟨r, ro, none⟩)] H K :=
  denFn_fn Try.mixed dedup_reader_int_ann Try.func36 (bodyOf_spec (by kernel_rfl)) (dedup_reader_int_eq r ro H K) h

/-! function 37: (*logboom/dedup.reader).notes -/
def dedup_reader_notes_ann : Anns := { hid := [6, 7], loops := [(0, { slots := [(1, .int .i64), (5, .slice)], kept := [0, 6], locs := [(0, [.int .i64, .int .i64, .int .i64, .int .i64])], keptL := [] })], joins := [((0, 6), { slots := [(8, .bool)], kept := [0, 1, 5, 6, 7], locs := [], keptL := [0, 1] })], mix := [(9, [3, 6])] }
def dedup_reader_notes_vc (r : Nat) (ro : Nat) (n : Int) (H : Heap) (K : Value → Heap → Prop) : Prop :=
  ∃ I1 : Int → Sl → Int → Int → Int → Int → Heap → Prop,
  ∃ M1 : Int → Sl → Int → Int → Int → Int → Heap → Nat,
  I1 n ⟨none, 0, 0⟩ 0 0 0 (-1) H ∧
  ∀ n_1 : Int,
  ∀ l_1 : Sl,
  ∀ n1 : Int,
  ∀ n2 : Int,
  ∀ n3 : Int,
  ∀ n4 : Int,
  ∀ H1 : Heap,
  I1 n_1 l_1 n1 n2 n3 n4 H1 →
  br (decide ((n_1 : Int) > 0)) (
    FnH Try.prog 36 #[.pointer (some ⟨r, ro, none⟩)] H1 fun r1 H2 =>
      ∃ n5 : Int,
      r1 = .int .i64 n5 ∧
      FnH Try.prog 36 #[.pointer (some ⟨r, ro, none⟩)] H2 fun r2 H3 =>
        ∃ n6 : Int,
        r2 = .int .i64 n6 ∧
        FnH Try.prog 36 #[.pointer (some ⟨r, ro, none⟩)] H3 fun r3 H4 =>
          ∃ n7 : Int,
          r3 = .int .i64 n7 ∧
          FnH Try.prog 36 #[.pointer (some ⟨r, ro, none⟩)] H4 fun r4 H5 =>
            ∃ n8 : Int,
            r4 = .int .i64 n8 ∧
            ∃ J1 : Bool → Heap → Prop,
            (∃ b1 : Bool,
            cellH H5 ⟨r, ro + 1, none⟩ = some (.bool b1) ∧
            br (b1) (
              br (decide ((n7 : Int) ≥ 1)) (
                br (decide ((n7 : Int) ≤ 64)) (
                  FnH Try.prog 32 #[.int .i64 n5, .int .i64 1000000000] H5 fun r5 H6 =>
                    ∃ b2 : Bool,
                    r5 = .bool b2 ∧
                    br (b2) (
                      FnH Try.prog 32 #[.int .i64 n6, .int .i64 (IntKind.wrap .i64 ((IntKind.wrap .i64 (1000000 - n7)) + 1))] H6 fun r6 H7 =>
                        ∃ b3 : Bool,
                        r6 = .bool b3 ∧
                        br (b3) (
                          FnH Try.prog 32 #[.int .i64 n8, .int .i64 (IntKind.wrap .i64 ((IntKind.wrap .i64 (1000000000 - n7)) + 1))] H7 fun r7 H8 =>
                            ∃ b4 : Bool,
                            r7 = .bool b4 ∧
                            SelfEq ([.v (.pointer (some ⟨r, ro, none⟩)), .v (.int .i64 n_1), .v (.slice l_1.p l_1.n l_1.c), .loc 0 0, .loc 1 0], [some (62, [.int .i64 n1, .int .i64 n2, .int .i64 n3, .int .i64 n4]), some (62, [.int .i64 n5, .int .i64 n6, .int .i64 n7, .int .i64 n8])], []) ∧
                            J1 b4 H8)
                         (
                          SelfEq ([.v (.pointer (some ⟨r, ro, none⟩)), .v (.int .i64 n_1), .v (.slice l_1.p l_1.n l_1.c), .loc 0 0, .loc 1 0], [some (62, [.int .i64 n1, .int .i64 n2, .int .i64 n3, .int .i64 n4]), some (62, [.int .i64 n5, .int .i64 n6, .int .i64 n7, .int .i64 n8])], []) ∧
                          J1 false H7))
                     (
                      SelfEq ([.v (.pointer (some ⟨r, ro, none⟩)), .v (.int .i64 n_1), .v (.slice l_1.p l_1.n l_1.c), .loc 0 0, .loc 1 0], [some (62, [.int .i64 n1, .int .i64 n2, .int .i64 n3, .int .i64 n4]), some (62, [.int .i64 n5, .int .i64 n6, .int .i64 n7, .int .i64 n8])], []) ∧
                      J1 false H6))
                 (
                  SelfEq ([.v (.pointer (some ⟨r, ro, none⟩)), .v (.int .i64 n_1), .v (.slice l_1.p l_1.n l_1.c), .loc 0 0, .loc 1 0], [some (62, [.int .i64 n1, .int .i64 n2, .int .i64 n3, .int .i64 n4]), some (62, [.int .i64 n5, .int .i64 n6, .int .i64 n7, .int .i64 n8])], []) ∧
                  J1 false H5))
               (
                SelfEq ([.v (.pointer (some ⟨r, ro, none⟩)), .v (.int .i64 n_1), .v (.slice l_1.p l_1.n l_1.c), .loc 0 0, .loc 1 0], [some (62, [.int .i64 n1, .int .i64 n2, .int .i64 n3, .int .i64 n4]), some (62, [.int .i64 n5, .int .i64 n6, .int .i64 n7, .int .i64 n8])], []) ∧
                J1 false H5))
             (
              SelfEq ([.v (.pointer (some ⟨r, ro, none⟩)), .v (.int .i64 n_1), .v (.slice l_1.p l_1.n l_1.c), .loc 0 0, .loc 1 0], [some (62, [.int .i64 n1, .int .i64 n2, .int .i64 n3, .int .i64 n4]), some (62, [.int .i64 n5, .int .i64 n6, .int .i64 n7, .int .i64 n8])], []) ∧
              J1 false H5)) ∧
            ∀ ok_1 : Bool,
            ∀ H9 : Heap,
            J1 ok_1 H9 →
            br (!ok_1) (
              K (.slice none 0 0) H9)
             (
              br (decide ((n8 : Int) ≤ n4)) (
                K (.slice none 0 0) H9)
               (
                br (decide ((n5 : Int) < n1)) (
                  K (.slice none 0 0) H9)
                 (
                  br ((n5 : Int) == n1) (
                    br (decide ((n6 : Int) < (IntKind.wrap .i64 (n2 + n3)))) (
                      K (.slice none 0 0) H9)
                     (
                      (∀ q1 : Nat,
                      H9 q1 = none →
                      letH (Heap.upd H9 q1 (.cells #[.int .i64 n5, .int .i64 n6, .int .i64 n7, .int .i64 n8] 62 (0, 0))) fun H10 =>
                      Sub H9 H10 ∧
                      (runH Try.prog (Builtin.append_ #[56, 56] 56 #[.slice l_1.p l_1.n l_1.c, .slice (some ⟨q1, 0, none⟩) 1 1]) H10 fun r8 H11 =>
                        ∃ l1 : Sl,
                        r8 = .slice l1.p l1.n l1.c ∧
                        SelfEq ([.v (.pointer (some ⟨r, ro, none⟩)), .loc 0 0], [], [62]) ∧
                        I1 (IntKind.wrap .i64 (n_1 - 1)) l1 n5 n6 n7 n8 H11 ∧
                        M1 (IntKind.wrap .i64 (n_1 - 1)) l1 n5 n6 n7 n8 H11 < M1 n_1 l_1 n1 n2 n3 n4 H1) ∧
                      Sub H9 H10 ∧
                      runH Try.prog (Builtin.append_ #[56, 56] 56 #[.slice l_1.p l_1.n l_1.c, .slice (some ⟨q1, 0, none⟩) 1 1]) H10 fun r9 H12 =>
                        ∃ l2 : Sl,
                        r9 = .slice l2.p l2.n l2.c ∧
                        SelfEq ([.v (.pointer (some ⟨r, ro, none⟩)), .loc 0 0], [], [62]) ∧
                        I1 (IntKind.wrap .i64 (n_1 - 1)) l2 n5 n6 n7 n8 H12 ∧
                        M1 (IntKind.wrap .i64 (n_1 - 1)) l2 n5 n6 n7 n8 H12 < M1 n_1 l_1 n1 n2 n3 n4 H1) ∧
                      Sub H9 H9 ∧
                      ∀ q2 : Nat,
                      H9 q2 = none →
                      letH (Heap.upd H9 q2 (.cells #[.int .i64 n5, .int .i64 n6, .int .i64 n7, .int .i64 n8] 62 (0, 0))) fun H13 =>
                      Sub H9 H13 ∧
                      runH Try.prog (Builtin.append_ #[56, 56] 56 #[.slice l_1.p l_1.n l_1.c, .slice (some ⟨q2, 0, none⟩) 1 1]) H13 fun r10 H14 =>
                        ∃ l3 : Sl,
                        r10 = .slice l3.p l3.n l3.c ∧
                        SelfEq ([.v (.pointer (some ⟨r, ro, none⟩)), .loc 0 0], [], [62]) ∧
                        I1 (IntKind.wrap .i64 (n_1 - 1)) l3 n5 n6 n7 n8 H14 ∧
                        M1 (IntKind.wrap .i64 (n_1 - 1)) l3 n5 n6 n7 n8 H14 < M1 n_1 l_1 n1 n2 n3 n4 H1))
                   (
                    (∀ q3 : Nat,
                    H9 q3 = none →
                    letH (Heap.upd H9 q3 (.cells #[.int .i64 n5, .int .i64 n6, .int .i64 n7, .int .i64 n8] 62 (0, 0))) fun H15 =>
                    Sub H9 H15 ∧
                    (runH Try.prog (Builtin.append_ #[56, 56] 56 #[.slice l_1.p l_1.n l_1.c, .slice (some ⟨q3, 0, none⟩) 1 1]) H15 fun r11 H16 =>
                      ∃ l4 : Sl,
                      r11 = .slice l4.p l4.n l4.c ∧
                      SelfEq ([.v (.pointer (some ⟨r, ro, none⟩)), .loc 0 0], [], [62]) ∧
                      I1 (IntKind.wrap .i64 (n_1 - 1)) l4 n5 n6 n7 n8 H16 ∧
                      M1 (IntKind.wrap .i64 (n_1 - 1)) l4 n5 n6 n7 n8 H16 < M1 n_1 l_1 n1 n2 n3 n4 H1) ∧
                    Sub H9 H15 ∧
                    runH Try.prog (Builtin.append_ #[56, 56] 56 #[.slice l_1.p l_1.n l_1.c, .slice (some ⟨q3, 0, none⟩) 1 1]) H15 fun r12 H17 =>
                      ∃ l5 : Sl,
                      r12 = .slice l5.p l5.n l5.c ∧
                      SelfEq ([.v (.pointer (some ⟨r, ro, none⟩)), .loc 0 0], [], [62]) ∧
                      I1 (IntKind.wrap .i64 (n_1 - 1)) l5 n5 n6 n7 n8 H17 ∧
                      M1 (IntKind.wrap .i64 (n_1 - 1)) l5 n5 n6 n7 n8 H17 < M1 n_1 l_1 n1 n2 n3 n4 H1) ∧
                    Sub H9 H9 ∧
                    ∀ q4 : Nat,
                    H9 q4 = none →
                    letH (Heap.upd H9 q4 (.cells #[.int .i64 n5, .int .i64 n6, .int .i64 n7, .int .i64 n8] 62 (0, 0))) fun H18 =>
                    Sub H9 H18 ∧
                    runH Try.prog (Builtin.append_ #[56, 56] 56 #[.slice l_1.p l_1.n l_1.c, .slice (some ⟨q4, 0, none⟩) 1 1]) H18 fun r13 H19 =>
                      ∃ l6 : Sl,
                      r13 = .slice l6.p l6.n l6.c ∧
                      SelfEq ([.v (.pointer (some ⟨r, ro, none⟩)), .loc 0 0], [], [62]) ∧
                      I1 (IntKind.wrap .i64 (n_1 - 1)) l6 n5 n6 n7 n8 H19 ∧
                      M1 (IntKind.wrap .i64 (n_1 - 1)) l6 n5 n6 n7 n8 H19 < M1 n_1 l_1 n1 n2 n3 n4 H1)))))
   (
    K (.slice l_1.p l_1.n l_1.c) H1)
theorem dedup_reader_notes_eq (r : Nat) (ro : Nat) (n : Int) (H : Heap) (K : Value → Heap → Prop) : dedup_reader_notes_vc r ro n H K = denFn Try.prog dedup_reader_notes_ann Try.f37 (bodyOf Try.f37) [.pointer (some ⟨r, ro, none⟩), .int .i64 n] H K := by kernel_rfl
theorem dedup_reader_notes_fn (r : Nat) (ro : Nat) (n : Int) {H : Heap} {K : Value → Heap → Prop} (h : dedup_reader_notes_vc r ro n H K) : FnH Try.prog 37 #[.pointer (some ⟨r, ro, none⟩), .int .i64 n] H K :=
  denFn_fn Try.mixed dedup_reader_notes_ann Try.func37 (bodyOf_spec (by kernel_rfl)) (dedup_reader_notes_eq r ro n H K) h

/-! function 40: (*logboom/dedup.Table).Keep$1 -/
def dedup_Table_Keep_1_ann : Anns := { hid := [], loops := [(0, { slots := [(7, .int .i64)], kept := [1, 5, 6], locs := [], keptL := [] })], joins := [], mix := [(3, [3, 4])] }
def dedup_Table_Keep_1_vc (l : Sl) (c0_c : Nat) (H : Heap) (K : Value → Heap → Prop) : Prop :=
  ∃ I1 : Int → Heap → Prop,
  ∃ M1 : Int → Heap → Nat,
  I1 0 H ∧
  ∀ n_1 : Int,
  ∀ H1 : Heap,
  I1 n_1 H1 →
  br (decide ((n_1 : Int) < (l.n : Nat))) (
    ∃ q1 : Nat,
    ∃ o1 : Nat,
    (l.p : Option Addr) = some ⟨q1, o1, none⟩ ∧
    0 ≤ (n_1 : Int) ∧
    (n_1 : Int) < (l.n : Nat) ∧
    ∃ n1 : Int,
    cellH H1 ⟨q1, o1 + Int.toNat n_1, none⟩ = some (.int .i64 n1) ∧
    ∃ l1 : Sl,
    cellH H1 ⟨c0_c, 0, none⟩ = some (.slice l1.p l1.n l1.c) ∧
    FnH Try.prog 41 #[.int .i64 n1] H1 fun r1 H2 =>
      ∃ s1 : ByteArray,
      r1 = .string s1 ∧
      Sub H1 H2 ∧
      runH Try.prog (Builtin.append_ #[68, 9] 68 #[.slice l1.p l1.n l1.c, .string s1]) H2 fun r2 H3 =>
        ∃ l2 : Sl,
        r2 = .slice l2.p l2.n l2.c ∧
        (∃ u, cellH H3 ⟨c0_c, 0, none⟩ = some u) ∧
        frozenH H3 ⟨c0_c, 0, none⟩ = false ∧
        letH (Heap.set H3 ⟨c0_c, 0, none⟩ (.slice l2.p l2.n l2.c)) fun H4 =>
        SelfEq ([.v (.pointer (some ⟨c0_c, 0, none⟩)), .v (.slice l.p l.n l.c), .v (.int .i64 (l.n : Nat))], [], []) ∧
        I1 (IntKind.wrap .i64 (n_1 + 1)) H4 ∧
        M1 (IntKind.wrap .i64 (n_1 + 1)) H4 < M1 n_1 H1)
   (
    K (.tuple #[]) H1)
theorem dedup_Table_Keep_1_eq (l : Sl) (c0_c : Nat) (H : Heap) (K : Value → Heap → Prop) : dedup_Table_Keep_1_vc l c0_c H K = denFn Try.prog dedup_Table_Keep_1_ann Try.f40 (bodyOf Try.f40) [.slice l.p l.n l.c, .pointer (some ⟨c0_c, 0, none⟩)] H K := by kernel_rfl
theorem dedup_Table_Keep_1_fn (l : Sl) (c0_c : Nat) {H : Heap} {K : Value → Heap → Prop} (h : dedup_Table_Keep_1_vc l c0_c H K) : FnH Try.prog 40 #[.slice l.p l.n l.c, .pointer (some ⟨c0_c, 0, none⟩)] H K :=
  denFn_fn Try.mixed dedup_Table_Keep_1_ann Try.func40 (bodyOf_spec (by kernel_rfl)) (dedup_Table_Keep_1_eq l c0_c H K) h

/-! function 41: logboom/wire.Int -/
def wire_Int_ann : Anns := { hid := [], loops := [], joins := [], mix := [] }
def wire_Int_vc (n : Int) (H : Heap) (K : Value → Heap → Prop) : Prop :=
  FnH Try.prog 56 #[.slice none 0 0, .int .i64 n] H fun r1 H1 =>
    ∃ l1 : Sl,
    r1 = .slice l1.p l1.n l1.c ∧
    runH Try.prog (convert 68 9 (.slice l1.p l1.n l1.c)) H1 fun r2 H2 =>
      ∃ s1 : ByteArray,
      r2 = .string s1 ∧
      K (.string s1) H2
theorem wire_Int_eq (n : Int) (H : Heap) (K : Value → Heap → Prop) : wire_Int_vc n H K = denFn Try.prog wire_Int_ann Try.f41 (bodyOf Try.f41) [.int .i64 n] H K := by kernel_rfl
theorem wire_Int_fn (n : Int) {H : Heap} {K : Value → Heap → Prop} (h : wire_Int_vc n H K) : FnH Try.prog 41 #[.int .i64 n] H K :=
  denFn_fn Try.mixed wire_Int_ann Try.func41 (bodyOf_spec (by kernel_rfl)) (wire_Int_eq n H K) h

/-! function 53: logboom/wire.Crc -/
def wire_Crc_ann : Anns := { hid := [], loops := [(0, { slots := [(3, .int .u32), (7, .int .i64)], kept := [0, 6], locs := [], keptL := [] }), (2, { slots := [(3, .int .u32), (16, .int .i64)], kept := [0, 6, 7], locs := [], keptL := [] })], joins := [], mix := [] }
def wire_Crc_vc (b : ByteArray) (H : Heap) (K : Value → Heap → Prop) : Prop :=
  ∃ I1 : Int → Int → Heap → Prop,
  ∃ M1 : Int → Int → Heap → Nat,
  I1 4294967295 0 H ∧
  ∀ c_1 : Int,
  ∀ n_1 : Int,
  ∀ H1 : Heap,
  I1 c_1 n_1 H1 →
  br (decide ((n_1 : Int) < (b.size : Nat))) (
    0 ≤ (n_1 : Int) ∧
    ∃ c1 : UInt8,
    b[Int.toNat n_1]? = some c1 ∧
    ∃ I2 : Int → Int → Heap → Prop,
    ∃ M2 : Int → Int → Heap → Nat,
    I2 (xorI .u32 c_1 (IntKind.wrap .u32 (c1.toNat : Int))) 0 H1 ∧
    ∀ c_2 : Int,
    ∀ n_2 : Int,
    ∀ H2 : Heap,
    I2 c_2 n_2 H2 →
    br (decide ((n_2 : Int) < 8)) (
      SelfEq ([.v (.string b), .v (.int .i64 (b.size : Nat)), .v (.int .i64 n_1)], [], []) ∧
      I2 (xorI .u32 (shrI .u32 c_2 1) (andI .u32 2197175160 (IntKind.wrap .u32 (0 - (andI .u32 c_2 1))))) (IntKind.wrap .i64 (n_2 + 1)) H2 ∧
      M2 (xorI .u32 (shrI .u32 c_2 1) (andI .u32 2197175160 (IntKind.wrap .u32 (0 - (andI .u32 c_2 1))))) (IntKind.wrap .i64 (n_2 + 1)) H2 < M2 c_2 n_2 H2)
     (
      SelfEq ([.v (.string b), .v (.int .i64 (b.size : Nat))], [], []) ∧
      I1 c_2 (IntKind.wrap .i64 (n_1 + 1)) H2 ∧
      M1 c_2 (IntKind.wrap .i64 (n_1 + 1)) H2 < M1 c_1 n_1 H1))
   (
    K (.int .i64 (IntKind.wrap .i64 (xorI .u32 4294967295 c_1))) H1)
theorem wire_Crc_eq (b : ByteArray) (H : Heap) (K : Value → Heap → Prop) : wire_Crc_vc b H K = denFn Try.prog wire_Crc_ann Try.f53 (bodyOf Try.f53) [.string b] H K := by kernel_rfl
theorem wire_Crc_fn (b : ByteArray) {H : Heap} {K : Value → Heap → Prop} (h : wire_Crc_vc b H K) : FnH Try.prog 53 #[.string b] H K :=
  denFn_fn Try.mixed wire_Crc_ann Try.func53 (bodyOf_spec (by kernel_rfl)) (wire_Crc_eq b H K) h

/-! function 54: logboom/wire.ReadInt -/
def wire_ReadInt_ann : Anns := { hid := [], loops := [(0, { slots := [(5, .int .u64), (7, .int .i64)], kept := [0], locs := [], keptL := [] })], joins := [((0, 12), { slots := [(49, .bool)], kept := [5, 6], locs := [], keptL := [] })], mix := [] }
def wire_ReadInt_vc (b : ByteArray) (H : Heap) (K : Value → Heap → Prop) : Prop :=
  ∃ I1 : Int → Int → Heap → Prop,
  ∃ M1 : Int → Int → Heap → Nat,
  I1 0 0 H ∧
  ∀ z_1 : Int,
  ∀ n_1 : Int,
  ∀ H1 : Heap,
  I1 z_1 n_1 H1 →
  br (decide ((n_1 : Int) < 10)) (
    br ((n_1 : Int) == (b.size : Nat)) (
      K (.tuple #[.int .i64 0, .int .i64 0, .int .i64 5]) H1)
     (
      br ((n_1 : Int) == 9) (
        0 ≤ (n_1 : Int) ∧
        ∃ c1 : UInt8,
        b[Int.toNat n_1]? = some c1 ∧
        br (decide (((c1.toNat : Int) : Int) > 1)) (
          K (.tuple #[.int .i64 0, .int .i64 0, .int .i64 4]) H1)
         (
          0 ≤ (n_1 : Int) ∧
          ∃ c2 : UInt8,
          b[Int.toNat n_1]? = some c2 ∧
          shG (decide (((IntKind.wrap .i64 (7 * n_1)) : Int) < 0)) (
            0 ≤ (n_1 : Int) ∧
            ∃ c3 : UInt8,
            b[Int.toNat n_1]? = some c3 ∧
            br (decide (((c3.toNat : Int) : Int) > 127)) (
              SelfEq ([.v (.string b)], [], []) ∧
              I1 (orI .u64 z_1 (shlI .u64 (IntKind.wrap .u64 (andI .u8 (c2.toNat : Int) 127)) (IntKind.wrap .i64 (7 * n_1)))) (IntKind.wrap .i64 (n_1 + 1)) H1 ∧
              M1 (orI .u64 z_1 (shlI .u64 (IntKind.wrap .u64 (andI .u8 (c2.toNat : Int) 127)) (IntKind.wrap .i64 (7 * n_1)))) (IntKind.wrap .i64 (n_1 + 1)) H1 < M1 z_1 n_1 H1)
             (
              ∃ J1 : Bool → Heap → Prop,
              (br (decide ((n_1 : Int) > 0)) (
                0 ≤ (n_1 : Int) ∧
                ∃ c4 : UInt8,
                b[Int.toNat n_1]? = some c4 ∧
                SelfEq ([.v (.int .u64 (orI .u64 z_1 (shlI .u64 (IntKind.wrap .u64 (andI .u8 (c2.toNat : Int) 127)) (IntKind.wrap .i64 (7 * n_1))))), .v (.int .i64 n_1)], [], []) ∧
                J1 (((c4.toNat : Int) : Int) == 0) H1)
               (
                SelfEq ([.v (.int .u64 (orI .u64 z_1 (shlI .u64 (IntKind.wrap .u64 (andI .u8 (c2.toNat : Int) 127)) (IntKind.wrap .i64 (7 * n_1))))), .v (.int .i64 n_1)], [], []) ∧
                J1 false H1)) ∧
              ∀ b_1 : Bool,
              ∀ H2 : Heap,
              J1 b_1 H2 →
              br (b_1) (
                K (.tuple #[.int .i64 0, .int .i64 0, .int .i64 4]) H2)
               (
                K (.tuple #[.int .i64 (xorI .i64 (IntKind.wrap .i64 (shrI .u64 (orI .u64 z_1 (shlI .u64 (IntKind.wrap .u64 (andI .u8 (c2.toNat : Int) 127)) (IntKind.wrap .i64 (7 * n_1)))) 1)) (IntKind.wrap .i64 (0 - (IntKind.wrap .i64 (andI .u64 (orI .u64 z_1 (shlI .u64 (IntKind.wrap .u64 (andI .u8 (c2.toNat : Int) 127)) (IntKind.wrap .i64 (7 * n_1)))) 1))))), .int .i64 (IntKind.wrap .i64 (n_1 + 1)), .int .i64 0]) H2)))))
       (
        0 ≤ (n_1 : Int) ∧
        ∃ c5 : UInt8,
        b[Int.toNat n_1]? = some c5 ∧
        shG (decide (((IntKind.wrap .i64 (7 * n_1)) : Int) < 0)) (
          0 ≤ (n_1 : Int) ∧
          ∃ c6 : UInt8,
          b[Int.toNat n_1]? = some c6 ∧
          br (decide (((c6.toNat : Int) : Int) > 127)) (
            SelfEq ([.v (.string b)], [], []) ∧
            I1 (orI .u64 z_1 (shlI .u64 (IntKind.wrap .u64 (andI .u8 (c5.toNat : Int) 127)) (IntKind.wrap .i64 (7 * n_1)))) (IntKind.wrap .i64 (n_1 + 1)) H1 ∧
            M1 (orI .u64 z_1 (shlI .u64 (IntKind.wrap .u64 (andI .u8 (c5.toNat : Int) 127)) (IntKind.wrap .i64 (7 * n_1)))) (IntKind.wrap .i64 (n_1 + 1)) H1 < M1 z_1 n_1 H1)
           (
            ∃ J2 : Bool → Heap → Prop,
            (br (decide ((n_1 : Int) > 0)) (
              0 ≤ (n_1 : Int) ∧
              ∃ c7 : UInt8,
              b[Int.toNat n_1]? = some c7 ∧
              SelfEq ([.v (.int .u64 (orI .u64 z_1 (shlI .u64 (IntKind.wrap .u64 (andI .u8 (c5.toNat : Int) 127)) (IntKind.wrap .i64 (7 * n_1))))), .v (.int .i64 n_1)], [], []) ∧
              J2 (((c7.toNat : Int) : Int) == 0) H1)
             (
              SelfEq ([.v (.int .u64 (orI .u64 z_1 (shlI .u64 (IntKind.wrap .u64 (andI .u8 (c5.toNat : Int) 127)) (IntKind.wrap .i64 (7 * n_1))))), .v (.int .i64 n_1)], [], []) ∧
              J2 false H1)) ∧
            ∀ b_2 : Bool,
            ∀ H3 : Heap,
            J2 b_2 H3 →
            br (b_2) (
              K (.tuple #[.int .i64 0, .int .i64 0, .int .i64 4]) H3)
             (
              K (.tuple #[.int .i64 (xorI .i64 (IntKind.wrap .i64 (shrI .u64 (orI .u64 z_1 (shlI .u64 (IntKind.wrap .u64 (andI .u8 (c5.toNat : Int) 127)) (IntKind.wrap .i64 (7 * n_1)))) 1)) (IntKind.wrap .i64 (0 - (IntKind.wrap .i64 (andI .u64 (orI .u64 z_1 (shlI .u64 (IntKind.wrap .u64 (andI .u8 (c5.toNat : Int) 127)) (IntKind.wrap .i64 (7 * n_1)))) 1))))), .int .i64 (IntKind.wrap .i64 (n_1 + 1)), .int .i64 0]) H3))))))
   (
    K (.tuple #[.int .i64 0, .int .i64 0, .int .i64 4]) H1)
theorem wire_ReadInt_eq (b : ByteArray) (H : Heap) (K : Value → Heap → Prop) : wire_ReadInt_vc b H K = denFn Try.prog wire_ReadInt_ann Try.f54 (bodyOf Try.f54) [.string b] H K := by kernel_rfl
theorem wire_ReadInt_fn (b : ByteArray) {H : Heap} {K : Value → Heap → Prop} (h : wire_ReadInt_vc b H K) : FnH Try.prog 54 #[.string b] H K :=
  denFn_fn Try.mixed wire_ReadInt_ann Try.func54 (bodyOf_spec (by kernel_rfl)) (wire_ReadInt_eq b H K) h

end Go.Proofs.Ytkabaoigablphaa
