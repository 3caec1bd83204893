/- Formulas of functions, printed by this session's vc.py; each is tied to the program by the kernel. -/
import Derived.Test.YtkabaoigablphaaProg
import Derived.KernelRfl
import Derived.Test.YtkabaoigablphaaHlFn
import Derived.Test.YtkabaoigablphaaV4
namespace Go.Proofs.Ytkabaoigablphaa
open Go.HL
set_option maxRecDepth 100000
/-! function 21: (*logboom/dedup.Table).Keep -/
def dedup_Table_Keep_ann : Anns := { hid := [8], loops := [(0, { slots := [(25, .int .i64)], kept := [0, 3, 4, 23, 24], locs := [], keptL := [] }), (2, { slots := [(47, .int .i64)], kept := [0, 3, 4, 23, 24, 25, 45, 46], locs := [], keptL := [] })], joins := [], mix := [(14, [3, 4])] }
def dedup_Table_Keep_vc (t : Nat) (to : Nat) (H : Heap) (K : Value → Heap → Prop) : Prop :=
  ∀ q1 : Nat,
  H q1 = none →
  letH (Heap.upd H q1 (.cells #[.slice none 0 0] 68 (0, 0))) fun H1 =>
  ∃ m1 : Option Nat,
  cellH H1 ⟨t, to, none⟩ = some (.map m1) ∧
  lenM H1 m1 fun n1 =>
  ∀ q2 : Nat,
  H1 q2 = none →
  letH (Heap.upd H1 q2 (.cells #[.int .i64 (n1 : Nat)] 3 (0, 0))) fun H2 =>
  FnH Try.prog 40 #[.slice (some ⟨q2, 0, none⟩) 1 1, .pointer (some ⟨q1, 0, none⟩)] H2 fun r1 H3 =>
    r1 = .tuple #[] ∧
    ∃ m2 : Option Nat,
    cellH H3 ⟨t, to, none⟩ = some (.map m2) ∧
    FnH Try.prog 43 #[.map m2] H3 fun r2 H4 =>
      ∃ v1 : Value,
      r2 = v1 ∧
      FnH Try.prog 42 #[v1] H4 fun r3 H5 =>
        ∃ l1 : Sl,
        r3 = .slice l1.p l1.n l1.c ∧
        ∃ I1 : Int → Heap → Prop,
        ∃ M1 : Int → Heap → Nat,
        I1 0 H5 ∧
        ∀ n_1 : Int,
        ∀ H6 : Heap,
        I1 n_1 H6 →
        br (decide ((n_1 : Int) < (l1.n : Nat))) (
          ∃ q3 : Nat,
          ∃ o1 : Nat,
          (l1.p : Option Addr) = some ⟨q3, o1, none⟩ ∧
          0 ≤ (n_1 : Int) ∧
          (n_1 : Int) < (l1.n : Nat) ∧
          ∃ n2 : Int,
          cellH H6 ⟨q3, o1 + Int.toNat n_1, none⟩ = some (.int .i64 n2) ∧
          ∃ m3 : Option Nat,
          cellH H6 ⟨t, to, none⟩ = some (.map m3) ∧
          runH Try.prog (Instr.lookup 53 (.map m3) (.int .i64 n2) false) H6 fun r4 H7 =>
            ∃ l2 : Sl,
            r4 = .slice l2.p l2.n l2.c ∧
            ∀ q4 : Nat,
            H7 q4 = none →
            letH (Heap.upd H7 q4 (.cells #[.int .i64 n2, .int .i64 (l2.n : Nat)] 3 (0, 0))) fun H8 =>
            FnH Try.prog 40 #[.slice (some ⟨q4, 0, none⟩) 2 2, .pointer (some ⟨q1, 0, none⟩)] H8 fun r5 H9 =>
              r5 = .tuple #[] ∧
              ∃ m4 : Option Nat,
              cellH H9 ⟨t, to, none⟩ = some (.map m4) ∧
              runH Try.prog (Instr.lookup 53 (.map m4) (.int .i64 n2) false) H9 fun r6 H10 =>
                ∃ l3 : Sl,
                r6 = .slice l3.p l3.n l3.c ∧
                ∃ I2 : Int → Heap → Prop,
                ∃ M2 : Int → Heap → Nat,
                I2 0 H10 ∧
                ∀ n_2 : Int,
                ∀ H11 : Heap,
                I2 n_2 H11 →
                br (decide ((n_2 : Int) < (l3.n : Nat))) (
                  ∃ q5 : Nat,
                  ∃ o2 : Nat,
                  (l3.p : Option Addr) = some ⟨q5, o2, none⟩ ∧
                  0 ≤ (n_2 : Int) ∧
                  (n_2 : Int) < (l3.n : Nat) ∧
                  ∃ n3 : Int,
                  cellH H11 ⟨q5, o2 + Int.toNat n_2 * 4, none⟩ = some (.int .i64 n3) ∧
                  ∃ n4 : Int,
                  cellH H11 ⟨q5, o2 + Int.toNat n_2 * 4 + 1, none⟩ = some (.int .i64 n4) ∧
                  ∃ n5 : Int,
                  cellH H11 ⟨q5, o2 + Int.toNat n_2 * 4 + 2, none⟩ = some (.int .i64 n5) ∧
                  ∃ n6 : Int,
                  cellH H11 ⟨q5, o2 + Int.toNat n_2 * 4 + 3, none⟩ = some (.int .i64 n6) ∧
                  ∀ q6 : Nat,
                  H11 q6 = none →
                  letH (Heap.upd H11 q6 (.cells #[.int .i64 n3, .int .i64 n4, .int .i64 n5, .int .i64 n6] 3 (0, 0))) fun H12 =>
                  FnH Try.prog 40 #[.slice (some ⟨q6, 0, none⟩) 4 4, .pointer (some ⟨q1, 0, none⟩)] H12 fun r7 H13 =>
                    r7 = .tuple #[] ∧
                    SelfEq ([.v (.pointer (some ⟨t, to, none⟩)), .v (.pointer (some ⟨q1, 0, none⟩)), .v (.func (.func 40) #[] #[.pointer (some ⟨q1, 0, none⟩)]), .v (.slice l1.p l1.n l1.c), .v (.int .i64 (l1.n : Nat)), .v (.int .i64 n_1), .v (.slice l3.p l3.n l3.c), .v (.int .i64 (l3.n : Nat))], [], []) ∧
                    I2 (IntKind.wrap .i64 (n_2 + 1)) H13 ∧
                    M2 (IntKind.wrap .i64 (n_2 + 1)) H13 < M2 n_2 H11)
                 (
                  SelfEq ([.v (.pointer (some ⟨t, to, none⟩)), .v (.pointer (some ⟨q1, 0, none⟩)), .v (.func (.func 40) #[] #[.pointer (some ⟨q1, 0, none⟩)]), .v (.slice l1.p l1.n l1.c), .v (.int .i64 (l1.n : Nat))], [], []) ∧
                  I1 (IntKind.wrap .i64 (n_1 + 1)) H11 ∧
                  M1 (IntKind.wrap .i64 (n_1 + 1)) H11 < M1 n_1 H6))
         (
          ∃ l4 : Sl,
          cellH H6 ⟨q1, 0, none⟩ = some (.slice l4.p l4.n l4.c) ∧
          ∃ l5 : Sl,
          cellH H6 ⟨q1, 0, none⟩ = some (.slice l5.p l5.n l5.c) ∧
          FnH Try.prog 35 #[.slice l4.p l4.n l4.c] H6 fun r8 H14 =>
            ∃ l6 : Sl,
            r8 = .slice l6.p l6.n l6.c ∧
            Sub H6 H14 ∧
            runH Try.prog (Builtin.append_ #[68, 68] 68 #[.slice l6.p l6.n l6.c, .slice l5.p l5.n l5.c]) H14 fun r9 H15 =>
              ∃ l7 : Sl,
              r9 = .slice l7.p l7.n l7.c ∧
              runH Try.prog (convert 68 9 (.slice l7.p l7.n l7.c)) H15 fun r10 H16 =>
                ∃ s1 : ByteArray,
                r10 = .string s1 ∧
                K (.string s1) H16)
theorem dedup_Table_Keep_eq (t : Nat) (to : Nat) (H : Heap) (K : Value → Heap → Prop) : dedup_Table_Keep_vc t to H K = denFn Try.prog dedup_Table_Keep_ann Try.f21 (bodyOf Try.f21) [.pointer (some ⟨t, to, none⟩)] H K := by kernel_rfl
theorem dedup_Table_Keep_fn (t : Nat) (to : Nat) {H : Heap} {K : Value → Heap → Prop} (h : dedup_Table_Keep_vc t to H K) : FnH Try.prog 21 #[.pointer (some ⟨t, to, none⟩)] H K :=
  denFn_fn Try.mixed dedup_Table_Keep_ann Try.func21 (bodyOf_spec (by kernel_rfl)) (dedup_Table_Keep_eq t to H K) h

/-! function 19: logboom/dedup.Load -/
def dedup_Load_ann : Anns := { hid := [27], loops := [(1, { slots := [(6, .int .i64), (7, .int .i64)], kept := [4, 5], locs := [(0, [.str, .bool])], keptL := [] })], joins := [], mix := [(3, [2, 4])] }
def dedup_Load_vc (s : ByteArray) (H : Heap) (K : Value → Heap → Prop) : Prop :=
  br (decide (((s.size : Nat) : Int) < 4)) (
    K (.tuple #[.pointer none, .int .i64 5]) H)
   (
    0 ≤ (4 : Int) ∧
    (4 : Int) ≤ (s.size : Nat) ∧
    0 ≤ (4 : Int) ∧
    (4 : Int) ≤ (s.size : Nat) ∧
    runH Try.prog (convert 9 68 (.string (s.extract (Int.toNat 4) (Int.toNat (s.size : Nat))))) H fun r1 H1 =>
      ∃ l1 : Sl,
      r1 = .slice l1.p l1.n l1.c ∧
      FnH Try.prog 35 #[.slice l1.p l1.n l1.c] H1 fun r2 H2 =>
        ∃ l2 : Sl,
        r2 = .slice l2.p l2.n l2.c ∧
        runH Try.prog (convert 68 9 (.slice l2.p l2.n l2.c)) H2 fun r3 H3 =>
          ∃ s1 : ByteArray,
          r3 = .string s1 ∧
          br (!(s1.toList == (s.extract (Int.toNat (0 : Int)) (Int.toNat 4)).toList)) (
            K (.tuple #[.pointer none, .int .i64 6]) H3)
           (
            0 ≤ (4 : Int) ∧
            (4 : Int) ≤ (s.size : Nat) ∧
            FnH Try.prog 8 #[] H3 fun r4 H4 =>
              ∃ p1 : Option Addr,
              r4 = .pointer p1 ∧
              ∀ q1 : Nat,
              H4 q1 = none →
              FnH Try.prog 36 #[.pointer (some ⟨q1, 0, none⟩)] (Heap.upd H4 q1 (.cells #[.string (s.extract (Int.toNat 4) (Int.toNat (s.size : Nat))), .bool true] 73 (0, 0))) fun r5 H5 =>
                ∃ n1 : Int,
                r5 = .int .i64 n1 ∧
                ∃ s2 : ByteArray,
                ∃ b1 : Bool,
                H5 q1 = some (.cells #[.string s2, .bool b1] 73 (0, 0)) ∧
                letH (Heap.del H5 q1) fun H6 =>
                ∃ I1 : Int → Int → ByteArray → Bool → Heap → Prop,
                ∃ M1 : Int → Int → ByteArray → Bool → Heap → Nat,
                I1 n1 0 s2 b1 H6 ∧
                ∀ many_1 : Int,
                ∀ last_1 : Int,
                ∀ s3 : ByteArray,
                ∀ b2 : Bool,
                ∀ H7 : Heap,
                I1 many_1 last_1 s3 b2 H7 →
                br (decide ((many_1 : Int) > 0)) (
                  br (b2) (
                    ∀ q2 : Nat,
                    H7 q2 = none →
                    FnH Try.prog 36 #[.pointer (some ⟨q2, 0, none⟩)] (Heap.upd H7 q2 (.cells #[.string s3, .bool b2] 73 (0, 0))) fun r6 H8 =>
                      ∃ n2 : Int,
                      r6 = .int .i64 n2 ∧
                      ∃ s4 : ByteArray,
                      ∃ b3 : Bool,
                      H8 q2 = some (.cells #[.string s4, .bool b3] 73 (0, 0)) ∧
                      letH (Heap.del H8 q2) fun H9 =>
                      ∀ q3 : Nat,
                      H9 q3 = none →
                      FnH Try.prog 36 #[.pointer (some ⟨q3, 0, none⟩)] (Heap.upd H9 q3 (.cells #[.string s4, .bool b3] 73 (0, 0))) fun r7 H10 =>
                        ∃ n3 : Int,
                        r7 = .int .i64 n3 ∧
                        ∃ s5 : ByteArray,
                        ∃ b4 : Bool,
                        H10 q3 = some (.cells #[.string s5, .bool b4] 73 (0, 0)) ∧
                        letH (Heap.del H10 q3) fun H11 =>
                        br (decide ((n2 : Int) ≤ last_1)) (
                          K (.tuple #[.pointer none, .int .i64 4]) H11)
                         (
                          br (decide ((n2 : Int) > 1000000000)) (
                            K (.tuple #[.pointer none, .int .i64 4]) H11)
                           (
                            br (decide ((n3 : Int) < 1)) (
                              K (.tuple #[.pointer none, .int .i64 4]) H11)
                             (
                              ∀ q4 : Nat,
                              H11 q4 = none →
                              FnH Try.prog 37 #[.pointer (some ⟨q4, 0, none⟩), .int .i64 n3] (Heap.upd H11 q4 (.cells #[.string s5, .bool b4] 73 (0, 0))) fun r8 H12 =>
                                ∃ l3 : Sl,
                                r8 = .slice l3.p l3.n l3.c ∧
                                ∃ s6 : ByteArray,
                                ∃ b5 : Bool,
                                H12 q4 = some (.cells #[.string s6, .bool b5] 73 (0, 0)) ∧
                                letH (Heap.del H12 q4) fun H13 =>
                                br (Option.isNone l3.p) (
                                  K (.tuple #[.pointer none, .int .i64 4]) H13)
                                 (
                                  ptrm p1 fun q5 o1 =>
                                  ∃ m1 : Option Nat,
                                  cellH H13 ⟨q5, o1, none⟩ = some (.map m1) ∧
                                  runH Try.prog (Instr.mapUpdate 53 (.map m1) (.int .i64 n2) (.slice l3.p l3.n l3.c)) H13 fun _ H14 =>
                                    SelfEq ([.loc 0 0, .v (.pointer p1)], [], [73]) ∧
                                    I1 (IntKind.wrap .i64 (many_1 - 1)) n2 s6 b5 H14 ∧
                                    M1 (IntKind.wrap .i64 (many_1 - 1)) n2 s6 b5 H14 < M1 many_1 last_1 s3 b2 H7)))))
                   (
                    br (!b2) (
                      K (.tuple #[.pointer none, .int .i64 4]) H7)
                     (
                      br (!(s3.toList == (⟨#[]⟩ : ByteArray).toList)) (
                        K (.tuple #[.pointer none, .int .i64 4]) H7)
                       (
                        br (decide ((many_1 : Int) < 0)) (
                          K (.tuple #[.pointer none, .int .i64 4]) H7)
                         (
                          K (.tuple #[.pointer p1, .int .i64 0]) H7)))))
                 (
                  br (!b2) (
                    K (.tuple #[.pointer none, .int .i64 4]) H7)
                   (
                    br (!(s3.toList == (⟨#[]⟩ : ByteArray).toList)) (
                      K (.tuple #[.pointer none, .int .i64 4]) H7)
                     (
                      br (decide ((many_1 : Int) < 0)) (
                        K (.tuple #[.pointer none, .int .i64 4]) H7)
                       (
                        K (.tuple #[.pointer p1, .int .i64 0]) H7))))))
theorem dedup_Load_eq (s : ByteArray) (H : Heap) (K : Value → Heap → Prop) : dedup_Load_vc s H K = denFn Try.prog dedup_Load_ann Try.f19 (bodyOf Try.f19) [.string s] H K := by kernel_rfl
theorem dedup_Load_fn (s : ByteArray) {H : Heap} {K : Value → Heap → Prop} (h : dedup_Load_vc s H K) : FnH Try.prog 19 #[.string s] H K :=
  denFn_fn Try.mixed dedup_Load_ann Try.func19 (bodyOf_spec (by kernel_rfl)) (dedup_Load_eq s H K) h

/-! function 6: logboom/logboomlaw8.DedupDeletes -/
def logboomlaw8_DedupDeletes_ann : Anns := { hid := [9], loops := [(0, { slots := [(6, .int .i64), (7, .int .i64), (8, .int .i64)], kept := [0, 4, 5], locs := [], keptL := [] })], joins := [((0, 17), { slots := [(85, .bool)], kept := [0, 4, 5, 6, 7, 8, 9], locs := [], keptL := [0] })], mix := [] }
def logboomlaw8_DedupDeletes_vc (script : Sl) (H : Heap) (K : Value → Heap → Prop) : Prop :=
  FnH Try.prog 7 #[] H fun r1 H1 =>
    ∃ b1 : Bool,
    r1 = .bool b1 ∧
    FnH Try.prog 8 #[] H1 fun r2 H2 =>
      ∃ p1 : Option Addr,
      r2 = .pointer p1 ∧
      FnH Try.prog 8 #[] H2 fun r3 H3 =>
        ∃ p2 : Option Addr,
        r3 = .pointer p2 ∧
        br (!b1) (
          K (.bool false) H3)
         (
          br (Option.isNone p1) (
            K (.bool false) H3)
           (
            br (Option.isNone p2) (
              K (.bool false) H3)
             (
              ∃ I1 : Int → Int → Int → Heap → Prop,
              ∃ M1 : Int → Int → Int → Heap → Nat,
              I1 0 0 0 H3 ∧
              ∀ start_1 : Int,
              ∀ next_1 : Int,
              ∀ i_1 : Int,
              ∀ H4 : Heap,
              I1 start_1 next_1 i_1 H4 →
              br (decide ((i_1 : Int) < (script.n : Nat))) (
                br (decide ((i_1 : Int) < 200)) (
                  ∃ q1 : Nat,
                  ∃ o1 : Nat,
                  (script.p : Option Addr) = some ⟨q1, o1, none⟩ ∧
                  0 ≤ (i_1 : Int) ∧
                  (i_1 : Int) < (script.n : Nat) ∧
                  ∃ n1 : Int,
                  cellH H4 ⟨q1, o1 + Int.toNat i_1 * 6, none⟩ = some (.int .i64 n1) ∧
                  ∃ n2 : Int,
                  cellH H4 ⟨q1, o1 + Int.toNat i_1 * 6 + 1, none⟩ = some (.int .i64 n2) ∧
                  ∃ n3 : Int,
                  cellH H4 ⟨q1, o1 + Int.toNat i_1 * 6 + 2, none⟩ = some (.int .i64 n3) ∧
                  ∃ n4 : Int,
                  cellH H4 ⟨q1, o1 + Int.toNat i_1 * 6 + 3, none⟩ = some (.int .i64 n4) ∧
                  ∃ n5 : Int,
                  cellH H4 ⟨q1, o1 + Int.toNat i_1 * 6 + 4, none⟩ = some (.int .i64 n5) ∧
                  ∃ n6 : Int,
                  cellH H4 ⟨q1, o1 + Int.toNat i_1 * 6 + 5, none⟩ = some (.int .i64 n6) ∧
                  FnH Try.prog 9 #[.agg #[.int .i64 n1, .int .i64 n2, .int .i64 n3, .int .i64 n4, .int .i64 n5, .int .i64 n6]] H4 fun r4 H5 =>
                    ∃ n7 : Int,
                    ∃ n8 : Int,
                    ∃ n9 : Int,
                    ∃ n10 : Int,
                    ∃ n11 : Int,
                    ∃ n12 : Int,
                    r4 = .agg #[.int .i64 n7, .int .i64 n8, .int .i64 n9, .int .i64 n10, .int .i64 n11, .int .i64 n12] ∧
                    br ((n7 : Int) == 6) (
                      FnH Try.prog 10 #[.int .i64 n12, .int .i64 (IntKind.wrap .i64 ((IntKind.wrap .i64 (next_1 - start_1)) + 1))] H5 fun r5 H6 =>
                        ∃ n13 : Int,
                        r5 = .int .i64 n13 ∧
                        FnH Try.prog 11 #[.pointer p1, .int .i64 (IntKind.wrap .i64 (start_1 + n13))] H6 fun r6 H7 =>
                          r6 = .tuple #[] ∧
                          FnH Try.prog 11 #[.pointer p2, .int .i64 (IntKind.wrap .i64 (start_1 + n13))] H7 fun r7 H8 =>
                            r7 = .tuple #[] ∧
                            SelfEq ([.v (.slice script.p script.n script.c), .v (.pointer p1), .v (.pointer p2)], [], []) ∧
                            I1 start_1 (IntKind.wrap .i64 (start_1 + n13)) (IntKind.wrap .i64 (i_1 + 1)) H8 ∧
                            M1 start_1 (IntKind.wrap .i64 (start_1 + n13)) (IntKind.wrap .i64 (i_1 + 1)) H8 < M1 start_1 next_1 i_1 H4)
                     (
                      br ((n7 : Int) == 7) (
                        FnH Try.prog 10 #[.int .i64 n12, .int .i64 (IntKind.wrap .i64 ((IntKind.wrap .i64 (next_1 - start_1)) + 1))] H5 fun r8 H9 =>
                          ∃ n14 : Int,
                          r8 = .int .i64 n14 ∧
                          FnH Try.prog 12 #[.pointer p1, .int .i64 (IntKind.wrap .i64 (start_1 + n14))] H9 fun r9 H10 =>
                            r9 = .tuple #[] ∧
                            SelfEq ([.v (.slice script.p script.n script.c), .v (.pointer p1), .v (.pointer p2)], [], []) ∧
                            I1 (IntKind.wrap .i64 (start_1 + n14)) next_1 (IntKind.wrap .i64 (i_1 + 1)) H10 ∧
                            M1 (IntKind.wrap .i64 (start_1 + n14)) next_1 (IntKind.wrap .i64 (i_1 + 1)) H10 < M1 start_1 next_1 i_1 H4)
                       (
                        FnH Try.prog 14 #[.pointer p1, .int .i64 n8, .int .i64 n9, .int .i64 n10, .int .i64 n11] H5 fun r10 H11 =>
                          ∃ n15 : Int,
                          ∃ n16 : Int,
                          r10 = .tuple #[.int .i64 n15, .int .i64 n16] ∧
                          FnH Try.prog 14 #[.pointer p2, .int .i64 n8, .int .i64 n9, .int .i64 n10, .int .i64 n11] H11 fun r11 H12 =>
                            ∃ n17 : Int,
                            ∃ n18 : Int,
                            r11 = .tuple #[.int .i64 n17, .int .i64 n18] ∧
                            br ((n15 : Int) != n17) (
                              K (.bool false) H12)
                             (
                              br ((n16 : Int) != n18) (
                                K (.bool false) H12)
                               (
                                ∃ J1 : Bool → Heap → Prop,
                                (br ((n16 : Int) == 0) (
                                  SelfEq ([.v (.slice script.p script.n script.c), .v (.pointer p1), .v (.pointer p2), .v (.int .i64 start_1), .v (.int .i64 next_1), .v (.int .i64 i_1), .loc 0 0], [some (28, [.int .i64 n7, .int .i64 n8, .int .i64 n9, .int .i64 n10, .int .i64 n11, .int .i64 n12])], []) ∧
                                  J1 (decide ((n15 : Int) < 0)) H12)
                                 (
                                  SelfEq ([.v (.slice script.p script.n script.c), .v (.pointer p1), .v (.pointer p2), .v (.int .i64 start_1), .v (.int .i64 next_1), .v (.int .i64 i_1), .loc 0 0], [some (28, [.int .i64 n7, .int .i64 n8, .int .i64 n9, .int .i64 n10, .int .i64 n11, .int .i64 n12])], []) ∧
                                  J1 false H12)) ∧
                                ∀ b_1 : Bool,
                                ∀ H13 : Heap,
                                J1 b_1 H13 →
                                br (b_1) (
                                  FnH Try.prog 13 #[.int .i64 n8, .int .i64 n9, .int .i64 n10, .int .i64 n11, .int .i64 next_1] H13 fun r12 H14 =>
                                    ∃ n19 : Int,
                                    ∃ n20 : Int,
                                    ∃ n21 : Int,
                                    ∃ n22 : Int,
                                    ∃ n23 : Int,
                                    ∃ l1 : Sl,
                                    r12 = .agg #[.int .i64 n19, .int .i64 n20, .int .i64 n21, .int .i64 n22, .int .i64 n23, .slice l1.p l1.n l1.c] ∧
                                    FnH Try.prog 16 #[.pointer p1, .agg #[.int .i64 n19, .int .i64 n20, .int .i64 n21, .int .i64 n22, .int .i64 n23, .slice l1.p l1.n l1.c]] H14 fun r13 H15 =>
                                      r13 = .tuple #[] ∧
                                      FnH Try.prog 13 #[.int .i64 n8, .int .i64 n9, .int .i64 n10, .int .i64 n11, .int .i64 next_1] H15 fun r14 H16 =>
                                        ∃ n24 : Int,
                                        ∃ n25 : Int,
                                        ∃ n26 : Int,
                                        ∃ n27 : Int,
                                        ∃ n28 : Int,
                                        ∃ l2 : Sl,
                                        r14 = .agg #[.int .i64 n24, .int .i64 n25, .int .i64 n26, .int .i64 n27, .int .i64 n28, .slice l2.p l2.n l2.c] ∧
                                        FnH Try.prog 16 #[.pointer p2, .agg #[.int .i64 n24, .int .i64 n25, .int .i64 n26, .int .i64 n27, .int .i64 n28, .slice l2.p l2.n l2.c]] H16 fun r15 H17 =>
                                          r15 = .tuple #[] ∧
                                          SelfEq ([.v (.slice script.p script.n script.c), .v (.pointer p1), .v (.pointer p2)], [], []) ∧
                                          I1 start_1 (IntKind.wrap .i64 (next_1 + n11)) (IntKind.wrap .i64 (i_1 + 1)) H17 ∧
                                          M1 start_1 (IntKind.wrap .i64 (next_1 + n11)) (IntKind.wrap .i64 (i_1 + 1)) H17 < M1 start_1 next_1 i_1 H4)
                                 (
                                  SelfEq ([.v (.slice script.p script.n script.c), .v (.pointer p1), .v (.pointer p2)], [], []) ∧
                                  I1 start_1 next_1 (IntKind.wrap .i64 (i_1 + 1)) H13 ∧
                                  M1 start_1 next_1 (IntKind.wrap .i64 (i_1 + 1)) H13 < M1 start_1 next_1 i_1 H4))))))
                 (
                  FnH Try.prog 21 #[.pointer p1] H4 fun r16 H18 =>
                    ∃ s1 : ByteArray,
                    r16 = .string s1 ∧
                    FnH Try.prog 19 #[.string s1] H18 fun r17 H19 =>
                      ∃ p3 : Option Addr,
                      ∃ n29 : Int,
                      r17 = .tuple #[.pointer p3, .int .i64 n29] ∧
                      br (!(Option.isNone p3)) (
                        br ((n29 : Int) == 0) (
                          FnH Try.prog 21 #[.pointer p3] H19 fun r18 H20 =>
                            ∃ s2 : ByteArray,
                            r18 = .string s2 ∧
                            FnH Try.prog 21 #[.pointer p1] H20 fun r19 H21 =>
                              ∃ s3 : ByteArray,
                              r19 = .string s3 ∧
                              br (s2.toList == s3.toList) (
                                FnH Try.prog 21 #[.pointer p1] H21 fun r20 H22 =>
                                  ∃ s4 : ByteArray,
                                  r20 = .string s4 ∧
                                  FnH Try.prog 21 #[.pointer p2] H22 fun r21 H23 =>
                                    ∃ s5 : ByteArray,
                                    r21 = .string s5 ∧
                                    K (.bool (decide (((s4.size : Nat) : Int) ≤ (s5.size : Nat)))) H23)
                               (
                                K (.bool false) H21))
                         (
                          K (.bool false) H19))
                       (
                        K (.bool false) H19)))
               (
                FnH Try.prog 21 #[.pointer p1] H4 fun r22 H24 =>
                  ∃ s6 : ByteArray,
                  r22 = .string s6 ∧
                  FnH Try.prog 19 #[.string s6] H24 fun r23 H25 =>
                    ∃ p4 : Option Addr,
                    ∃ n30 : Int,
                    r23 = .tuple #[.pointer p4, .int .i64 n30] ∧
                    br (!(Option.isNone p4)) (
                      br ((n30 : Int) == 0) (
                        FnH Try.prog 21 #[.pointer p4] H25 fun r24 H26 =>
                          ∃ s7 : ByteArray,
                          r24 = .string s7 ∧
                          FnH Try.prog 21 #[.pointer p1] H26 fun r25 H27 =>
                            ∃ s8 : ByteArray,
                            r25 = .string s8 ∧
                            br (s7.toList == s8.toList) (
                              FnH Try.prog 21 #[.pointer p1] H27 fun r26 H28 =>
                                ∃ s9 : ByteArray,
                                r26 = .string s9 ∧
                                FnH Try.prog 21 #[.pointer p2] H28 fun r27 H29 =>
                                  ∃ s10 : ByteArray,
                                  r27 = .string s10 ∧
                                  K (.bool (decide (((s9.size : Nat) : Int) ≤ (s10.size : Nat)))) H29)
                             (
                              K (.bool false) H27))
                       (
                        K (.bool false) H25))
                     (
                      K (.bool false) H25)))))
theorem logboomlaw8_DedupDeletes_eq (script : Sl) (H : Heap) (K : Value → Heap → Prop) : logboomlaw8_DedupDeletes_vc script H K = denFn Try.prog logboomlaw8_DedupDeletes_ann Try.f6 (bodyOf Try.f6) [.slice script.p script.n script.c] H K := by kernel_rfl
theorem logboomlaw8_DedupDeletes_fn (script : Sl) {H : Heap} {K : Value → Heap → Prop} (h : logboomlaw8_DedupDeletes_vc script H K) : FnH Try.prog 6 #[.slice script.p script.n script.c] H K :=
  denFn_fn Try.mixed logboomlaw8_DedupDeletes_ann Try.func6 (bodyOf_spec (by kernel_rfl)) (logboomlaw8_DedupDeletes_eq script H K) h

end Go.Proofs.Ytkabaoigablphaa
