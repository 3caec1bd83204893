/- Formulas of functions, printed by this session's vc.py; each is tied to the program by the kernel. -/
import Derived.Test.YtokceblmbmajgaaGreatDoorProg
import Derived.KernelRfl
import Derived.Test.YtokceblmbmajgaaGreatDoorHlFn
import Derived.Test.YtokceblmbmajgaaGreatDoorF1
namespace Go.Proofs.YtokceblmbmajgaaGreatDoor
open Go.HL
set_option maxRecDepth 100000
/-! function 64: logboom/wire.four -/
def wire_four_ann : Anns := { hid := [], loops := [], joins := [], mix := [] }
def wire_four_vc (s : ByteArray) (H : Heap) (K : Value → Heap → Prop) : Prop :=
  0 ≤ (0 : Int) ∧
  ∃ c1 : UInt8,
  s[Int.toNat 0]? = some c1 ∧
  0 ≤ (1 : Int) ∧
  ∃ c2 : UInt8,
  s[Int.toNat 1]? = some c2 ∧
  0 ≤ (2 : Int) ∧
  ∃ c3 : UInt8,
  s[Int.toNat 2]? = some c3 ∧
  0 ≤ (3 : Int) ∧
  ∃ c4 : UInt8,
  s[Int.toNat 3]? = some c4 ∧
  K (.int .i64 (orI .i64 (orI .i64 (orI .i64 (shlI .i64 (IntKind.wrap .i64 (c1.toNat : Int)) 24) (shlI .i64 (IntKind.wrap .i64 (c2.toNat : Int)) 16)) (shlI .i64 (IntKind.wrap .i64 (c3.toNat : Int)) 8)) (IntKind.wrap .i64 (c4.toNat : Int)))) H
theorem wire_four_eq (s : ByteArray) (H : Heap) (K : Value → Heap → Prop) : wire_four_vc s H K = denFn Tryz.prog wire_four_ann Tryz.f64 (bodyOf Tryz.f64) [.string s] H K := by kernel_rfl
theorem wire_four_fn (s : ByteArray) {H : Heap} {K : Value → Heap → Prop} (h : wire_four_vc s H K) : FnH Tryz.prog 64 #[.string s] H K :=
  denFn_fn Tryz.mixed wire_four_ann Tryz.func64 (bodyOf_spec (by kernel_rfl)) (wire_four_eq s H K) h

/-! function 66: (*logboom/wire.reader).int -/
def wire_reader_int_ann : Anns := { hid := [], loops := [], joins := [((0, 2), { slots := [], kept := [0, 3, 4], locs := [], keptL := [] })], mix := [] }
def wire_reader_int_vc (r : Nat) (ro : Nat) (H : Heap) (K : Value → Heap → Prop) : Prop :=
  ∃ s1 : ByteArray,
  cellH H ⟨r, ro, none⟩ = some (.string s1) ∧
  FnH Tryz.prog 83 #[.string s1] H fun r1 H1 =>
    ∃ n1 : Int,
    ∃ n2 : Int,
    ∃ n3 : Int,
    r1 = .tuple #[.int .i64 n1, .int .i64 n2, .int .i64 n3] ∧
    ∃ J1 : Heap → Prop,
    (∃ b1 : Bool,
    cellH H1 ⟨r, ro + 1, none⟩ = some (.bool b1) ∧
    br (b1) (
      (∃ u, cellH H1 ⟨r, ro + 1, none⟩ = some u) ∧
      frozenH H1 ⟨r, ro + 1, none⟩ = false ∧
      letH (Heap.set H1 ⟨r, ro + 1, none⟩ (.bool ((n3 : Int) == 0))) fun H2 =>
      SelfEq ([.v (.pointer (some ⟨r, ro, none⟩)), .v (.int .i64 n1), .v (.int .i64 n2)], [], []) ∧
      J1 H2)
     (
      (∃ u, cellH H1 ⟨r, ro + 1, none⟩ = some u) ∧
      frozenH H1 ⟨r, ro + 1, none⟩ = false ∧
      letH (Heap.set H1 ⟨r, ro + 1, none⟩ (.bool false)) fun H3 =>
      SelfEq ([.v (.pointer (some ⟨r, ro, none⟩)), .v (.int .i64 n1), .v (.int .i64 n2)], [], []) ∧
      J1 H3)) ∧
    ∀ H4 : Heap,
    J1 H4 →
    ∃ s2 : ByteArray,
    cellH H4 ⟨r, ro, none⟩ = some (.string s2) ∧
    0 ≤ (n2 : Int) ∧
    (n2 : Int) ≤ (s2.size : Nat) ∧
    (∃ u, cellH H4 ⟨r, ro, none⟩ = some u) ∧
    frozenH H4 ⟨r, ro, none⟩ = false ∧
    letH (Heap.set H4 ⟨r, ro, none⟩ (.string (s2.extract (Int.toNat n2) (Int.toNat (s2.size : Nat))))) fun H5 =>
    K (.int .i64 n1) H5
theorem wire_reader_int_eq (r : Nat) (ro : Nat) (H : Heap) (K : Value → Heap → Prop) : wire_reader_int_vc r ro H K = denFn Tryz.prog wire_reader_int_ann Tryz.f66 (bodyOf Tryz.f66) [.pointer (some ⟨r, ro, none⟩)] H K := by kernel_rfl
theorem wire_reader_int_fn (r : Nat) (ro : Nat) {H : Heap} {K : Value → Heap → Prop} (h : wire_reader_int_vc r ro H K) : FnH Tryz.prog 66 #[.pointer (some ⟨r, ro, none⟩)] H K :=
  denFn_fn Tryz.mixed wire_reader_int_ann Tryz.func66 (bodyOf_spec (by kernel_rfl)) (wire_reader_int_eq r ro H K) h

/-! function 67: (*logboom/wire.reader).text -/
def wire_reader_text_ann : Anns := { hid := [], loops := [], joins := [], mix := [] }
def wire_reader_text_vc (r : Nat) (ro : Nat) (most : Int) (H : Heap) (K : Value → Heap → Prop) : Prop :=
  FnH Tryz.prog 66 #[.pointer (some ⟨r, ro, none⟩)] H fun r1 H1 =>
    ∃ n1 : Int,
    r1 = .int .i64 n1 ∧
    ∃ s1 : ByteArray,
    cellH H1 ⟨r, ro, none⟩ = some (.string s1) ∧
    FnH Tryz.prog 84 #[.int .i64 n1, .int .i64 (if ((s1.size : Nat) : Int) < most then ((s1.size : Nat) : Int) else most)] H1 fun r2 H2 =>
      ∃ b1 : Bool,
      r2 = .bool b1 ∧
      br (!b1) (
        (∃ u, cellH H2 ⟨r, ro + 1, none⟩ = some u) ∧
        frozenH H2 ⟨r, ro + 1, none⟩ = false ∧
        letH (Heap.set H2 ⟨r, ro + 1, none⟩ (.bool false)) fun H3 =>
        ∃ s2 : ByteArray,
        cellH H3 ⟨r, ro, none⟩ = some (.string s2) ∧
        0 ≤ (0 : Int) ∧
        (0 : Int) ≤ (s2.size : Nat) ∧
        ∃ s3 : ByteArray,
        cellH H3 ⟨r, ro, none⟩ = some (.string s3) ∧
        0 ≤ (0 : Int) ∧
        (0 : Int) ≤ (s3.size : Nat) ∧
        (∃ u, cellH H3 ⟨r, ro, none⟩ = some u) ∧
        frozenH H3 ⟨r, ro, none⟩ = false ∧
        letH (Heap.set H3 ⟨r, ro, none⟩ (.string (s3.extract (Int.toNat 0) (Int.toNat (s3.size : Nat))))) fun H4 =>
        K (.string (s2.extract (Int.toNat (0 : Int)) (Int.toNat 0))) H4)
       (
        ∃ s4 : ByteArray,
        cellH H2 ⟨r, ro, none⟩ = some (.string s4) ∧
        0 ≤ (n1 : Int) ∧
        (n1 : Int) ≤ (s4.size : Nat) ∧
        ∃ s5 : ByteArray,
        cellH H2 ⟨r, ro, none⟩ = some (.string s5) ∧
        0 ≤ (n1 : Int) ∧
        (n1 : Int) ≤ (s5.size : Nat) ∧
        (∃ u, cellH H2 ⟨r, ro, none⟩ = some u) ∧
        frozenH H2 ⟨r, ro, none⟩ = false ∧
        letH (Heap.set H2 ⟨r, ro, none⟩ (.string (s5.extract (Int.toNat n1) (Int.toNat (s5.size : Nat))))) fun H5 =>
        K (.string (s4.extract (Int.toNat (0 : Int)) (Int.toNat n1))) H5)
theorem wire_reader_text_eq (r : Nat) (ro : Nat) (most : Int) (H : Heap) (K : Value → Heap → Prop) : wire_reader_text_vc r ro most H K = denFn Tryz.prog wire_reader_text_ann Tryz.f67 (bodyOf Tryz.f67) [.pointer (some ⟨r, ro, none⟩), .int .i64 most] H K := by kernel_rfl
theorem wire_reader_text_fn (r : Nat) (ro : Nat) (most : Int) {H : Heap} {K : Value → Heap → Prop} (h : wire_reader_text_vc r ro most H K) : FnH Tryz.prog 67 #[.pointer (some ⟨r, ro, none⟩), .int .i64 most] H K :=
  denFn_fn Tryz.mixed wire_reader_text_ann Tryz.func67 (bodyOf_spec (by kernel_rfl)) (wire_reader_text_eq r ro most H K) h

/-! function 69: logboom/wire.body -/
def wire_body_ann : Anns := { hid := [1, 7], loops := [(0, { slots := [(3, .slice), (22, .int .i64)], kept := [1, 21], locs := [], keptL := [0] }), (2, { slots := [(3, .slice), (32, .int .i64)], kept := [30, 31], locs := [], keptL := [0] })], joins := [], mix := [(10, [3, 6, 9])] }
def wire_body_vc (b_0 : Int) (b_1 : Int) (b_2 : Int) (b_3 : Int) (b_4 : Int) (b_5 : Sl) (H : Heap) (K : Value → Heap → Prop) : Prop :=
  ∃ I1 : Sl → Int → Heap → Prop,
  ∃ M1 : Sl → Int → Heap → Nat,
  I1 ⟨none, 0, 0⟩ 0 H ∧
  ∀ out_1 : Sl,
  ∀ n_1 : Int,
  ∀ H1 : Heap,
  I1 out_1 n_1 H1 →
  br (decide ((n_1 : Int) < 6)) (
    0 ≤ (n_1 : Int) ∧
    (n_1 : Int) < (6 : Nat) ∧
    ∃ n1 : Int,
    (#[.int .i64 b_0, .int .i64 b_1, .int .i64 b_2, .int .i64 b_3, .int .i64 b_4, .int .i64 (b_5.n : Nat)] : Array Value)[Int.toNat n_1]? = some (.int .i64 n1) ∧
    FnH Tryz.prog 85 #[.slice out_1.p out_1.n out_1.c, .int .i64 n1] H1 fun r1 H2 =>
      ∃ l1 : Sl,
      r1 = .slice l1.p l1.n l1.c ∧
      SelfEq ([.loc 0 0, .v (.agg #[.int .i64 b_0, .int .i64 b_1, .int .i64 b_2, .int .i64 b_3, .int .i64 b_4, .int .i64 (b_5.n : Nat)])], [some (40, [.int .i64 b_0, .int .i64 b_1, .int .i64 b_2, .int .i64 b_3, .int .i64 b_4, .slice b_5.p b_5.n b_5.c])], []) ∧
      I1 l1 (IntKind.wrap .i64 (n_1 + 1)) H2 ∧
      M1 l1 (IntKind.wrap .i64 (n_1 + 1)) H2 < M1 out_1 n_1 H1)
   (
    ∃ I2 : Sl → Int → Heap → Prop,
    ∃ M2 : Sl → Int → Heap → Nat,
    I2 out_1 0 H1 ∧
    ∀ out_2 : Sl,
    ∀ n_2 : Int,
    ∀ H3 : Heap,
    I2 out_2 n_2 H3 →
    br (decide ((n_2 : Int) < (b_5.n : Nat))) (
      ∃ q1 : Nat,
      ∃ o1 : Nat,
      (b_5.p : Option Addr) = some ⟨q1, o1, none⟩ ∧
      0 ≤ (n_2 : Int) ∧
      (n_2 : Int) < (b_5.n : Nat) ∧
      ∃ s1 : ByteArray,
      cellH H3 ⟨q1, o1 + Int.toNat n_2 * 3, none⟩ = some (.string s1) ∧
      ∃ s2 : ByteArray,
      cellH H3 ⟨q1, o1 + Int.toNat n_2 * 3 + 1, none⟩ = some (.string s2) ∧
      ∃ n2 : Int,
      cellH H3 ⟨q1, o1 + Int.toNat n_2 * 3 + 2, none⟩ = some (.int .i64 n2) ∧
      (FnH Tryz.prog 85 #[.slice out_2.p out_2.n out_2.c, .int .i64 n2] H3 fun r2 H4 =>
        ∃ l2 : Sl,
        r2 = .slice l2.p l2.n l2.c ∧
        ((FnH Tryz.prog 86 #[.slice l2.p l2.n l2.c, .string s1] H4 fun r3 H5 =>
          ∃ l3 : Sl,
          r3 = .slice l3.p l3.n l3.c ∧
          FnH Tryz.prog 86 #[.slice l3.p l3.n l3.c, .string s2] H5 fun r4 H6 =>
            ∃ l4 : Sl,
            r4 = .slice l4.p l4.n l4.c ∧
            SelfEq ([.v (.slice b_5.p b_5.n b_5.c), .v (.int .i64 (b_5.n : Nat))], [some (40, [.int .i64 b_0, .int .i64 b_1, .int .i64 b_2, .int .i64 b_3, .int .i64 b_4, .slice b_5.p b_5.n b_5.c])], []) ∧
            I2 l4 (IntKind.wrap .i64 (n_2 + 1)) H6 ∧
            M2 l4 (IntKind.wrap .i64 (n_2 + 1)) H6 < M2 out_2 n_2 H3) ∧
        FnH Tryz.prog 86 #[.slice l2.p l2.n l2.c, .string s1] H4 fun r5 H7 =>
          ∃ l5 : Sl,
          r5 = .slice l5.p l5.n l5.c ∧
          FnH Tryz.prog 86 #[.slice l5.p l5.n l5.c, .string s2] H7 fun r6 H8 =>
            ∃ l6 : Sl,
            r6 = .slice l6.p l6.n l6.c ∧
            SelfEq ([.v (.slice b_5.p b_5.n b_5.c), .v (.int .i64 (b_5.n : Nat))], [some (40, [.int .i64 b_0, .int .i64 b_1, .int .i64 b_2, .int .i64 b_3, .int .i64 b_4, .slice b_5.p b_5.n b_5.c])], []) ∧
            I2 l6 (IntKind.wrap .i64 (n_2 + 1)) H8 ∧
            M2 l6 (IntKind.wrap .i64 (n_2 + 1)) H8 < M2 out_2 n_2 H3) ∧
        FnH Tryz.prog 86 #[.slice l2.p l2.n l2.c, .string s1] H4 fun r7 H9 =>
          ∃ l7 : Sl,
          r7 = .slice l7.p l7.n l7.c ∧
          FnH Tryz.prog 86 #[.slice l7.p l7.n l7.c, .string s2] H9 fun r8 H10 =>
            ∃ l8 : Sl,
            r8 = .slice l8.p l8.n l8.c ∧
            SelfEq ([.v (.slice b_5.p b_5.n b_5.c), .v (.int .i64 (b_5.n : Nat))], [some (40, [.int .i64 b_0, .int .i64 b_1, .int .i64 b_2, .int .i64 b_3, .int .i64 b_4, .slice b_5.p b_5.n b_5.c])], []) ∧
            I2 l8 (IntKind.wrap .i64 (n_2 + 1)) H10 ∧
            M2 l8 (IntKind.wrap .i64 (n_2 + 1)) H10 < M2 out_2 n_2 H3) ∧
      (Sub H3 H3 ∧
      (FnH Tryz.prog 85 #[.slice out_2.p out_2.n out_2.c, .int .i64 n2] H3 fun r9 H11 =>
        ∃ l9 : Sl,
        r9 = .slice l9.p l9.n l9.c ∧
        (FnH Tryz.prog 86 #[.slice l9.p l9.n l9.c, .string s1] H11 fun r10 H12 =>
          ∃ l10 : Sl,
          r10 = .slice l10.p l10.n l10.c ∧
          FnH Tryz.prog 86 #[.slice l10.p l10.n l10.c, .string s2] H12 fun r11 H13 =>
            ∃ l11 : Sl,
            r11 = .slice l11.p l11.n l11.c ∧
            SelfEq ([.v (.slice b_5.p b_5.n b_5.c), .v (.int .i64 (b_5.n : Nat))], [some (40, [.int .i64 b_0, .int .i64 b_1, .int .i64 b_2, .int .i64 b_3, .int .i64 b_4, .slice b_5.p b_5.n b_5.c])], []) ∧
            I2 l11 (IntKind.wrap .i64 (n_2 + 1)) H13 ∧
            M2 l11 (IntKind.wrap .i64 (n_2 + 1)) H13 < M2 out_2 n_2 H3) ∧
        FnH Tryz.prog 86 #[.slice l9.p l9.n l9.c, .string s1] H11 fun r12 H14 =>
          ∃ l12 : Sl,
          r12 = .slice l12.p l12.n l12.c ∧
          FnH Tryz.prog 86 #[.slice l12.p l12.n l12.c, .string s2] H14 fun r13 H15 =>
            ∃ l13 : Sl,
            r13 = .slice l13.p l13.n l13.c ∧
            SelfEq ([.v (.slice b_5.p b_5.n b_5.c), .v (.int .i64 (b_5.n : Nat))], [some (40, [.int .i64 b_0, .int .i64 b_1, .int .i64 b_2, .int .i64 b_3, .int .i64 b_4, .slice b_5.p b_5.n b_5.c])], []) ∧
            I2 l13 (IntKind.wrap .i64 (n_2 + 1)) H15 ∧
            M2 l13 (IntKind.wrap .i64 (n_2 + 1)) H15 < M2 out_2 n_2 H3) ∧
      Sub H3 H3 ∧
      FnH Tryz.prog 85 #[.slice out_2.p out_2.n out_2.c, .int .i64 n2] H3 fun r14 H16 =>
        ∃ l14 : Sl,
        r14 = .slice l14.p l14.n l14.c ∧
        FnH Tryz.prog 86 #[.slice l14.p l14.n l14.c, .string s1] H16 fun r15 H17 =>
          ∃ l15 : Sl,
          r15 = .slice l15.p l15.n l15.c ∧
          FnH Tryz.prog 86 #[.slice l15.p l15.n l15.c, .string s2] H17 fun r16 H18 =>
            ∃ l16 : Sl,
            r16 = .slice l16.p l16.n l16.c ∧
            SelfEq ([.v (.slice b_5.p b_5.n b_5.c), .v (.int .i64 (b_5.n : Nat))], [some (40, [.int .i64 b_0, .int .i64 b_1, .int .i64 b_2, .int .i64 b_3, .int .i64 b_4, .slice b_5.p b_5.n b_5.c])], []) ∧
            I2 l16 (IntKind.wrap .i64 (n_2 + 1)) H18 ∧
            M2 l16 (IntKind.wrap .i64 (n_2 + 1)) H18 < M2 out_2 n_2 H3) ∧
      Sub H3 H3 ∧
      (FnH Tryz.prog 85 #[.slice out_2.p out_2.n out_2.c, .int .i64 n2] H3 fun r17 H19 =>
        ∃ l17 : Sl,
        r17 = .slice l17.p l17.n l17.c ∧
        FnH Tryz.prog 86 #[.slice l17.p l17.n l17.c, .string s1] H19 fun r18 H20 =>
          ∃ l18 : Sl,
          r18 = .slice l18.p l18.n l18.c ∧
          FnH Tryz.prog 86 #[.slice l18.p l18.n l18.c, .string s2] H20 fun r19 H21 =>
            ∃ l19 : Sl,
            r19 = .slice l19.p l19.n l19.c ∧
            SelfEq ([.v (.slice b_5.p b_5.n b_5.c), .v (.int .i64 (b_5.n : Nat))], [some (40, [.int .i64 b_0, .int .i64 b_1, .int .i64 b_2, .int .i64 b_3, .int .i64 b_4, .slice b_5.p b_5.n b_5.c])], []) ∧
            I2 l19 (IntKind.wrap .i64 (n_2 + 1)) H21 ∧
            M2 l19 (IntKind.wrap .i64 (n_2 + 1)) H21 < M2 out_2 n_2 H3) ∧
      Sub H3 H3 ∧
      FnH Tryz.prog 85 #[.slice out_2.p out_2.n out_2.c, .int .i64 n2] H3 fun r20 H22 =>
        ∃ l20 : Sl,
        r20 = .slice l20.p l20.n l20.c ∧
        FnH Tryz.prog 86 #[.slice l20.p l20.n l20.c, .string s1] H22 fun r21 H23 =>
          ∃ l21 : Sl,
          r21 = .slice l21.p l21.n l21.c ∧
          FnH Tryz.prog 86 #[.slice l21.p l21.n l21.c, .string s2] H23 fun r22 H24 =>
            ∃ l22 : Sl,
            r22 = .slice l22.p l22.n l22.c ∧
            SelfEq ([.v (.slice b_5.p b_5.n b_5.c), .v (.int .i64 (b_5.n : Nat))], [some (40, [.int .i64 b_0, .int .i64 b_1, .int .i64 b_2, .int .i64 b_3, .int .i64 b_4, .slice b_5.p b_5.n b_5.c])], []) ∧
            I2 l22 (IntKind.wrap .i64 (n_2 + 1)) H24 ∧
            M2 l22 (IntKind.wrap .i64 (n_2 + 1)) H24 < M2 out_2 n_2 H3)
     (
      K (.slice out_2.p out_2.n out_2.c) H3))
theorem wire_body_eq (b_0 : Int) (b_1 : Int) (b_2 : Int) (b_3 : Int) (b_4 : Int) (b_5 : Sl) (H : Heap) (K : Value → Heap → Prop) : wire_body_vc b_0 b_1 b_2 b_3 b_4 b_5 H K = denFn Tryz.prog wire_body_ann Tryz.f69 (bodyOf Tryz.f69) [.agg #[.int .i64 b_0, .int .i64 b_1, .int .i64 b_2, .int .i64 b_3, .int .i64 b_4, .slice b_5.p b_5.n b_5.c]] H K := by kernel_rfl
theorem wire_body_fn (b_0 : Int) (b_1 : Int) (b_2 : Int) (b_3 : Int) (b_4 : Int) (b_5 : Sl) {H : Heap} {K : Value → Heap → Prop} (h : wire_body_vc b_0 b_1 b_2 b_3 b_4 b_5 H K) : FnH Tryz.prog 69 #[.agg #[.int .i64 b_0, .int .i64 b_1, .int .i64 b_2, .int .i64 b_3, .int .i64 b_4, .slice b_5.p b_5.n b_5.c]] H K :=
  denFn_fn Tryz.mixed wire_body_ann Tryz.func69 (bodyOf_spec (by kernel_rfl)) (wire_body_eq b_0 b_1 b_2 b_3 b_4 b_5 H K) h

/-! function 70: logboom/wire.appendFour -/
def wire_appendFour_ann : Anns := { hid := [], loops := [], joins := [], mix := [] }
def wire_appendFour_vc (b : Sl) (n : Int) (H : Heap) (K : Value → Heap → Prop) : Prop :=
  ∀ q1 : Nat,
  H q1 = none →
  letH (Heap.upd H q1 (.cells #[.int .u8 (IntKind.wrap .u8 (shrI .i64 n 24)), .int .u8 (IntKind.wrap .u8 (shrI .i64 n 16)), .int .u8 (IntKind.wrap .u8 (shrI .i64 n 8)), .int .u8 (IntKind.wrap .u8 n)] 5 (0, 0))) fun H1 =>
  runH Tryz.prog (Builtin.append_ #[112, 112] 112 #[.slice b.p b.n b.c, .slice (some ⟨q1, 0, none⟩) 4 4]) H1 fun r1 H2 =>
    ∃ l1 : Sl,
    r1 = .slice l1.p l1.n l1.c ∧
    K (.slice l1.p l1.n l1.c) H2
theorem wire_appendFour_eq (b : Sl) (n : Int) (H : Heap) (K : Value → Heap → Prop) : wire_appendFour_vc b n H K = denFn Tryz.prog wire_appendFour_ann Tryz.f70 (bodyOf Tryz.f70) [.slice b.p b.n b.c, .int .i64 n] H K := by kernel_rfl
theorem wire_appendFour_fn (b : Sl) (n : Int) {H : Heap} {K : Value → Heap → Prop} (h : wire_appendFour_vc b n H K) : FnH Tryz.prog 70 #[.slice b.p b.n b.c, .int .i64 n] H K :=
  denFn_fn Tryz.mixed wire_appendFour_ann Tryz.func70 (bodyOf_spec (by kernel_rfl)) (wire_appendFour_eq b n H K) h

/-! function 84: logboom/wire.within -/
def wire_within_ann : Anns := { hid := [], loops := [], joins := [], mix := [] }
def wire_within_vc (n : Int) (most : Int) (H : Heap) (K : Value → Heap → Prop) : Prop :=
  br (decide ((n : Int) ≥ 0)) (
    K (.bool (decide ((n : Int) ≤ most))) H)
   (
    K (.bool false) H)
theorem wire_within_eq (n : Int) (most : Int) (H : Heap) (K : Value → Heap → Prop) : wire_within_vc n most H K = denFn Tryz.prog wire_within_ann Tryz.f84 (bodyOf Tryz.f84) [.int .i64 n, .int .i64 most] H K := by kernel_rfl
theorem wire_within_fn (n : Int) (most : Int) {H : Heap} {K : Value → Heap → Prop} (h : wire_within_vc n most H K) : FnH Tryz.prog 84 #[.int .i64 n, .int .i64 most] H K :=
  denFn_fn Tryz.mixed wire_within_ann Tryz.func84 (bodyOf_spec (by kernel_rfl)) (wire_within_eq n most H K) h

end Go.Proofs.YtokceblmbmajgaaGreatDoor
