/- Formulas of functions, printed by this session's vc.py; each is tied to the program by the kernel. -/
import Derived.Test.YtcbobncipnjbjaaDoorProg
import Derived.KernelRfl
import Derived.Test.YtcbobncipnjbjaaDoorHlFn
import Derived.Test.YtcbobncipnjbjaaDoorV3
namespace Go.Proofs.YtcbobncipnjbjaaDoor
open Go.HL
set_option maxRecDepth 100000
/-! function 47: logboom/logboomref15.right -/
def logboomref15_right_ann : Anns := { hid := [], loops := [(0, { slots := [(3, .int .i64)], kept := [0], locs := [], keptL := [] })], joins := [], mix := [] }
def logboomref15_right_vc (s : ByteArray) (H : Heap) (K : Value → Heap → Prop) : Prop :=
  br (decide (((s.size : Nat) : Int) < 1)) (
    K (.bool false) H)
   (
    br (decide (((s.size : Nat) : Int) > 32)) (
      K (.bool false) H)
     (
      ∃ I1 : Int → Heap → Prop,
      ∃ M1 : Int → Heap → Nat,
      I1 0 H ∧
      ∀ i_1 : Int,
      ∀ H1 : Heap,
      I1 i_1 H1 →
      br (decide ((i_1 : Int) < (s.size : Nat))) (
        0 ≤ (i_1 : Int) ∧
        ∃ c1 : UInt8,
        s[Int.toNat i_1]? = some c1 ∧
        br (decide (((c1.toNat : Int) : Int) < 97)) (
          0 ≤ (i_1 : Int) ∧
          ∃ c2 : UInt8,
          s[Int.toNat i_1]? = some c2 ∧
          br (decide (((c2.toNat : Int) : Int) < 48)) (
            0 ≤ (i_1 : Int) ∧
            ∃ c3 : UInt8,
            s[Int.toNat i_1]? = some c3 ∧
            br (((c3.toNat : Int) : Int) != 45) (
              K (.bool false) H1)
             (
              SelfEq ([.v (.string s)], [], []) ∧
              I1 (IntKind.wrap .i64 (i_1 + 1)) H1 ∧
              M1 (IntKind.wrap .i64 (i_1 + 1)) H1 < M1 i_1 H1))
           (
            0 ≤ (i_1 : Int) ∧
            ∃ c4 : UInt8,
            s[Int.toNat i_1]? = some c4 ∧
            br (decide (((c4.toNat : Int) : Int) > 57)) (
              0 ≤ (i_1 : Int) ∧
              ∃ c5 : UInt8,
              s[Int.toNat i_1]? = some c5 ∧
              br (((c5.toNat : Int) : Int) != 45) (
                K (.bool false) H1)
               (
                SelfEq ([.v (.string s)], [], []) ∧
                I1 (IntKind.wrap .i64 (i_1 + 1)) H1 ∧
                M1 (IntKind.wrap .i64 (i_1 + 1)) H1 < M1 i_1 H1))
             (
              SelfEq ([.v (.string s)], [], []) ∧
              I1 (IntKind.wrap .i64 (i_1 + 1)) H1 ∧
              M1 (IntKind.wrap .i64 (i_1 + 1)) H1 < M1 i_1 H1)))
         (
          0 ≤ (i_1 : Int) ∧
          ∃ c6 : UInt8,
          s[Int.toNat i_1]? = some c6 ∧
          br (decide (((c6.toNat : Int) : Int) > 122)) (
            0 ≤ (i_1 : Int) ∧
            ∃ c7 : UInt8,
            s[Int.toNat i_1]? = some c7 ∧
            br (decide (((c7.toNat : Int) : Int) < 48)) (
              0 ≤ (i_1 : Int) ∧
              ∃ c8 : UInt8,
              s[Int.toNat i_1]? = some c8 ∧
              br (((c8.toNat : Int) : Int) != 45) (
                K (.bool false) H1)
               (
                SelfEq ([.v (.string s)], [], []) ∧
                I1 (IntKind.wrap .i64 (i_1 + 1)) H1 ∧
                M1 (IntKind.wrap .i64 (i_1 + 1)) H1 < M1 i_1 H1))
             (
              0 ≤ (i_1 : Int) ∧
              ∃ c9 : UInt8,
              s[Int.toNat i_1]? = some c9 ∧
              br (decide (((c9.toNat : Int) : Int) > 57)) (
                0 ≤ (i_1 : Int) ∧
                ∃ c10 : UInt8,
                s[Int.toNat i_1]? = some c10 ∧
                br (((c10.toNat : Int) : Int) != 45) (
                  K (.bool false) H1)
                 (
                  SelfEq ([.v (.string s)], [], []) ∧
                  I1 (IntKind.wrap .i64 (i_1 + 1)) H1 ∧
                  M1 (IntKind.wrap .i64 (i_1 + 1)) H1 < M1 i_1 H1))
               (
                SelfEq ([.v (.string s)], [], []) ∧
                I1 (IntKind.wrap .i64 (i_1 + 1)) H1 ∧
                M1 (IntKind.wrap .i64 (i_1 + 1)) H1 < M1 i_1 H1)))
           (
            SelfEq ([.v (.string s)], [], []) ∧
            I1 (IntKind.wrap .i64 (i_1 + 1)) H1 ∧
            M1 (IntKind.wrap .i64 (i_1 + 1)) H1 < M1 i_1 H1)))
       (
        K (.bool true) H1)))
theorem logboomref15_right_eq (s : ByteArray) (H : Heap) (K : Value → Heap → Prop) : logboomref15_right_vc s H K = denFn Tryd.prog logboomref15_right_ann Tryd.f47 (bodyOf Tryd.f47) [.string s] H K := by kernel_rfl
theorem logboomref15_right_fn (s : ByteArray) {H : Heap} {K : Value → Heap → Prop} (h : logboomref15_right_vc s H K) : FnH Tryd.prog 47 #[.string s] H K :=
  denFn_fn Tryd.mixed logboomref15_right_ann Tryd.func47 (bodyOf_spec (by kernel_rfl)) (logboomref15_right_eq s H K) h

/-! function 35: (*logboom/logboomref15.Groups).Find -/
def logboomref15_Groups_Find_ann : Anns := { hid := [], loops := [(0, { slots := [(5, .int .i64)], kept := [0, 1], locs := [], keptL := [] })], joins := [], mix := [] }
def logboomref15_Groups_Find_vc (g : Nat) (go : Nat) (name : ByteArray) (H : Heap) (K : Value → Heap → Prop) : Prop :=
  ∃ I1 : Int → Heap → Prop,
  ∃ M1 : Int → Heap → Nat,
  I1 0 H ∧
  ∀ i_1 : Int,
  ∀ H1 : Heap,
  I1 i_1 H1 →
  ∃ l1 : Sl,
  cellH H1 ⟨g, go, none⟩ = some (.slice l1.p l1.n l1.c) ∧
  br (decide ((i_1 : Int) < (l1.n : Nat))) (
    ∃ l2 : Sl,
    cellH H1 ⟨g, go, none⟩ = some (.slice l2.p l2.n l2.c) ∧
    ∃ q1 : Nat,
    ∃ o1 : Nat,
    (l2.p : Option Addr) = some ⟨q1, o1, none⟩ ∧
    0 ≤ (i_1 : Int) ∧
    (i_1 : Int) < (l2.n : Nat) ∧
    ∃ p1 : Option Addr,
    cellH H1 ⟨q1, o1 + Int.toNat i_1, none⟩ = some (.pointer p1) ∧
    ptrm p1 fun q2 o2 =>
    ∃ s1 : ByteArray,
    cellH H1 ⟨q2, o2, none⟩ = some (.string s1) ∧
    br (s1.toList == name.toList) (
      ∃ l3 : Sl,
      cellH H1 ⟨g, go, none⟩ = some (.slice l3.p l3.n l3.c) ∧
      ∃ q3 : Nat,
      ∃ o3 : Nat,
      (l3.p : Option Addr) = some ⟨q3, o3, none⟩ ∧
      0 ≤ (i_1 : Int) ∧
      (i_1 : Int) < (l3.n : Nat) ∧
      ∃ p2 : Option Addr,
      cellH H1 ⟨q3, o3 + Int.toNat i_1, none⟩ = some (.pointer p2) ∧
      K (.pointer p2) H1)
     (
      SelfEq ([.v (.pointer (some ⟨g, go, none⟩)), .v (.string name)], [], []) ∧
      I1 (IntKind.wrap .i64 (i_1 + 1)) H1 ∧
      M1 (IntKind.wrap .i64 (i_1 + 1)) H1 < M1 i_1 H1))
   (
    K (.pointer none) H1)
theorem logboomref15_Groups_Find_eq (g : Nat) (go : Nat) (name : ByteArray) (H : Heap) (K : Value → Heap → Prop) : logboomref15_Groups_Find_vc g go name H K = denFn Tryd.prog logboomref15_Groups_Find_ann Tryd.f35 (bodyOf Tryd.f35) [.pointer (some ⟨g, go, none⟩), .string name] H K := by kernel_rfl
theorem logboomref15_Groups_Find_fn (g : Nat) (go : Nat) (name : ByteArray) {H : Heap} {K : Value → Heap → Prop} (h : logboomref15_Groups_Find_vc g go name H K) : FnH Tryd.prog 35 #[.pointer (some ⟨g, go, none⟩), .string name] H K :=
  denFn_fn Tryd.mixed logboomref15_Groups_Find_ann Tryd.func35 (bodyOf_spec (by kernel_rfl)) (logboomref15_Groups_Find_eq g go name H K) h

/-! function 37: logboom/logboomref15.has -/
def logboomref15_has_ann : Anns := { hid := [], loops := [(0, { slots := [(5, .int .i64)], kept := [0, 1], locs := [], keptL := [] })], joins := [], mix := [] }
def logboomref15_has_vc (l : Sl) (x : Int) (H : Heap) (K : Value → Heap → Prop) : Prop :=
  ∃ I1 : Int → Heap → Prop,
  ∃ M1 : Int → Heap → Nat,
  I1 0 H ∧
  ∀ i_1 : Int,
  ∀ H1 : Heap,
  I1 i_1 H1 →
  br (decide ((i_1 : Int) < (l.n : Nat))) (
    ∃ q1 : Nat,
    ∃ o1 : Nat,
    (l.p : Option Addr) = some ⟨q1, o1, none⟩ ∧
    0 ≤ (i_1 : Int) ∧
    (i_1 : Int) < (l.n : Nat) ∧
    ∃ n1 : Int,
    cellH H1 ⟨q1, o1 + Int.toNat i_1, none⟩ = some (.int .i64 n1) ∧
    br ((n1 : Int) == x) (
      K (.bool true) H1)
     (
      SelfEq ([.v (.slice l.p l.n l.c), .v (.int .i64 x)], [], []) ∧
      I1 (IntKind.wrap .i64 (i_1 + 1)) H1 ∧
      M1 (IntKind.wrap .i64 (i_1 + 1)) H1 < M1 i_1 H1))
   (
    K (.bool false) H1)
theorem logboomref15_has_eq (l : Sl) (x : Int) (H : Heap) (K : Value → Heap → Prop) : logboomref15_has_vc l x H K = denFn Tryd.prog logboomref15_has_ann Tryd.f37 (bodyOf Tryd.f37) [.slice l.p l.n l.c, .int .i64 x] H K := by kernel_rfl
theorem logboomref15_has_fn (l : Sl) (x : Int) {H : Heap} {K : Value → Heap → Prop} (h : logboomref15_has_vc l x H K) : FnH Tryd.prog 37 #[.slice l.p l.n l.c, .int .i64 x] H K :=
  denFn_fn Tryd.mixed logboomref15_has_ann Tryd.func37 (bodyOf_spec (by kernel_rfl)) (logboomref15_has_eq l x H K) h

/-! function 38: (*logboom/logboomref15.Group).parts -/
def logboomref15_Group_parts_ann : Anns := { hid := [], loops := [(0, { slots := [(6, .int .i64)], kept := [0, 1, 5], locs := [], keptL := [] })], joins := [], mix := [(1, [])] }
def logboomref15_Group_parts_vc (x : Nat) (xo : Nat) (member : Int) (H : Heap) (K : Value → Heap → Prop) : Prop :=
  ∃ l1 : Sl,
  cellH H ⟨x, xo + 3, none⟩ = some (.slice l1.p l1.n l1.c) ∧
  ∃ l2 : Sl,
  cellH H ⟨x, xo + 4, none⟩ = some (.slice l2.p l2.n l2.c) ∧
  FnH Tryd.prog 11 #[.slice l1.p l1.n l1.c, .slice l2.p l2.n l2.c] H fun r1 H1 =>
    ∃ l3 : Sl,
    r1 = .slice l3.p l3.n l3.c ∧
    Sub H H1 ∧
    ∃ I1 : Int → Heap → Prop,
    ∃ M1 : Int → Heap → Nat,
    I1 0 H1 ∧
    ∀ i_1 : Int,
    ∀ H2 : Heap,
    I1 i_1 H2 →
    ∃ l4 : Sl,
    cellH H2 ⟨x, xo + 3, none⟩ = some (.slice l4.p l4.n l4.c) ∧
    br (decide ((i_1 : Int) < (l4.n : Nat))) (
      ∃ l5 : Sl,
      cellH H2 ⟨x, xo + 3, none⟩ = some (.slice l5.p l5.n l5.c) ∧
      ∃ q1 : Nat,
      ∃ o1 : Nat,
      (l5.p : Option Addr) = some ⟨q1, o1, none⟩ ∧
      0 ≤ (i_1 : Int) ∧
      (i_1 : Int) < (l5.n : Nat) ∧
      ∃ n1 : Int,
      cellH H2 ⟨q1, o1 + Int.toNat i_1, none⟩ = some (.int .i64 n1) ∧
      br ((n1 : Int) == member) (
        ∃ q2 : Nat,
        ∃ o2 : Nat,
        (l3.p : Option Addr) = some ⟨q2, o2, none⟩ ∧
        0 ≤ (i_1 : Int) ∧
        (i_1 : Int) < (l3.n : Nat) ∧
        ∃ l6 : Sl,
        cellH H2 ⟨q2, o2 + Int.toNat i_1, none⟩ = some (.slice l6.p l6.n l6.c) ∧
        K (.slice l6.p l6.n l6.c) H2)
       (
        SelfEq ([.v (.pointer (some ⟨x, xo, none⟩)), .v (.int .i64 member), .v (.slice l3.p l3.n l3.c)], [], []) ∧
        I1 (IntKind.wrap .i64 (i_1 + 1)) H2 ∧
        M1 (IntKind.wrap .i64 (i_1 + 1)) H2 < M1 i_1 H2))
     (
      K (.slice none 0 0) H2)
theorem logboomref15_Group_parts_eq (x : Nat) (xo : Nat) (member : Int) (H : Heap) (K : Value → Heap → Prop) : logboomref15_Group_parts_vc x xo member H K = denFn Tryd.prog logboomref15_Group_parts_ann Tryd.f38 (bodyOf Tryd.f38) [.pointer (some ⟨x, xo, none⟩), .int .i64 member] H K := by kernel_rfl
theorem logboomref15_Group_parts_fn (x : Nat) (xo : Nat) (member : Int) {H : Heap} {K : Value → Heap → Prop} (h : logboomref15_Group_parts_vc x xo member H K) : FnH Tryd.prog 38 #[.pointer (some ⟨x, xo, none⟩), .int .i64 member] H K :=
  denFn_fn Tryd.mixed logboomref15_Group_parts_ann Tryd.func38 (bodyOf_spec (by kernel_rfl)) (logboomref15_Group_parts_eq x xo member H K) h

/-! function 40: (*logboom/logboomref15.Group).Owner -/
def logboomref15_Group_Owner_ann : Anns := { hid := [], loops := [(0, { slots := [(5, .int .i64)], kept := [0, 1], locs := [], keptL := [] })], joins := [], mix := [] }
def logboomref15_Group_Owner_vc (x : Nat) (xo : Nat) (part : Int) (H : Heap) (K : Value → Heap → Prop) : Prop :=
  ∃ I1 : Int → Heap → Prop,
  ∃ M1 : Int → Heap → Nat,
  I1 0 H ∧
  ∀ i_1 : Int,
  ∀ H1 : Heap,
  I1 i_1 H1 →
  ∃ l1 : Sl,
  cellH H1 ⟨x, xo + 3, none⟩ = some (.slice l1.p l1.n l1.c) ∧
  br (decide ((i_1 : Int) < (l1.n : Nat))) (
    ∃ l2 : Sl,
    cellH H1 ⟨x, xo + 3, none⟩ = some (.slice l2.p l2.n l2.c) ∧
    ∃ q1 : Nat,
    ∃ o1 : Nat,
    (l2.p : Option Addr) = some ⟨q1, o1, none⟩ ∧
    0 ≤ (i_1 : Int) ∧
    (i_1 : Int) < (l2.n : Nat) ∧
    ∃ n1 : Int,
    cellH H1 ⟨q1, o1 + Int.toNat i_1, none⟩ = some (.int .i64 n1) ∧
    FnH Tryd.prog 38 #[.pointer (some ⟨x, xo, none⟩), .int .i64 n1] H1 fun r1 H2 =>
      ∃ l3 : Sl,
      r1 = .slice l3.p l3.n l3.c ∧
      FnH Tryd.prog 37 #[.slice l3.p l3.n l3.c, .int .i64 part] H2 fun r2 H3 =>
        ∃ b1 : Bool,
        r2 = .bool b1 ∧
        br (b1) (
          ∃ l4 : Sl,
          cellH H3 ⟨x, xo + 3, none⟩ = some (.slice l4.p l4.n l4.c) ∧
          ∃ q2 : Nat,
          ∃ o2 : Nat,
          (l4.p : Option Addr) = some ⟨q2, o2, none⟩ ∧
          0 ≤ (i_1 : Int) ∧
          (i_1 : Int) < (l4.n : Nat) ∧
          ∃ n2 : Int,
          cellH H3 ⟨q2, o2 + Int.toNat i_1, none⟩ = some (.int .i64 n2) ∧
          K (.int .i64 n2) H3)
         (
          SelfEq ([.v (.pointer (some ⟨x, xo, none⟩)), .v (.int .i64 part)], [], []) ∧
          I1 (IntKind.wrap .i64 (i_1 + 1)) H3 ∧
          M1 (IntKind.wrap .i64 (i_1 + 1)) H3 < M1 i_1 H1))
   (
    K (.int .i64 0) H1)
theorem logboomref15_Group_Owner_eq (x : Nat) (xo : Nat) (part : Int) (H : Heap) (K : Value → Heap → Prop) : logboomref15_Group_Owner_vc x xo part H K = denFn Tryd.prog logboomref15_Group_Owner_ann Tryd.f40 (bodyOf Tryd.f40) [.pointer (some ⟨x, xo, none⟩), .int .i64 part] H K := by kernel_rfl
theorem logboomref15_Group_Owner_fn (x : Nat) (xo : Nat) (part : Int) {H : Heap} {K : Value → Heap → Prop} (h : logboomref15_Group_Owner_vc x xo part H K) : FnH Tryd.prog 40 #[.pointer (some ⟨x, xo, none⟩), .int .i64 part] H K :=
  denFn_fn Tryd.mixed logboomref15_Group_Owner_ann Tryd.func40 (bodyOf_spec (by kernel_rfl)) (logboomref15_Group_Owner_eq x xo part H K) h

/-! function 36: (*logboom/logboomref15.Group).Offset -/
def logboomref15_Group_Offset_ann : Anns := { hid := [], loops := [(0, { slots := [(5, .int .i64)], kept := [0, 1], locs := [], keptL := [] })], joins := [], mix := [] }
def logboomref15_Group_Offset_vc (x : Nat) (xo : Nat) (part : Int) (H : Heap) (K : Value → Heap → Prop) : Prop :=
  ∃ I1 : Int → Heap → Prop,
  ∃ M1 : Int → Heap → Nat,
  I1 0 H ∧
  ∀ i_1 : Int,
  ∀ H1 : Heap,
  I1 i_1 H1 →
  ∃ l1 : Sl,
  cellH H1 ⟨x, xo + 5, none⟩ = some (.slice l1.p l1.n l1.c) ∧
  br (decide ((i_1 : Int) < (l1.n : Nat))) (
    ∃ l2 : Sl,
    cellH H1 ⟨x, xo + 5, none⟩ = some (.slice l2.p l2.n l2.c) ∧
    ∃ q1 : Nat,
    ∃ o1 : Nat,
    (l2.p : Option Addr) = some ⟨q1, o1, none⟩ ∧
    0 ≤ (i_1 : Int) ∧
    (i_1 : Int) < (l2.n : Nat) ∧
    ∃ n1 : Int,
    cellH H1 ⟨q1, o1 + Int.toNat i_1 * 2, none⟩ = some (.int .i64 n1) ∧
    br ((n1 : Int) == part) (
      ∃ l3 : Sl,
      cellH H1 ⟨x, xo + 5, none⟩ = some (.slice l3.p l3.n l3.c) ∧
      ∃ q2 : Nat,
      ∃ o2 : Nat,
      (l3.p : Option Addr) = some ⟨q2, o2, none⟩ ∧
      0 ≤ (i_1 : Int) ∧
      (i_1 : Int) < (l3.n : Nat) ∧
      ∃ n2 : Int,
      cellH H1 ⟨q2, o2 + Int.toNat i_1 * 2 + 1, none⟩ = some (.int .i64 n2) ∧
      K (.int .i64 n2) H1)
     (
      SelfEq ([.v (.pointer (some ⟨x, xo, none⟩)), .v (.int .i64 part)], [], []) ∧
      I1 (IntKind.wrap .i64 (i_1 + 1)) H1 ∧
      M1 (IntKind.wrap .i64 (i_1 + 1)) H1 < M1 i_1 H1))
   (
    K (.int .i64 (-1)) H1)
theorem logboomref15_Group_Offset_eq (x : Nat) (xo : Nat) (part : Int) (H : Heap) (K : Value → Heap → Prop) : logboomref15_Group_Offset_vc x xo part H K = denFn Tryd.prog logboomref15_Group_Offset_ann Tryd.f36 (bodyOf Tryd.f36) [.pointer (some ⟨x, xo, none⟩), .int .i64 part] H K := by kernel_rfl
theorem logboomref15_Group_Offset_fn (x : Nat) (xo : Nat) (part : Int) {H : Heap} {K : Value → Heap → Prop} (h : logboomref15_Group_Offset_vc x xo part H K) : FnH Tryd.prog 36 #[.pointer (some ⟨x, xo, none⟩), .int .i64 part] H K :=
  denFn_fn Tryd.mixed logboomref15_Group_Offset_ann Tryd.func36 (bodyOf_spec (by kernel_rfl)) (logboomref15_Group_Offset_eq x xo part H K) h

/-! function 39: (*logboom/logboomref15.Group).number -/
def logboomref15_Group_number_ann : Anns := { hid := [], loops := [(0, { slots := [(5, .int .i64), (6, .int .i64)], kept := [0, 1], locs := [], keptL := [] })], joins := [], mix := [] }
def logboomref15_Group_number_vc (x : Nat) (xo : Nat) (member : Int) (H : Heap) (K : Value → Heap → Prop) : Prop :=
  ∃ I1 : Int → Int → Heap → Prop,
  ∃ M1 : Int → Int → Heap → Nat,
  I1 (-1) 0 H ∧
  ∀ n_1 : Int,
  ∀ i_1 : Int,
  ∀ H1 : Heap,
  I1 n_1 i_1 H1 →
  ∃ l1 : Sl,
  cellH H1 ⟨x, xo + 6, none⟩ = some (.slice l1.p l1.n l1.c) ∧
  br (decide ((i_1 : Int) < (l1.n : Nat))) (
    ∃ l2 : Sl,
    cellH H1 ⟨x, xo + 6, none⟩ = some (.slice l2.p l2.n l2.c) ∧
    ∃ q1 : Nat,
    ∃ o1 : Nat,
    (l2.p : Option Addr) = some ⟨q1, o1, none⟩ ∧
    0 ≤ (i_1 : Int) ∧
    (i_1 : Int) < (l2.n : Nat) ∧
    ∃ n1 : Int,
    cellH H1 ⟨q1, o1 + Int.toNat i_1 * 2, none⟩ = some (.int .i64 n1) ∧
    br ((n1 : Int) == member) (
      ∃ l3 : Sl,
      cellH H1 ⟨x, xo + 6, none⟩ = some (.slice l3.p l3.n l3.c) ∧
      ∃ q2 : Nat,
      ∃ o2 : Nat,
      (l3.p : Option Addr) = some ⟨q2, o2, none⟩ ∧
      0 ≤ (i_1 : Int) ∧
      (i_1 : Int) < (l3.n : Nat) ∧
      ∃ n2 : Int,
      cellH H1 ⟨q2, o2 + Int.toNat i_1 * 2 + 1, none⟩ = some (.int .i64 n2) ∧
      SelfEq ([.v (.pointer (some ⟨x, xo, none⟩)), .v (.int .i64 member)], [], []) ∧
      I1 n2 (IntKind.wrap .i64 (i_1 + 1)) H1 ∧
      M1 n2 (IntKind.wrap .i64 (i_1 + 1)) H1 < M1 n_1 i_1 H1)
     (
      SelfEq ([.v (.pointer (some ⟨x, xo, none⟩)), .v (.int .i64 member)], [], []) ∧
      I1 n_1 (IntKind.wrap .i64 (i_1 + 1)) H1 ∧
      M1 n_1 (IntKind.wrap .i64 (i_1 + 1)) H1 < M1 n_1 i_1 H1))
   (
    K (.int .i64 n_1) H1)
theorem logboomref15_Group_number_eq (x : Nat) (xo : Nat) (member : Int) (H : Heap) (K : Value → Heap → Prop) : logboomref15_Group_number_vc x xo member H K = denFn Tryd.prog logboomref15_Group_number_ann Tryd.f39 (bodyOf Tryd.f39) [.pointer (some ⟨x, xo, none⟩), .int .i64 member] H K := by kernel_rfl
theorem logboomref15_Group_number_fn (x : Nat) (xo : Nat) (member : Int) {H : Heap} {K : Value → Heap → Prop} (h : logboomref15_Group_number_vc x xo member H K) : FnH Tryd.prog 39 #[.pointer (some ⟨x, xo, none⟩), .int .i64 member] H K :=
  denFn_fn Tryd.mixed logboomref15_Group_number_ann Tryd.func39 (bodyOf_spec (by kernel_rfl)) (logboomref15_Group_number_eq x xo member H K) h

/-! function 21: logboom/logboomlaw15.same -/
def logboomlaw15_same_ann : Anns := { hid := [2, 3], loops := [], joins := [], mix := [] }
def logboomlaw15_same_vc (a_0 : Int) (a_1 : Int) (a_2 : Int) (a_3 : Int) (a_4 : Sl) (b_0 : Int) (b_1 : Int) (b_2 : Int) (b_3 : Int) (b_4 : Sl) (H : Heap) (K : Value → Heap → Prop) : Prop :=
  FnH Tryd.prog 12 #[.slice a_4.p a_4.n a_4.c, .slice b_4.p b_4.n b_4.c] H fun r1 H1 =>
    ∃ b1 : Bool,
    r1 = .bool b1 ∧
    br (b1) (
      br ((a_0 : Int) == b_0) (
        br ((a_1 : Int) == b_1) (
          br ((a_2 : Int) == b_2) (
            K (.bool ((a_3 : Int) == b_3)) H1)
           (
            K (.bool false) H1))
         (
          K (.bool false) H1))
       (
        K (.bool false) H1))
     (
      K (.bool false) H1)
theorem logboomlaw15_same_eq (a_0 : Int) (a_1 : Int) (a_2 : Int) (a_3 : Int) (a_4 : Sl) (b_0 : Int) (b_1 : Int) (b_2 : Int) (b_3 : Int) (b_4 : Sl) (H : Heap) (K : Value → Heap → Prop) : logboomlaw15_same_vc a_0 a_1 a_2 a_3 a_4 b_0 b_1 b_2 b_3 b_4 H K = denFn Tryd.prog logboomlaw15_same_ann Tryd.f21 (bodyOf Tryd.f21) [.agg #[.int .i64 a_0, .int .i64 a_1, .int .i64 a_2, .int .i64 a_3, .slice a_4.p a_4.n a_4.c], .agg #[.int .i64 b_0, .int .i64 b_1, .int .i64 b_2, .int .i64 b_3, .slice b_4.p b_4.n b_4.c]] H K := by kernel_rfl
theorem logboomlaw15_same_fn (a_0 : Int) (a_1 : Int) (a_2 : Int) (a_3 : Int) (a_4 : Sl) (b_0 : Int) (b_1 : Int) (b_2 : Int) (b_3 : Int) (b_4 : Sl) {H : Heap} {K : Value → Heap → Prop} (h : logboomlaw15_same_vc a_0 a_1 a_2 a_3 a_4 b_0 b_1 b_2 b_3 b_4 H K) : FnH Tryd.prog 21 #[.agg #[.int .i64 a_0, .int .i64 a_1, .int .i64 a_2, .int .i64 a_3, .slice a_4.p a_4.n a_4.c], .agg #[.int .i64 b_0, .int .i64 b_1, .int .i64 b_2, .int .i64 b_3, .slice b_4.p b_4.n b_4.c]] H K :=
  denFn_fn Tryd.mixed logboomlaw15_same_ann Tryd.func21 (bodyOf_spec (by kernel_rfl)) (logboomlaw15_same_eq a_0 a_1 a_2 a_3 a_4 b_0 b_1 b_2 b_3 b_4 H K) h

/-! function 41: (*logboom/groups.Groups).Names -/
def groups_Groups_Names_ann : Anns := { hid := [], loops := [], joins := [], mix := [] }
def groups_Groups_Names_vc (g : Nat) (go : Nat) (H : Heap) (K : Value → Heap → Prop) : Prop :=
  ∃ m1 : Option Nat,
  cellH H ⟨g, go, none⟩ = some (.map m1) ∧
  FnH Tryd.prog 49 #[.map m1] H fun r1 H1 =>
    ∃ v1 : Value,
    r1 = v1 ∧
    FnH Tryd.prog 48 #[v1] H1 fun r2 H2 =>
      ∃ l1 : Sl,
      r2 = .slice l1.p l1.n l1.c ∧
      K (.slice l1.p l1.n l1.c) H2
theorem groups_Groups_Names_eq (g : Nat) (go : Nat) (H : Heap) (K : Value → Heap → Prop) : groups_Groups_Names_vc g go H K = denFn Tryd.prog groups_Groups_Names_ann Tryd.f41 (bodyOf Tryd.f41) [.pointer (some ⟨g, go, none⟩)] H K := by kernel_rfl
theorem groups_Groups_Names_fn (g : Nat) (go : Nat) {H : Heap} {K : Value → Heap → Prop} (h : groups_Groups_Names_vc g go H K) : FnH Tryd.prog 41 #[.pointer (some ⟨g, go, none⟩)] H K :=
  denFn_fn Tryd.mixed groups_Groups_Names_ann Tryd.func41 (bodyOf_spec (by kernel_rfl)) (groups_Groups_Names_eq g go H K) h

end Go.Proofs.YtcbobncipnjbjaaDoor
