/- Formulas of functions, printed by this session's vc.py; each is tied to the program by the kernel. -/
import Derived.Test.YtcbobncipnjbjaaDoorProg
import Derived.KernelRfl
import Derived.Test.YtcbobncipnjbjaaDoorHlFn
namespace Go.Proofs.YtcbobncipnjbjaaDoor
open Go.HL
set_option maxRecDepth 100000
theorem Tryd.mixed : Tryd.prog.follows .mixedOrders = true := by kernel_rfl
/-! function 10: logboom/groups.Assign -/
def groups_Assign_ann : Anns := { hid := [], loops := [(0, { slots := [(1, .slice), (5, .slice), (10, .int .i64)], kept := [0, 9], locs := [], keptL := [] })], joins := [], mix := [] }
def groups_Assign_vc (members : Sl) (parts : Sl) (H : Heap) (K : Value → Heap → Prop) : Prop :=
  ∃ I1 : Sl → Sl → Int → Heap → Prop,
  ∃ M1 : Sl → Sl → Int → Heap → Nat,
  I1 parts ⟨none, 0, 0⟩ 0 H ∧
  ∀ parts_1 : Sl,
  ∀ l_1 : Sl,
  ∀ n_1 : Int,
  ∀ H1 : Heap,
  I1 parts_1 l_1 n_1 H1 →
  br (decide ((n_1 : Int) < (members.n : Nat))) (
    ((IntKind.wrap .i64 ((members.n : Nat) - n_1)) : Int) ≠ 0 ∧
    ((IntKind.wrap .i64 ((members.n : Nat) - n_1)) : Int) ≠ 0 ∧
    br (((Int.tmod (parts_1.n : Nat) (IntKind.wrap .i64 ((members.n : Nat) - n_1))) : Int) != 0) (
      0 ≤ (IntKind.wrap .i64 ((IntKind.wrap .i64 (Int.tdiv (parts_1.n : Nat) (IntKind.wrap .i64 ((members.n : Nat) - n_1)))) + 1) : Int) ∧
      (IntKind.wrap .i64 ((IntKind.wrap .i64 (Int.tdiv (parts_1.n : Nat) (IntKind.wrap .i64 ((members.n : Nat) - n_1)))) + 1) : Int) ≤ (parts_1.c : Nat) ∧
      FnH Tryd.prog 24 #[.slice (slP parts_1.p parts_1.c (0 : Int) 1) (Int.toNat ((IntKind.wrap .i64 ((IntKind.wrap .i64 (Int.tdiv (parts_1.n : Nat) (IntKind.wrap .i64 ((members.n : Nat) - n_1)))) + 1)) - (0 : Int))) (Int.toNat ((parts_1.c : Nat) - (0 : Int)))] H1 fun r1 H2 =>
        ∃ l1 : Sl,
        r1 = .slice l1.p l1.n l1.c ∧
        ∀ q1 : Nat,
        H2 q1 = none →
        letH (Heap.upd H2 q1 (.cells #[.slice l1.p l1.n l1.c] 22 (0, 0))) fun H3 =>
        runH Tryd.prog (Builtin.append_ #[24, 24] 24 #[.slice l_1.p l_1.n l_1.c, .slice (some ⟨q1, 0, none⟩) 1 1]) H3 fun r2 H4 =>
          ∃ l2 : Sl,
          r2 = .slice l2.p l2.n l2.c ∧
          0 ≤ (IntKind.wrap .i64 ((IntKind.wrap .i64 (Int.tdiv (parts_1.n : Nat) (IntKind.wrap .i64 ((members.n : Nat) - n_1)))) + 1) : Int) ∧
          (IntKind.wrap .i64 ((IntKind.wrap .i64 (Int.tdiv (parts_1.n : Nat) (IntKind.wrap .i64 ((members.n : Nat) - n_1)))) + 1) : Int) ≤ (parts_1.n : Nat) ∧
          SelfEq ([.v (.slice members.p members.n members.c), .v (.int .i64 (members.n : Nat))], [], []) ∧
          I1 ⟨(slP parts_1.p parts_1.c (IntKind.wrap .i64 ((IntKind.wrap .i64 (Int.tdiv (parts_1.n : Nat) (IntKind.wrap .i64 ((members.n : Nat) - n_1)))) + 1)) 1), Int.toNat ((parts_1.n : Nat) - (IntKind.wrap .i64 ((IntKind.wrap .i64 (Int.tdiv (parts_1.n : Nat) (IntKind.wrap .i64 ((members.n : Nat) - n_1)))) + 1))), Int.toNat ((parts_1.c : Nat) - (IntKind.wrap .i64 ((IntKind.wrap .i64 (Int.tdiv (parts_1.n : Nat) (IntKind.wrap .i64 ((members.n : Nat) - n_1)))) + 1)))⟩ l2 (IntKind.wrap .i64 (n_1 + 1)) H4 ∧
          M1 ⟨(slP parts_1.p parts_1.c (IntKind.wrap .i64 ((IntKind.wrap .i64 (Int.tdiv (parts_1.n : Nat) (IntKind.wrap .i64 ((members.n : Nat) - n_1)))) + 1)) 1), Int.toNat ((parts_1.n : Nat) - (IntKind.wrap .i64 ((IntKind.wrap .i64 (Int.tdiv (parts_1.n : Nat) (IntKind.wrap .i64 ((members.n : Nat) - n_1)))) + 1))), Int.toNat ((parts_1.c : Nat) - (IntKind.wrap .i64 ((IntKind.wrap .i64 (Int.tdiv (parts_1.n : Nat) (IntKind.wrap .i64 ((members.n : Nat) - n_1)))) + 1)))⟩ l2 (IntKind.wrap .i64 (n_1 + 1)) H4 < M1 parts_1 l_1 n_1 H1)
     (
      0 ≤ (IntKind.wrap .i64 (Int.tdiv (parts_1.n : Nat) (IntKind.wrap .i64 ((members.n : Nat) - n_1))) : Int) ∧
      (IntKind.wrap .i64 (Int.tdiv (parts_1.n : Nat) (IntKind.wrap .i64 ((members.n : Nat) - n_1))) : Int) ≤ (parts_1.c : Nat) ∧
      FnH Tryd.prog 24 #[.slice (slP parts_1.p parts_1.c (0 : Int) 1) (Int.toNat ((IntKind.wrap .i64 (Int.tdiv (parts_1.n : Nat) (IntKind.wrap .i64 ((members.n : Nat) - n_1)))) - (0 : Int))) (Int.toNat ((parts_1.c : Nat) - (0 : Int)))] H1 fun r3 H5 =>
        ∃ l3 : Sl,
        r3 = .slice l3.p l3.n l3.c ∧
        ∀ q2 : Nat,
        H5 q2 = none →
        letH (Heap.upd H5 q2 (.cells #[.slice l3.p l3.n l3.c] 22 (0, 0))) fun H6 =>
        runH Tryd.prog (Builtin.append_ #[24, 24] 24 #[.slice l_1.p l_1.n l_1.c, .slice (some ⟨q2, 0, none⟩) 1 1]) H6 fun r4 H7 =>
          ∃ l4 : Sl,
          r4 = .slice l4.p l4.n l4.c ∧
          0 ≤ (IntKind.wrap .i64 (Int.tdiv (parts_1.n : Nat) (IntKind.wrap .i64 ((members.n : Nat) - n_1))) : Int) ∧
          (IntKind.wrap .i64 (Int.tdiv (parts_1.n : Nat) (IntKind.wrap .i64 ((members.n : Nat) - n_1))) : Int) ≤ (parts_1.n : Nat) ∧
          SelfEq ([.v (.slice members.p members.n members.c), .v (.int .i64 (members.n : Nat))], [], []) ∧
          I1 ⟨(slP parts_1.p parts_1.c (IntKind.wrap .i64 (Int.tdiv (parts_1.n : Nat) (IntKind.wrap .i64 ((members.n : Nat) - n_1)))) 1), Int.toNat ((parts_1.n : Nat) - (IntKind.wrap .i64 (Int.tdiv (parts_1.n : Nat) (IntKind.wrap .i64 ((members.n : Nat) - n_1))))), Int.toNat ((parts_1.c : Nat) - (IntKind.wrap .i64 (Int.tdiv (parts_1.n : Nat) (IntKind.wrap .i64 ((members.n : Nat) - n_1)))))⟩ l4 (IntKind.wrap .i64 (n_1 + 1)) H7 ∧
          M1 ⟨(slP parts_1.p parts_1.c (IntKind.wrap .i64 (Int.tdiv (parts_1.n : Nat) (IntKind.wrap .i64 ((members.n : Nat) - n_1)))) 1), Int.toNat ((parts_1.n : Nat) - (IntKind.wrap .i64 (Int.tdiv (parts_1.n : Nat) (IntKind.wrap .i64 ((members.n : Nat) - n_1))))), Int.toNat ((parts_1.c : Nat) - (IntKind.wrap .i64 (Int.tdiv (parts_1.n : Nat) (IntKind.wrap .i64 ((members.n : Nat) - n_1)))))⟩ l4 (IntKind.wrap .i64 (n_1 + 1)) H7 < M1 parts_1 l_1 n_1 H1))
   (
    K (.slice l_1.p l_1.n l_1.c) H1)
theorem groups_Assign_eq (members : Sl) (parts : Sl) (H : Heap) (K : Value → Heap → Prop) : groups_Assign_vc members parts H K = denFn Tryd.prog groups_Assign_ann Tryd.f10 (bodyOf Tryd.f10) [.slice members.p members.n members.c, .slice parts.p parts.n parts.c] H K := by kernel_rfl
theorem groups_Assign_fn (members : Sl) (parts : Sl) {H : Heap} {K : Value → Heap → Prop} (h : groups_Assign_vc members parts H K) : FnH Tryd.prog 10 #[.slice members.p members.n members.c, .slice parts.p parts.n parts.c] H K :=
  denFn_fn Tryd.mixed groups_Assign_ann Tryd.func10 (bodyOf_spec (by kernel_rfl)) (groups_Assign_eq members parts H K) h

/-! function 12: logboom/logboomlaw15.sameList -/
def logboomlaw15_sameList_ann : Anns := { hid := [], loops := [(0, { slots := [(5, .int .i64)], kept := [0, 1], locs := [], keptL := [] })], joins := [], mix := [] }
def logboomlaw15_sameList_vc (a : Sl) (b : Sl) (H : Heap) (K : Value → Heap → Prop) : Prop :=
  br (((a.n : Nat) : Int) != (b.n : Nat)) (
    K (.bool false) H)
   (
    ∃ I1 : Int → Heap → Prop,
    ∃ M1 : Int → Heap → Nat,
    I1 0 H ∧
    ∀ i_1 : Int,
    ∀ H1 : Heap,
    I1 i_1 H1 →
    br (decide ((i_1 : Int) < (a.n : Nat))) (
      ∃ q1 : Nat,
      ∃ o1 : Nat,
      (a.p : Option Addr) = some ⟨q1, o1, none⟩ ∧
      0 ≤ (i_1 : Int) ∧
      (i_1 : Int) < (a.n : Nat) ∧
      ∃ n1 : Int,
      cellH H1 ⟨q1, o1 + Int.toNat i_1, none⟩ = some (.int .i64 n1) ∧
      ∃ q2 : Nat,
      ∃ o2 : Nat,
      (b.p : Option Addr) = some ⟨q2, o2, none⟩ ∧
      0 ≤ (i_1 : Int) ∧
      (i_1 : Int) < (b.n : Nat) ∧
      ∃ n2 : Int,
      cellH H1 ⟨q2, o2 + Int.toNat i_1, none⟩ = some (.int .i64 n2) ∧
      br ((n1 : Int) != n2) (
        K (.bool false) H1)
       (
        SelfEq ([.v (.slice a.p a.n a.c), .v (.slice b.p b.n b.c)], [], []) ∧
        I1 (IntKind.wrap .i64 (i_1 + 1)) H1 ∧
        M1 (IntKind.wrap .i64 (i_1 + 1)) H1 < M1 i_1 H1))
     (
      K (.bool true) H1))
theorem logboomlaw15_sameList_eq (a : Sl) (b : Sl) (H : Heap) (K : Value → Heap → Prop) : logboomlaw15_sameList_vc a b H K = denFn Tryd.prog logboomlaw15_sameList_ann Tryd.f12 (bodyOf Tryd.f12) [.slice a.p a.n a.c, .slice b.p b.n b.c] H K := by kernel_rfl
theorem logboomlaw15_sameList_fn (a : Sl) (b : Sl) {H : Heap} {K : Value → Heap → Prop} (h : logboomlaw15_sameList_vc a b H K) : FnH Tryd.prog 12 #[.slice a.p a.n a.c, .slice b.p b.n b.c] H K :=
  denFn_fn Tryd.mixed logboomlaw15_sameList_ann Tryd.func12 (bodyOf_spec (by kernel_rfl)) (logboomlaw15_sameList_eq a b H K) h

/-! function 13: logboom/groups.New -/
def groups_New_ann : Anns := { hid := [], loops := [], joins := [], mix := [] }
def groups_New_vc  (H : Heap) (K : Value → Heap → Prop) : Prop :=
  ∀ q1 : Nat,
  H q1 = none →
  letH (Heap.upd H q1 (.map #[] 0)) fun H1 =>
  ∀ q2 : Nat,
  H1 q2 = none →
  letH (Heap.upd H1 q2 (.cells #[.map (some q1), .int .i64 0] 55 (0, 0))) fun H2 =>
  K (.pointer (some ⟨q2, 0, none⟩)) H2
theorem groups_New_eq  (H : Heap) (K : Value → Heap → Prop) : groups_New_vc  H K = denFn Tryd.prog groups_New_ann Tryd.f13 (bodyOf Tryd.f13) [] H K := by kernel_rfl
theorem groups_New_fn  {H : Heap} {K : Value → Heap → Prop} (h : groups_New_vc  H K) : FnH Tryd.prog 13 #[] H K :=
  denFn_fn Tryd.mixed groups_New_ann Tryd.func13 (bodyOf_spec (by kernel_rfl)) (groups_New_eq  H K) h

/-! function 15: logboom/logboomlaw15.pick -/
def logboomlaw15_pick_ann : Anns := { hid := [], loops := [], joins := [], mix := [] }
def logboomlaw15_pick_vc (c : Int) (n : Int) (H : Heap) (K : Value → Heap → Prop) : Prop :=
  br (decide ((c : Int) < 0)) (
    (n : Int) ≠ 0 ∧
    K (.int .i64 (Int.tmod (IntKind.wrap .i64 (0 - (IntKind.wrap .i64 (c + 1)))) n)) H)
   (
    (n : Int) ≠ 0 ∧
    K (.int .i64 (Int.tmod c n)) H)
theorem logboomlaw15_pick_eq (c : Int) (n : Int) (H : Heap) (K : Value → Heap → Prop) : logboomlaw15_pick_vc c n H K = denFn Tryd.prog logboomlaw15_pick_ann Tryd.f15 (bodyOf Tryd.f15) [.int .i64 c, .int .i64 n] H K := by kernel_rfl
theorem logboomlaw15_pick_fn (c : Int) (n : Int) {H : Heap} {K : Value → Heap → Prop} (h : logboomlaw15_pick_vc c n H K) : FnH Tryd.prog 15 #[.int .i64 c, .int .i64 n] H K :=
  denFn_fn Tryd.mixed logboomlaw15_pick_ann Tryd.func15 (bodyOf_spec (by kernel_rfl)) (logboomlaw15_pick_eq c n H K) h

/-! function 16: (*logboom/groups.Groups).Offset -/
def groups_Groups_Offset_ann : Anns := { hid := [], loops := [], joins := [], mix := [] }
def groups_Groups_Offset_vc (g : Nat) (go : Nat) (name : ByteArray) (part : Int) (H : Heap) (K : Value → Heap → Prop) : Prop :=
  ∃ m1 : Option Nat,
  cellH H ⟨g, go, none⟩ = some (.map m1) ∧
  runH Tryd.prog (Instr.lookup 53 (.map m1) (.string name) false) H fun r1 H1 =>
    ∃ p1 : Option Addr,
    r1 = .pointer p1 ∧
    br (!(Option.isNone p1)) (
      FnH Tryd.prog 32 #[.pointer p1, .int .i64 part] H1 fun r2 H2 =>
        ∃ n1 : Int,
        r2 = .int .i64 n1 ∧
        K (.int .i64 n1) H2)
     (
      K (.int .i64 (-1)) H1)
theorem groups_Groups_Offset_eq (g : Nat) (go : Nat) (name : ByteArray) (part : Int) (H : Heap) (K : Value → Heap → Prop) : groups_Groups_Offset_vc g go name part H K = denFn Tryd.prog groups_Groups_Offset_ann Tryd.f16 (bodyOf Tryd.f16) [.pointer (some ⟨g, go, none⟩), .string name, .int .i64 part] H K := by kernel_rfl
theorem groups_Groups_Offset_fn (g : Nat) (go : Nat) (name : ByteArray) (part : Int) {H : Heap} {K : Value → Heap → Prop} (h : groups_Groups_Offset_vc g go name part H K) : FnH Tryd.prog 16 #[.pointer (some ⟨g, go, none⟩), .string name, .int .i64 part] H K :=
  denFn_fn Tryd.mixed groups_Groups_Offset_ann Tryd.func16 (bodyOf_spec (by kernel_rfl)) (groups_Groups_Offset_eq g go name part H K) h

/-! function 17: (*logboom/groups.Groups).Members -/
def groups_Groups_Members_ann : Anns := { hid := [], loops := [], joins := [], mix := [] }
def groups_Groups_Members_vc (g : Nat) (go : Nat) (name : ByteArray) (H : Heap) (K : Value → Heap → Prop) : Prop :=
  ∃ m1 : Option Nat,
  cellH H ⟨g, go, none⟩ = some (.map m1) ∧
  runH Tryd.prog (Instr.lookup 53 (.map m1) (.string name) false) H fun r1 H1 =>
    ∃ p1 : Option Addr,
    r1 = .pointer p1 ∧
    br (!(Option.isNone p1)) (
      ptrm p1 fun q1 o1 =>
      ∃ l1 : Sl,
      cellH H1 ⟨q1, o1 + 2, none⟩ = some (.slice l1.p l1.n l1.c) ∧
      FnH Tryd.prog 24 #[.slice l1.p l1.n l1.c] H1 fun r2 H2 =>
        ∃ l2 : Sl,
        r2 = .slice l2.p l2.n l2.c ∧
        K (.slice l2.p l2.n l2.c) H2)
     (
      K (.slice none 0 0) H1)
theorem groups_Groups_Members_eq (g : Nat) (go : Nat) (name : ByteArray) (H : Heap) (K : Value → Heap → Prop) : groups_Groups_Members_vc g go name H K = denFn Tryd.prog groups_Groups_Members_ann Tryd.f17 (bodyOf Tryd.f17) [.pointer (some ⟨g, go, none⟩), .string name] H K := by kernel_rfl
theorem groups_Groups_Members_fn (g : Nat) (go : Nat) (name : ByteArray) {H : Heap} {K : Value → Heap → Prop} (h : groups_Groups_Members_vc g go name H K) : FnH Tryd.prog 17 #[.pointer (some ⟨g, go, none⟩), .string name] H K :=
  denFn_fn Tryd.mixed groups_Groups_Members_ann Tryd.func17 (bodyOf_spec (by kernel_rfl)) (groups_Groups_Members_eq g go name H K) h

/-! function 18: (*logboom/groups.Groups).Gen -/
def groups_Groups_Gen_ann : Anns := { hid := [], loops := [], joins := [], mix := [] }
def groups_Groups_Gen_vc (g : Nat) (go : Nat) (name : ByteArray) (H : Heap) (K : Value → Heap → Prop) : Prop :=
  ∃ m1 : Option Nat,
  cellH H ⟨g, go, none⟩ = some (.map m1) ∧
  runH Tryd.prog (Instr.lookup 53 (.map m1) (.string name) false) H fun r1 H1 =>
    ∃ p1 : Option Addr,
    r1 = .pointer p1 ∧
    br (!(Option.isNone p1)) (
      ptrm p1 fun q1 o1 =>
      ∃ n1 : Int,
      cellH H1 ⟨q1, o1, none⟩ = some (.int .i64 n1) ∧
      K (.int .i64 n1) H1)
     (
      K (.int .i64 0) H1)
theorem groups_Groups_Gen_eq (g : Nat) (go : Nat) (name : ByteArray) (H : Heap) (K : Value → Heap → Prop) : groups_Groups_Gen_vc g go name H K = denFn Tryd.prog groups_Groups_Gen_ann Tryd.f18 (bodyOf Tryd.f18) [.pointer (some ⟨g, go, none⟩), .string name] H K := by kernel_rfl
theorem groups_Groups_Gen_fn (g : Nat) (go : Nat) (name : ByteArray) {H : Heap} {K : Value → Heap → Prop} (h : groups_Groups_Gen_vc g go name H K) : FnH Tryd.prog 18 #[.pointer (some ⟨g, go, none⟩), .string name] H K :=
  denFn_fn Tryd.mixed groups_Groups_Gen_ann Tryd.func18 (bodyOf_spec (by kernel_rfl)) (groups_Groups_Gen_eq g go name H K) h

/-! function 19: (*logboom/groups.Groups).Owner -/
def groups_Groups_Owner_ann : Anns := { hid := [], loops := [], joins := [], mix := [] }
def groups_Groups_Owner_vc (g : Nat) (go : Nat) (name : ByteArray) (part : Int) (H : Heap) (K : Value → Heap → Prop) : Prop :=
  ∃ m1 : Option Nat,
  cellH H ⟨g, go, none⟩ = some (.map m1) ∧
  runH Tryd.prog (Instr.lookup 53 (.map m1) (.string name) false) H fun r1 H1 =>
    ∃ p1 : Option Addr,
    r1 = .pointer p1 ∧
    br (!(Option.isNone p1)) (
      FnH Tryd.prog 33 #[.pointer p1, .int .i64 part] H1 fun r2 H2 =>
        ∃ n1 : Int,
        r2 = .int .i64 n1 ∧
        K (.int .i64 n1) H2)
     (
      K (.int .i64 0) H1)
theorem groups_Groups_Owner_eq (g : Nat) (go : Nat) (name : ByteArray) (part : Int) (H : Heap) (K : Value → Heap → Prop) : groups_Groups_Owner_vc g go name part H K = denFn Tryd.prog groups_Groups_Owner_ann Tryd.f19 (bodyOf Tryd.f19) [.pointer (some ⟨g, go, none⟩), .string name, .int .i64 part] H K := by kernel_rfl
theorem groups_Groups_Owner_fn (g : Nat) (go : Nat) (name : ByteArray) (part : Int) {H : Heap} {K : Value → Heap → Prop} (h : groups_Groups_Owner_vc g go name part H K) : FnH Tryd.prog 19 #[.pointer (some ⟨g, go, none⟩), .string name, .int .i64 part] H K :=
  denFn_fn Tryd.mixed groups_Groups_Owner_ann Tryd.func19 (bodyOf_spec (by kernel_rfl)) (groups_Groups_Owner_eq g go name part H K) h

/-! function 20: (*logboom/groups.Groups).Epoch -/
def groups_Groups_Epoch_ann : Anns := { hid := [], loops := [], joins := [], mix := [] }
def groups_Groups_Epoch_vc (g : Nat) (go : Nat) (H : Heap) (K : Value → Heap → Prop) : Prop :=
  ∃ n1 : Int,
  cellH H ⟨g, go + 1, none⟩ = some (.int .i64 n1) ∧
  K (.int .i64 n1) H
theorem groups_Groups_Epoch_eq (g : Nat) (go : Nat) (H : Heap) (K : Value → Heap → Prop) : groups_Groups_Epoch_vc g go H K = denFn Tryd.prog groups_Groups_Epoch_ann Tryd.f20 (bodyOf Tryd.f20) [.pointer (some ⟨g, go, none⟩)] H K := by kernel_rfl
theorem groups_Groups_Epoch_fn (g : Nat) (go : Nat) {H : Heap} {K : Value → Heap → Prop} (h : groups_Groups_Epoch_vc g go H K) : FnH Tryd.prog 20 #[.pointer (some ⟨g, go, none⟩)] H K :=
  denFn_fn Tryd.mixed groups_Groups_Epoch_ann Tryd.func20 (bodyOf_spec (by kernel_rfl)) (groups_Groups_Epoch_eq g go H K) h

/-! function 24: slices.Clone[[]int,int] -/
def slices_Clone_Lint_int_ann : Anns := { hid := [], loops := [], joins := [], mix := [] }
def slices_Clone_Lint_int_vc (s : Sl) (H : Heap) (K : Value → Heap → Prop) : Prop :=
  br (Option.isNone s.p) (
    K (.slice none 0 0) H)
   (
    ∀ q1 : Nat,
    H q1 = none →
    letH (Heap.upd H q1 (.cells #[] 3 (0, 0))) fun H1 =>
    runH Tryd.prog (Builtin.append_ #[22, 22] 22 #[.slice (some ⟨q1, 0, none⟩) 0 0, .slice s.p s.n s.c]) H1 fun r1 H2 =>
      ∃ l1 : Sl,
      r1 = .slice l1.p l1.n l1.c ∧
      K (.slice l1.p l1.n l1.c) H2)
theorem slices_Clone_Lint_int_eq (s : Sl) (H : Heap) (K : Value → Heap → Prop) : slices_Clone_Lint_int_vc s H K = denFn Tryd.prog slices_Clone_Lint_int_ann Tryd.f24 (bodyOf Tryd.f24) [.slice s.p s.n s.c] H K := by kernel_rfl
theorem slices_Clone_Lint_int_fn (s : Sl) {H : Heap} {K : Value → Heap → Prop} (h : slices_Clone_Lint_int_vc s H K) : FnH Tryd.prog 24 #[.slice s.p s.n s.c] H K :=
  denFn_fn Tryd.mixed slices_Clone_Lint_int_ann Tryd.func24 (bodyOf_spec (by kernel_rfl)) (slices_Clone_Lint_int_eq s H K) h

/-! function 26: logboom/groups.refuse -/
def groups_refuse_ann : Anns := { hid := [2], loops := [], joins := [], mix := [] }
def groups_refuse_vc (e : Int) (H : Heap) (K : Value → Heap → Prop) : Prop :=
  K (.agg #[.int .i64 e, .int .i64 0, .int .i64 0, .int .i64 0, .slice none 0 0]) H
theorem groups_refuse_eq (e : Int) (H : Heap) (K : Value → Heap → Prop) : groups_refuse_vc e H K = denFn Tryd.prog groups_refuse_ann Tryd.f26 (bodyOf Tryd.f26) [.int .i64 e] H K := by kernel_rfl
theorem groups_refuse_fn (e : Int) {H : Heap} {K : Value → Heap → Prop} (h : groups_refuse_vc e H K) : FnH Tryd.prog 26 #[.int .i64 e] H K :=
  denFn_fn Tryd.mixed groups_refuse_ann Tryd.func26 (bodyOf_spec (by kernel_rfl)) (groups_refuse_eq e H K) h

/-! function 31: slices.Contains[[]int,int] -/
def slices_Contains_Lint_int_ann : Anns := { hid := [], loops := [], joins := [], mix := [] }
def slices_Contains_Lint_int_vc (s : Sl) (v : Int) (H : Heap) (K : Value → Heap → Prop) : Prop :=
  FnH Tryd.prog 46 #[.slice s.p s.n s.c, .int .i64 v] H fun r1 H1 =>
    ∃ n1 : Int,
    r1 = .int .i64 n1 ∧
    K (.bool (decide ((n1 : Int) ≥ 0))) H1
theorem slices_Contains_Lint_int_eq (s : Sl) (v : Int) (H : Heap) (K : Value → Heap → Prop) : slices_Contains_Lint_int_vc s v H K = denFn Tryd.prog slices_Contains_Lint_int_ann Tryd.f31 (bodyOf Tryd.f31) [.slice s.p s.n s.c, .int .i64 v] H K := by kernel_rfl
theorem slices_Contains_Lint_int_fn (s : Sl) (v : Int) {H : Heap} {K : Value → Heap → Prop} (h : slices_Contains_Lint_int_vc s v H K) : FnH Tryd.prog 31 #[.slice s.p s.n s.c, .int .i64 v] H K :=
  denFn_fn Tryd.mixed slices_Contains_Lint_int_ann Tryd.func31 (bodyOf_spec (by kernel_rfl)) (slices_Contains_Lint_int_eq s v H K) h

/-! function 32: (*logboom/groups.group).offset -/
def groups_group_offset_ann : Anns := { hid := [], loops := [], joins := [], mix := [] }
def groups_group_offset_vc (x : Nat) (xo : Nat) (part : Int) (H : Heap) (K : Value → Heap → Prop) : Prop :=
  ∃ m1 : Option Nat,
  cellH H ⟨x, xo + 4, none⟩ = some (.map m1) ∧
  runH Tryd.prog (Instr.lookup 59 (.map m1) (.int .i64 part) true) H fun r1 H1 =>
    ∃ n1 : Int,
    ∃ b1 : Bool,
    r1 = .tuple #[.int .i64 n1, .bool b1] ∧
    br (b1) (
      K (.int .i64 n1) H1)
     (
      K (.int .i64 (-1)) H1)
theorem groups_group_offset_eq (x : Nat) (xo : Nat) (part : Int) (H : Heap) (K : Value → Heap → Prop) : groups_group_offset_vc x xo part H K = denFn Tryd.prog groups_group_offset_ann Tryd.f32 (bodyOf Tryd.f32) [.pointer (some ⟨x, xo, none⟩), .int .i64 part] H K := by kernel_rfl
theorem groups_group_offset_fn (x : Nat) (xo : Nat) (part : Int) {H : Heap} {K : Value → Heap → Prop} (h : groups_group_offset_vc x xo part H K) : FnH Tryd.prog 32 #[.pointer (some ⟨x, xo, none⟩), .int .i64 part] H K :=
  denFn_fn Tryd.mixed groups_group_offset_ann Tryd.func32 (bodyOf_spec (by kernel_rfl)) (groups_group_offset_eq x xo part H K) h

/-! function 33: (*logboom/groups.group).owner -/
def groups_group_owner_ann : Anns := { hid := [], loops := [(0, { slots := [(17, .int .i64)], kept := [0, 1, 15, 16], locs := [], keptL := [] })], joins := [], mix := [(1, [8])] }
def groups_group_owner_vc (x : Nat) (xo : Nat) (part : Int) (H : Heap) (K : Value → Heap → Prop) : Prop :=
  ∃ l1 : Sl,
  cellH H ⟨x, xo + 2, none⟩ = some (.slice l1.p l1.n l1.c) ∧
  ∃ l2 : Sl,
  cellH H ⟨x, xo + 3, none⟩ = some (.slice l2.p l2.n l2.c) ∧
  FnH Tryd.prog 10 #[.slice l1.p l1.n l1.c, .slice l2.p l2.n l2.c] H fun r1 H1 =>
    ∃ l3 : Sl,
    r1 = .slice l3.p l3.n l3.c ∧
    ∃ I1 : Int → Heap → Prop,
    ∃ M1 : Int → Heap → Nat,
    I1 0 H1 ∧
    ∀ n_1 : Int,
    ∀ H2 : Heap,
    I1 n_1 H2 →
    br (decide ((n_1 : Int) < (l3.n : Nat))) (
      ∃ q1 : Nat,
      ∃ o1 : Nat,
      (l3.p : Option Addr) = some ⟨q1, o1, none⟩ ∧
      0 ≤ (n_1 : Int) ∧
      (n_1 : Int) < (l3.n : Nat) ∧
      ∃ l4 : Sl,
      cellH H2 ⟨q1, o1 + Int.toNat n_1, none⟩ = some (.slice l4.p l4.n l4.c) ∧
      FnH Tryd.prog 31 #[.slice l4.p l4.n l4.c, .int .i64 part] H2 fun r2 H3 =>
        ∃ b1 : Bool,
        r2 = .bool b1 ∧
        br (b1) (
          ∃ l5 : Sl,
          cellH H3 ⟨x, xo + 2, none⟩ = some (.slice l5.p l5.n l5.c) ∧
          ∃ q2 : Nat,
          ∃ o2 : Nat,
          (l5.p : Option Addr) = some ⟨q2, o2, none⟩ ∧
          0 ≤ (n_1 : Int) ∧
          (n_1 : Int) < (l5.n : Nat) ∧
          ∃ n1 : Int,
          cellH H3 ⟨q2, o2 + Int.toNat n_1, none⟩ = some (.int .i64 n1) ∧
          K (.int .i64 n1) H3)
         (
          SelfEq ([.v (.pointer (some ⟨x, xo, none⟩)), .v (.int .i64 part), .v (.slice l3.p l3.n l3.c), .v (.int .i64 (l3.n : Nat))], [], []) ∧
          I1 (IntKind.wrap .i64 (n_1 + 1)) H3 ∧
          M1 (IntKind.wrap .i64 (n_1 + 1)) H3 < M1 n_1 H2))
     (
      K (.int .i64 0) H2)
theorem groups_group_owner_eq (x : Nat) (xo : Nat) (part : Int) (H : Heap) (K : Value → Heap → Prop) : groups_group_owner_vc x xo part H K = denFn Tryd.prog groups_group_owner_ann Tryd.f33 (bodyOf Tryd.f33) [.pointer (some ⟨x, xo, none⟩), .int .i64 part] H K := by kernel_rfl
theorem groups_group_owner_fn (x : Nat) (xo : Nat) (part : Int) {H : Heap} {K : Value → Heap → Prop} (h : groups_group_owner_vc x xo part H K) : FnH Tryd.prog 33 #[.pointer (some ⟨x, xo, none⟩), .int .i64 part] H K :=
  denFn_fn Tryd.mixed groups_group_owner_ann Tryd.func33 (bodyOf_spec (by kernel_rfl)) (groups_group_owner_eq x xo part H K) h

/-! function 43: (*logboom/groups.group).of -/
def groups_group_of_ann : Anns := { hid := [], loops := [], joins := [], mix := [(1, [8])] }
def groups_group_of_vc (x : Nat) (xo : Nat) (member : Int) (H : Heap) (K : Value → Heap → Prop) : Prop :=
  ∃ l1 : Sl,
  cellH H ⟨x, xo + 2, none⟩ = some (.slice l1.p l1.n l1.c) ∧
  ∃ l2 : Sl,
  cellH H ⟨x, xo + 3, none⟩ = some (.slice l2.p l2.n l2.c) ∧
  (FnH Tryd.prog 10 #[.slice l1.p l1.n l1.c, .slice l2.p l2.n l2.c] H fun r1 H1 =>
    ∃ l3 : Sl,
    r1 = .slice l3.p l3.n l3.c ∧
    ∃ l4 : Sl,
    cellH H1 ⟨x, xo + 2, none⟩ = some (.slice l4.p l4.n l4.c) ∧
    FnH Tryd.prog 46 #[.slice l4.p l4.n l4.c, .int .i64 member] H1 fun r2 H2 =>
      ∃ n1 : Int,
      r2 = .int .i64 n1 ∧
      ∃ q1 : Nat,
      ∃ o1 : Nat,
      (l3.p : Option Addr) = some ⟨q1, o1, none⟩ ∧
      0 ≤ (n1 : Int) ∧
      (n1 : Int) < (l3.n : Nat) ∧
      ∃ l5 : Sl,
      cellH H2 ⟨q1, o1 + Int.toNat n1, none⟩ = some (.slice l5.p l5.n l5.c) ∧
      K (.slice l5.p l5.n l5.c) H2) ∧
  ∃ l6 : Sl,
  cellH H ⟨x, xo + 2, none⟩ = some (.slice l6.p l6.n l6.c) ∧
  Sub H H ∧
  FnH Tryd.prog 10 #[.slice l1.p l1.n l1.c, .slice l2.p l2.n l2.c] H fun r3 H3 =>
    ∃ l7 : Sl,
    r3 = .slice l7.p l7.n l7.c ∧
    FnH Tryd.prog 46 #[.slice l6.p l6.n l6.c, .int .i64 member] H3 fun r4 H4 =>
      ∃ n2 : Int,
      r4 = .int .i64 n2 ∧
      ∃ q2 : Nat,
      ∃ o2 : Nat,
      (l7.p : Option Addr) = some ⟨q2, o2, none⟩ ∧
      0 ≤ (n2 : Int) ∧
      (n2 : Int) < (l7.n : Nat) ∧
      ∃ l8 : Sl,
      cellH H4 ⟨q2, o2 + Int.toNat n2, none⟩ = some (.slice l8.p l8.n l8.c) ∧
      K (.slice l8.p l8.n l8.c) H4
theorem groups_group_of_eq (x : Nat) (xo : Nat) (member : Int) (H : Heap) (K : Value → Heap → Prop) : groups_group_of_vc x xo member H K = denFn Tryd.prog groups_group_of_ann Tryd.f43 (bodyOf Tryd.f43) [.pointer (some ⟨x, xo, none⟩), .int .i64 member] H K := by kernel_rfl
theorem groups_group_of_fn (x : Nat) (xo : Nat) (member : Int) {H : Heap} {K : Value → Heap → Prop} (h : groups_group_of_vc x xo member H K) : FnH Tryd.prog 43 #[.pointer (some ⟨x, xo, none⟩), .int .i64 member] H K :=
  denFn_fn Tryd.mixed groups_group_of_ann Tryd.func43 (bodyOf_spec (by kernel_rfl)) (groups_group_of_eq x xo member H K) h

/-! function 46: slices.Index[[]int,int] -/
def slices_Index_Lint_int_ann : Anns := { hid := [], loops := [(0, { slots := [(8, .int .i64)], kept := [0, 1, 7], locs := [], keptL := [] })], joins := [], mix := [] }
def slices_Index_Lint_int_vc (s : Sl) (v : Int) (H : Heap) (K : Value → Heap → Prop) : Prop :=
  ∃ I1 : Int → Heap → Prop,
  ∃ M1 : Int → Heap → Nat,
  I1 0 H ∧
  ∀ n_1 : Int,
  ∀ H1 : Heap,
  I1 n_1 H1 →
  br (decide ((n_1 : Int) < (s.n : Nat))) (
    ∃ q1 : Nat,
    ∃ o1 : Nat,
    (s.p : Option Addr) = some ⟨q1, o1, none⟩ ∧
    0 ≤ (n_1 : Int) ∧
    (n_1 : Int) < (s.n : Nat) ∧
    ∃ n1 : Int,
    cellH H1 ⟨q1, o1 + Int.toNat n_1, none⟩ = some (.int .i64 n1) ∧
    br ((v : Int) == n1) (
      K (.int .i64 n_1) H1)
     (
      SelfEq ([.v (.slice s.p s.n s.c), .v (.int .i64 v), .v (.int .i64 (s.n : Nat))], [], []) ∧
      I1 (IntKind.wrap .i64 (n_1 + 1)) H1 ∧
      M1 (IntKind.wrap .i64 (n_1 + 1)) H1 < M1 n_1 H1))
   (
    K (.int .i64 (-1)) H1)
theorem slices_Index_Lint_int_eq (s : Sl) (v : Int) (H : Heap) (K : Value → Heap → Prop) : slices_Index_Lint_int_vc s v H K = denFn Tryd.prog slices_Index_Lint_int_ann Tryd.f46 (bodyOf Tryd.f46) [.slice s.p s.n s.c, .int .i64 v] H K := by kernel_rfl
theorem slices_Index_Lint_int_fn (s : Sl) (v : Int) {H : Heap} {K : Value → Heap → Prop} (h : slices_Index_Lint_int_vc s v H K) : FnH Tryd.prog 46 #[.slice s.p s.n s.c, .int .i64 v] H K :=
  denFn_fn Tryd.mixed slices_Index_Lint_int_ann Tryd.func46 (bodyOf_spec (by kernel_rfl)) (slices_Index_Lint_int_eq s v H K) h

end Go.Proofs.YtcbobncipnjbjaaDoor
