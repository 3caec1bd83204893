/- Formulas of functions, printed by this session's vc.py; each is tied to the program by the kernel. -/
import Derived.Test.YtcbobncipnjbjaaDoorProg
import Derived.KernelRfl
import Derived.Test.YtcbobncipnjbjaaDoorHlFn
import Derived.Test.YtcbobncipnjbjaaDoorV1
namespace Go.Proofs.YtcbobncipnjbjaaDoor
open Go.HL
set_option maxRecDepth 100000
/-! function 14: (*logboom/groups.Groups).Apply -/
def groups_Groups_Apply_ann : Anns := { hid := [3, 4], loops := [], joins := [((0, 22), { slots := [(52, .bool)], kept := [3, 4, 5, 6], locs := [], keptL := [0, 1] })], mix := [(1, []), (22, [])] }
def groups_Groups_Apply_vc (g : Nat) (go : Nat) (m_0 : Int) (m_1 : Int) (m_2 : Int) (m_3 : Int) (m_4 : Int) (m_5 : ByteArray) (m_6 : ByteArray) (m_7 : Sl) (H : Heap) (K : Value → Heap → Prop) : Prop :=
  ∃ m1 : Option Nat,
  cellH H ⟨g, go, none⟩ = some (.map m1) ∧
  runH Tryd.prog (Instr.lookup 53 (.map m1) (.string m_5) false) H fun r1 H1 =>
    ∃ p1 : Option Addr,
    r1 = .pointer p1 ∧
    Sub H H1 ∧
    br ((m_0 : Int) == 1) (
      FnH Tryd.prog 25 #[.pointer (some ⟨g, go, none⟩), .agg #[.int .i64 m_0, .int .i64 m_1, .int .i64 m_2, .int .i64 m_3, .int .i64 m_4, .string m_5, .string m_6, .slice m_7.p m_7.n m_7.c]] H1 fun r2 H2 =>
        ∃ n1 : Int,
        ∃ n2 : Int,
        ∃ n3 : Int,
        ∃ n4 : Int,
        ∃ l1 : Sl,
        r2 = .agg #[.int .i64 n1, .int .i64 n2, .int .i64 n3, .int .i64 n4, .slice l1.p l1.n l1.c] ∧
        K (.agg #[.int .i64 n1, .int .i64 n2, .int .i64 n3, .int .i64 n4, .slice l1.p l1.n l1.c]) H2)
     (
      br ((m_0 : Int) == 5) (
        ∃ n5 : Int,
        cellH H1 ⟨g, go + 1, none⟩ = some (.int .i64 n5) ∧
        br (decide ((m_1 : Int) < n5)) (
          FnH Tryd.prog 26 #[.int .i64 13] H1 fun r3 H3 =>
            ∃ n6 : Int,
            ∃ n7 : Int,
            ∃ n8 : Int,
            ∃ n9 : Int,
            ∃ l2 : Sl,
            r3 = .agg #[.int .i64 n6, .int .i64 n7, .int .i64 n8, .int .i64 n9, .slice l2.p l2.n l2.c] ∧
            K (.agg #[.int .i64 n6, .int .i64 n7, .int .i64 n8, .int .i64 n9, .slice l2.p l2.n l2.c]) H3)
         (
          (∃ u, cellH H1 ⟨g, go + 1, none⟩ = some u) ∧
          frozenH H1 ⟨g, go + 1, none⟩ = false ∧
          letH (Heap.set H1 ⟨g, go + 1, none⟩ (.int .i64 m_1)) fun H4 =>
          K (.agg #[.int .i64 0, .int .i64 0, .int .i64 m_1, .int .i64 0, .slice none 0 0]) H4))
       (
        br ((m_0 : Int) == 2) (
          br (Option.isNone p1) (
            FnH Tryd.prog 26 #[.int .i64 8] H1 fun r4 H5 =>
              ∃ n10 : Int,
              ∃ n11 : Int,
              ∃ n12 : Int,
              ∃ n13 : Int,
              ∃ l3 : Sl,
              r4 = .agg #[.int .i64 n10, .int .i64 n11, .int .i64 n12, .int .i64 n13, .slice l3.p l3.n l3.c] ∧
              K (.agg #[.int .i64 n10, .int .i64 n11, .int .i64 n12, .int .i64 n13, .slice l3.p l3.n l3.c]) H5)
           (
            ∃ J1 : Bool → Heap → Prop,
            (br ((m_0 : Int) != 4) (
              ptrm p1 fun q1 o1 =>
              ∃ l4 : Sl,
              cellH H1 ⟨q1, o1 + 2, none⟩ = some (.slice l4.p l4.n l4.c) ∧
              FnH Tryd.prog 31 #[.slice l4.p l4.n l4.c, .int .i64 m_1] H1 fun r5 H6 =>
                ∃ b1 : Bool,
                r5 = .bool b1 ∧
                Sub H1 H6 ∧
                SelfEq ([.loc 0 0, .loc 1 0, .v (.pointer p1), .v (.func (.func 27) #[] #[])], [some (34, [.int .i64 m_0, .int .i64 m_1, .int .i64 m_2, .int .i64 m_3, .int .i64 m_4, .string m_5, .string m_6, .slice m_7.p m_7.n m_7.c]), some (31, [.int .i64 0, .int .i64 0, .int .i64 0, .int .i64 0, .slice none 0 0])], []) ∧
                J1 (!b1) H6)
             (
              SelfEq ([.loc 0 0, .loc 1 0, .v (.pointer p1), .v (.func (.func 27) #[] #[])], [some (34, [.int .i64 m_0, .int .i64 m_1, .int .i64 m_2, .int .i64 m_3, .int .i64 m_4, .string m_5, .string m_6, .slice m_7.p m_7.n m_7.c]), some (31, [.int .i64 0, .int .i64 0, .int .i64 0, .int .i64 0, .slice none 0 0])], []) ∧
              J1 false H1)) ∧
            ∀ b_1 : Bool,
            ∀ H7 : Heap,
            J1 b_1 H7 →
            br (b_1) (
              FnH Tryd.prog 26 #[.int .i64 17] H7 fun r6 H8 =>
                ∃ n14 : Int,
                ∃ n15 : Int,
                ∃ n16 : Int,
                ∃ n17 : Int,
                ∃ l5 : Sl,
                r6 = .agg #[.int .i64 n14, .int .i64 n15, .int .i64 n16, .int .i64 n17, .slice l5.p l5.n l5.c] ∧
                K (.agg #[.int .i64 n14, .int .i64 n15, .int .i64 n16, .int .i64 n17, .slice l5.p l5.n l5.c]) H8)
             (
              br ((m_0 : Int) == 3) (
                ptrm p1 fun q2 o2 =>
                ∃ n18 : Int,
                cellH H7 ⟨q2, o2, none⟩ = some (.int .i64 n18) ∧
                br ((m_2 : Int) != n18) (
                  FnH Tryd.prog 26 #[.int .i64 18] H7 fun r7 H9 =>
                    ∃ n19 : Int,
                    ∃ n20 : Int,
                    ∃ n21 : Int,
                    ∃ n22 : Int,
                    ∃ l6 : Sl,
                    r7 = .agg #[.int .i64 n19, .int .i64 n20, .int .i64 n21, .int .i64 n22, .slice l6.p l6.n l6.c] ∧
                    K (.agg #[.int .i64 n19, .int .i64 n20, .int .i64 n21, .int .i64 n22, .slice l6.p l6.n l6.c]) H9)
                 (
                  FnH Tryd.prog 27 #[.pointer p1, .agg #[.int .i64 m_0, .int .i64 m_1, .int .i64 m_2, .int .i64 m_3, .int .i64 m_4, .string m_5, .string m_6, .slice m_7.p m_7.n m_7.c]] H7 fun r8 H10 =>
                    ∃ n23 : Int,
                    ∃ n24 : Int,
                    ∃ n25 : Int,
                    ∃ n26 : Int,
                    ∃ l7 : Sl,
                    r8 = .agg #[.int .i64 n23, .int .i64 n24, .int .i64 n25, .int .i64 n26, .slice l7.p l7.n l7.c] ∧
                    K (.agg #[.int .i64 n23, .int .i64 n24, .int .i64 n25, .int .i64 n26, .slice l7.p l7.n l7.c]) H10))
               (
                br ((m_0 : Int) == 6) (
                  ptrm p1 fun q3 o3 =>
                  ∃ n27 : Int,
                  cellH H7 ⟨q3, o3, none⟩ = some (.int .i64 n27) ∧
                  br ((m_2 : Int) != n27) (
                    FnH Tryd.prog 26 #[.int .i64 18] H7 fun r9 H11 =>
                      ∃ n28 : Int,
                      ∃ n29 : Int,
                      ∃ n30 : Int,
                      ∃ n31 : Int,
                      ∃ l8 : Sl,
                      r9 = .agg #[.int .i64 n28, .int .i64 n29, .int .i64 n30, .int .i64 n31, .slice l8.p l8.n l8.c] ∧
                      K (.agg #[.int .i64 n28, .int .i64 n29, .int .i64 n30, .int .i64 n31, .slice l8.p l8.n l8.c]) H11)
                   (
                    FnH Tryd.prog 27 #[.pointer p1, .agg #[.int .i64 m_0, .int .i64 m_1, .int .i64 m_2, .int .i64 m_3, .int .i64 m_4, .string m_5, .string m_6, .slice m_7.p m_7.n m_7.c]] H7 fun r10 H12 =>
                      ∃ n32 : Int,
                      ∃ n33 : Int,
                      ∃ n34 : Int,
                      ∃ n35 : Int,
                      ∃ l9 : Sl,
                      r10 = .agg #[.int .i64 n32, .int .i64 n33, .int .i64 n34, .int .i64 n35, .slice l9.p l9.n l9.c] ∧
                      K (.agg #[.int .i64 n32, .int .i64 n33, .int .i64 n34, .int .i64 n35, .slice l9.p l9.n l9.c]) H12))
                 (
                  FnH Tryd.prog 27 #[.pointer p1, .agg #[.int .i64 m_0, .int .i64 m_1, .int .i64 m_2, .int .i64 m_3, .int .i64 m_4, .string m_5, .string m_6, .slice m_7.p m_7.n m_7.c]] H7 fun r11 H13 =>
                    ∃ n36 : Int,
                    ∃ n37 : Int,
                    ∃ n38 : Int,
                    ∃ n39 : Int,
                    ∃ l10 : Sl,
                    r11 = .agg #[.int .i64 n36, .int .i64 n37, .int .i64 n38, .int .i64 n39, .slice l10.p l10.n l10.c] ∧
                    K (.agg #[.int .i64 n36, .int .i64 n37, .int .i64 n38, .int .i64 n39, .slice l10.p l10.n l10.c]) H13)))))
         (
          br ((m_0 : Int) == 3) (
            br (Option.isNone p1) (
              FnH Tryd.prog 26 #[.int .i64 8] H1 fun r12 H14 =>
                ∃ n40 : Int,
                ∃ n41 : Int,
                ∃ n42 : Int,
                ∃ n43 : Int,
                ∃ l11 : Sl,
                r12 = .agg #[.int .i64 n40, .int .i64 n41, .int .i64 n42, .int .i64 n43, .slice l11.p l11.n l11.c] ∧
                K (.agg #[.int .i64 n40, .int .i64 n41, .int .i64 n42, .int .i64 n43, .slice l11.p l11.n l11.c]) H14)
             (
              ∃ J2 : Bool → Heap → Prop,
              (br ((m_0 : Int) != 4) (
                ptrm p1 fun q4 o4 =>
                ∃ l12 : Sl,
                cellH H1 ⟨q4, o4 + 2, none⟩ = some (.slice l12.p l12.n l12.c) ∧
                FnH Tryd.prog 31 #[.slice l12.p l12.n l12.c, .int .i64 m_1] H1 fun r13 H15 =>
                  ∃ b2 : Bool,
                  r13 = .bool b2 ∧
                  Sub H1 H15 ∧
                  SelfEq ([.loc 0 0, .loc 1 0, .v (.pointer p1), .v (.func (.func 28) #[] #[])], [some (34, [.int .i64 m_0, .int .i64 m_1, .int .i64 m_2, .int .i64 m_3, .int .i64 m_4, .string m_5, .string m_6, .slice m_7.p m_7.n m_7.c]), some (31, [.int .i64 0, .int .i64 0, .int .i64 0, .int .i64 0, .slice none 0 0])], []) ∧
                  J2 (!b2) H15)
               (
                SelfEq ([.loc 0 0, .loc 1 0, .v (.pointer p1), .v (.func (.func 28) #[] #[])], [some (34, [.int .i64 m_0, .int .i64 m_1, .int .i64 m_2, .int .i64 m_3, .int .i64 m_4, .string m_5, .string m_6, .slice m_7.p m_7.n m_7.c]), some (31, [.int .i64 0, .int .i64 0, .int .i64 0, .int .i64 0, .slice none 0 0])], []) ∧
                J2 false H1)) ∧
              ∀ b_2 : Bool,
              ∀ H16 : Heap,
              J2 b_2 H16 →
              br (b_2) (
                FnH Tryd.prog 26 #[.int .i64 17] H16 fun r14 H17 =>
                  ∃ n44 : Int,
                  ∃ n45 : Int,
                  ∃ n46 : Int,
                  ∃ n47 : Int,
                  ∃ l13 : Sl,
                  r14 = .agg #[.int .i64 n44, .int .i64 n45, .int .i64 n46, .int .i64 n47, .slice l13.p l13.n l13.c] ∧
                  K (.agg #[.int .i64 n44, .int .i64 n45, .int .i64 n46, .int .i64 n47, .slice l13.p l13.n l13.c]) H17)
               (
                br ((m_0 : Int) == 3) (
                  ptrm p1 fun q5 o5 =>
                  ∃ n48 : Int,
                  cellH H16 ⟨q5, o5, none⟩ = some (.int .i64 n48) ∧
                  br ((m_2 : Int) != n48) (
                    FnH Tryd.prog 26 #[.int .i64 18] H16 fun r15 H18 =>
                      ∃ n49 : Int,
                      ∃ n50 : Int,
                      ∃ n51 : Int,
                      ∃ n52 : Int,
                      ∃ l14 : Sl,
                      r15 = .agg #[.int .i64 n49, .int .i64 n50, .int .i64 n51, .int .i64 n52, .slice l14.p l14.n l14.c] ∧
                      K (.agg #[.int .i64 n49, .int .i64 n50, .int .i64 n51, .int .i64 n52, .slice l14.p l14.n l14.c]) H18)
                   (
                    FnH Tryd.prog 28 #[.pointer p1, .agg #[.int .i64 m_0, .int .i64 m_1, .int .i64 m_2, .int .i64 m_3, .int .i64 m_4, .string m_5, .string m_6, .slice m_7.p m_7.n m_7.c]] H16 fun r16 H19 =>
                      ∃ n53 : Int,
                      ∃ n54 : Int,
                      ∃ n55 : Int,
                      ∃ n56 : Int,
                      ∃ l15 : Sl,
                      r16 = .agg #[.int .i64 n53, .int .i64 n54, .int .i64 n55, .int .i64 n56, .slice l15.p l15.n l15.c] ∧
                      K (.agg #[.int .i64 n53, .int .i64 n54, .int .i64 n55, .int .i64 n56, .slice l15.p l15.n l15.c]) H19))
                 (
                  br ((m_0 : Int) == 6) (
                    ptrm p1 fun q6 o6 =>
                    ∃ n57 : Int,
                    cellH H16 ⟨q6, o6, none⟩ = some (.int .i64 n57) ∧
                    br ((m_2 : Int) != n57) (
                      FnH Tryd.prog 26 #[.int .i64 18] H16 fun r17 H20 =>
                        ∃ n58 : Int,
                        ∃ n59 : Int,
                        ∃ n60 : Int,
                        ∃ n61 : Int,
                        ∃ l16 : Sl,
                        r17 = .agg #[.int .i64 n58, .int .i64 n59, .int .i64 n60, .int .i64 n61, .slice l16.p l16.n l16.c] ∧
                        K (.agg #[.int .i64 n58, .int .i64 n59, .int .i64 n60, .int .i64 n61, .slice l16.p l16.n l16.c]) H20)
                     (
                      FnH Tryd.prog 28 #[.pointer p1, .agg #[.int .i64 m_0, .int .i64 m_1, .int .i64 m_2, .int .i64 m_3, .int .i64 m_4, .string m_5, .string m_6, .slice m_7.p m_7.n m_7.c]] H16 fun r18 H21 =>
                        ∃ n62 : Int,
                        ∃ n63 : Int,
                        ∃ n64 : Int,
                        ∃ n65 : Int,
                        ∃ l17 : Sl,
                        r18 = .agg #[.int .i64 n62, .int .i64 n63, .int .i64 n64, .int .i64 n65, .slice l17.p l17.n l17.c] ∧
                        K (.agg #[.int .i64 n62, .int .i64 n63, .int .i64 n64, .int .i64 n65, .slice l17.p l17.n l17.c]) H21))
                   (
                    FnH Tryd.prog 28 #[.pointer p1, .agg #[.int .i64 m_0, .int .i64 m_1, .int .i64 m_2, .int .i64 m_3, .int .i64 m_4, .string m_5, .string m_6, .slice m_7.p m_7.n m_7.c]] H16 fun r19 H22 =>
                      ∃ n66 : Int,
                      ∃ n67 : Int,
                      ∃ n68 : Int,
                      ∃ n69 : Int,
                      ∃ l18 : Sl,
                      r19 = .agg #[.int .i64 n66, .int .i64 n67, .int .i64 n68, .int .i64 n69, .slice l18.p l18.n l18.c] ∧
                      K (.agg #[.int .i64 n66, .int .i64 n67, .int .i64 n68, .int .i64 n69, .slice l18.p l18.n l18.c]) H22)))))
           (
            br ((m_0 : Int) == 6) (
              br (Option.isNone p1) (
                FnH Tryd.prog 26 #[.int .i64 8] H1 fun r20 H23 =>
                  ∃ n70 : Int,
                  ∃ n71 : Int,
                  ∃ n72 : Int,
                  ∃ n73 : Int,
                  ∃ l19 : Sl,
                  r20 = .agg #[.int .i64 n70, .int .i64 n71, .int .i64 n72, .int .i64 n73, .slice l19.p l19.n l19.c] ∧
                  K (.agg #[.int .i64 n70, .int .i64 n71, .int .i64 n72, .int .i64 n73, .slice l19.p l19.n l19.c]) H23)
               (
                ∃ J3 : Bool → Heap → Prop,
                (br ((m_0 : Int) != 4) (
                  ptrm p1 fun q7 o7 =>
                  ∃ l20 : Sl,
                  cellH H1 ⟨q7, o7 + 2, none⟩ = some (.slice l20.p l20.n l20.c) ∧
                  FnH Tryd.prog 31 #[.slice l20.p l20.n l20.c, .int .i64 m_1] H1 fun r21 H24 =>
                    ∃ b3 : Bool,
                    r21 = .bool b3 ∧
                    Sub H1 H24 ∧
                    SelfEq ([.loc 0 0, .loc 1 0, .v (.pointer p1), .v (.func (.func 29) #[] #[])], [some (34, [.int .i64 m_0, .int .i64 m_1, .int .i64 m_2, .int .i64 m_3, .int .i64 m_4, .string m_5, .string m_6, .slice m_7.p m_7.n m_7.c]), some (31, [.int .i64 0, .int .i64 0, .int .i64 0, .int .i64 0, .slice none 0 0])], []) ∧
                    J3 (!b3) H24)
                 (
                  SelfEq ([.loc 0 0, .loc 1 0, .v (.pointer p1), .v (.func (.func 29) #[] #[])], [some (34, [.int .i64 m_0, .int .i64 m_1, .int .i64 m_2, .int .i64 m_3, .int .i64 m_4, .string m_5, .string m_6, .slice m_7.p m_7.n m_7.c]), some (31, [.int .i64 0, .int .i64 0, .int .i64 0, .int .i64 0, .slice none 0 0])], []) ∧
                  J3 false H1)) ∧
                ∀ b_3 : Bool,
                ∀ H25 : Heap,
                J3 b_3 H25 →
                br (b_3) (
                  FnH Tryd.prog 26 #[.int .i64 17] H25 fun r22 H26 =>
                    ∃ n74 : Int,
                    ∃ n75 : Int,
                    ∃ n76 : Int,
                    ∃ n77 : Int,
                    ∃ l21 : Sl,
                    r22 = .agg #[.int .i64 n74, .int .i64 n75, .int .i64 n76, .int .i64 n77, .slice l21.p l21.n l21.c] ∧
                    K (.agg #[.int .i64 n74, .int .i64 n75, .int .i64 n76, .int .i64 n77, .slice l21.p l21.n l21.c]) H26)
                 (
                  br ((m_0 : Int) == 3) (
                    ptrm p1 fun q8 o8 =>
                    ∃ n78 : Int,
                    cellH H25 ⟨q8, o8, none⟩ = some (.int .i64 n78) ∧
                    br ((m_2 : Int) != n78) (
                      FnH Tryd.prog 26 #[.int .i64 18] H25 fun r23 H27 =>
                        ∃ n79 : Int,
                        ∃ n80 : Int,
                        ∃ n81 : Int,
                        ∃ n82 : Int,
                        ∃ l22 : Sl,
                        r23 = .agg #[.int .i64 n79, .int .i64 n80, .int .i64 n81, .int .i64 n82, .slice l22.p l22.n l22.c] ∧
                        K (.agg #[.int .i64 n79, .int .i64 n80, .int .i64 n81, .int .i64 n82, .slice l22.p l22.n l22.c]) H27)
                     (
                      FnH Tryd.prog 29 #[.pointer p1, .agg #[.int .i64 m_0, .int .i64 m_1, .int .i64 m_2, .int .i64 m_3, .int .i64 m_4, .string m_5, .string m_6, .slice m_7.p m_7.n m_7.c]] H25 fun r24 H28 =>
                        ∃ n83 : Int,
                        ∃ n84 : Int,
                        ∃ n85 : Int,
                        ∃ n86 : Int,
                        ∃ l23 : Sl,
                        r24 = .agg #[.int .i64 n83, .int .i64 n84, .int .i64 n85, .int .i64 n86, .slice l23.p l23.n l23.c] ∧
                        K (.agg #[.int .i64 n83, .int .i64 n84, .int .i64 n85, .int .i64 n86, .slice l23.p l23.n l23.c]) H28))
                   (
                    br ((m_0 : Int) == 6) (
                      ptrm p1 fun q9 o9 =>
                      ∃ n87 : Int,
                      cellH H25 ⟨q9, o9, none⟩ = some (.int .i64 n87) ∧
                      br ((m_2 : Int) != n87) (
                        FnH Tryd.prog 26 #[.int .i64 18] H25 fun r25 H29 =>
                          ∃ n88 : Int,
                          ∃ n89 : Int,
                          ∃ n90 : Int,
                          ∃ n91 : Int,
                          ∃ l24 : Sl,
                          r25 = .agg #[.int .i64 n88, .int .i64 n89, .int .i64 n90, .int .i64 n91, .slice l24.p l24.n l24.c] ∧
                          K (.agg #[.int .i64 n88, .int .i64 n89, .int .i64 n90, .int .i64 n91, .slice l24.p l24.n l24.c]) H29)
                       (
                        FnH Tryd.prog 29 #[.pointer p1, .agg #[.int .i64 m_0, .int .i64 m_1, .int .i64 m_2, .int .i64 m_3, .int .i64 m_4, .string m_5, .string m_6, .slice m_7.p m_7.n m_7.c]] H25 fun r26 H30 =>
                          ∃ n92 : Int,
                          ∃ n93 : Int,
                          ∃ n94 : Int,
                          ∃ n95 : Int,
                          ∃ l25 : Sl,
                          r26 = .agg #[.int .i64 n92, .int .i64 n93, .int .i64 n94, .int .i64 n95, .slice l25.p l25.n l25.c] ∧
                          K (.agg #[.int .i64 n92, .int .i64 n93, .int .i64 n94, .int .i64 n95, .slice l25.p l25.n l25.c]) H30))
                     (
                      FnH Tryd.prog 29 #[.pointer p1, .agg #[.int .i64 m_0, .int .i64 m_1, .int .i64 m_2, .int .i64 m_3, .int .i64 m_4, .string m_5, .string m_6, .slice m_7.p m_7.n m_7.c]] H25 fun r27 H31 =>
                        ∃ n96 : Int,
                        ∃ n97 : Int,
                        ∃ n98 : Int,
                        ∃ n99 : Int,
                        ∃ l26 : Sl,
                        r27 = .agg #[.int .i64 n96, .int .i64 n97, .int .i64 n98, .int .i64 n99, .slice l26.p l26.n l26.c] ∧
                        K (.agg #[.int .i64 n96, .int .i64 n97, .int .i64 n98, .int .i64 n99, .slice l26.p l26.n l26.c]) H31)))))
             (
              br ((m_0 : Int) == 4) (
                br (Option.isNone p1) (
                  FnH Tryd.prog 26 #[.int .i64 8] H1 fun r28 H32 =>
                    ∃ n100 : Int,
                    ∃ n101 : Int,
                    ∃ n102 : Int,
                    ∃ n103 : Int,
                    ∃ l27 : Sl,
                    r28 = .agg #[.int .i64 n100, .int .i64 n101, .int .i64 n102, .int .i64 n103, .slice l27.p l27.n l27.c] ∧
                    K (.agg #[.int .i64 n100, .int .i64 n101, .int .i64 n102, .int .i64 n103, .slice l27.p l27.n l27.c]) H32)
                 (
                  ∃ J4 : Bool → Heap → Prop,
                  (br ((m_0 : Int) != 4) (
                    ptrm p1 fun q10 o10 =>
                    ∃ l28 : Sl,
                    cellH H1 ⟨q10, o10 + 2, none⟩ = some (.slice l28.p l28.n l28.c) ∧
                    FnH Tryd.prog 31 #[.slice l28.p l28.n l28.c, .int .i64 m_1] H1 fun r29 H33 =>
                      ∃ b4 : Bool,
                      r29 = .bool b4 ∧
                      Sub H1 H33 ∧
                      SelfEq ([.loc 0 0, .loc 1 0, .v (.pointer p1), .v (.func (.func 30) #[] #[])], [some (34, [.int .i64 m_0, .int .i64 m_1, .int .i64 m_2, .int .i64 m_3, .int .i64 m_4, .string m_5, .string m_6, .slice m_7.p m_7.n m_7.c]), some (31, [.int .i64 0, .int .i64 0, .int .i64 0, .int .i64 0, .slice none 0 0])], []) ∧
                      J4 (!b4) H33)
                   (
                    SelfEq ([.loc 0 0, .loc 1 0, .v (.pointer p1), .v (.func (.func 30) #[] #[])], [some (34, [.int .i64 m_0, .int .i64 m_1, .int .i64 m_2, .int .i64 m_3, .int .i64 m_4, .string m_5, .string m_6, .slice m_7.p m_7.n m_7.c]), some (31, [.int .i64 0, .int .i64 0, .int .i64 0, .int .i64 0, .slice none 0 0])], []) ∧
                    J4 false H1)) ∧
                  ∀ b_4 : Bool,
                  ∀ H34 : Heap,
                  J4 b_4 H34 →
                  br (b_4) (
                    FnH Tryd.prog 26 #[.int .i64 17] H34 fun r30 H35 =>
                      ∃ n104 : Int,
                      ∃ n105 : Int,
                      ∃ n106 : Int,
                      ∃ n107 : Int,
                      ∃ l29 : Sl,
                      r30 = .agg #[.int .i64 n104, .int .i64 n105, .int .i64 n106, .int .i64 n107, .slice l29.p l29.n l29.c] ∧
                      K (.agg #[.int .i64 n104, .int .i64 n105, .int .i64 n106, .int .i64 n107, .slice l29.p l29.n l29.c]) H35)
                   (
                    br ((m_0 : Int) == 3) (
                      ptrm p1 fun q11 o11 =>
                      ∃ n108 : Int,
                      cellH H34 ⟨q11, o11, none⟩ = some (.int .i64 n108) ∧
                      br ((m_2 : Int) != n108) (
                        FnH Tryd.prog 26 #[.int .i64 18] H34 fun r31 H36 =>
                          ∃ n109 : Int,
                          ∃ n110 : Int,
                          ∃ n111 : Int,
                          ∃ n112 : Int,
                          ∃ l30 : Sl,
                          r31 = .agg #[.int .i64 n109, .int .i64 n110, .int .i64 n111, .int .i64 n112, .slice l30.p l30.n l30.c] ∧
                          K (.agg #[.int .i64 n109, .int .i64 n110, .int .i64 n111, .int .i64 n112, .slice l30.p l30.n l30.c]) H36)
                       (
                        FnH Tryd.prog 30 #[.pointer p1, .agg #[.int .i64 m_0, .int .i64 m_1, .int .i64 m_2, .int .i64 m_3, .int .i64 m_4, .string m_5, .string m_6, .slice m_7.p m_7.n m_7.c]] H34 fun r32 H37 =>
                          ∃ n113 : Int,
                          ∃ n114 : Int,
                          ∃ n115 : Int,
                          ∃ n116 : Int,
                          ∃ l31 : Sl,
                          r32 = .agg #[.int .i64 n113, .int .i64 n114, .int .i64 n115, .int .i64 n116, .slice l31.p l31.n l31.c] ∧
                          K (.agg #[.int .i64 n113, .int .i64 n114, .int .i64 n115, .int .i64 n116, .slice l31.p l31.n l31.c]) H37))
                     (
                      br ((m_0 : Int) == 6) (
                        ptrm p1 fun q12 o12 =>
                        ∃ n117 : Int,
                        cellH H34 ⟨q12, o12, none⟩ = some (.int .i64 n117) ∧
                        br ((m_2 : Int) != n117) (
                          FnH Tryd.prog 26 #[.int .i64 18] H34 fun r33 H38 =>
                            ∃ n118 : Int,
                            ∃ n119 : Int,
                            ∃ n120 : Int,
                            ∃ n121 : Int,
                            ∃ l32 : Sl,
                            r33 = .agg #[.int .i64 n118, .int .i64 n119, .int .i64 n120, .int .i64 n121, .slice l32.p l32.n l32.c] ∧
                            K (.agg #[.int .i64 n118, .int .i64 n119, .int .i64 n120, .int .i64 n121, .slice l32.p l32.n l32.c]) H38)
                         (
                          FnH Tryd.prog 30 #[.pointer p1, .agg #[.int .i64 m_0, .int .i64 m_1, .int .i64 m_2, .int .i64 m_3, .int .i64 m_4, .string m_5, .string m_6, .slice m_7.p m_7.n m_7.c]] H34 fun r34 H39 =>
                            ∃ n122 : Int,
                            ∃ n123 : Int,
                            ∃ n124 : Int,
                            ∃ n125 : Int,
                            ∃ l33 : Sl,
                            r34 = .agg #[.int .i64 n122, .int .i64 n123, .int .i64 n124, .int .i64 n125, .slice l33.p l33.n l33.c] ∧
                            K (.agg #[.int .i64 n122, .int .i64 n123, .int .i64 n124, .int .i64 n125, .slice l33.p l33.n l33.c]) H39))
                       (
                        FnH Tryd.prog 30 #[.pointer p1, .agg #[.int .i64 m_0, .int .i64 m_1, .int .i64 m_2, .int .i64 m_3, .int .i64 m_4, .string m_5, .string m_6, .slice m_7.p m_7.n m_7.c]] H34 fun r35 H40 =>
                          ∃ n126 : Int,
                          ∃ n127 : Int,
                          ∃ n128 : Int,
                          ∃ n129 : Int,
                          ∃ l34 : Sl,
                          r35 = .agg #[.int .i64 n126, .int .i64 n127, .int .i64 n128, .int .i64 n129, .slice l34.p l34.n l34.c] ∧
                          K (.agg #[.int .i64 n126, .int .i64 n127, .int .i64 n128, .int .i64 n129, .slice l34.p l34.n l34.c]) H40)))))
               (
                FnH Tryd.prog 26 #[.int .i64 1] H1 fun r36 H41 =>
                  ∃ n130 : Int,
                  ∃ n131 : Int,
                  ∃ n132 : Int,
                  ∃ n133 : Int,
                  ∃ l35 : Sl,
                  r36 = .agg #[.int .i64 n130, .int .i64 n131, .int .i64 n132, .int .i64 n133, .slice l35.p l35.n l35.c] ∧
                  K (.agg #[.int .i64 n130, .int .i64 n131, .int .i64 n132, .int .i64 n133, .slice l35.p l35.n l35.c]) H41))))))
theorem groups_Groups_Apply_eq (g : Nat) (go : Nat) (m_0 : Int) (m_1 : Int) (m_2 : Int) (m_3 : Int) (m_4 : Int) (m_5 : ByteArray) (m_6 : ByteArray) (m_7 : Sl) (H : Heap) (K : Value → Heap → Prop) : groups_Groups_Apply_vc g go m_0 m_1 m_2 m_3 m_4 m_5 m_6 m_7 H K = denFn Tryd.prog groups_Groups_Apply_ann Tryd.f14 (bodyOf Tryd.f14) [.pointer (some ⟨g, go, none⟩), .agg #[.int .i64 m_0, .int .i64 m_1, .int .i64 m_2, .int .i64 m_3, .int .i64 m_4, .string m_5, .string m_6, .slice m_7.p m_7.n m_7.c]] H K := by kernel_rfl
theorem groups_Groups_Apply_fn (g : Nat) (go : Nat) (m_0 : Int) (m_1 : Int) (m_2 : Int) (m_3 : Int) (m_4 : Int) (m_5 : ByteArray) (m_6 : ByteArray) (m_7 : Sl) {H : Heap} {K : Value → Heap → Prop} (h : groups_Groups_Apply_vc g go m_0 m_1 m_2 m_3 m_4 m_5 m_6 m_7 H K) : FnH Tryd.prog 14 #[.pointer (some ⟨g, go, none⟩), .agg #[.int .i64 m_0, .int .i64 m_1, .int .i64 m_2, .int .i64 m_3, .int .i64 m_4, .string m_5, .string m_6, .slice m_7.p m_7.n m_7.c]] H K :=
  denFn_fn Tryd.mixed groups_Groups_Apply_ann Tryd.func14 (bodyOf_spec (by kernel_rfl)) (groups_Groups_Apply_eq g go m_0 m_1 m_2 m_3 m_4 m_5 m_6 m_7 H K) h

/-! function 25: (*logboom/groups.Groups).join -/
def groups_Groups_join_ann : Anns := { hid := [3, 4], loops := [], joins := [((2, 0), { slots := [(5, .ptr)], kept := [3, 4], locs := [(1, [.int .i64, .int .i64, .int .i64, .int .i64, .slice])], keptL := [0] }), ((0, 4), { slots := [(18, .bool)], kept := [0, 3, 4, 5], locs := [], keptL := [0, 1] }), ((0, 6), { slots := [(27, .bool)], kept := [0, 3, 4, 5], locs := [], keptL := [0, 1] }), ((0, 8), { slots := [(42, .bool)], kept := [0, 3, 4, 5], locs := [], keptL := [0, 1] }), ((11, 14), { slots := [], kept := [3, 4, 5], locs := [(0, [.int .i64, .int .i64, .int .i64, .int .i64, .int .i64, .str, .str, .slice])], keptL := [1] })], mix := [(1, []), (6, []), (12, [7]), (16, [8, 11]), (19, [9, 11])] }
def groups_Groups_join_vc (g : Nat) (go : Nat) (m_0 : Int) (m_1 : Int) (m_2 : Int) (m_3 : Int) (m_4 : Int) (m_5 : ByteArray) (m_6 : ByteArray) (m_7 : Sl) (H : Heap) (K : Value → Heap → Prop) : Prop :=
  ∃ m1 : Option Nat,
  cellH H ⟨g, go, none⟩ = some (.map m1) ∧
  runH Tryd.prog (Instr.lookup 53 (.map m1) (.string m_5) false) H fun r1 H1 =>
    ∃ p1 : Option Addr,
    r1 = .pointer p1 ∧
    Sub H H1 ∧
    ∃ J1 : Option Addr → Int → Int → Int → Int → Sl → Heap → Prop,
    (FnH Tryd.prog 42 #[.agg #[.int .i64 m_0, .int .i64 m_1, .int .i64 m_2, .int .i64 m_3, .int .i64 m_4, .string m_5, .string m_6, .slice m_7.p m_7.n m_7.c]] H1 fun r2 H2 =>
      ∃ b1 : Bool,
      r2 = .bool b1 ∧
      br (!b1) (
        FnH Tryd.prog 26 #[.int .i64 1] H2 fun r3 H3 =>
          ∃ n1 : Int,
          ∃ n2 : Int,
          ∃ n3 : Int,
          ∃ n4 : Int,
          ∃ l1 : Sl,
          r3 = .agg #[.int .i64 n1, .int .i64 n2, .int .i64 n3, .int .i64 n4, .slice l1.p l1.n l1.c] ∧
          K (.agg #[.int .i64 n1, .int .i64 n2, .int .i64 n3, .int .i64 n4, .slice l1.p l1.n l1.c]) H3)
       (
        ∃ J2 : Bool → Heap → Prop,
        (br (decide ((m_1 : Int) > 0)) (
          SelfEq ([.v (.pointer (some ⟨g, go, none⟩)), .loc 0 0, .loc 1 0, .v (.pointer p1)], [some (34, [.int .i64 m_0, .int .i64 m_1, .int .i64 m_2, .int .i64 m_3, .int .i64 m_4, .string m_5, .string m_6, .slice m_7.p m_7.n m_7.c]), some (31, [.int .i64 0, .int .i64 0, .int .i64 0, .int .i64 0, .slice none 0 0])], []) ∧
          J2 (Option.isNone p1) H2)
         (
          SelfEq ([.v (.pointer (some ⟨g, go, none⟩)), .loc 0 0, .loc 1 0, .v (.pointer p1)], [some (34, [.int .i64 m_0, .int .i64 m_1, .int .i64 m_2, .int .i64 m_3, .int .i64 m_4, .string m_5, .string m_6, .slice m_7.p m_7.n m_7.c]), some (31, [.int .i64 0, .int .i64 0, .int .i64 0, .int .i64 0, .slice none 0 0])], []) ∧
          J2 false H2)) ∧
        ∀ b_1 : Bool,
        ∀ H4 : Heap,
        J2 b_1 H4 →
        br (b_1) (
          FnH Tryd.prog 26 #[.int .i64 8] H4 fun r4 H5 =>
            ∃ n5 : Int,
            ∃ n6 : Int,
            ∃ n7 : Int,
            ∃ n8 : Int,
            ∃ l2 : Sl,
            r4 = .agg #[.int .i64 n5, .int .i64 n6, .int .i64 n7, .int .i64 n8, .slice l2.p l2.n l2.c] ∧
            K (.agg #[.int .i64 n5, .int .i64 n6, .int .i64 n7, .int .i64 n8, .slice l2.p l2.n l2.c]) H5)
         (
          ∃ J3 : Bool → Heap → Prop,
          (br (decide ((m_1 : Int) > 0)) (
            ptrm p1 fun q1 o1 =>
            ∃ l3 : Sl,
            cellH H4 ⟨q1, o1 + 2, none⟩ = some (.slice l3.p l3.n l3.c) ∧
            FnH Tryd.prog 31 #[.slice l3.p l3.n l3.c, .int .i64 m_1] H4 fun r5 H6 =>
              ∃ b2 : Bool,
              r5 = .bool b2 ∧
              Sub H4 H6 ∧
              SelfEq ([.v (.pointer (some ⟨g, go, none⟩)), .loc 0 0, .loc 1 0, .v (.pointer p1)], [some (34, [.int .i64 m_0, .int .i64 m_1, .int .i64 m_2, .int .i64 m_3, .int .i64 m_4, .string m_5, .string m_6, .slice m_7.p m_7.n m_7.c]), some (31, [.int .i64 0, .int .i64 0, .int .i64 0, .int .i64 0, .slice none 0 0])], []) ∧
              J3 (!b2) H6)
           (
            SelfEq ([.v (.pointer (some ⟨g, go, none⟩)), .loc 0 0, .loc 1 0, .v (.pointer p1)], [some (34, [.int .i64 m_0, .int .i64 m_1, .int .i64 m_2, .int .i64 m_3, .int .i64 m_4, .string m_5, .string m_6, .slice m_7.p m_7.n m_7.c]), some (31, [.int .i64 0, .int .i64 0, .int .i64 0, .int .i64 0, .slice none 0 0])], []) ∧
            J3 false H4)) ∧
          ∀ b_2 : Bool,
          ∀ H7 : Heap,
          J3 b_2 H7 →
          br (b_2) (
            FnH Tryd.prog 26 #[.int .i64 17] H7 fun r6 H8 =>
              ∃ n9 : Int,
              ∃ n10 : Int,
              ∃ n11 : Int,
              ∃ n12 : Int,
              ∃ l4 : Sl,
              r6 = .agg #[.int .i64 n9, .int .i64 n10, .int .i64 n11, .int .i64 n12, .slice l4.p l4.n l4.c] ∧
              K (.agg #[.int .i64 n9, .int .i64 n10, .int .i64 n11, .int .i64 n12, .slice l4.p l4.n l4.c]) H8)
           (
            ∃ J4 : Bool → Heap → Prop,
            (br (Option.isNone p1) (
              ∃ m2 : Option Nat,
              cellH H7 ⟨g, go, none⟩ = some (.map m2) ∧
              lenM H7 m2 fun n13 =>
              br (decide (((n13 : Nat) : Int) ≥ 8)) (
                SelfEq ([.v (.pointer (some ⟨g, go, none⟩)), .loc 0 0, .loc 1 0, .v (.pointer p1)], [some (34, [.int .i64 m_0, .int .i64 m_1, .int .i64 m_2, .int .i64 m_3, .int .i64 m_4, .string m_5, .string m_6, .slice m_7.p m_7.n m_7.c]), some (31, [.int .i64 0, .int .i64 0, .int .i64 0, .int .i64 0, .slice none 0 0])], []) ∧
                J4 true H7)
               (
                br ((m_1 : Int) == 0) (
                  br (!(Option.isNone p1)) (
                    ptrm p1 fun q2 o2 =>
                    ∃ l5 : Sl,
                    cellH H7 ⟨q2, o2 + 2, none⟩ = some (.slice l5.p l5.n l5.c) ∧
                    br (decide (((l5.n : Nat) : Int) ≥ 16)) (
                      SelfEq ([.v (.pointer (some ⟨g, go, none⟩)), .loc 0 0, .loc 1 0, .v (.pointer p1)], [some (34, [.int .i64 m_0, .int .i64 m_1, .int .i64 m_2, .int .i64 m_3, .int .i64 m_4, .string m_5, .string m_6, .slice m_7.p m_7.n m_7.c]), some (31, [.int .i64 0, .int .i64 0, .int .i64 0, .int .i64 0, .slice none 0 0])], []) ∧
                      J4 true H7)
                     (
                      ptrm p1 fun q3 o3 =>
                      ∃ n14 : Int,
                      cellH H7 ⟨q3, o3 + 1, none⟩ = some (.int .i64 n14) ∧
                      SelfEq ([.v (.pointer (some ⟨g, go, none⟩)), .loc 0 0, .loc 1 0, .v (.pointer p1)], [some (34, [.int .i64 m_0, .int .i64 m_1, .int .i64 m_2, .int .i64 m_3, .int .i64 m_4, .string m_5, .string m_6, .slice m_7.p m_7.n m_7.c]), some (31, [.int .i64 0, .int .i64 0, .int .i64 0, .int .i64 0, .slice none 0 0])], []) ∧
                      J4 (decide ((n14 : Int) ≥ 1000000)) H7))
                   (
                    SelfEq ([.v (.pointer (some ⟨g, go, none⟩)), .loc 0 0, .loc 1 0, .v (.pointer p1)], [some (34, [.int .i64 m_0, .int .i64 m_1, .int .i64 m_2, .int .i64 m_3, .int .i64 m_4, .string m_5, .string m_6, .slice m_7.p m_7.n m_7.c]), some (31, [.int .i64 0, .int .i64 0, .int .i64 0, .int .i64 0, .slice none 0 0])], []) ∧
                    J4 false H7))
                 (
                  SelfEq ([.v (.pointer (some ⟨g, go, none⟩)), .loc 0 0, .loc 1 0, .v (.pointer p1)], [some (34, [.int .i64 m_0, .int .i64 m_1, .int .i64 m_2, .int .i64 m_3, .int .i64 m_4, .string m_5, .string m_6, .slice m_7.p m_7.n m_7.c]), some (31, [.int .i64 0, .int .i64 0, .int .i64 0, .int .i64 0, .slice none 0 0])], []) ∧
                  J4 false H7)))
             (
              br ((m_1 : Int) == 0) (
                br (!(Option.isNone p1)) (
                  ptrm p1 fun q4 o4 =>
                  ∃ l6 : Sl,
                  cellH H7 ⟨q4, o4 + 2, none⟩ = some (.slice l6.p l6.n l6.c) ∧
                  br (decide (((l6.n : Nat) : Int) ≥ 16)) (
                    SelfEq ([.v (.pointer (some ⟨g, go, none⟩)), .loc 0 0, .loc 1 0, .v (.pointer p1)], [some (34, [.int .i64 m_0, .int .i64 m_1, .int .i64 m_2, .int .i64 m_3, .int .i64 m_4, .string m_5, .string m_6, .slice m_7.p m_7.n m_7.c]), some (31, [.int .i64 0, .int .i64 0, .int .i64 0, .int .i64 0, .slice none 0 0])], []) ∧
                    J4 true H7)
                   (
                    ptrm p1 fun q5 o5 =>
                    ∃ n15 : Int,
                    cellH H7 ⟨q5, o5 + 1, none⟩ = some (.int .i64 n15) ∧
                    SelfEq ([.v (.pointer (some ⟨g, go, none⟩)), .loc 0 0, .loc 1 0, .v (.pointer p1)], [some (34, [.int .i64 m_0, .int .i64 m_1, .int .i64 m_2, .int .i64 m_3, .int .i64 m_4, .string m_5, .string m_6, .slice m_7.p m_7.n m_7.c]), some (31, [.int .i64 0, .int .i64 0, .int .i64 0, .int .i64 0, .slice none 0 0])], []) ∧
                    J4 (decide ((n15 : Int) ≥ 1000000)) H7))
                 (
                  SelfEq ([.v (.pointer (some ⟨g, go, none⟩)), .loc 0 0, .loc 1 0, .v (.pointer p1)], [some (34, [.int .i64 m_0, .int .i64 m_1, .int .i64 m_2, .int .i64 m_3, .int .i64 m_4, .string m_5, .string m_6, .slice m_7.p m_7.n m_7.c]), some (31, [.int .i64 0, .int .i64 0, .int .i64 0, .int .i64 0, .slice none 0 0])], []) ∧
                  J4 false H7))
               (
                SelfEq ([.v (.pointer (some ⟨g, go, none⟩)), .loc 0 0, .loc 1 0, .v (.pointer p1)], [some (34, [.int .i64 m_0, .int .i64 m_1, .int .i64 m_2, .int .i64 m_3, .int .i64 m_4, .string m_5, .string m_6, .slice m_7.p m_7.n m_7.c]), some (31, [.int .i64 0, .int .i64 0, .int .i64 0, .int .i64 0, .slice none 0 0])], []) ∧
                J4 false H7))) ∧
            ∀ b_3 : Bool,
            ∀ H9 : Heap,
            J4 b_3 H9 →
            br (b_3) (
              FnH Tryd.prog 26 #[.int .i64 3] H9 fun r7 H10 =>
                ∃ n16 : Int,
                ∃ n17 : Int,
                ∃ n18 : Int,
                ∃ n19 : Int,
                ∃ l7 : Sl,
                r7 = .agg #[.int .i64 n16, .int .i64 n17, .int .i64 n18, .int .i64 n19, .slice l7.p l7.n l7.c] ∧
                K (.agg #[.int .i64 n16, .int .i64 n17, .int .i64 n18, .int .i64 n19, .slice l7.p l7.n l7.c]) H10)
             (
              br (Option.isNone p1) (
                ∀ q6 : Nat,
                H9 q6 = none →
                letH (Heap.upd H9 q6 (.map #[] 0)) fun H11 =>
                ∀ q7 : Nat,
                H11 q7 = none →
                letH (Heap.upd H11 q7 (.map #[] 0)) fun H12 =>
                ∀ q8 : Nat,
                H12 q8 = none →
                letH (Heap.upd H12 q8 (.cells #[.int .i64 0, .int .i64 0, .slice none 0 0, .slice none 0 0, .map (some q6), .map (some q7)] 61 (0, 0))) fun H13 =>
                ∃ m3 : Option Nat,
                cellH H13 ⟨g, go, none⟩ = some (.map m3) ∧
                runH Tryd.prog (Instr.mapUpdate 53 (.map m3) (.string m_5) (.pointer (some ⟨q8, 0, none⟩))) H13 fun _ H14 =>
                  SelfEq ([.loc 0 0, .loc 1 0], [some (34, [.int .i64 m_0, .int .i64 m_1, .int .i64 m_2, .int .i64 m_3, .int .i64 m_4, .string m_5, .string m_6, .slice m_7.p m_7.n m_7.c])], [31]) ∧
                  J1 (some ⟨q8, 0, none⟩) 0 0 0 0 ⟨none, 0, 0⟩ H14)
               (
                SelfEq ([.loc 0 0, .loc 1 0], [some (34, [.int .i64 m_0, .int .i64 m_1, .int .i64 m_2, .int .i64 m_3, .int .i64 m_4, .string m_5, .string m_6, .slice m_7.p m_7.n m_7.c])], [31]) ∧
                J1 p1 0 0 0 0 ⟨none, 0, 0⟩ H9)))))) ∧
    ∀ x_1 : Option Addr,
    ∀ n20 : Int,
    ∀ n21 : Int,
    ∀ n22 : Int,
    ∀ n23 : Int,
    ∀ l8 : Sl,
    ∀ H15 : Heap,
    J1 x_1 n20 n21 n22 n23 l8 H15 →
    ∃ J5 : Int → Int → Int → Int → Int → ByteArray → ByteArray → Sl → Heap → Prop,
    (br ((m_1 : Int) == 0) (
      ptrm x_1 fun q9 o6 =>
      ∃ n24 : Int,
      cellH H15 ⟨q9, o6 + 1, none⟩ = some (.int .i64 n24) ∧
      ptrm x_1 fun q10 o7 =>
      (∃ u, cellH H15 ⟨q10, o7 + 1, none⟩ = some u) ∧
      frozenH H15 ⟨q10, o7 + 1, none⟩ = false ∧
      letH (Heap.set H15 ⟨q10, o7 + 1, none⟩ (.int .i64 (IntKind.wrap .i64 (n24 + 1)))) fun H16 =>
      ptrm x_1 fun q11 o8 =>
      ∃ n25 : Int,
      cellH H16 ⟨q11, o8 + 1, none⟩ = some (.int .i64 n25) ∧
      ptrm x_1 fun q12 o9 =>
      ∃ l9 : Sl,
      cellH H16 ⟨q12, o9 + 2, none⟩ = some (.slice l9.p l9.n l9.c) ∧
      ∀ q13 : Nat,
      H16 q13 = none →
      letH (Heap.upd H16 q13 (.cells #[.int .i64 n25] 3 (0, 0))) fun H17 =>
      Sub H16 H17 ∧
      runH Tryd.prog (Builtin.append_ #[22, 22] 22 #[.slice l9.p l9.n l9.c, .slice (some ⟨q13, 0, none⟩) 1 1]) H17 fun r8 H18 =>
        ∃ l10 : Sl,
        r8 = .slice l10.p l10.n l10.c ∧
        ptrm x_1 fun q14 o10 =>
        (∃ u, cellH H18 ⟨q14, o10 + 2, none⟩ = some u) ∧
        frozenH H18 ⟨q14, o10 + 2, none⟩ = false ∧
        letH (Heap.set H18 ⟨q14, o10 + 2, none⟩ (.slice l10.p l10.n l10.c)) fun H19 =>
        SelfEq ([.loc 0 0, .loc 1 0, .v (.pointer x_1)], [some (31, [.int .i64 n20, .int .i64 n21, .int .i64 n22, .int .i64 n23, .slice l8.p l8.n l8.c])], [34]) ∧
        J5 m_0 n25 m_2 m_3 m_4 m_5 m_6 m_7 H19)
     (
      SelfEq ([.loc 0 0, .loc 1 0, .v (.pointer x_1)], [some (31, [.int .i64 n20, .int .i64 n21, .int .i64 n22, .int .i64 n23, .slice l8.p l8.n l8.c])], [34]) ∧
      J5 m_0 m_1 m_2 m_3 m_4 m_5 m_6 m_7 H15)) ∧
    ∀ n26 : Int,
    ∀ n27 : Int,
    ∀ n28 : Int,
    ∀ n29 : Int,
    ∀ n30 : Int,
    ∀ s1 : ByteArray,
    ∀ s2 : ByteArray,
    ∀ l11 : Sl,
    ∀ H20 : Heap,
    J5 n26 n27 n28 n29 n30 s1 s2 l11 H20 →
    FnH Tryd.prog 24 #[.slice l11.p l11.n l11.c] H20 fun r9 H21 =>
      ∃ l12 : Sl,
      r9 = .slice l12.p l12.n l12.c ∧
      ptrm x_1 fun q15 o11 =>
      (∃ u, cellH H21 ⟨q15, o11 + 3, none⟩ = some u) ∧
      frozenH H21 ⟨q15, o11 + 3, none⟩ = false ∧
      letH (Heap.set H21 ⟨q15, o11 + 3, none⟩ (.slice l12.p l12.n l12.c)) fun H22 =>
      ptrm x_1 fun q16 o12 =>
      ∃ n31 : Int,
      cellH H22 ⟨q16, o12, none⟩ = some (.int .i64 n31) ∧
      ptrm x_1 fun q17 o13 =>
      (∃ u, cellH H22 ⟨q17, o13, none⟩ = some u) ∧
      frozenH H22 ⟨q17, o13, none⟩ = false ∧
      letH (Heap.set H22 ⟨q17, o13, none⟩ (.int .i64 (IntKind.wrap .i64 (n31 + 1)))) fun H23 =>
      ptrm x_1 fun q18 o14 =>
      (Sub H23 H23 ∧
      (∃ n32 : Int,
      cellH H23 ⟨q18, o14, none⟩ = some (.int .i64 n32) ∧
      Sub H23 H23 ∧
      FnH Tryd.prog 43 #[.pointer x_1, .int .i64 n27] H23 fun r10 H24 =>
        ∃ l13 : Sl,
        r10 = .slice l13.p l13.n l13.c ∧
        K (.agg #[.int .i64 0, .int .i64 n27, .int .i64 n32, .int .i64 0, .slice l13.p l13.n l13.c]) H24) ∧
      FnH Tryd.prog 43 #[.pointer x_1, .int .i64 n27] H23 fun r11 H25 =>
        ∃ l14 : Sl,
        r11 = .slice l14.p l14.n l14.c ∧
        ∃ n33 : Int,
        cellH H25 ⟨q18, o14, none⟩ = some (.int .i64 n33) ∧
        K (.agg #[.int .i64 0, .int .i64 n27, .int .i64 n33, .int .i64 0, .slice l14.p l14.n l14.c]) H25) ∧
      (∃ n34 : Int,
      cellH H23 ⟨q18, o14, none⟩ = some (.int .i64 n34) ∧
      Sub H23 H23 ∧
      (Sub H23 H23 ∧
      FnH Tryd.prog 43 #[.pointer x_1, .int .i64 n27] H23 fun r12 H26 =>
        ∃ l15 : Sl,
        r12 = .slice l15.p l15.n l15.c ∧
        K (.agg #[.int .i64 0, .int .i64 n27, .int .i64 n34, .int .i64 0, .slice l15.p l15.n l15.c]) H26) ∧
      FnH Tryd.prog 43 #[.pointer x_1, .int .i64 n27] H23 fun r13 H27 =>
        ∃ l16 : Sl,
        r13 = .slice l16.p l16.n l16.c ∧
        K (.agg #[.int .i64 0, .int .i64 n27, .int .i64 n34, .int .i64 0, .slice l16.p l16.n l16.c]) H27) ∧
      FnH Tryd.prog 43 #[.pointer x_1, .int .i64 n27] H23 fun r14 H28 =>
        ∃ l17 : Sl,
        r14 = .slice l17.p l17.n l17.c ∧
        (∃ n35 : Int,
        cellH H28 ⟨q18, o14, none⟩ = some (.int .i64 n35) ∧
        K (.agg #[.int .i64 0, .int .i64 n27, .int .i64 n35, .int .i64 0, .slice l17.p l17.n l17.c]) H28) ∧
        ∃ n36 : Int,
        cellH H28 ⟨q18, o14, none⟩ = some (.int .i64 n36) ∧
        K (.agg #[.int .i64 0, .int .i64 n27, .int .i64 n36, .int .i64 0, .slice l17.p l17.n l17.c]) H28
theorem groups_Groups_join_eq (g : Nat) (go : Nat) (m_0 : Int) (m_1 : Int) (m_2 : Int) (m_3 : Int) (m_4 : Int) (m_5 : ByteArray) (m_6 : ByteArray) (m_7 : Sl) (H : Heap) (K : Value → Heap → Prop) : groups_Groups_join_vc g go m_0 m_1 m_2 m_3 m_4 m_5 m_6 m_7 H K = denFn Tryd.prog groups_Groups_join_ann Tryd.f25 (bodyOf Tryd.f25) [.pointer (some ⟨g, go, none⟩), .agg #[.int .i64 m_0, .int .i64 m_1, .int .i64 m_2, .int .i64 m_3, .int .i64 m_4, .string m_5, .string m_6, .slice m_7.p m_7.n m_7.c]] H K := by kernel_rfl
theorem groups_Groups_join_fn (g : Nat) (go : Nat) (m_0 : Int) (m_1 : Int) (m_2 : Int) (m_3 : Int) (m_4 : Int) (m_5 : ByteArray) (m_6 : ByteArray) (m_7 : Sl) {H : Heap} {K : Value → Heap → Prop} (h : groups_Groups_join_vc g go m_0 m_1 m_2 m_3 m_4 m_5 m_6 m_7 H K) : FnH Tryd.prog 25 #[.pointer (some ⟨g, go, none⟩), .agg #[.int .i64 m_0, .int .i64 m_1, .int .i64 m_2, .int .i64 m_3, .int .i64 m_4, .string m_5, .string m_6, .slice m_7.p m_7.n m_7.c]] H K :=
  denFn_fn Tryd.mixed groups_Groups_join_ann Tryd.func25 (bodyOf_spec (by kernel_rfl)) (groups_Groups_join_eq g go m_0 m_1 m_2 m_3 m_4 m_5 m_6 m_7 H K) h

/-! function 27: (*logboom/groups.group).leave -/
def groups_group_leave_ann : Anns := { hid := [4], loops := [], joins := [], mix := [(3, [7])] }
def groups_group_leave_vc (x : Nat) (xo : Nat) (m_0 : Int) (m_1 : Int) (m_2 : Int) (m_3 : Int) (m_4 : Int) (m_5 : ByteArray) (m_6 : ByteArray) (m_7 : Sl) (H : Heap) (K : Value → Heap → Prop) : Prop :=
  ∀ q1 : Nat,
  H q1 = none →
  letH (Heap.upd H q1 (.cells #[.int .i64 m_0, .int .i64 m_1, .int .i64 m_2, .int .i64 m_3, .int .i64 m_4, .string m_5, .string m_6, .slice m_7.p m_7.n m_7.c] 34 (0, 0))) fun H1 =>
  ∃ l1 : Sl,
  cellH H1 ⟨x, xo + 2, none⟩ = some (.slice l1.p l1.n l1.c) ∧
  FnH Tryd.prog 44 #[.slice l1.p l1.n l1.c, .func (.func 45) #[] #[.pointer (some ⟨q1, 0, none⟩)]] H1 fun r1 H2 =>
    ∃ l2 : Sl,
    r1 = .slice l2.p l2.n l2.c ∧
    (∃ u, cellH H2 ⟨x, xo + 2, none⟩ = some u) ∧
    frozenH H2 ⟨x, xo + 2, none⟩ = false ∧
    letH (Heap.set H2 ⟨x, xo + 2, none⟩ (.slice l2.p l2.n l2.c)) fun H3 =>
    ∃ n1 : Int,
    cellH H3 ⟨x, xo, none⟩ = some (.int .i64 n1) ∧
    (∃ u, cellH H3 ⟨x, xo, none⟩ = some u) ∧
    frozenH H3 ⟨x, xo, none⟩ = false ∧
    letH (Heap.set H3 ⟨x, xo, none⟩ (.int .i64 (IntKind.wrap .i64 (n1 + 1)))) fun H4 =>
    ∃ n2 : Int,
    cellH H4 ⟨q1, 1, none⟩ = some (.int .i64 n2) ∧
    ∃ n3 : Int,
    cellH H4 ⟨x, xo, none⟩ = some (.int .i64 n3) ∧
    K (.agg #[.int .i64 0, .int .i64 n2, .int .i64 n3, .int .i64 0, .slice none 0 0]) H4
theorem groups_group_leave_eq (x : Nat) (xo : Nat) (m_0 : Int) (m_1 : Int) (m_2 : Int) (m_3 : Int) (m_4 : Int) (m_5 : ByteArray) (m_6 : ByteArray) (m_7 : Sl) (H : Heap) (K : Value → Heap → Prop) : groups_group_leave_vc x xo m_0 m_1 m_2 m_3 m_4 m_5 m_6 m_7 H K = denFn Tryd.prog groups_group_leave_ann Tryd.f27 (bodyOf Tryd.f27) [.pointer (some ⟨x, xo, none⟩), .agg #[.int .i64 m_0, .int .i64 m_1, .int .i64 m_2, .int .i64 m_3, .int .i64 m_4, .string m_5, .string m_6, .slice m_7.p m_7.n m_7.c]] H K := by kernel_rfl
theorem groups_group_leave_fn (x : Nat) (xo : Nat) (m_0 : Int) (m_1 : Int) (m_2 : Int) (m_3 : Int) (m_4 : Int) (m_5 : ByteArray) (m_6 : ByteArray) (m_7 : Sl) {H : Heap} {K : Value → Heap → Prop} (h : groups_group_leave_vc x xo m_0 m_1 m_2 m_3 m_4 m_5 m_6 m_7 H K) : FnH Tryd.prog 27 #[.pointer (some ⟨x, xo, none⟩), .agg #[.int .i64 m_0, .int .i64 m_1, .int .i64 m_2, .int .i64 m_3, .int .i64 m_4, .string m_5, .string m_6, .slice m_7.p m_7.n m_7.c]] H K :=
  denFn_fn Tryd.mixed groups_group_leave_ann Tryd.func27 (bodyOf_spec (by kernel_rfl)) (groups_group_leave_eq x xo m_0 m_1 m_2 m_3 m_4 m_5 m_6 m_7 H K) h

/-! function 28: (*logboom/groups.group).commit -/
def groups_group_commit_ann : Anns := { hid := [3, 4], loops := [], joins := [], mix := [(3, []), (6, []), (8, [18, 20, 21, 23]), (9, [9])] }
def groups_group_commit_vc (x : Nat) (xo : Nat) (m_0 : Int) (m_1 : Int) (m_2 : Int) (m_3 : Int) (m_4 : Int) (m_5 : ByteArray) (m_6 : ByteArray) (m_7 : Sl) (H : Heap) (K : Value → Heap → Prop) : Prop :=
  br (decide ((m_4 : Int) < 0)) (
    FnH Tryd.prog 26 #[.int .i64 1] H fun r1 H1 =>
      ∃ n1 : Int,
      ∃ n2 : Int,
      ∃ n3 : Int,
      ∃ n4 : Int,
      ∃ l1 : Sl,
      r1 = .agg #[.int .i64 n1, .int .i64 n2, .int .i64 n3, .int .i64 n4, .slice l1.p l1.n l1.c] ∧
      K (.agg #[.int .i64 n1, .int .i64 n2, .int .i64 n3, .int .i64 n4, .slice l1.p l1.n l1.c]) H1)
   (
    br (decide ((m_4 : Int) > 1000000000)) (
      FnH Tryd.prog 26 #[.int .i64 1] H fun r2 H2 =>
        ∃ n5 : Int,
        ∃ n6 : Int,
        ∃ n7 : Int,
        ∃ n8 : Int,
        ∃ l2 : Sl,
        r2 = .agg #[.int .i64 n5, .int .i64 n6, .int .i64 n7, .int .i64 n8, .slice l2.p l2.n l2.c] ∧
        K (.agg #[.int .i64 n5, .int .i64 n6, .int .i64 n7, .int .i64 n8, .slice l2.p l2.n l2.c]) H2)
     (
      br (((m_7.n : Nat) : Int) != 1) (
        FnH Tryd.prog 26 #[.int .i64 1] H fun r3 H3 =>
          ∃ n9 : Int,
          ∃ n10 : Int,
          ∃ n11 : Int,
          ∃ n12 : Int,
          ∃ l3 : Sl,
          r3 = .agg #[.int .i64 n9, .int .i64 n10, .int .i64 n11, .int .i64 n12, .slice l3.p l3.n l3.c] ∧
          K (.agg #[.int .i64 n9, .int .i64 n10, .int .i64 n11, .int .i64 n12, .slice l3.p l3.n l3.c]) H3)
       (
        ∃ q1 : Nat,
        ∃ o1 : Nat,
        (m_7.p : Option Addr) = some ⟨q1, o1, none⟩ ∧
        0 ≤ (0 : Int) ∧
        (0 : Int) < (m_7.n : Nat) ∧
        ∃ n13 : Int,
        cellH H ⟨q1, o1 + Int.toNat 0, none⟩ = some (.int .i64 n13) ∧
        br (decide ((n13 : Int) < 0)) (
          FnH Tryd.prog 26 #[.int .i64 1] H fun r4 H4 =>
            ∃ n14 : Int,
            ∃ n15 : Int,
            ∃ n16 : Int,
            ∃ n17 : Int,
            ∃ l4 : Sl,
            r4 = .agg #[.int .i64 n14, .int .i64 n15, .int .i64 n16, .int .i64 n17, .slice l4.p l4.n l4.c] ∧
            K (.agg #[.int .i64 n14, .int .i64 n15, .int .i64 n16, .int .i64 n17, .slice l4.p l4.n l4.c]) H4)
         (
          ∃ q2 : Nat,
          ∃ o2 : Nat,
          (m_7.p : Option Addr) = some ⟨q2, o2, none⟩ ∧
          0 ≤ (0 : Int) ∧
          (0 : Int) < (m_7.n : Nat) ∧
          ∃ n18 : Int,
          cellH H ⟨q2, o2 + Int.toNat 0, none⟩ = some (.int .i64 n18) ∧
          br (decide ((n18 : Int) > 1000000000)) (
            FnH Tryd.prog 26 #[.int .i64 1] H fun r5 H5 =>
              ∃ n19 : Int,
              ∃ n20 : Int,
              ∃ n21 : Int,
              ∃ n22 : Int,
              ∃ l5 : Sl,
              r5 = .agg #[.int .i64 n19, .int .i64 n20, .int .i64 n21, .int .i64 n22, .slice l5.p l5.n l5.c] ∧
              K (.agg #[.int .i64 n19, .int .i64 n20, .int .i64 n21, .int .i64 n22, .slice l5.p l5.n l5.c]) H5)
           (
            ∃ m1 : Option Nat,
            cellH H ⟨x, xo + 5, none⟩ = some (.map m1) ∧
            runH Tryd.prog (Instr.lookup 59 (.map m1) (.int .i64 m_1) true) H fun r6 H6 =>
              ∃ n23 : Int,
              ∃ b1 : Bool,
              r6 = .tuple #[.int .i64 n23, .bool b1] ∧
              Sub H H6 ∧
              br (b1) (
                ∃ q3 : Nat,
                ∃ o3 : Nat,
                (m_7.p : Option Addr) = some ⟨q3, o3, none⟩ ∧
                0 ≤ (0 : Int) ∧
                (0 : Int) < (m_7.n : Nat) ∧
                ∃ n24 : Int,
                cellH H6 ⟨q3, o3 + Int.toNat 0, none⟩ = some (.int .i64 n24) ∧
                br (decide ((n24 : Int) ≤ n23)) (
                  FnH Tryd.prog 26 #[.int .i64 12] H6 fun r7 H7 =>
                    ∃ n25 : Int,
                    ∃ n26 : Int,
                    ∃ n27 : Int,
                    ∃ n28 : Int,
                    ∃ l6 : Sl,
                    r7 = .agg #[.int .i64 n25, .int .i64 n26, .int .i64 n27, .int .i64 n28, .slice l6.p l6.n l6.c] ∧
                    K (.agg #[.int .i64 n25, .int .i64 n26, .int .i64 n27, .int .i64 n28, .slice l6.p l6.n l6.c]) H7)
                 (
                  FnH Tryd.prog 33 #[.pointer (some ⟨x, xo, none⟩), .int .i64 m_3] H6 fun r8 H8 =>
                    ∃ n29 : Int,
                    r8 = .int .i64 n29 ∧
                    Sub H6 H8 ∧
                    br ((n29 : Int) != m_1) (
                      FnH Tryd.prog 26 #[.int .i64 19] H8 fun r9 H9 =>
                        ∃ n30 : Int,
                        ∃ n31 : Int,
                        ∃ n32 : Int,
                        ∃ n33 : Int,
                        ∃ l7 : Sl,
                        r9 = .agg #[.int .i64 n30, .int .i64 n31, .int .i64 n32, .int .i64 n33, .slice l7.p l7.n l7.c] ∧
                        K (.agg #[.int .i64 n30, .int .i64 n31, .int .i64 n32, .int .i64 n33, .slice l7.p l7.n l7.c]) H9)
                     (
                      ∃ m2 : Option Nat,
                      cellH H8 ⟨x, xo + 4, none⟩ = some (.map m2) ∧
                      ∃ m3 : Option Nat,
                      cellH H8 ⟨x, xo + 5, none⟩ = some (.map m3) ∧
                      ∃ q4 : Nat,
                      ∃ o4 : Nat,
                      (m_7.p : Option Addr) = some ⟨q4, o4, none⟩ ∧
                      0 ≤ (0 : Int) ∧
                      (0 : Int) < (m_7.n : Nat) ∧
                      ∃ n34 : Int,
                      cellH H8 ⟨q4, o4 + Int.toNat 0, none⟩ = some (.int .i64 n34) ∧
                      (Sub H8 H8 ∧
                      (Sub H8 H8 ∧
                      runH Tryd.prog (Instr.mapEntry 59 (.map m2) (.int .i64 m_3)) H8 fun r10 H10 =>
                        ∃ n36 : Int,
                        ∃ n35 : Int,
                        r10 = .tuple #[.int .i64 n36, .int .i64 n35] ∧
                        runH Tryd.prog (Instr.entryStore 59 (.map m2) (.int .i64 n35) (.int .i64 m_4)) H10 fun _ H11 =>
                          runH Tryd.prog (Instr.mapEntry 59 (.map m3) (.int .i64 m_1)) H11 fun r11 H12 =>
                            ∃ n38 : Int,
                            ∃ n37 : Int,
                            r11 = .tuple #[.int .i64 n38, .int .i64 n37] ∧
                            runH Tryd.prog (Instr.entryStore 59 (.map m3) (.int .i64 n37) (.int .i64 n34)) H12 fun _ H13 =>
                              ∃ n39 : Int,
                              cellH H13 ⟨x, xo, none⟩ = some (.int .i64 n39) ∧
                              K (.agg #[.int .i64 0, .int .i64 m_1, .int .i64 n39, .int .i64 m_4, .slice none 0 0]) H13) ∧
                      runH Tryd.prog (Instr.mapEntry 59 (.map m2) (.int .i64 m_3)) H8 fun r12 H14 =>
                        ∃ n41 : Int,
                        ∃ n40 : Int,
                        r12 = .tuple #[.int .i64 n41, .int .i64 n40] ∧
                        runH Tryd.prog (Instr.entryStore 59 (.map m2) (.int .i64 n40) (.int .i64 m_4)) H14 fun _ H15 =>
                          runH Tryd.prog (Instr.mapEntry 59 (.map m3) (.int .i64 m_1)) H15 fun r13 H16 =>
                            ∃ n43 : Int,
                            ∃ n42 : Int,
                            r13 = .tuple #[.int .i64 n43, .int .i64 n42] ∧
                            runH Tryd.prog (Instr.entryStore 59 (.map m3) (.int .i64 n42) (.int .i64 n34)) H16 fun _ H17 =>
                              ∃ n44 : Int,
                              cellH H17 ⟨x, xo, none⟩ = some (.int .i64 n44) ∧
                              K (.agg #[.int .i64 0, .int .i64 m_1, .int .i64 n44, .int .i64 m_4, .slice none 0 0]) H17) ∧
                      (Sub H8 H8 ∧
                      (Sub H8 H8 ∧
                      runH Tryd.prog (Instr.mapEntry 59 (.map m2) (.int .i64 m_3)) H8 fun r14 H18 =>
                        ∃ n46 : Int,
                        ∃ n45 : Int,
                        r14 = .tuple #[.int .i64 n46, .int .i64 n45] ∧
                        runH Tryd.prog (Instr.entryStore 59 (.map m2) (.int .i64 n45) (.int .i64 m_4)) H18 fun _ H19 =>
                          runH Tryd.prog (Instr.mapEntry 59 (.map m3) (.int .i64 m_1)) H19 fun r15 H20 =>
                            ∃ n48 : Int,
                            ∃ n47 : Int,
                            r15 = .tuple #[.int .i64 n48, .int .i64 n47] ∧
                            runH Tryd.prog (Instr.entryStore 59 (.map m3) (.int .i64 n47) (.int .i64 n34)) H20 fun _ H21 =>
                              ∃ n49 : Int,
                              cellH H21 ⟨x, xo, none⟩ = some (.int .i64 n49) ∧
                              K (.agg #[.int .i64 0, .int .i64 m_1, .int .i64 n49, .int .i64 m_4, .slice none 0 0]) H21) ∧
                      runH Tryd.prog (Instr.mapEntry 59 (.map m2) (.int .i64 m_3)) H8 fun r16 H22 =>
                        ∃ n51 : Int,
                        ∃ n50 : Int,
                        r16 = .tuple #[.int .i64 n51, .int .i64 n50] ∧
                        (runH Tryd.prog (Instr.entryStore 59 (.map m2) (.int .i64 n50) (.int .i64 m_4)) H22 fun _ H23 =>
                          runH Tryd.prog (Instr.mapEntry 59 (.map m3) (.int .i64 m_1)) H23 fun r17 H24 =>
                            ∃ n53 : Int,
                            ∃ n52 : Int,
                            r17 = .tuple #[.int .i64 n53, .int .i64 n52] ∧
                            runH Tryd.prog (Instr.entryStore 59 (.map m3) (.int .i64 n52) (.int .i64 n34)) H24 fun _ H25 =>
                              ∃ n54 : Int,
                              cellH H25 ⟨x, xo, none⟩ = some (.int .i64 n54) ∧
                              K (.agg #[.int .i64 0, .int .i64 m_1, .int .i64 n54, .int .i64 m_4, .slice none 0 0]) H25) ∧
                        runH Tryd.prog (Instr.entryStore 59 (.map m2) (.int .i64 n50) (.int .i64 m_4)) H22 fun _ H26 =>
                          runH Tryd.prog (Instr.mapEntry 59 (.map m3) (.int .i64 m_1)) H26 fun r18 H27 =>
                            ∃ n56 : Int,
                            ∃ n55 : Int,
                            r18 = .tuple #[.int .i64 n56, .int .i64 n55] ∧
                            runH Tryd.prog (Instr.entryStore 59 (.map m3) (.int .i64 n55) (.int .i64 n34)) H27 fun _ H28 =>
                              ∃ n57 : Int,
                              cellH H28 ⟨x, xo, none⟩ = some (.int .i64 n57) ∧
                              K (.agg #[.int .i64 0, .int .i64 m_1, .int .i64 n57, .int .i64 m_4, .slice none 0 0]) H28) ∧
                      runH Tryd.prog (Instr.mapEntry 59 (.map m2) (.int .i64 m_3)) H8 fun r19 H29 =>
                        ∃ n59 : Int,
                        ∃ n58 : Int,
                        r19 = .tuple #[.int .i64 n59, .int .i64 n58] ∧
                        (runH Tryd.prog (Instr.entryStore 59 (.map m2) (.int .i64 n58) (.int .i64 m_4)) H29 fun _ H30 =>
                          runH Tryd.prog (Instr.mapEntry 59 (.map m3) (.int .i64 m_1)) H30 fun r20 H31 =>
                            ∃ n61 : Int,
                            ∃ n60 : Int,
                            r20 = .tuple #[.int .i64 n61, .int .i64 n60] ∧
                            runH Tryd.prog (Instr.entryStore 59 (.map m3) (.int .i64 n60) (.int .i64 n34)) H31 fun _ H32 =>
                              ∃ n62 : Int,
                              cellH H32 ⟨x, xo, none⟩ = some (.int .i64 n62) ∧
                              K (.agg #[.int .i64 0, .int .i64 m_1, .int .i64 n62, .int .i64 m_4, .slice none 0 0]) H32) ∧
                        (runH Tryd.prog (Instr.entryStore 59 (.map m2) (.int .i64 n58) (.int .i64 m_4)) H29 fun _ H33 =>
                          runH Tryd.prog (Instr.mapEntry 59 (.map m3) (.int .i64 m_1)) H33 fun r21 H34 =>
                            ∃ n64 : Int,
                            ∃ n63 : Int,
                            r21 = .tuple #[.int .i64 n64, .int .i64 n63] ∧
                            runH Tryd.prog (Instr.entryStore 59 (.map m3) (.int .i64 n63) (.int .i64 n34)) H34 fun _ H35 =>
                              ∃ n65 : Int,
                              cellH H35 ⟨x, xo, none⟩ = some (.int .i64 n65) ∧
                              K (.agg #[.int .i64 0, .int .i64 m_1, .int .i64 n65, .int .i64 m_4, .slice none 0 0]) H35) ∧
                        runH Tryd.prog (Instr.entryStore 59 (.map m2) (.int .i64 n58) (.int .i64 m_4)) H29 fun _ H36 =>
                          runH Tryd.prog (Instr.mapEntry 59 (.map m3) (.int .i64 m_1)) H36 fun r22 H37 =>
                            ∃ n67 : Int,
                            ∃ n66 : Int,
                            r22 = .tuple #[.int .i64 n67, .int .i64 n66] ∧
                            runH Tryd.prog (Instr.entryStore 59 (.map m3) (.int .i64 n66) (.int .i64 n34)) H37 fun _ H38 =>
                              ∃ n68 : Int,
                              cellH H38 ⟨x, xo, none⟩ = some (.int .i64 n68) ∧
                              K (.agg #[.int .i64 0, .int .i64 m_1, .int .i64 n68, .int .i64 m_4, .slice none 0 0]) H38)))
               (
                FnH Tryd.prog 33 #[.pointer (some ⟨x, xo, none⟩), .int .i64 m_3] H6 fun r23 H39 =>
                  ∃ n69 : Int,
                  r23 = .int .i64 n69 ∧
                  Sub H6 H39 ∧
                  br ((n69 : Int) != m_1) (
                    FnH Tryd.prog 26 #[.int .i64 19] H39 fun r24 H40 =>
                      ∃ n70 : Int,
                      ∃ n71 : Int,
                      ∃ n72 : Int,
                      ∃ n73 : Int,
                      ∃ l8 : Sl,
                      r24 = .agg #[.int .i64 n70, .int .i64 n71, .int .i64 n72, .int .i64 n73, .slice l8.p l8.n l8.c] ∧
                      K (.agg #[.int .i64 n70, .int .i64 n71, .int .i64 n72, .int .i64 n73, .slice l8.p l8.n l8.c]) H40)
                   (
                    ∃ m4 : Option Nat,
                    cellH H39 ⟨x, xo + 4, none⟩ = some (.map m4) ∧
                    ∃ m5 : Option Nat,
                    cellH H39 ⟨x, xo + 5, none⟩ = some (.map m5) ∧
                    ∃ q5 : Nat,
                    ∃ o5 : Nat,
                    (m_7.p : Option Addr) = some ⟨q5, o5, none⟩ ∧
                    0 ≤ (0 : Int) ∧
                    (0 : Int) < (m_7.n : Nat) ∧
                    ∃ n74 : Int,
                    cellH H39 ⟨q5, o5 + Int.toNat 0, none⟩ = some (.int .i64 n74) ∧
                    (Sub H39 H39 ∧
                    (Sub H39 H39 ∧
                    runH Tryd.prog (Instr.mapEntry 59 (.map m4) (.int .i64 m_3)) H39 fun r25 H41 =>
                      ∃ n76 : Int,
                      ∃ n75 : Int,
                      r25 = .tuple #[.int .i64 n76, .int .i64 n75] ∧
                      runH Tryd.prog (Instr.entryStore 59 (.map m4) (.int .i64 n75) (.int .i64 m_4)) H41 fun _ H42 =>
                        runH Tryd.prog (Instr.mapEntry 59 (.map m5) (.int .i64 m_1)) H42 fun r26 H43 =>
                          ∃ n78 : Int,
                          ∃ n77 : Int,
                          r26 = .tuple #[.int .i64 n78, .int .i64 n77] ∧
                          runH Tryd.prog (Instr.entryStore 59 (.map m5) (.int .i64 n77) (.int .i64 n74)) H43 fun _ H44 =>
                            ∃ n79 : Int,
                            cellH H44 ⟨x, xo, none⟩ = some (.int .i64 n79) ∧
                            K (.agg #[.int .i64 0, .int .i64 m_1, .int .i64 n79, .int .i64 m_4, .slice none 0 0]) H44) ∧
                    runH Tryd.prog (Instr.mapEntry 59 (.map m4) (.int .i64 m_3)) H39 fun r27 H45 =>
                      ∃ n81 : Int,
                      ∃ n80 : Int,
                      r27 = .tuple #[.int .i64 n81, .int .i64 n80] ∧
                      runH Tryd.prog (Instr.entryStore 59 (.map m4) (.int .i64 n80) (.int .i64 m_4)) H45 fun _ H46 =>
                        runH Tryd.prog (Instr.mapEntry 59 (.map m5) (.int .i64 m_1)) H46 fun r28 H47 =>
                          ∃ n83 : Int,
                          ∃ n82 : Int,
                          r28 = .tuple #[.int .i64 n83, .int .i64 n82] ∧
                          runH Tryd.prog (Instr.entryStore 59 (.map m5) (.int .i64 n82) (.int .i64 n74)) H47 fun _ H48 =>
                            ∃ n84 : Int,
                            cellH H48 ⟨x, xo, none⟩ = some (.int .i64 n84) ∧
                            K (.agg #[.int .i64 0, .int .i64 m_1, .int .i64 n84, .int .i64 m_4, .slice none 0 0]) H48) ∧
                    (Sub H39 H39 ∧
                    (Sub H39 H39 ∧
                    runH Tryd.prog (Instr.mapEntry 59 (.map m4) (.int .i64 m_3)) H39 fun r29 H49 =>
                      ∃ n86 : Int,
                      ∃ n85 : Int,
                      r29 = .tuple #[.int .i64 n86, .int .i64 n85] ∧
                      runH Tryd.prog (Instr.entryStore 59 (.map m4) (.int .i64 n85) (.int .i64 m_4)) H49 fun _ H50 =>
                        runH Tryd.prog (Instr.mapEntry 59 (.map m5) (.int .i64 m_1)) H50 fun r30 H51 =>
                          ∃ n88 : Int,
                          ∃ n87 : Int,
                          r30 = .tuple #[.int .i64 n88, .int .i64 n87] ∧
                          runH Tryd.prog (Instr.entryStore 59 (.map m5) (.int .i64 n87) (.int .i64 n74)) H51 fun _ H52 =>
                            ∃ n89 : Int,
                            cellH H52 ⟨x, xo, none⟩ = some (.int .i64 n89) ∧
                            K (.agg #[.int .i64 0, .int .i64 m_1, .int .i64 n89, .int .i64 m_4, .slice none 0 0]) H52) ∧
                    runH Tryd.prog (Instr.mapEntry 59 (.map m4) (.int .i64 m_3)) H39 fun r31 H53 =>
                      ∃ n91 : Int,
                      ∃ n90 : Int,
                      r31 = .tuple #[.int .i64 n91, .int .i64 n90] ∧
                      (runH Tryd.prog (Instr.entryStore 59 (.map m4) (.int .i64 n90) (.int .i64 m_4)) H53 fun _ H54 =>
                        runH Tryd.prog (Instr.mapEntry 59 (.map m5) (.int .i64 m_1)) H54 fun r32 H55 =>
                          ∃ n93 : Int,
                          ∃ n92 : Int,
                          r32 = .tuple #[.int .i64 n93, .int .i64 n92] ∧
                          runH Tryd.prog (Instr.entryStore 59 (.map m5) (.int .i64 n92) (.int .i64 n74)) H55 fun _ H56 =>
                            ∃ n94 : Int,
                            cellH H56 ⟨x, xo, none⟩ = some (.int .i64 n94) ∧
                            K (.agg #[.int .i64 0, .int .i64 m_1, .int .i64 n94, .int .i64 m_4, .slice none 0 0]) H56) ∧
                      runH Tryd.prog (Instr.entryStore 59 (.map m4) (.int .i64 n90) (.int .i64 m_4)) H53 fun _ H57 =>
                        runH Tryd.prog (Instr.mapEntry 59 (.map m5) (.int .i64 m_1)) H57 fun r33 H58 =>
                          ∃ n96 : Int,
                          ∃ n95 : Int,
                          r33 = .tuple #[.int .i64 n96, .int .i64 n95] ∧
                          runH Tryd.prog (Instr.entryStore 59 (.map m5) (.int .i64 n95) (.int .i64 n74)) H58 fun _ H59 =>
                            ∃ n97 : Int,
                            cellH H59 ⟨x, xo, none⟩ = some (.int .i64 n97) ∧
                            K (.agg #[.int .i64 0, .int .i64 m_1, .int .i64 n97, .int .i64 m_4, .slice none 0 0]) H59) ∧
                    runH Tryd.prog (Instr.mapEntry 59 (.map m4) (.int .i64 m_3)) H39 fun r34 H60 =>
                      ∃ n99 : Int,
                      ∃ n98 : Int,
                      r34 = .tuple #[.int .i64 n99, .int .i64 n98] ∧
                      (runH Tryd.prog (Instr.entryStore 59 (.map m4) (.int .i64 n98) (.int .i64 m_4)) H60 fun _ H61 =>
                        runH Tryd.prog (Instr.mapEntry 59 (.map m5) (.int .i64 m_1)) H61 fun r35 H62 =>
                          ∃ n101 : Int,
                          ∃ n100 : Int,
                          r35 = .tuple #[.int .i64 n101, .int .i64 n100] ∧
                          runH Tryd.prog (Instr.entryStore 59 (.map m5) (.int .i64 n100) (.int .i64 n74)) H62 fun _ H63 =>
                            ∃ n102 : Int,
                            cellH H63 ⟨x, xo, none⟩ = some (.int .i64 n102) ∧
                            K (.agg #[.int .i64 0, .int .i64 m_1, .int .i64 n102, .int .i64 m_4, .slice none 0 0]) H63) ∧
                      (runH Tryd.prog (Instr.entryStore 59 (.map m4) (.int .i64 n98) (.int .i64 m_4)) H60 fun _ H64 =>
                        runH Tryd.prog (Instr.mapEntry 59 (.map m5) (.int .i64 m_1)) H64 fun r36 H65 =>
                          ∃ n104 : Int,
                          ∃ n103 : Int,
                          r36 = .tuple #[.int .i64 n104, .int .i64 n103] ∧
                          runH Tryd.prog (Instr.entryStore 59 (.map m5) (.int .i64 n103) (.int .i64 n74)) H65 fun _ H66 =>
                            ∃ n105 : Int,
                            cellH H66 ⟨x, xo, none⟩ = some (.int .i64 n105) ∧
                            K (.agg #[.int .i64 0, .int .i64 m_1, .int .i64 n105, .int .i64 m_4, .slice none 0 0]) H66) ∧
                      runH Tryd.prog (Instr.entryStore 59 (.map m4) (.int .i64 n98) (.int .i64 m_4)) H60 fun _ H67 =>
                        runH Tryd.prog (Instr.mapEntry 59 (.map m5) (.int .i64 m_1)) H67 fun r37 H68 =>
                          ∃ n107 : Int,
                          ∃ n106 : Int,
                          r37 = .tuple #[.int .i64 n107, .int .i64 n106] ∧
                          runH Tryd.prog (Instr.entryStore 59 (.map m5) (.int .i64 n106) (.int .i64 n74)) H68 fun _ H69 =>
                            ∃ n108 : Int,
                            cellH H69 ⟨x, xo, none⟩ = some (.int .i64 n108) ∧
                            K (.agg #[.int .i64 0, .int .i64 m_1, .int .i64 n108, .int .i64 m_4, .slice none 0 0]) H69)))))))
theorem groups_group_commit_eq (x : Nat) (xo : Nat) (m_0 : Int) (m_1 : Int) (m_2 : Int) (m_3 : Int) (m_4 : Int) (m_5 : ByteArray) (m_6 : ByteArray) (m_7 : Sl) (H : Heap) (K : Value → Heap → Prop) : groups_group_commit_vc x xo m_0 m_1 m_2 m_3 m_4 m_5 m_6 m_7 H K = denFn Tryd.prog groups_group_commit_ann Tryd.f28 (bodyOf Tryd.f28) [.pointer (some ⟨x, xo, none⟩), .agg #[.int .i64 m_0, .int .i64 m_1, .int .i64 m_2, .int .i64 m_3, .int .i64 m_4, .string m_5, .string m_6, .slice m_7.p m_7.n m_7.c]] H K := by kernel_rfl
theorem groups_group_commit_fn (x : Nat) (xo : Nat) (m_0 : Int) (m_1 : Int) (m_2 : Int) (m_3 : Int) (m_4 : Int) (m_5 : ByteArray) (m_6 : ByteArray) (m_7 : Sl) {H : Heap} {K : Value → Heap → Prop} (h : groups_group_commit_vc x xo m_0 m_1 m_2 m_3 m_4 m_5 m_6 m_7 H K) : FnH Tryd.prog 28 #[.pointer (some ⟨x, xo, none⟩), .agg #[.int .i64 m_0, .int .i64 m_1, .int .i64 m_2, .int .i64 m_3, .int .i64 m_4, .string m_5, .string m_6, .slice m_7.p m_7.n m_7.c]] H K :=
  denFn_fn Tryd.mixed groups_group_commit_ann Tryd.func28 (bodyOf_spec (by kernel_rfl)) (groups_group_commit_eq x xo m_0 m_1 m_2 m_3 m_4 m_5 m_6 m_7 H K) h

/-! function 29: (*logboom/groups.group).sync -/
def groups_group_sync_ann : Anns := { hid := [3, 4], loops := [], joins := [], mix := [(1, [9, 11])] }
def groups_group_sync_vc (x : Nat) (xo : Nat) (m_0 : Int) (m_1 : Int) (m_2 : Int) (m_3 : Int) (m_4 : Int) (m_5 : ByteArray) (m_6 : ByteArray) (m_7 : Sl) (H : Heap) (K : Value → Heap → Prop) : Prop :=
  (Sub H H ∧
  (∃ n1 : Int,
  cellH H ⟨x, xo, none⟩ = some (.int .i64 n1) ∧
  Sub H H ∧
  FnH Tryd.prog 43 #[.pointer (some ⟨x, xo, none⟩), .int .i64 m_1] H fun r1 H1 =>
    ∃ l1 : Sl,
    r1 = .slice l1.p l1.n l1.c ∧
    K (.agg #[.int .i64 0, .int .i64 m_1, .int .i64 n1, .int .i64 0, .slice l1.p l1.n l1.c]) H1) ∧
  FnH Tryd.prog 43 #[.pointer (some ⟨x, xo, none⟩), .int .i64 m_1] H fun r2 H2 =>
    ∃ l2 : Sl,
    r2 = .slice l2.p l2.n l2.c ∧
    ∃ n2 : Int,
    cellH H2 ⟨x, xo, none⟩ = some (.int .i64 n2) ∧
    K (.agg #[.int .i64 0, .int .i64 m_1, .int .i64 n2, .int .i64 0, .slice l2.p l2.n l2.c]) H2) ∧
  (∃ n3 : Int,
  cellH H ⟨x, xo, none⟩ = some (.int .i64 n3) ∧
  Sub H H ∧
  (Sub H H ∧
  FnH Tryd.prog 43 #[.pointer (some ⟨x, xo, none⟩), .int .i64 m_1] H fun r3 H3 =>
    ∃ l3 : Sl,
    r3 = .slice l3.p l3.n l3.c ∧
    K (.agg #[.int .i64 0, .int .i64 m_1, .int .i64 n3, .int .i64 0, .slice l3.p l3.n l3.c]) H3) ∧
  FnH Tryd.prog 43 #[.pointer (some ⟨x, xo, none⟩), .int .i64 m_1] H fun r4 H4 =>
    ∃ l4 : Sl,
    r4 = .slice l4.p l4.n l4.c ∧
    K (.agg #[.int .i64 0, .int .i64 m_1, .int .i64 n3, .int .i64 0, .slice l4.p l4.n l4.c]) H4) ∧
  FnH Tryd.prog 43 #[.pointer (some ⟨x, xo, none⟩), .int .i64 m_1] H fun r5 H5 =>
    ∃ l5 : Sl,
    r5 = .slice l5.p l5.n l5.c ∧
    (∃ n4 : Int,
    cellH H5 ⟨x, xo, none⟩ = some (.int .i64 n4) ∧
    K (.agg #[.int .i64 0, .int .i64 m_1, .int .i64 n4, .int .i64 0, .slice l5.p l5.n l5.c]) H5) ∧
    ∃ n5 : Int,
    cellH H5 ⟨x, xo, none⟩ = some (.int .i64 n5) ∧
    K (.agg #[.int .i64 0, .int .i64 m_1, .int .i64 n5, .int .i64 0, .slice l5.p l5.n l5.c]) H5
theorem groups_group_sync_eq (x : Nat) (xo : Nat) (m_0 : Int) (m_1 : Int) (m_2 : Int) (m_3 : Int) (m_4 : Int) (m_5 : ByteArray) (m_6 : ByteArray) (m_7 : Sl) (H : Heap) (K : Value → Heap → Prop) : groups_group_sync_vc x xo m_0 m_1 m_2 m_3 m_4 m_5 m_6 m_7 H K = denFn Tryd.prog groups_group_sync_ann Tryd.f29 (bodyOf Tryd.f29) [.pointer (some ⟨x, xo, none⟩), .agg #[.int .i64 m_0, .int .i64 m_1, .int .i64 m_2, .int .i64 m_3, .int .i64 m_4, .string m_5, .string m_6, .slice m_7.p m_7.n m_7.c]] H K := by kernel_rfl
theorem groups_group_sync_fn (x : Nat) (xo : Nat) (m_0 : Int) (m_1 : Int) (m_2 : Int) (m_3 : Int) (m_4 : Int) (m_5 : ByteArray) (m_6 : ByteArray) (m_7 : Sl) {H : Heap} {K : Value → Heap → Prop} (h : groups_group_sync_vc x xo m_0 m_1 m_2 m_3 m_4 m_5 m_6 m_7 H K) : FnH Tryd.prog 29 #[.pointer (some ⟨x, xo, none⟩), .agg #[.int .i64 m_0, .int .i64 m_1, .int .i64 m_2, .int .i64 m_3, .int .i64 m_4, .string m_5, .string m_6, .slice m_7.p m_7.n m_7.c]] H K :=
  denFn_fn Tryd.mixed groups_group_sync_ann Tryd.func29 (bodyOf_spec (by kernel_rfl)) (groups_group_sync_eq x xo m_0 m_1 m_2 m_3 m_4 m_5 m_6 m_7 H K) h

/-! function 30: (*logboom/groups.group).read -/
def groups_group_read_ann : Anns := { hid := [3, 4], loops := [], joins := [], mix := [(1, [9])] }
def groups_group_read_vc (x : Nat) (xo : Nat) (m_0 : Int) (m_1 : Int) (m_2 : Int) (m_3 : Int) (m_4 : Int) (m_5 : ByteArray) (m_6 : ByteArray) (m_7 : Sl) (H : Heap) (K : Value → Heap → Prop) : Prop :=
  ∃ n1 : Int,
  cellH H ⟨x, xo, none⟩ = some (.int .i64 n1) ∧
  FnH Tryd.prog 32 #[.pointer (some ⟨x, xo, none⟩), .int .i64 m_3] H fun r1 H1 =>
    ∃ n2 : Int,
    r1 = .int .i64 n2 ∧
    Sub H H1 ∧
    K (.agg #[.int .i64 0, .int .i64 0, .int .i64 n1, .int .i64 n2, .slice none 0 0]) H1
theorem groups_group_read_eq (x : Nat) (xo : Nat) (m_0 : Int) (m_1 : Int) (m_2 : Int) (m_3 : Int) (m_4 : Int) (m_5 : ByteArray) (m_6 : ByteArray) (m_7 : Sl) (H : Heap) (K : Value → Heap → Prop) : groups_group_read_vc x xo m_0 m_1 m_2 m_3 m_4 m_5 m_6 m_7 H K = denFn Tryd.prog groups_group_read_ann Tryd.f30 (bodyOf Tryd.f30) [.pointer (some ⟨x, xo, none⟩), .agg #[.int .i64 m_0, .int .i64 m_1, .int .i64 m_2, .int .i64 m_3, .int .i64 m_4, .string m_5, .string m_6, .slice m_7.p m_7.n m_7.c]] H K := by kernel_rfl
theorem groups_group_read_fn (x : Nat) (xo : Nat) (m_0 : Int) (m_1 : Int) (m_2 : Int) (m_3 : Int) (m_4 : Int) (m_5 : ByteArray) (m_6 : ByteArray) (m_7 : Sl) {H : Heap} {K : Value → Heap → Prop} (h : groups_group_read_vc x xo m_0 m_1 m_2 m_3 m_4 m_5 m_6 m_7 H K) : FnH Tryd.prog 30 #[.pointer (some ⟨x, xo, none⟩), .agg #[.int .i64 m_0, .int .i64 m_1, .int .i64 m_2, .int .i64 m_3, .int .i64 m_4, .string m_5, .string m_6, .slice m_7.p m_7.n m_7.c]] H K :=
  denFn_fn Tryd.mixed groups_group_read_ann Tryd.func30 (bodyOf_spec (by kernel_rfl)) (groups_group_read_eq x xo m_0 m_1 m_2 m_3 m_4 m_5 m_6 m_7 H K) h

/-! function 42: logboom/groups.right -/
def groups_right_ann : Anns := { hid := [1], loops := [(0, { slots := [(3, .int .i64), (24, .int .i64)], kept := [1, 22, 23], locs := [], keptL := [0] })], joins := [], mix := [] }
def groups_right_vc (m_0 : Int) (m_1 : Int) (m_2 : Int) (m_3 : Int) (m_4 : Int) (m_5 : ByteArray) (m_6 : ByteArray) (m_7 : Sl) (H : Heap) (K : Value → Heap → Prop) : Prop :=
  br (m_5.toList == (⟨#[]⟩ : ByteArray).toList) (
    K (.bool false) H)
   (
    br (decide (((m_5.size : Nat) : Int) > 32)) (
      K (.bool false) H)
     (
      FnH Tryd.prog 50 #[.string m_5, .string (⟨#[97, 98, 99, 100, 101, 102, 103, 104, 105, 106, 107, 108, 109, 110, 111, 112, 113, 114, 115, 116, 117, 118, 119, 120, 121, 122, 48, 49, 50, 51, 52, 53, 54, 55, 56, 57, 45]⟩ : ByteArray)] H fun r1 H1 =>
        ∃ s1 : ByteArray,
        r1 = .string s1 ∧
        br (!(s1.toList == (⟨#[]⟩ : ByteArray).toList)) (
          K (.bool false) H1)
         (
          ∃ I1 : Int → Int → Heap → Prop,
          ∃ M1 : Int → Int → Heap → Nat,
          I1 0 0 H1 ∧
          ∀ last_1 : Int,
          ∀ n_1 : Int,
          ∀ H2 : Heap,
          I1 last_1 n_1 H2 →
          br (decide ((n_1 : Int) < (m_7.n : Nat))) (
            ∃ q1 : Nat,
            ∃ o1 : Nat,
            (m_7.p : Option Addr) = some ⟨q1, o1, none⟩ ∧
            0 ≤ (n_1 : Int) ∧
            (n_1 : Int) < (m_7.n : Nat) ∧
            ∃ n1 : Int,
            cellH H2 ⟨q1, o1 + Int.toNat n_1, none⟩ = some (.int .i64 n1) ∧
            br (decide ((n1 : Int) ≤ last_1)) (
              K (.bool false) H2)
             (
              br (decide ((n1 : Int) > 16)) (
                K (.bool false) H2)
               (
                SelfEq ([.loc 0 0, .v (.slice m_7.p m_7.n m_7.c), .v (.int .i64 (m_7.n : Nat))], [some (34, [.int .i64 m_0, .int .i64 m_1, .int .i64 m_2, .int .i64 m_3, .int .i64 m_4, .string m_5, .string m_6, .slice m_7.p m_7.n m_7.c])], []) ∧
                I1 n1 (IntKind.wrap .i64 (n_1 + 1)) H2 ∧
                M1 n1 (IntKind.wrap .i64 (n_1 + 1)) H2 < M1 last_1 n_1 H2)))
           (
            K (.bool (decide ((m_1 : Int) ≥ 0))) H2))))
theorem groups_right_eq (m_0 : Int) (m_1 : Int) (m_2 : Int) (m_3 : Int) (m_4 : Int) (m_5 : ByteArray) (m_6 : ByteArray) (m_7 : Sl) (H : Heap) (K : Value → Heap → Prop) : groups_right_vc m_0 m_1 m_2 m_3 m_4 m_5 m_6 m_7 H K = denFn Tryd.prog groups_right_ann Tryd.f42 (bodyOf Tryd.f42) [.agg #[.int .i64 m_0, .int .i64 m_1, .int .i64 m_2, .int .i64 m_3, .int .i64 m_4, .string m_5, .string m_6, .slice m_7.p m_7.n m_7.c]] H K := by kernel_rfl
theorem groups_right_fn (m_0 : Int) (m_1 : Int) (m_2 : Int) (m_3 : Int) (m_4 : Int) (m_5 : ByteArray) (m_6 : ByteArray) (m_7 : Sl) {H : Heap} {K : Value → Heap → Prop} (h : groups_right_vc m_0 m_1 m_2 m_3 m_4 m_5 m_6 m_7 H K) : FnH Tryd.prog 42 #[.agg #[.int .i64 m_0, .int .i64 m_1, .int .i64 m_2, .int .i64 m_3, .int .i64 m_4, .string m_5, .string m_6, .slice m_7.p m_7.n m_7.c]] H K :=
  denFn_fn Tryd.mixed groups_right_ann Tryd.func42 (bodyOf_spec (by kernel_rfl)) (groups_right_eq m_0 m_1 m_2 m_3 m_4 m_5 m_6 m_7 H K) h

/-! function 44: slices.DeleteFunc[[]int,int] -/
def DeleteFunc_leave_ann : Anns := { hid := [], loops := [(0, { slots := [(5, .int .i64), (6, .int .i64)], kept := [0, 1], locs := [], keptL := [] })], joins := [], mix := [] }
def DeleteFunc_leave_vc (s : Sl) (del_c0 : Nat) (H : Heap) (K : Value → Heap → Prop) : Prop :=
  FnH Tryd.prog 51 #[.slice s.p s.n s.c, .func (.func 45) #[] #[.pointer (some ⟨del_c0, 0, none⟩)]] H fun r1 H1 =>
    ∃ n1 : Int,
    r1 = .int .i64 n1 ∧
    br ((n1 : Int) == (-1)) (
      K (.slice s.p s.n s.c) H1)
     (
      ∃ I1 : Int → Int → Heap → Prop,
      ∃ M1 : Int → Int → Heap → Nat,
      I1 n1 (IntKind.wrap .i64 (n1 + 1)) H1 ∧
      ∀ i_1 : Int,
      ∀ j_1 : Int,
      ∀ H2 : Heap,
      I1 i_1 j_1 H2 →
      br (decide ((j_1 : Int) < (s.n : Nat))) (
        ∃ q1 : Nat,
        ∃ o1 : Nat,
        (s.p : Option Addr) = some ⟨q1, o1, none⟩ ∧
        0 ≤ (j_1 : Int) ∧
        (j_1 : Int) < (s.n : Nat) ∧
        ∃ n2 : Int,
        cellH H2 ⟨q1, o1 + Int.toNat j_1, none⟩ = some (.int .i64 n2) ∧
        FnH Tryd.prog 45 #[.int .i64 n2, .pointer (some ⟨del_c0, 0, none⟩)] H2 fun r2 H3 =>
          ∃ b1 : Bool,
          r2 = .bool b1 ∧
          br (!b1) (
            ∃ q2 : Nat,
            ∃ o2 : Nat,
            (s.p : Option Addr) = some ⟨q2, o2, none⟩ ∧
            0 ≤ (i_1 : Int) ∧
            (i_1 : Int) < (s.n : Nat) ∧
            (∃ u, cellH H3 ⟨q2, o2 + Int.toNat i_1, none⟩ = some u) ∧
            frozenH H3 ⟨q2, o2 + Int.toNat i_1, none⟩ = false ∧
            letH (Heap.set H3 ⟨q2, o2 + Int.toNat i_1, none⟩ (.int .i64 n2)) fun H4 =>
            SelfEq ([.v (.slice s.p s.n s.c), .v (.func (.func 45) #[] #[.pointer (some ⟨del_c0, 0, none⟩)])], [], []) ∧
            I1 (IntKind.wrap .i64 (i_1 + 1)) (IntKind.wrap .i64 (j_1 + 1)) H4 ∧
            M1 (IntKind.wrap .i64 (i_1 + 1)) (IntKind.wrap .i64 (j_1 + 1)) H4 < M1 i_1 j_1 H2)
           (
            SelfEq ([.v (.slice s.p s.n s.c), .v (.func (.func 45) #[] #[.pointer (some ⟨del_c0, 0, none⟩)])], [], []) ∧
            I1 i_1 (IntKind.wrap .i64 (j_1 + 1)) H3 ∧
            M1 i_1 (IntKind.wrap .i64 (j_1 + 1)) H3 < M1 i_1 j_1 H2))
       (
        0 ≤ (i_1 : Int) ∧
        (i_1 : Int) ≤ (s.n : Nat) ∧
        runH Tryd.prog (Builtin.clear_ #[22] 0 #[.slice (slP s.p s.c i_1 1) (Int.toNat ((s.n : Nat) - i_1)) (Int.toNat ((s.c : Nat) - i_1))]) H2 fun r3 H5 =>
          r3 = .tuple #[] ∧
          0 ≤ (i_1 : Int) ∧
          (i_1 : Int) ≤ (s.c : Nat) ∧
          K (.slice (slP s.p s.c (0 : Int) 1) (Int.toNat (i_1 - (0 : Int))) (Int.toNat ((s.c : Nat) - (0 : Int)))) H5))
theorem DeleteFunc_leave_eq (s : Sl) (del_c0 : Nat) (H : Heap) (K : Value → Heap → Prop) : DeleteFunc_leave_vc s del_c0 H K = denFn Tryd.prog DeleteFunc_leave_ann Tryd.f44 (bodyOf Tryd.f44) [.slice s.p s.n s.c, .func (.func 45) #[] #[.pointer (some ⟨del_c0, 0, none⟩)]] H K := by kernel_rfl
theorem DeleteFunc_leave_fn (s : Sl) (del_c0 : Nat) {H : Heap} {K : Value → Heap → Prop} (h : DeleteFunc_leave_vc s del_c0 H K) : FnH Tryd.prog 44 #[.slice s.p s.n s.c, .func (.func 45) #[] #[.pointer (some ⟨del_c0, 0, none⟩)]] H K :=
  denFn_fn Tryd.mixed DeleteFunc_leave_ann Tryd.func44 (bodyOf_spec (by kernel_rfl)) (DeleteFunc_leave_eq s del_c0 H K) h

/-! function 45: (*logboom/groups.group).leave$1 -/
def groups_group_leave_1_ann : Anns := { hid := [], loops := [], joins := [], mix := [] }
def groups_group_leave_1_vc (id : Int) (c0_c : Nat) (H : Heap) (K : Value → Heap → Prop) : Prop :=
  ∃ n1 : Int,
  cellH H ⟨c0_c, 1, none⟩ = some (.int .i64 n1) ∧
  K (.bool ((id : Int) == n1)) H
theorem groups_group_leave_1_eq (id : Int) (c0_c : Nat) (H : Heap) (K : Value → Heap → Prop) : groups_group_leave_1_vc id c0_c H K = denFn Tryd.prog groups_group_leave_1_ann Tryd.f45 (bodyOf Tryd.f45) [.int .i64 id, .pointer (some ⟨c0_c, 0, none⟩)] H K := by kernel_rfl
theorem groups_group_leave_1_fn (id : Int) (c0_c : Nat) {H : Heap} {K : Value → Heap → Prop} (h : groups_group_leave_1_vc id c0_c H K) : FnH Tryd.prog 45 #[.int .i64 id, .pointer (some ⟨c0_c, 0, none⟩)] H K :=
  denFn_fn Tryd.mixed groups_group_leave_1_ann Tryd.func45 (bodyOf_spec (by kernel_rfl)) (groups_group_leave_1_eq id c0_c H K) h

/-! function 51: slices.IndexFunc[[]int,int] -/
def IndexFunc_leave_ann : Anns := { hid := [], loops := [(0, { slots := [(8, .int .i64)], kept := [0, 1, 7], locs := [], keptL := [] })], joins := [], mix := [] }
def IndexFunc_leave_vc (s : Sl) (f_c0 : Nat) (H : Heap) (K : Value → Heap → Prop) : Prop :=
  ∃ I1 : Int → Heap → Prop,
  ∃ M1 : Int → Heap → Nat,
  I1 0 H ∧
  ∀ n_1 : Int,
  ∀ H1 : Heap,
  I1 n_1 H1 →
  br (decide ((n_1 : Int) < (s.n : Nat))) (
    ∃ q1 : Nat,
    ∃ o1 : Nat,
    (s.p : Option Addr) = some ⟨q1, o1, none⟩ ∧
    0 ≤ (n_1 : Int) ∧
    (n_1 : Int) < (s.n : Nat) ∧
    ∃ n1 : Int,
    cellH H1 ⟨q1, o1 + Int.toNat n_1, none⟩ = some (.int .i64 n1) ∧
    FnH Tryd.prog 45 #[.int .i64 n1, .pointer (some ⟨f_c0, 0, none⟩)] H1 fun r1 H2 =>
      ∃ b1 : Bool,
      r1 = .bool b1 ∧
      br (b1) (
        K (.int .i64 n_1) H2)
       (
        SelfEq ([.v (.slice s.p s.n s.c), .v (.func (.func 45) #[] #[.pointer (some ⟨f_c0, 0, none⟩)]), .v (.int .i64 (s.n : Nat))], [], []) ∧
        I1 (IntKind.wrap .i64 (n_1 + 1)) H2 ∧
        M1 (IntKind.wrap .i64 (n_1 + 1)) H2 < M1 n_1 H1))
   (
    K (.int .i64 (-1)) H1)
theorem IndexFunc_leave_eq (s : Sl) (f_c0 : Nat) (H : Heap) (K : Value → Heap → Prop) : IndexFunc_leave_vc s f_c0 H K = denFn Tryd.prog IndexFunc_leave_ann Tryd.f51 (bodyOf Tryd.f51) [.slice s.p s.n s.c, .func (.func 45) #[] #[.pointer (some ⟨f_c0, 0, none⟩)]] H K := by kernel_rfl
theorem IndexFunc_leave_fn (s : Sl) (f_c0 : Nat) {H : Heap} {K : Value → Heap → Prop} (h : IndexFunc_leave_vc s f_c0 H K) : FnH Tryd.prog 51 #[.slice s.p s.n s.c, .func (.func 45) #[] #[.pointer (some ⟨f_c0, 0, none⟩)]] H K :=
  denFn_fn Tryd.mixed IndexFunc_leave_ann Tryd.func51 (bodyOf_spec (by kernel_rfl)) (IndexFunc_leave_eq s f_c0 H K) h

end Go.Proofs.YtcbobncipnjbjaaDoor
