/- Texts of this seat, one behind the other: V7 V8 V9. -/
import Derived.Test.YtokceblmbmajgaaGreatDoorProg
import Derived.KernelRfl
import Derived.Test.YtokceblmbmajgaaGreatDoorHlFn
import Derived.Test.YtokceblmbmajgaaGreatDoorV6

/- Formulas of functions, printed by this session's vc.py; each is tied to the program by the kernel. -/
namespace Go.Proofs.YtokceblmbmajgaaGreatDoor
open Go.HL
set_option maxRecDepth 100000
/-! function 8: (*logboom/logboomlaw5.Both).opens -/
def logboomlaw5_Both_opens_ann : Anns := { hid := [], loops := [], joins := [], mix := [] }
def logboomlaw5_Both_opens_vc (b : Nat) (bo : Nat) (base : Int) (H : Heap) (K : Value → Heap → Prop) : Prop :=
  ∃ p1 : Option Addr,
  cellH H ⟨b, bo, none⟩ = some (.pointer p1) ∧
  FnH Tryz.prog 11 #[.pointer p1, .string (⟨#[115]⟩ : ByteArray), .int .i64 base] H fun r1 H1 =>
    ∃ p2 : Option Addr,
    ∃ n1 : Int,
    ∃ n2 : Int,
    r1 = .tuple #[.pointer p2, .int .i64 n1, .int .i64 n2] ∧
    ∃ p3 : Option Addr,
    cellH H1 ⟨b, bo + 1, none⟩ = some (.pointer p3) ∧
    FnH Tryz.prog 21 #[.pointer p3, .string (⟨#[115]⟩ : ByteArray), .int .i64 base] H1 fun r2 H2 =>
      ∃ p4 : Option Addr,
      ∃ n3 : Int,
      ∃ n4 : Int,
      r2 = .tuple #[.pointer p4, .int .i64 n3, .int .i64 n4] ∧
      br ((n1 : Int) != n3) (
        K (.bool false) H2)
       (
        br ((n2 : Int) != n4) (
          K (.bool false) H2)
         (
          br (!((Option.isNone p2) == ((n4 : Int) != 0))) (
            K (.bool false) H2)
           (
            br (!(Option.isNone p2)) (
              (∃ u, cellH H2 ⟨b, bo + 2, none⟩ = some u) ∧
              frozenH H2 ⟨b, bo + 2, none⟩ = false ∧
              letH (Heap.set H2 ⟨b, bo + 2, none⟩ (.pointer p2)) fun H3 =>
              (∃ u, cellH H3 ⟨b, bo + 3, none⟩ = some u) ∧
              frozenH H3 ⟨b, bo + 3, none⟩ = false ∧
              letH (Heap.set H3 ⟨b, bo + 3, none⟩ (.pointer p4)) fun H4 =>
              K (.bool true) H4)
             (
              K (.bool true) H2))))
theorem logboomlaw5_Both_opens_eq (b : Nat) (bo : Nat) (base : Int) (H : Heap) (K : Value → Heap → Prop) : logboomlaw5_Both_opens_vc b bo base H K = denFn Tryz.prog logboomlaw5_Both_opens_ann Tryz.f8 (bodyOf Tryz.f8) [.pointer (some ⟨b, bo, none⟩), .int .i64 base] H K := by kernel_rfl
theorem logboomlaw5_Both_opens_fn (b : Nat) (bo : Nat) (base : Int) {H : Heap} {K : Value → Heap → Prop} (h : logboomlaw5_Both_opens_vc b bo base H K) : FnH Tryz.prog 8 #[.pointer (some ⟨b, bo, none⟩), .int .i64 base] H K :=
  denFn_fn Tryz.mixed logboomlaw5_Both_opens_ann Tryz.func8 (bodyOf_spec (by kernel_rfl)) (logboomlaw5_Both_opens_eq b bo base H K) h

/-! function 10: (*logboom/logboomlaw5.Both).alike -/
def logboomlaw5_Both_alike_ann : Anns := { hid := [], loops := [], joins := [], mix := [(3, []), (5, [])] }
def logboomlaw5_Both_alike_vc (b : Nat) (bo : Nat) (H : Heap) (K : Value → Heap → Prop) : Prop :=
  ∃ p1 : Option Addr,
  cellH H ⟨b, bo, none⟩ = some (.pointer p1) ∧
  FnH Tryz.prog 30 #[.pointer p1, .string (⟨#[115]⟩ : ByteArray)] H fun r1 H1 =>
    ∃ s1 : ByteArray,
    ∃ n1 : Int,
    r1 = .tuple #[.string s1, .int .i64 n1] ∧
    ∃ p2 : Option Addr,
    cellH H1 ⟨b, bo + 1, none⟩ = some (.pointer p2) ∧
    FnH Tryz.prog 31 #[.pointer p2, .string (⟨#[115]⟩ : ByteArray)] H1 fun r2 H2 =>
      ∃ s2 : ByteArray,
      ∃ n2 : Int,
      r2 = .tuple #[.string s2, .int .i64 n2] ∧
      br (!(s1.toList == s2.toList)) (
        K (.bool false) H2)
       (
        br ((n1 : Int) != n2) (
          K (.bool false) H2)
         (
          ∃ p3 : Option Addr,
          cellH H2 ⟨b, bo + 2, none⟩ = some (.pointer p3) ∧
          ∃ p4 : Option Addr,
          cellH H2 ⟨b, bo + 3, none⟩ = some (.pointer p4) ∧
          ptrm p4 fun q1 o1 =>
          ∃ n3 : Int,
          cellH H2 ⟨q1, o1 + 2, none⟩ = some (.int .i64 n3) ∧
          FnH Tryz.prog 32 #[.pointer p3] H2 fun r3 H3 =>
            ∃ n4 : Int,
            r3 = .int .i64 n4 ∧
            Sub H2 H3 ∧
            br ((n4 : Int) != n3) (
              K (.bool false) H3)
             (
              ∃ p5 : Option Addr,
              cellH H2 ⟨b, bo + 2, none⟩ = some (.pointer p5) ∧
              ∃ p6 : Option Addr,
              cellH H2 ⟨b, bo + 3, none⟩ = some (.pointer p6) ∧
              FnH Tryz.prog 12 #[.pointer p5] H3 fun r4 H4 =>
                ∃ n5 : Int,
                r4 = .int .i64 n5 ∧
                Sub H2 H4 ∧
                FnH Tryz.prog 22 #[.pointer p6] H4 fun r5 H5 =>
                  ∃ n6 : Int,
                  r5 = .int .i64 n6 ∧
                  Sub H2 H5 ∧
                  br ((n5 : Int) != n6) (
                    K (.bool false) H5)
                   (
                    ∃ p7 : Option Addr,
                    cellH H2 ⟨b, bo + 2, none⟩ = some (.pointer p7) ∧
                    ∃ p8 : Option Addr,
                    cellH H2 ⟨b, bo + 3, none⟩ = some (.pointer p8) ∧
                    FnH Tryz.prog 15 #[.pointer p7] H5 fun r6 H6 =>
                      ∃ n7 : Int,
                      r6 = .int .i64 n7 ∧
                      Sub H2 H6 ∧
                      FnH Tryz.prog 33 #[.pointer p8] H6 fun r7 H7 =>
                        ∃ n8 : Int,
                        r7 = .int .i64 n8 ∧
                        Sub H2 H7 ∧
                        br ((n7 : Int) != n8) (
                          K (.bool false) H7)
                         (
                          ∃ p9 : Option Addr,
                          cellH H2 ⟨b, bo + 2, none⟩ = some (.pointer p9) ∧
                          FnH Tryz.prog 17 #[.pointer p9] H7 fun r8 H8 =>
                            ∃ n9 : Int,
                            r8 = .int .i64 n9 ∧
                            Sub H2 H8 ∧
                            br ((n9 : Int) != (s2.size : Nat)) (
                              K (.bool false) H8)
                             (
                              ∃ p10 : Option Addr,
                              cellH H2 ⟨b, bo, none⟩ = some (.pointer p10) ∧
                              ∃ p11 : Option Addr,
                              cellH H2 ⟨b, bo + 1, none⟩ = some (.pointer p11) ∧
                              FnH Tryz.prog 34 #[.pointer p10, .string (⟨#[115]⟩ : ByteArray)] H8 fun r9 H9 =>
                                ∃ n10 : Int,
                                r9 = .int .i64 n10 ∧
                                Sub H2 H9 ∧
                                FnH Tryz.prog 35 #[.pointer p11, .string (⟨#[115]⟩ : ByteArray)] H9 fun r10 H10 =>
                                  ∃ n11 : Int,
                                  r10 = .int .i64 n11 ∧
                                  Sub H2 H10 ∧
                                  br ((n10 : Int) != n11) (
                                    K (.bool false) H10)
                                   (
                                    ∃ p12 : Option Addr,
                                    cellH H10 ⟨b, bo + 2, none⟩ = some (.pointer p12) ∧
                                    ∃ p13 : Option Addr,
                                    cellH H10 ⟨b, bo + 3, none⟩ = some (.pointer p13) ∧
                                    FnH Tryz.prog 20 #[.pointer p12] H10 fun r11 H11 =>
                                      ∃ l1 : Sl,
                                      r11 = .slice l1.p l1.n l1.c ∧
                                      Sub H10 H11 ∧
                                      FnH Tryz.prog 37 #[.pointer p13] H11 fun r12 H12 =>
                                        ∃ l2 : Sl,
                                        r12 = .slice l2.p l2.n l2.c ∧
                                        Sub H10 H12 ∧
                                        FnH Tryz.prog 36 #[.slice l1.p l1.n l1.c, .slice l2.p l2.n l2.c] H12 fun r13 H13 =>
                                          ∃ b1 : Bool,
                                          r13 = .bool b1 ∧
                                          Sub H10 H13 ∧
                                          K (.bool b1) H13)))))))
theorem logboomlaw5_Both_alike_eq (b : Nat) (bo : Nat) (H : Heap) (K : Value → Heap → Prop) : logboomlaw5_Both_alike_vc b bo H K = denFn Tryz.prog logboomlaw5_Both_alike_ann Tryz.f10 (bodyOf Tryz.f10) [.pointer (some ⟨b, bo, none⟩)] H K := by kernel_rfl
theorem logboomlaw5_Both_alike_fn (b : Nat) (bo : Nat) {H : Heap} {K : Value → Heap → Prop} (h : logboomlaw5_Both_alike_vc b bo H K) : FnH Tryz.prog 10 #[.pointer (some ⟨b, bo, none⟩)] H K :=
  denFn_fn Tryz.mixed logboomlaw5_Both_alike_ann Tryz.func10 (bodyOf_spec (by kernel_rfl)) (logboomlaw5_Both_alike_eq b bo H K) h

end Go.Proofs.YtokceblmbmajgaaGreatDoor

/- Formulas of functions, printed by this session's vc.py; each is tied to the program by the kernel. -/
namespace Go.Proofs.YtokceblmbmajgaaGreatDoor
open Go.HL
set_option maxRecDepth 100000
/-! function 9: (*logboom/logboomlaw5.Both).does -/
def logboomlaw5_Both_does_ann : Anns := { hid := [3], loops := [], joins := [], mix := [(8, [6]), (10, [4, 9]), (12, [6]), (15, []), (18, [6]), (19, [6])] }
def logboomlaw5_Both_does_vc (b : Nat) (bo : Nat) (o_0 : Int) (o_1 : Int) (o_2 : Int) (o_3 : Int) (o_4 : Int) (o_5 : Int) (o_6 : Int) (o_7 : Int) (o_8 : Sl) (o_9 : Bool) (o_10 : Sl) (H : Heap) (K : Value → Heap → Prop) : Prop :=
  FnH Tryz.prog 5 #[.int .i64 o_0, .int .i64 10] H fun r1 H1 =>
    ∃ n1 : Int,
    r1 = .int .i64 n1 ∧
    br ((n1 : Int) == 0) (
      br ((n1 : Int) == 0) (
        br (o_9) (
          ∃ p1 : Option Addr,
          cellH H1 ⟨b, bo + 3, none⟩ = some (.pointer p1) ∧
          FnH Tryz.prog 22 #[.pointer p1] H1 fun r2 H2 =>
            ∃ n2 : Int,
            r2 = .int .i64 n2 ∧
            ∃ p2 : Option Addr,
            cellH H2 ⟨b, bo + 2, none⟩ = some (.pointer p2) ∧
            (FnH Tryz.prog 13 #[.pointer p2, .agg #[.int .i64 n2, .int .i64 o_4, .int .i64 o_5, .int .i64 o_6, .int .i64 o_7, .slice o_8.p o_8.n o_8.c]] H2 fun r3 H3 =>
              ∃ n3 : Int,
              r3 = .int .i64 n3 ∧
              (∃ p3 : Option Addr,
              cellH H3 ⟨b, bo + 3, none⟩ = some (.pointer p3) ∧
              FnH Tryz.prog 23 #[.pointer p3, .agg #[.int .i64 n2, .int .i64 o_4, .int .i64 o_5, .int .i64 o_6, .int .i64 o_7, .slice o_8.p o_8.n o_8.c]] H3 fun r4 H4 =>
                ∃ n4 : Int,
                r4 = .int .i64 n4 ∧
                K (.bool ((n3 : Int) == n4)) H4) ∧
              ∃ p4 : Option Addr,
              cellH H3 ⟨b, bo + 3, none⟩ = some (.pointer p4) ∧
              FnH Tryz.prog 23 #[.pointer p4, .agg #[.int .i64 n2, .int .i64 o_4, .int .i64 o_5, .int .i64 o_6, .int .i64 o_7, .slice o_8.p o_8.n o_8.c]] H3 fun r5 H5 =>
                ∃ n5 : Int,
                r5 = .int .i64 n5 ∧
                K (.bool ((n3 : Int) == n5)) H5) ∧
            (∃ p5 : Option Addr,
            cellH H2 ⟨b, bo + 3, none⟩ = some (.pointer p5) ∧
            Sub H2 H2 ∧
            (FnH Tryz.prog 13 #[.pointer p2, .agg #[.int .i64 n2, .int .i64 o_4, .int .i64 o_5, .int .i64 o_6, .int .i64 o_7, .slice o_8.p o_8.n o_8.c]] H2 fun r6 H6 =>
              ∃ n6 : Int,
              r6 = .int .i64 n6 ∧
              FnH Tryz.prog 23 #[.pointer p5, .agg #[.int .i64 n2, .int .i64 o_4, .int .i64 o_5, .int .i64 o_6, .int .i64 o_7, .slice o_8.p o_8.n o_8.c]] H6 fun r7 H7 =>
                ∃ n7 : Int,
                r7 = .int .i64 n7 ∧
                K (.bool ((n6 : Int) == n7)) H7) ∧
            Sub H2 H2 ∧
            FnH Tryz.prog 13 #[.pointer p2, .agg #[.int .i64 n2, .int .i64 o_4, .int .i64 o_5, .int .i64 o_6, .int .i64 o_7, .slice o_8.p o_8.n o_8.c]] H2 fun r8 H8 =>
              ∃ n8 : Int,
              r8 = .int .i64 n8 ∧
              FnH Tryz.prog 23 #[.pointer p5, .agg #[.int .i64 n2, .int .i64 o_4, .int .i64 o_5, .int .i64 o_6, .int .i64 o_7, .slice o_8.p o_8.n o_8.c]] H8 fun r9 H9 =>
                ∃ n9 : Int,
                r9 = .int .i64 n9 ∧
                K (.bool ((n8 : Int) == n9)) H9) ∧
            Sub H2 H2 ∧
            (FnH Tryz.prog 13 #[.pointer p2, .agg #[.int .i64 n2, .int .i64 o_4, .int .i64 o_5, .int .i64 o_6, .int .i64 o_7, .slice o_8.p o_8.n o_8.c]] H2 fun r10 H10 =>
              ∃ n10 : Int,
              r10 = .int .i64 n10 ∧
              ∃ p6 : Option Addr,
              cellH H10 ⟨b, bo + 3, none⟩ = some (.pointer p6) ∧
              FnH Tryz.prog 23 #[.pointer p6, .agg #[.int .i64 n2, .int .i64 o_4, .int .i64 o_5, .int .i64 o_6, .int .i64 o_7, .slice o_8.p o_8.n o_8.c]] H10 fun r11 H11 =>
                ∃ n11 : Int,
                r11 = .int .i64 n11 ∧
                K (.bool ((n10 : Int) == n11)) H11) ∧
            ∃ p7 : Option Addr,
            cellH H2 ⟨b, bo + 3, none⟩ = some (.pointer p7) ∧
            Sub H2 H2 ∧
            FnH Tryz.prog 13 #[.pointer p2, .agg #[.int .i64 n2, .int .i64 o_4, .int .i64 o_5, .int .i64 o_6, .int .i64 o_7, .slice o_8.p o_8.n o_8.c]] H2 fun r12 H12 =>
              ∃ n12 : Int,
              r12 = .int .i64 n12 ∧
              FnH Tryz.prog 23 #[.pointer p7, .agg #[.int .i64 n2, .int .i64 o_4, .int .i64 o_5, .int .i64 o_6, .int .i64 o_7, .slice o_8.p o_8.n o_8.c]] H12 fun r13 H13 =>
                ∃ n13 : Int,
                r13 = .int .i64 n13 ∧
                K (.bool ((n12 : Int) == n13)) H13)
         (
          ∃ p8 : Option Addr,
          cellH H1 ⟨b, bo + 2, none⟩ = some (.pointer p8) ∧
          (FnH Tryz.prog 13 #[.pointer p8, .agg #[.int .i64 o_3, .int .i64 o_4, .int .i64 o_5, .int .i64 o_6, .int .i64 o_7, .slice o_8.p o_8.n o_8.c]] H1 fun r14 H14 =>
            ∃ n14 : Int,
            r14 = .int .i64 n14 ∧
            (∃ p9 : Option Addr,
            cellH H14 ⟨b, bo + 3, none⟩ = some (.pointer p9) ∧
            FnH Tryz.prog 23 #[.pointer p9, .agg #[.int .i64 o_3, .int .i64 o_4, .int .i64 o_5, .int .i64 o_6, .int .i64 o_7, .slice o_8.p o_8.n o_8.c]] H14 fun r15 H15 =>
              ∃ n15 : Int,
              r15 = .int .i64 n15 ∧
              K (.bool ((n14 : Int) == n15)) H15) ∧
            ∃ p10 : Option Addr,
            cellH H14 ⟨b, bo + 3, none⟩ = some (.pointer p10) ∧
            FnH Tryz.prog 23 #[.pointer p10, .agg #[.int .i64 o_3, .int .i64 o_4, .int .i64 o_5, .int .i64 o_6, .int .i64 o_7, .slice o_8.p o_8.n o_8.c]] H14 fun r16 H16 =>
              ∃ n16 : Int,
              r16 = .int .i64 n16 ∧
              K (.bool ((n14 : Int) == n16)) H16) ∧
          (∃ p11 : Option Addr,
          cellH H1 ⟨b, bo + 3, none⟩ = some (.pointer p11) ∧
          Sub H1 H1 ∧
          (FnH Tryz.prog 13 #[.pointer p8, .agg #[.int .i64 o_3, .int .i64 o_4, .int .i64 o_5, .int .i64 o_6, .int .i64 o_7, .slice o_8.p o_8.n o_8.c]] H1 fun r17 H17 =>
            ∃ n17 : Int,
            r17 = .int .i64 n17 ∧
            FnH Tryz.prog 23 #[.pointer p11, .agg #[.int .i64 o_3, .int .i64 o_4, .int .i64 o_5, .int .i64 o_6, .int .i64 o_7, .slice o_8.p o_8.n o_8.c]] H17 fun r18 H18 =>
              ∃ n18 : Int,
              r18 = .int .i64 n18 ∧
              K (.bool ((n17 : Int) == n18)) H18) ∧
          Sub H1 H1 ∧
          FnH Tryz.prog 13 #[.pointer p8, .agg #[.int .i64 o_3, .int .i64 o_4, .int .i64 o_5, .int .i64 o_6, .int .i64 o_7, .slice o_8.p o_8.n o_8.c]] H1 fun r19 H19 =>
            ∃ n19 : Int,
            r19 = .int .i64 n19 ∧
            FnH Tryz.prog 23 #[.pointer p11, .agg #[.int .i64 o_3, .int .i64 o_4, .int .i64 o_5, .int .i64 o_6, .int .i64 o_7, .slice o_8.p o_8.n o_8.c]] H19 fun r20 H20 =>
              ∃ n20 : Int,
              r20 = .int .i64 n20 ∧
              K (.bool ((n19 : Int) == n20)) H20) ∧
          Sub H1 H1 ∧
          (FnH Tryz.prog 13 #[.pointer p8, .agg #[.int .i64 o_3, .int .i64 o_4, .int .i64 o_5, .int .i64 o_6, .int .i64 o_7, .slice o_8.p o_8.n o_8.c]] H1 fun r21 H21 =>
            ∃ n21 : Int,
            r21 = .int .i64 n21 ∧
            ∃ p12 : Option Addr,
            cellH H21 ⟨b, bo + 3, none⟩ = some (.pointer p12) ∧
            FnH Tryz.prog 23 #[.pointer p12, .agg #[.int .i64 o_3, .int .i64 o_4, .int .i64 o_5, .int .i64 o_6, .int .i64 o_7, .slice o_8.p o_8.n o_8.c]] H21 fun r22 H22 =>
              ∃ n22 : Int,
              r22 = .int .i64 n22 ∧
              K (.bool ((n21 : Int) == n22)) H22) ∧
          ∃ p13 : Option Addr,
          cellH H1 ⟨b, bo + 3, none⟩ = some (.pointer p13) ∧
          Sub H1 H1 ∧
          FnH Tryz.prog 13 #[.pointer p8, .agg #[.int .i64 o_3, .int .i64 o_4, .int .i64 o_5, .int .i64 o_6, .int .i64 o_7, .slice o_8.p o_8.n o_8.c]] H1 fun r23 H23 =>
            ∃ n23 : Int,
            r23 = .int .i64 n23 ∧
            FnH Tryz.prog 23 #[.pointer p13, .agg #[.int .i64 o_3, .int .i64 o_4, .int .i64 o_5, .int .i64 o_6, .int .i64 o_7, .slice o_8.p o_8.n o_8.c]] H23 fun r24 H24 =>
              ∃ n24 : Int,
              r24 = .int .i64 n24 ∧
              K (.bool ((n23 : Int) == n24)) H24))
       (
        br ((n1 : Int) == 4) (
          ∃ p14 : Option Addr,
          cellH H1 ⟨b, bo + 2, none⟩ = some (.pointer p14) ∧
          (FnH Tryz.prog 16 #[.pointer p14] H1 fun r25 H25 =>
            ∃ n25 : Int,
            r25 = .int .i64 n25 ∧
            ∃ p15 : Option Addr,
            cellH H25 ⟨b, bo + 1, none⟩ = some (.pointer p15) ∧
            FnH Tryz.prog 24 #[.pointer p15, .string (⟨#[115]⟩ : ByteArray)] H25 fun r26 H26 =>
              ∃ n26 : Int,
              r26 = .int .i64 n26 ∧
              K (.bool ((n25 : Int) == n26)) H26) ∧
          ∃ p16 : Option Addr,
          cellH H1 ⟨b, bo + 1, none⟩ = some (.pointer p16) ∧
          Sub H1 H1 ∧
          FnH Tryz.prog 16 #[.pointer p14] H1 fun r27 H27 =>
            ∃ n27 : Int,
            r27 = .int .i64 n27 ∧
            FnH Tryz.prog 24 #[.pointer p16, .string (⟨#[115]⟩ : ByteArray)] H27 fun r28 H28 =>
              ∃ n28 : Int,
              r28 = .int .i64 n28 ∧
              K (.bool ((n27 : Int) == n28)) H28)
         (
          br ((n1 : Int) == 5) (
            ∃ p17 : Option Addr,
            cellH H1 ⟨b, bo + 2, none⟩ = some (.pointer p17) ∧
            (FnH Tryz.prog 25 #[.pointer p17, .int .i64 o_1] H1 fun r29 H29 =>
              ∃ n29 : Int,
              r29 = .int .i64 n29 ∧
              (∃ p18 : Option Addr,
              cellH H29 ⟨b, bo + 3, none⟩ = some (.pointer p18) ∧
              FnH Tryz.prog 26 #[.pointer p18, .int .i64 o_1] H29 fun r30 H30 =>
                ∃ n30 : Int,
                r30 = .int .i64 n30 ∧
                K (.bool ((n29 : Int) == n30)) H30) ∧
              ∃ p19 : Option Addr,
              cellH H29 ⟨b, bo + 3, none⟩ = some (.pointer p19) ∧
              FnH Tryz.prog 26 #[.pointer p19, .int .i64 o_1] H29 fun r31 H31 =>
                ∃ n31 : Int,
                r31 = .int .i64 n31 ∧
                K (.bool ((n29 : Int) == n31)) H31) ∧
            (∃ p20 : Option Addr,
            cellH H1 ⟨b, bo + 3, none⟩ = some (.pointer p20) ∧
            Sub H1 H1 ∧
            (FnH Tryz.prog 25 #[.pointer p17, .int .i64 o_1] H1 fun r32 H32 =>
              ∃ n32 : Int,
              r32 = .int .i64 n32 ∧
              FnH Tryz.prog 26 #[.pointer p20, .int .i64 o_1] H32 fun r33 H33 =>
                ∃ n33 : Int,
                r33 = .int .i64 n33 ∧
                K (.bool ((n32 : Int) == n33)) H33) ∧
            Sub H1 H1 ∧
            FnH Tryz.prog 25 #[.pointer p17, .int .i64 o_1] H1 fun r34 H34 =>
              ∃ n34 : Int,
              r34 = .int .i64 n34 ∧
              FnH Tryz.prog 26 #[.pointer p20, .int .i64 o_1] H34 fun r35 H35 =>
                ∃ n35 : Int,
                r35 = .int .i64 n35 ∧
                K (.bool ((n34 : Int) == n35)) H35) ∧
            Sub H1 H1 ∧
            (FnH Tryz.prog 25 #[.pointer p17, .int .i64 o_1] H1 fun r36 H36 =>
              ∃ n36 : Int,
              r36 = .int .i64 n36 ∧
              ∃ p21 : Option Addr,
              cellH H36 ⟨b, bo + 3, none⟩ = some (.pointer p21) ∧
              FnH Tryz.prog 26 #[.pointer p21, .int .i64 o_1] H36 fun r37 H37 =>
                ∃ n37 : Int,
                r37 = .int .i64 n37 ∧
                K (.bool ((n36 : Int) == n37)) H37) ∧
            ∃ p22 : Option Addr,
            cellH H1 ⟨b, bo + 3, none⟩ = some (.pointer p22) ∧
            Sub H1 H1 ∧
            FnH Tryz.prog 25 #[.pointer p17, .int .i64 o_1] H1 fun r38 H38 =>
              ∃ n38 : Int,
              r38 = .int .i64 n38 ∧
              FnH Tryz.prog 26 #[.pointer p22, .int .i64 o_1] H38 fun r39 H39 =>
                ∃ n39 : Int,
                r39 = .int .i64 n39 ∧
                K (.bool ((n38 : Int) == n39)) H39)
           (
            br ((n1 : Int) == 6) (
              br ((n1 : Int) == 6) (
                ∃ p23 : Option Addr,
                cellH H1 ⟨b, bo + 2, none⟩ = some (.pointer p23) ∧
                ∃ p24 : Option Addr,
                cellH H1 ⟨b, bo + 3, none⟩ = some (.pointer p24) ∧
                FnH Tryz.prog 19 #[.pointer p23, .int .i64 o_1, .int .i64 o_2] H1 fun r40 H40 =>
                  ∃ l1 : Sl,
                  r40 = .slice l1.p l1.n l1.c ∧
                  Sub H1 H40 ∧
                  FnH Tryz.prog 28 #[.pointer p24, .int .i64 o_1, .int .i64 o_2] H40 fun r41 H41 =>
                    ∃ l2 : Sl,
                    r41 = .slice l2.p l2.n l2.c ∧
                    Sub H1 H41 ∧
                    FnH Tryz.prog 27 #[.slice l1.p l1.n l1.c, .slice l2.p l2.n l2.c] H41 fun r42 H42 =>
                      ∃ b1 : Bool,
                      r42 = .bool b1 ∧
                      Sub H1 H42 ∧
                      K (.bool b1) H42)
               (
                br ((n1 : Int) == 8) (
                  ∃ p25 : Option Addr,
                  cellH H1 ⟨b, bo, none⟩ = some (.pointer p25) ∧
                  FnH Tryz.prog 18 #[.pointer p25, .slice o_10.p o_10.n o_10.c] H1 fun r43 H43 =>
                    r43 = .tuple #[] ∧
                    ∃ p26 : Option Addr,
                    cellH H43 ⟨b, bo + 1, none⟩ = some (.pointer p26) ∧
                    FnH Tryz.prog 29 #[.pointer p26, .slice o_10.p o_10.n o_10.c] H43 fun r44 H44 =>
                      r44 = .tuple #[] ∧
                      ∃ p27 : Option Addr,
                      cellH H44 ⟨b, bo + 3, none⟩ = some (.pointer p27) ∧
                      ptrm p27 fun q1 o1 =>
                      ∃ n40 : Int,
                      cellH H44 ⟨q1, o1 + 2, none⟩ = some (.int .i64 n40) ∧
                      FnH Tryz.prog 8 #[.pointer (some ⟨b, bo, none⟩), .int .i64 n40] H44 fun r45 H45 =>
                        ∃ b2 : Bool,
                        r45 = .bool b2 ∧
                        K (.bool b2) H45)
                 (
                  FnH Tryz.prog 8 #[.pointer (some ⟨b, bo, none⟩), .int .i64 o_1] H1 fun r46 H46 =>
                    ∃ b3 : Bool,
                    r46 = .bool b3 ∧
                    K (.bool b3) H46)))
             (
              br ((n1 : Int) == 7) (
                ∃ p28 : Option Addr,
                cellH H1 ⟨b, bo + 2, none⟩ = some (.pointer p28) ∧
                ∃ p29 : Option Addr,
                cellH H1 ⟨b, bo + 3, none⟩ = some (.pointer p29) ∧
                FnH Tryz.prog 19 #[.pointer p28, .int .i64 o_1, .int .i64 o_2] H1 fun r47 H47 =>
                  ∃ l3 : Sl,
                  r47 = .slice l3.p l3.n l3.c ∧
                  Sub H1 H47 ∧
                  FnH Tryz.prog 28 #[.pointer p29, .int .i64 o_1, .int .i64 o_2] H47 fun r48 H48 =>
                    ∃ l4 : Sl,
                    r48 = .slice l4.p l4.n l4.c ∧
                    Sub H1 H48 ∧
                    FnH Tryz.prog 27 #[.slice l3.p l3.n l3.c, .slice l4.p l4.n l4.c] H48 fun r49 H49 =>
                      ∃ b4 : Bool,
                      r49 = .bool b4 ∧
                      Sub H1 H49 ∧
                      K (.bool b4) H49)
               (
                br ((n1 : Int) == 8) (
                  ∃ p30 : Option Addr,
                  cellH H1 ⟨b, bo, none⟩ = some (.pointer p30) ∧
                  FnH Tryz.prog 18 #[.pointer p30, .slice o_10.p o_10.n o_10.c] H1 fun r50 H50 =>
                    r50 = .tuple #[] ∧
                    ∃ p31 : Option Addr,
                    cellH H50 ⟨b, bo + 1, none⟩ = some (.pointer p31) ∧
                    FnH Tryz.prog 29 #[.pointer p31, .slice o_10.p o_10.n o_10.c] H50 fun r51 H51 =>
                      r51 = .tuple #[] ∧
                      ∃ p32 : Option Addr,
                      cellH H51 ⟨b, bo + 3, none⟩ = some (.pointer p32) ∧
                      ptrm p32 fun q2 o2 =>
                      ∃ n41 : Int,
                      cellH H51 ⟨q2, o2 + 2, none⟩ = some (.int .i64 n41) ∧
                      FnH Tryz.prog 8 #[.pointer (some ⟨b, bo, none⟩), .int .i64 n41] H51 fun r52 H52 =>
                        ∃ b5 : Bool,
                        r52 = .bool b5 ∧
                        K (.bool b5) H52)
                 (
                  FnH Tryz.prog 8 #[.pointer (some ⟨b, bo, none⟩), .int .i64 o_1] H1 fun r53 H53 =>
                    ∃ b6 : Bool,
                    r53 = .bool b6 ∧
                    K (.bool b6) H53)))))))
     (
      br ((n1 : Int) == 1) (
        br ((n1 : Int) == 1) (
          br (o_9) (
            ∃ p33 : Option Addr,
            cellH H1 ⟨b, bo + 3, none⟩ = some (.pointer p33) ∧
            FnH Tryz.prog 22 #[.pointer p33] H1 fun r54 H54 =>
              ∃ n42 : Int,
              r54 = .int .i64 n42 ∧
              ∃ p34 : Option Addr,
              cellH H54 ⟨b, bo + 2, none⟩ = some (.pointer p34) ∧
              (FnH Tryz.prog 13 #[.pointer p34, .agg #[.int .i64 n42, .int .i64 o_4, .int .i64 o_5, .int .i64 o_6, .int .i64 o_7, .slice o_8.p o_8.n o_8.c]] H54 fun r55 H55 =>
                ∃ n43 : Int,
                r55 = .int .i64 n43 ∧
                (∃ p35 : Option Addr,
                cellH H55 ⟨b, bo + 3, none⟩ = some (.pointer p35) ∧
                FnH Tryz.prog 23 #[.pointer p35, .agg #[.int .i64 n42, .int .i64 o_4, .int .i64 o_5, .int .i64 o_6, .int .i64 o_7, .slice o_8.p o_8.n o_8.c]] H55 fun r56 H56 =>
                  ∃ n44 : Int,
                  r56 = .int .i64 n44 ∧
                  K (.bool ((n43 : Int) == n44)) H56) ∧
                ∃ p36 : Option Addr,
                cellH H55 ⟨b, bo + 3, none⟩ = some (.pointer p36) ∧
                FnH Tryz.prog 23 #[.pointer p36, .agg #[.int .i64 n42, .int .i64 o_4, .int .i64 o_5, .int .i64 o_6, .int .i64 o_7, .slice o_8.p o_8.n o_8.c]] H55 fun r57 H57 =>
                  ∃ n45 : Int,
                  r57 = .int .i64 n45 ∧
                  K (.bool ((n43 : Int) == n45)) H57) ∧
              (∃ p37 : Option Addr,
              cellH H54 ⟨b, bo + 3, none⟩ = some (.pointer p37) ∧
              Sub H54 H54 ∧
              (FnH Tryz.prog 13 #[.pointer p34, .agg #[.int .i64 n42, .int .i64 o_4, .int .i64 o_5, .int .i64 o_6, .int .i64 o_7, .slice o_8.p o_8.n o_8.c]] H54 fun r58 H58 =>
                ∃ n46 : Int,
                r58 = .int .i64 n46 ∧
                FnH Tryz.prog 23 #[.pointer p37, .agg #[.int .i64 n42, .int .i64 o_4, .int .i64 o_5, .int .i64 o_6, .int .i64 o_7, .slice o_8.p o_8.n o_8.c]] H58 fun r59 H59 =>
                  ∃ n47 : Int,
                  r59 = .int .i64 n47 ∧
                  K (.bool ((n46 : Int) == n47)) H59) ∧
              Sub H54 H54 ∧
              FnH Tryz.prog 13 #[.pointer p34, .agg #[.int .i64 n42, .int .i64 o_4, .int .i64 o_5, .int .i64 o_6, .int .i64 o_7, .slice o_8.p o_8.n o_8.c]] H54 fun r60 H60 =>
                ∃ n48 : Int,
                r60 = .int .i64 n48 ∧
                FnH Tryz.prog 23 #[.pointer p37, .agg #[.int .i64 n42, .int .i64 o_4, .int .i64 o_5, .int .i64 o_6, .int .i64 o_7, .slice o_8.p o_8.n o_8.c]] H60 fun r61 H61 =>
                  ∃ n49 : Int,
                  r61 = .int .i64 n49 ∧
                  K (.bool ((n48 : Int) == n49)) H61) ∧
              Sub H54 H54 ∧
              (FnH Tryz.prog 13 #[.pointer p34, .agg #[.int .i64 n42, .int .i64 o_4, .int .i64 o_5, .int .i64 o_6, .int .i64 o_7, .slice o_8.p o_8.n o_8.c]] H54 fun r62 H62 =>
                ∃ n50 : Int,
                r62 = .int .i64 n50 ∧
                ∃ p38 : Option Addr,
                cellH H62 ⟨b, bo + 3, none⟩ = some (.pointer p38) ∧
                FnH Tryz.prog 23 #[.pointer p38, .agg #[.int .i64 n42, .int .i64 o_4, .int .i64 o_5, .int .i64 o_6, .int .i64 o_7, .slice o_8.p o_8.n o_8.c]] H62 fun r63 H63 =>
                  ∃ n51 : Int,
                  r63 = .int .i64 n51 ∧
                  K (.bool ((n50 : Int) == n51)) H63) ∧
              ∃ p39 : Option Addr,
              cellH H54 ⟨b, bo + 3, none⟩ = some (.pointer p39) ∧
              Sub H54 H54 ∧
              FnH Tryz.prog 13 #[.pointer p34, .agg #[.int .i64 n42, .int .i64 o_4, .int .i64 o_5, .int .i64 o_6, .int .i64 o_7, .slice o_8.p o_8.n o_8.c]] H54 fun r64 H64 =>
                ∃ n52 : Int,
                r64 = .int .i64 n52 ∧
                FnH Tryz.prog 23 #[.pointer p39, .agg #[.int .i64 n42, .int .i64 o_4, .int .i64 o_5, .int .i64 o_6, .int .i64 o_7, .slice o_8.p o_8.n o_8.c]] H64 fun r65 H65 =>
                  ∃ n53 : Int,
                  r65 = .int .i64 n53 ∧
                  K (.bool ((n52 : Int) == n53)) H65)
           (
            ∃ p40 : Option Addr,
            cellH H1 ⟨b, bo + 2, none⟩ = some (.pointer p40) ∧
            (FnH Tryz.prog 13 #[.pointer p40, .agg #[.int .i64 o_3, .int .i64 o_4, .int .i64 o_5, .int .i64 o_6, .int .i64 o_7, .slice o_8.p o_8.n o_8.c]] H1 fun r66 H66 =>
              ∃ n54 : Int,
              r66 = .int .i64 n54 ∧
              (∃ p41 : Option Addr,
              cellH H66 ⟨b, bo + 3, none⟩ = some (.pointer p41) ∧
              FnH Tryz.prog 23 #[.pointer p41, .agg #[.int .i64 o_3, .int .i64 o_4, .int .i64 o_5, .int .i64 o_6, .int .i64 o_7, .slice o_8.p o_8.n o_8.c]] H66 fun r67 H67 =>
                ∃ n55 : Int,
                r67 = .int .i64 n55 ∧
                K (.bool ((n54 : Int) == n55)) H67) ∧
              ∃ p42 : Option Addr,
              cellH H66 ⟨b, bo + 3, none⟩ = some (.pointer p42) ∧
              FnH Tryz.prog 23 #[.pointer p42, .agg #[.int .i64 o_3, .int .i64 o_4, .int .i64 o_5, .int .i64 o_6, .int .i64 o_7, .slice o_8.p o_8.n o_8.c]] H66 fun r68 H68 =>
                ∃ n56 : Int,
                r68 = .int .i64 n56 ∧
                K (.bool ((n54 : Int) == n56)) H68) ∧
            (∃ p43 : Option Addr,
            cellH H1 ⟨b, bo + 3, none⟩ = some (.pointer p43) ∧
            Sub H1 H1 ∧
            (FnH Tryz.prog 13 #[.pointer p40, .agg #[.int .i64 o_3, .int .i64 o_4, .int .i64 o_5, .int .i64 o_6, .int .i64 o_7, .slice o_8.p o_8.n o_8.c]] H1 fun r69 H69 =>
              ∃ n57 : Int,
              r69 = .int .i64 n57 ∧
              FnH Tryz.prog 23 #[.pointer p43, .agg #[.int .i64 o_3, .int .i64 o_4, .int .i64 o_5, .int .i64 o_6, .int .i64 o_7, .slice o_8.p o_8.n o_8.c]] H69 fun r70 H70 =>
                ∃ n58 : Int,
                r70 = .int .i64 n58 ∧
                K (.bool ((n57 : Int) == n58)) H70) ∧
            Sub H1 H1 ∧
            FnH Tryz.prog 13 #[.pointer p40, .agg #[.int .i64 o_3, .int .i64 o_4, .int .i64 o_5, .int .i64 o_6, .int .i64 o_7, .slice o_8.p o_8.n o_8.c]] H1 fun r71 H71 =>
              ∃ n59 : Int,
              r71 = .int .i64 n59 ∧
              FnH Tryz.prog 23 #[.pointer p43, .agg #[.int .i64 o_3, .int .i64 o_4, .int .i64 o_5, .int .i64 o_6, .int .i64 o_7, .slice o_8.p o_8.n o_8.c]] H71 fun r72 H72 =>
                ∃ n60 : Int,
                r72 = .int .i64 n60 ∧
                K (.bool ((n59 : Int) == n60)) H72) ∧
            Sub H1 H1 ∧
            (FnH Tryz.prog 13 #[.pointer p40, .agg #[.int .i64 o_3, .int .i64 o_4, .int .i64 o_5, .int .i64 o_6, .int .i64 o_7, .slice o_8.p o_8.n o_8.c]] H1 fun r73 H73 =>
              ∃ n61 : Int,
              r73 = .int .i64 n61 ∧
              ∃ p44 : Option Addr,
              cellH H73 ⟨b, bo + 3, none⟩ = some (.pointer p44) ∧
              FnH Tryz.prog 23 #[.pointer p44, .agg #[.int .i64 o_3, .int .i64 o_4, .int .i64 o_5, .int .i64 o_6, .int .i64 o_7, .slice o_8.p o_8.n o_8.c]] H73 fun r74 H74 =>
                ∃ n62 : Int,
                r74 = .int .i64 n62 ∧
                K (.bool ((n61 : Int) == n62)) H74) ∧
            ∃ p45 : Option Addr,
            cellH H1 ⟨b, bo + 3, none⟩ = some (.pointer p45) ∧
            Sub H1 H1 ∧
            FnH Tryz.prog 13 #[.pointer p40, .agg #[.int .i64 o_3, .int .i64 o_4, .int .i64 o_5, .int .i64 o_6, .int .i64 o_7, .slice o_8.p o_8.n o_8.c]] H1 fun r75 H75 =>
              ∃ n63 : Int,
              r75 = .int .i64 n63 ∧
              FnH Tryz.prog 23 #[.pointer p45, .agg #[.int .i64 o_3, .int .i64 o_4, .int .i64 o_5, .int .i64 o_6, .int .i64 o_7, .slice o_8.p o_8.n o_8.c]] H75 fun r76 H76 =>
                ∃ n64 : Int,
                r76 = .int .i64 n64 ∧
                K (.bool ((n63 : Int) == n64)) H76))
         (
          br ((n1 : Int) == 4) (
            ∃ p46 : Option Addr,
            cellH H1 ⟨b, bo + 2, none⟩ = some (.pointer p46) ∧
            (FnH Tryz.prog 16 #[.pointer p46] H1 fun r77 H77 =>
              ∃ n65 : Int,
              r77 = .int .i64 n65 ∧
              ∃ p47 : Option Addr,
              cellH H77 ⟨b, bo + 1, none⟩ = some (.pointer p47) ∧
              FnH Tryz.prog 24 #[.pointer p47, .string (⟨#[115]⟩ : ByteArray)] H77 fun r78 H78 =>
                ∃ n66 : Int,
                r78 = .int .i64 n66 ∧
                K (.bool ((n65 : Int) == n66)) H78) ∧
            ∃ p48 : Option Addr,
            cellH H1 ⟨b, bo + 1, none⟩ = some (.pointer p48) ∧
            Sub H1 H1 ∧
            FnH Tryz.prog 16 #[.pointer p46] H1 fun r79 H79 =>
              ∃ n67 : Int,
              r79 = .int .i64 n67 ∧
              FnH Tryz.prog 24 #[.pointer p48, .string (⟨#[115]⟩ : ByteArray)] H79 fun r80 H80 =>
                ∃ n68 : Int,
                r80 = .int .i64 n68 ∧
                K (.bool ((n67 : Int) == n68)) H80)
           (
            br ((n1 : Int) == 5) (
              ∃ p49 : Option Addr,
              cellH H1 ⟨b, bo + 2, none⟩ = some (.pointer p49) ∧
              (FnH Tryz.prog 25 #[.pointer p49, .int .i64 o_1] H1 fun r81 H81 =>
                ∃ n69 : Int,
                r81 = .int .i64 n69 ∧
                (∃ p50 : Option Addr,
                cellH H81 ⟨b, bo + 3, none⟩ = some (.pointer p50) ∧
                FnH Tryz.prog 26 #[.pointer p50, .int .i64 o_1] H81 fun r82 H82 =>
                  ∃ n70 : Int,
                  r82 = .int .i64 n70 ∧
                  K (.bool ((n69 : Int) == n70)) H82) ∧
                ∃ p51 : Option Addr,
                cellH H81 ⟨b, bo + 3, none⟩ = some (.pointer p51) ∧
                FnH Tryz.prog 26 #[.pointer p51, .int .i64 o_1] H81 fun r83 H83 =>
                  ∃ n71 : Int,
                  r83 = .int .i64 n71 ∧
                  K (.bool ((n69 : Int) == n71)) H83) ∧
              (∃ p52 : Option Addr,
              cellH H1 ⟨b, bo + 3, none⟩ = some (.pointer p52) ∧
              Sub H1 H1 ∧
              (FnH Tryz.prog 25 #[.pointer p49, .int .i64 o_1] H1 fun r84 H84 =>
                ∃ n72 : Int,
                r84 = .int .i64 n72 ∧
                FnH Tryz.prog 26 #[.pointer p52, .int .i64 o_1] H84 fun r85 H85 =>
                  ∃ n73 : Int,
                  r85 = .int .i64 n73 ∧
                  K (.bool ((n72 : Int) == n73)) H85) ∧
              Sub H1 H1 ∧
              FnH Tryz.prog 25 #[.pointer p49, .int .i64 o_1] H1 fun r86 H86 =>
                ∃ n74 : Int,
                r86 = .int .i64 n74 ∧
                FnH Tryz.prog 26 #[.pointer p52, .int .i64 o_1] H86 fun r87 H87 =>
                  ∃ n75 : Int,
                  r87 = .int .i64 n75 ∧
                  K (.bool ((n74 : Int) == n75)) H87) ∧
              Sub H1 H1 ∧
              (FnH Tryz.prog 25 #[.pointer p49, .int .i64 o_1] H1 fun r88 H88 =>
                ∃ n76 : Int,
                r88 = .int .i64 n76 ∧
                ∃ p53 : Option Addr,
                cellH H88 ⟨b, bo + 3, none⟩ = some (.pointer p53) ∧
                FnH Tryz.prog 26 #[.pointer p53, .int .i64 o_1] H88 fun r89 H89 =>
                  ∃ n77 : Int,
                  r89 = .int .i64 n77 ∧
                  K (.bool ((n76 : Int) == n77)) H89) ∧
              ∃ p54 : Option Addr,
              cellH H1 ⟨b, bo + 3, none⟩ = some (.pointer p54) ∧
              Sub H1 H1 ∧
              FnH Tryz.prog 25 #[.pointer p49, .int .i64 o_1] H1 fun r90 H90 =>
                ∃ n78 : Int,
                r90 = .int .i64 n78 ∧
                FnH Tryz.prog 26 #[.pointer p54, .int .i64 o_1] H90 fun r91 H91 =>
                  ∃ n79 : Int,
                  r91 = .int .i64 n79 ∧
                  K (.bool ((n78 : Int) == n79)) H91)
             (
              br ((n1 : Int) == 6) (
                br ((n1 : Int) == 6) (
                  ∃ p55 : Option Addr,
                  cellH H1 ⟨b, bo + 2, none⟩ = some (.pointer p55) ∧
                  ∃ p56 : Option Addr,
                  cellH H1 ⟨b, bo + 3, none⟩ = some (.pointer p56) ∧
                  FnH Tryz.prog 19 #[.pointer p55, .int .i64 o_1, .int .i64 o_2] H1 fun r92 H92 =>
                    ∃ l5 : Sl,
                    r92 = .slice l5.p l5.n l5.c ∧
                    Sub H1 H92 ∧
                    FnH Tryz.prog 28 #[.pointer p56, .int .i64 o_1, .int .i64 o_2] H92 fun r93 H93 =>
                      ∃ l6 : Sl,
                      r93 = .slice l6.p l6.n l6.c ∧
                      Sub H1 H93 ∧
                      FnH Tryz.prog 27 #[.slice l5.p l5.n l5.c, .slice l6.p l6.n l6.c] H93 fun r94 H94 =>
                        ∃ b7 : Bool,
                        r94 = .bool b7 ∧
                        Sub H1 H94 ∧
                        K (.bool b7) H94)
                 (
                  br ((n1 : Int) == 8) (
                    ∃ p57 : Option Addr,
                    cellH H1 ⟨b, bo, none⟩ = some (.pointer p57) ∧
                    FnH Tryz.prog 18 #[.pointer p57, .slice o_10.p o_10.n o_10.c] H1 fun r95 H95 =>
                      r95 = .tuple #[] ∧
                      ∃ p58 : Option Addr,
                      cellH H95 ⟨b, bo + 1, none⟩ = some (.pointer p58) ∧
                      FnH Tryz.prog 29 #[.pointer p58, .slice o_10.p o_10.n o_10.c] H95 fun r96 H96 =>
                        r96 = .tuple #[] ∧
                        ∃ p59 : Option Addr,
                        cellH H96 ⟨b, bo + 3, none⟩ = some (.pointer p59) ∧
                        ptrm p59 fun q3 o3 =>
                        ∃ n80 : Int,
                        cellH H96 ⟨q3, o3 + 2, none⟩ = some (.int .i64 n80) ∧
                        FnH Tryz.prog 8 #[.pointer (some ⟨b, bo, none⟩), .int .i64 n80] H96 fun r97 H97 =>
                          ∃ b8 : Bool,
                          r97 = .bool b8 ∧
                          K (.bool b8) H97)
                   (
                    FnH Tryz.prog 8 #[.pointer (some ⟨b, bo, none⟩), .int .i64 o_1] H1 fun r98 H98 =>
                      ∃ b9 : Bool,
                      r98 = .bool b9 ∧
                      K (.bool b9) H98)))
               (
                br ((n1 : Int) == 7) (
                  ∃ p60 : Option Addr,
                  cellH H1 ⟨b, bo + 2, none⟩ = some (.pointer p60) ∧
                  ∃ p61 : Option Addr,
                  cellH H1 ⟨b, bo + 3, none⟩ = some (.pointer p61) ∧
                  FnH Tryz.prog 19 #[.pointer p60, .int .i64 o_1, .int .i64 o_2] H1 fun r99 H99 =>
                    ∃ l7 : Sl,
                    r99 = .slice l7.p l7.n l7.c ∧
                    Sub H1 H99 ∧
                    FnH Tryz.prog 28 #[.pointer p61, .int .i64 o_1, .int .i64 o_2] H99 fun r100 H100 =>
                      ∃ l8 : Sl,
                      r100 = .slice l8.p l8.n l8.c ∧
                      Sub H1 H100 ∧
                      FnH Tryz.prog 27 #[.slice l7.p l7.n l7.c, .slice l8.p l8.n l8.c] H100 fun r101 H101 =>
                        ∃ b10 : Bool,
                        r101 = .bool b10 ∧
                        Sub H1 H101 ∧
                        K (.bool b10) H101)
                 (
                  br ((n1 : Int) == 8) (
                    ∃ p62 : Option Addr,
                    cellH H1 ⟨b, bo, none⟩ = some (.pointer p62) ∧
                    FnH Tryz.prog 18 #[.pointer p62, .slice o_10.p o_10.n o_10.c] H1 fun r102 H102 =>
                      r102 = .tuple #[] ∧
                      ∃ p63 : Option Addr,
                      cellH H102 ⟨b, bo + 1, none⟩ = some (.pointer p63) ∧
                      FnH Tryz.prog 29 #[.pointer p63, .slice o_10.p o_10.n o_10.c] H102 fun r103 H103 =>
                        r103 = .tuple #[] ∧
                        ∃ p64 : Option Addr,
                        cellH H103 ⟨b, bo + 3, none⟩ = some (.pointer p64) ∧
                        ptrm p64 fun q4 o4 =>
                        ∃ n81 : Int,
                        cellH H103 ⟨q4, o4 + 2, none⟩ = some (.int .i64 n81) ∧
                        FnH Tryz.prog 8 #[.pointer (some ⟨b, bo, none⟩), .int .i64 n81] H103 fun r104 H104 =>
                          ∃ b11 : Bool,
                          r104 = .bool b11 ∧
                          K (.bool b11) H104)
                   (
                    FnH Tryz.prog 8 #[.pointer (some ⟨b, bo, none⟩), .int .i64 o_1] H1 fun r105 H105 =>
                      ∃ b12 : Bool,
                      r105 = .bool b12 ∧
                      K (.bool b12) H105)))))))
       (
        br ((n1 : Int) == 2) (
          br ((n1 : Int) == 2) (
            br (o_9) (
              ∃ p65 : Option Addr,
              cellH H1 ⟨b, bo + 3, none⟩ = some (.pointer p65) ∧
              FnH Tryz.prog 22 #[.pointer p65] H1 fun r106 H106 =>
                ∃ n82 : Int,
                r106 = .int .i64 n82 ∧
                ∃ p66 : Option Addr,
                cellH H106 ⟨b, bo + 2, none⟩ = some (.pointer p66) ∧
                (FnH Tryz.prog 13 #[.pointer p66, .agg #[.int .i64 n82, .int .i64 o_4, .int .i64 o_5, .int .i64 o_6, .int .i64 o_7, .slice o_8.p o_8.n o_8.c]] H106 fun r107 H107 =>
                  ∃ n83 : Int,
                  r107 = .int .i64 n83 ∧
                  (∃ p67 : Option Addr,
                  cellH H107 ⟨b, bo + 3, none⟩ = some (.pointer p67) ∧
                  FnH Tryz.prog 23 #[.pointer p67, .agg #[.int .i64 n82, .int .i64 o_4, .int .i64 o_5, .int .i64 o_6, .int .i64 o_7, .slice o_8.p o_8.n o_8.c]] H107 fun r108 H108 =>
                    ∃ n84 : Int,
                    r108 = .int .i64 n84 ∧
                    K (.bool ((n83 : Int) == n84)) H108) ∧
                  ∃ p68 : Option Addr,
                  cellH H107 ⟨b, bo + 3, none⟩ = some (.pointer p68) ∧
                  FnH Tryz.prog 23 #[.pointer p68, .agg #[.int .i64 n82, .int .i64 o_4, .int .i64 o_5, .int .i64 o_6, .int .i64 o_7, .slice o_8.p o_8.n o_8.c]] H107 fun r109 H109 =>
                    ∃ n85 : Int,
                    r109 = .int .i64 n85 ∧
                    K (.bool ((n83 : Int) == n85)) H109) ∧
                (∃ p69 : Option Addr,
                cellH H106 ⟨b, bo + 3, none⟩ = some (.pointer p69) ∧
                Sub H106 H106 ∧
                (FnH Tryz.prog 13 #[.pointer p66, .agg #[.int .i64 n82, .int .i64 o_4, .int .i64 o_5, .int .i64 o_6, .int .i64 o_7, .slice o_8.p o_8.n o_8.c]] H106 fun r110 H110 =>
                  ∃ n86 : Int,
                  r110 = .int .i64 n86 ∧
                  FnH Tryz.prog 23 #[.pointer p69, .agg #[.int .i64 n82, .int .i64 o_4, .int .i64 o_5, .int .i64 o_6, .int .i64 o_7, .slice o_8.p o_8.n o_8.c]] H110 fun r111 H111 =>
                    ∃ n87 : Int,
                    r111 = .int .i64 n87 ∧
                    K (.bool ((n86 : Int) == n87)) H111) ∧
                Sub H106 H106 ∧
                FnH Tryz.prog 13 #[.pointer p66, .agg #[.int .i64 n82, .int .i64 o_4, .int .i64 o_5, .int .i64 o_6, .int .i64 o_7, .slice o_8.p o_8.n o_8.c]] H106 fun r112 H112 =>
                  ∃ n88 : Int,
                  r112 = .int .i64 n88 ∧
                  FnH Tryz.prog 23 #[.pointer p69, .agg #[.int .i64 n82, .int .i64 o_4, .int .i64 o_5, .int .i64 o_6, .int .i64 o_7, .slice o_8.p o_8.n o_8.c]] H112 fun r113 H113 =>
                    ∃ n89 : Int,
                    r113 = .int .i64 n89 ∧
                    K (.bool ((n88 : Int) == n89)) H113) ∧
                Sub H106 H106 ∧
                (FnH Tryz.prog 13 #[.pointer p66, .agg #[.int .i64 n82, .int .i64 o_4, .int .i64 o_5, .int .i64 o_6, .int .i64 o_7, .slice o_8.p o_8.n o_8.c]] H106 fun r114 H114 =>
                  ∃ n90 : Int,
                  r114 = .int .i64 n90 ∧
                  ∃ p70 : Option Addr,
                  cellH H114 ⟨b, bo + 3, none⟩ = some (.pointer p70) ∧
                  FnH Tryz.prog 23 #[.pointer p70, .agg #[.int .i64 n82, .int .i64 o_4, .int .i64 o_5, .int .i64 o_6, .int .i64 o_7, .slice o_8.p o_8.n o_8.c]] H114 fun r115 H115 =>
                    ∃ n91 : Int,
                    r115 = .int .i64 n91 ∧
                    K (.bool ((n90 : Int) == n91)) H115) ∧
                ∃ p71 : Option Addr,
                cellH H106 ⟨b, bo + 3, none⟩ = some (.pointer p71) ∧
                Sub H106 H106 ∧
                FnH Tryz.prog 13 #[.pointer p66, .agg #[.int .i64 n82, .int .i64 o_4, .int .i64 o_5, .int .i64 o_6, .int .i64 o_7, .slice o_8.p o_8.n o_8.c]] H106 fun r116 H116 =>
                  ∃ n92 : Int,
                  r116 = .int .i64 n92 ∧
                  FnH Tryz.prog 23 #[.pointer p71, .agg #[.int .i64 n82, .int .i64 o_4, .int .i64 o_5, .int .i64 o_6, .int .i64 o_7, .slice o_8.p o_8.n o_8.c]] H116 fun r117 H117 =>
                    ∃ n93 : Int,
                    r117 = .int .i64 n93 ∧
                    K (.bool ((n92 : Int) == n93)) H117)
             (
              ∃ p72 : Option Addr,
              cellH H1 ⟨b, bo + 2, none⟩ = some (.pointer p72) ∧
              (FnH Tryz.prog 13 #[.pointer p72, .agg #[.int .i64 o_3, .int .i64 o_4, .int .i64 o_5, .int .i64 o_6, .int .i64 o_7, .slice o_8.p o_8.n o_8.c]] H1 fun r118 H118 =>
                ∃ n94 : Int,
                r118 = .int .i64 n94 ∧
                (∃ p73 : Option Addr,
                cellH H118 ⟨b, bo + 3, none⟩ = some (.pointer p73) ∧
                FnH Tryz.prog 23 #[.pointer p73, .agg #[.int .i64 o_3, .int .i64 o_4, .int .i64 o_5, .int .i64 o_6, .int .i64 o_7, .slice o_8.p o_8.n o_8.c]] H118 fun r119 H119 =>
                  ∃ n95 : Int,
                  r119 = .int .i64 n95 ∧
                  K (.bool ((n94 : Int) == n95)) H119) ∧
                ∃ p74 : Option Addr,
                cellH H118 ⟨b, bo + 3, none⟩ = some (.pointer p74) ∧
                FnH Tryz.prog 23 #[.pointer p74, .agg #[.int .i64 o_3, .int .i64 o_4, .int .i64 o_5, .int .i64 o_6, .int .i64 o_7, .slice o_8.p o_8.n o_8.c]] H118 fun r120 H120 =>
                  ∃ n96 : Int,
                  r120 = .int .i64 n96 ∧
                  K (.bool ((n94 : Int) == n96)) H120) ∧
              (∃ p75 : Option Addr,
              cellH H1 ⟨b, bo + 3, none⟩ = some (.pointer p75) ∧
              Sub H1 H1 ∧
              (FnH Tryz.prog 13 #[.pointer p72, .agg #[.int .i64 o_3, .int .i64 o_4, .int .i64 o_5, .int .i64 o_6, .int .i64 o_7, .slice o_8.p o_8.n o_8.c]] H1 fun r121 H121 =>
                ∃ n97 : Int,
                r121 = .int .i64 n97 ∧
                FnH Tryz.prog 23 #[.pointer p75, .agg #[.int .i64 o_3, .int .i64 o_4, .int .i64 o_5, .int .i64 o_6, .int .i64 o_7, .slice o_8.p o_8.n o_8.c]] H121 fun r122 H122 =>
                  ∃ n98 : Int,
                  r122 = .int .i64 n98 ∧
                  K (.bool ((n97 : Int) == n98)) H122) ∧
              Sub H1 H1 ∧
              FnH Tryz.prog 13 #[.pointer p72, .agg #[.int .i64 o_3, .int .i64 o_4, .int .i64 o_5, .int .i64 o_6, .int .i64 o_7, .slice o_8.p o_8.n o_8.c]] H1 fun r123 H123 =>
                ∃ n99 : Int,
                r123 = .int .i64 n99 ∧
                FnH Tryz.prog 23 #[.pointer p75, .agg #[.int .i64 o_3, .int .i64 o_4, .int .i64 o_5, .int .i64 o_6, .int .i64 o_7, .slice o_8.p o_8.n o_8.c]] H123 fun r124 H124 =>
                  ∃ n100 : Int,
                  r124 = .int .i64 n100 ∧
                  K (.bool ((n99 : Int) == n100)) H124) ∧
              Sub H1 H1 ∧
              (FnH Tryz.prog 13 #[.pointer p72, .agg #[.int .i64 o_3, .int .i64 o_4, .int .i64 o_5, .int .i64 o_6, .int .i64 o_7, .slice o_8.p o_8.n o_8.c]] H1 fun r125 H125 =>
                ∃ n101 : Int,
                r125 = .int .i64 n101 ∧
                ∃ p76 : Option Addr,
                cellH H125 ⟨b, bo + 3, none⟩ = some (.pointer p76) ∧
                FnH Tryz.prog 23 #[.pointer p76, .agg #[.int .i64 o_3, .int .i64 o_4, .int .i64 o_5, .int .i64 o_6, .int .i64 o_7, .slice o_8.p o_8.n o_8.c]] H125 fun r126 H126 =>
                  ∃ n102 : Int,
                  r126 = .int .i64 n102 ∧
                  K (.bool ((n101 : Int) == n102)) H126) ∧
              ∃ p77 : Option Addr,
              cellH H1 ⟨b, bo + 3, none⟩ = some (.pointer p77) ∧
              Sub H1 H1 ∧
              FnH Tryz.prog 13 #[.pointer p72, .agg #[.int .i64 o_3, .int .i64 o_4, .int .i64 o_5, .int .i64 o_6, .int .i64 o_7, .slice o_8.p o_8.n o_8.c]] H1 fun r127 H127 =>
                ∃ n103 : Int,
                r127 = .int .i64 n103 ∧
                FnH Tryz.prog 23 #[.pointer p77, .agg #[.int .i64 o_3, .int .i64 o_4, .int .i64 o_5, .int .i64 o_6, .int .i64 o_7, .slice o_8.p o_8.n o_8.c]] H127 fun r128 H128 =>
                  ∃ n104 : Int,
                  r128 = .int .i64 n104 ∧
                  K (.bool ((n103 : Int) == n104)) H128))
           (
            br ((n1 : Int) == 4) (
              ∃ p78 : Option Addr,
              cellH H1 ⟨b, bo + 2, none⟩ = some (.pointer p78) ∧
              (FnH Tryz.prog 16 #[.pointer p78] H1 fun r129 H129 =>
                ∃ n105 : Int,
                r129 = .int .i64 n105 ∧
                ∃ p79 : Option Addr,
                cellH H129 ⟨b, bo + 1, none⟩ = some (.pointer p79) ∧
                FnH Tryz.prog 24 #[.pointer p79, .string (⟨#[115]⟩ : ByteArray)] H129 fun r130 H130 =>
                  ∃ n106 : Int,
                  r130 = .int .i64 n106 ∧
                  K (.bool ((n105 : Int) == n106)) H130) ∧
              ∃ p80 : Option Addr,
              cellH H1 ⟨b, bo + 1, none⟩ = some (.pointer p80) ∧
              Sub H1 H1 ∧
              FnH Tryz.prog 16 #[.pointer p78] H1 fun r131 H131 =>
                ∃ n107 : Int,
                r131 = .int .i64 n107 ∧
                FnH Tryz.prog 24 #[.pointer p80, .string (⟨#[115]⟩ : ByteArray)] H131 fun r132 H132 =>
                  ∃ n108 : Int,
                  r132 = .int .i64 n108 ∧
                  K (.bool ((n107 : Int) == n108)) H132)
             (
              br ((n1 : Int) == 5) (
                ∃ p81 : Option Addr,
                cellH H1 ⟨b, bo + 2, none⟩ = some (.pointer p81) ∧
                (FnH Tryz.prog 25 #[.pointer p81, .int .i64 o_1] H1 fun r133 H133 =>
                  ∃ n109 : Int,
                  r133 = .int .i64 n109 ∧
                  (∃ p82 : Option Addr,
                  cellH H133 ⟨b, bo + 3, none⟩ = some (.pointer p82) ∧
                  FnH Tryz.prog 26 #[.pointer p82, .int .i64 o_1] H133 fun r134 H134 =>
                    ∃ n110 : Int,
                    r134 = .int .i64 n110 ∧
                    K (.bool ((n109 : Int) == n110)) H134) ∧
                  ∃ p83 : Option Addr,
                  cellH H133 ⟨b, bo + 3, none⟩ = some (.pointer p83) ∧
                  FnH Tryz.prog 26 #[.pointer p83, .int .i64 o_1] H133 fun r135 H135 =>
                    ∃ n111 : Int,
                    r135 = .int .i64 n111 ∧
                    K (.bool ((n109 : Int) == n111)) H135) ∧
                (∃ p84 : Option Addr,
                cellH H1 ⟨b, bo + 3, none⟩ = some (.pointer p84) ∧
                Sub H1 H1 ∧
                (FnH Tryz.prog 25 #[.pointer p81, .int .i64 o_1] H1 fun r136 H136 =>
                  ∃ n112 : Int,
                  r136 = .int .i64 n112 ∧
                  FnH Tryz.prog 26 #[.pointer p84, .int .i64 o_1] H136 fun r137 H137 =>
                    ∃ n113 : Int,
                    r137 = .int .i64 n113 ∧
                    K (.bool ((n112 : Int) == n113)) H137) ∧
                Sub H1 H1 ∧
                FnH Tryz.prog 25 #[.pointer p81, .int .i64 o_1] H1 fun r138 H138 =>
                  ∃ n114 : Int,
                  r138 = .int .i64 n114 ∧
                  FnH Tryz.prog 26 #[.pointer p84, .int .i64 o_1] H138 fun r139 H139 =>
                    ∃ n115 : Int,
                    r139 = .int .i64 n115 ∧
                    K (.bool ((n114 : Int) == n115)) H139) ∧
                Sub H1 H1 ∧
                (FnH Tryz.prog 25 #[.pointer p81, .int .i64 o_1] H1 fun r140 H140 =>
                  ∃ n116 : Int,
                  r140 = .int .i64 n116 ∧
                  ∃ p85 : Option Addr,
                  cellH H140 ⟨b, bo + 3, none⟩ = some (.pointer p85) ∧
                  FnH Tryz.prog 26 #[.pointer p85, .int .i64 o_1] H140 fun r141 H141 =>
                    ∃ n117 : Int,
                    r141 = .int .i64 n117 ∧
                    K (.bool ((n116 : Int) == n117)) H141) ∧
                ∃ p86 : Option Addr,
                cellH H1 ⟨b, bo + 3, none⟩ = some (.pointer p86) ∧
                Sub H1 H1 ∧
                FnH Tryz.prog 25 #[.pointer p81, .int .i64 o_1] H1 fun r142 H142 =>
                  ∃ n118 : Int,
                  r142 = .int .i64 n118 ∧
                  FnH Tryz.prog 26 #[.pointer p86, .int .i64 o_1] H142 fun r143 H143 =>
                    ∃ n119 : Int,
                    r143 = .int .i64 n119 ∧
                    K (.bool ((n118 : Int) == n119)) H143)
               (
                br ((n1 : Int) == 6) (
                  br ((n1 : Int) == 6) (
                    ∃ p87 : Option Addr,
                    cellH H1 ⟨b, bo + 2, none⟩ = some (.pointer p87) ∧
                    ∃ p88 : Option Addr,
                    cellH H1 ⟨b, bo + 3, none⟩ = some (.pointer p88) ∧
                    FnH Tryz.prog 19 #[.pointer p87, .int .i64 o_1, .int .i64 o_2] H1 fun r144 H144 =>
                      ∃ l9 : Sl,
                      r144 = .slice l9.p l9.n l9.c ∧
                      Sub H1 H144 ∧
                      FnH Tryz.prog 28 #[.pointer p88, .int .i64 o_1, .int .i64 o_2] H144 fun r145 H145 =>
                        ∃ l10 : Sl,
                        r145 = .slice l10.p l10.n l10.c ∧
                        Sub H1 H145 ∧
                        FnH Tryz.prog 27 #[.slice l9.p l9.n l9.c, .slice l10.p l10.n l10.c] H145 fun r146 H146 =>
                          ∃ b13 : Bool,
                          r146 = .bool b13 ∧
                          Sub H1 H146 ∧
                          K (.bool b13) H146)
                   (
                    br ((n1 : Int) == 8) (
                      ∃ p89 : Option Addr,
                      cellH H1 ⟨b, bo, none⟩ = some (.pointer p89) ∧
                      FnH Tryz.prog 18 #[.pointer p89, .slice o_10.p o_10.n o_10.c] H1 fun r147 H147 =>
                        r147 = .tuple #[] ∧
                        ∃ p90 : Option Addr,
                        cellH H147 ⟨b, bo + 1, none⟩ = some (.pointer p90) ∧
                        FnH Tryz.prog 29 #[.pointer p90, .slice o_10.p o_10.n o_10.c] H147 fun r148 H148 =>
                          r148 = .tuple #[] ∧
                          ∃ p91 : Option Addr,
                          cellH H148 ⟨b, bo + 3, none⟩ = some (.pointer p91) ∧
                          ptrm p91 fun q5 o5 =>
                          ∃ n120 : Int,
                          cellH H148 ⟨q5, o5 + 2, none⟩ = some (.int .i64 n120) ∧
                          FnH Tryz.prog 8 #[.pointer (some ⟨b, bo, none⟩), .int .i64 n120] H148 fun r149 H149 =>
                            ∃ b14 : Bool,
                            r149 = .bool b14 ∧
                            K (.bool b14) H149)
                     (
                      FnH Tryz.prog 8 #[.pointer (some ⟨b, bo, none⟩), .int .i64 o_1] H1 fun r150 H150 =>
                        ∃ b15 : Bool,
                        r150 = .bool b15 ∧
                        K (.bool b15) H150)))
                 (
                  br ((n1 : Int) == 7) (
                    ∃ p92 : Option Addr,
                    cellH H1 ⟨b, bo + 2, none⟩ = some (.pointer p92) ∧
                    ∃ p93 : Option Addr,
                    cellH H1 ⟨b, bo + 3, none⟩ = some (.pointer p93) ∧
                    FnH Tryz.prog 19 #[.pointer p92, .int .i64 o_1, .int .i64 o_2] H1 fun r151 H151 =>
                      ∃ l11 : Sl,
                      r151 = .slice l11.p l11.n l11.c ∧
                      Sub H1 H151 ∧
                      FnH Tryz.prog 28 #[.pointer p93, .int .i64 o_1, .int .i64 o_2] H151 fun r152 H152 =>
                        ∃ l12 : Sl,
                        r152 = .slice l12.p l12.n l12.c ∧
                        Sub H1 H152 ∧
                        FnH Tryz.prog 27 #[.slice l11.p l11.n l11.c, .slice l12.p l12.n l12.c] H152 fun r153 H153 =>
                          ∃ b16 : Bool,
                          r153 = .bool b16 ∧
                          Sub H1 H153 ∧
                          K (.bool b16) H153)
                   (
                    br ((n1 : Int) == 8) (
                      ∃ p94 : Option Addr,
                      cellH H1 ⟨b, bo, none⟩ = some (.pointer p94) ∧
                      FnH Tryz.prog 18 #[.pointer p94, .slice o_10.p o_10.n o_10.c] H1 fun r154 H154 =>
                        r154 = .tuple #[] ∧
                        ∃ p95 : Option Addr,
                        cellH H154 ⟨b, bo + 1, none⟩ = some (.pointer p95) ∧
                        FnH Tryz.prog 29 #[.pointer p95, .slice o_10.p o_10.n o_10.c] H154 fun r155 H155 =>
                          r155 = .tuple #[] ∧
                          ∃ p96 : Option Addr,
                          cellH H155 ⟨b, bo + 3, none⟩ = some (.pointer p96) ∧
                          ptrm p96 fun q6 o6 =>
                          ∃ n121 : Int,
                          cellH H155 ⟨q6, o6 + 2, none⟩ = some (.int .i64 n121) ∧
                          FnH Tryz.prog 8 #[.pointer (some ⟨b, bo, none⟩), .int .i64 n121] H155 fun r156 H156 =>
                            ∃ b17 : Bool,
                            r156 = .bool b17 ∧
                            K (.bool b17) H156)
                     (
                      FnH Tryz.prog 8 #[.pointer (some ⟨b, bo, none⟩), .int .i64 o_1] H1 fun r157 H157 =>
                        ∃ b18 : Bool,
                        r157 = .bool b18 ∧
                        K (.bool b18) H157)))))))
         (
          br ((n1 : Int) == 3) (
            br (o_9) (
              ∃ p97 : Option Addr,
              cellH H1 ⟨b, bo + 3, none⟩ = some (.pointer p97) ∧
              FnH Tryz.prog 22 #[.pointer p97] H1 fun r158 H158 =>
                ∃ n122 : Int,
                r158 = .int .i64 n122 ∧
                ∃ p98 : Option Addr,
                cellH H158 ⟨b, bo + 2, none⟩ = some (.pointer p98) ∧
                (FnH Tryz.prog 13 #[.pointer p98, .agg #[.int .i64 n122, .int .i64 o_4, .int .i64 o_5, .int .i64 o_6, .int .i64 o_7, .slice o_8.p o_8.n o_8.c]] H158 fun r159 H159 =>
                  ∃ n123 : Int,
                  r159 = .int .i64 n123 ∧
                  (∃ p99 : Option Addr,
                  cellH H159 ⟨b, bo + 3, none⟩ = some (.pointer p99) ∧
                  FnH Tryz.prog 23 #[.pointer p99, .agg #[.int .i64 n122, .int .i64 o_4, .int .i64 o_5, .int .i64 o_6, .int .i64 o_7, .slice o_8.p o_8.n o_8.c]] H159 fun r160 H160 =>
                    ∃ n124 : Int,
                    r160 = .int .i64 n124 ∧
                    K (.bool ((n123 : Int) == n124)) H160) ∧
                  ∃ p100 : Option Addr,
                  cellH H159 ⟨b, bo + 3, none⟩ = some (.pointer p100) ∧
                  FnH Tryz.prog 23 #[.pointer p100, .agg #[.int .i64 n122, .int .i64 o_4, .int .i64 o_5, .int .i64 o_6, .int .i64 o_7, .slice o_8.p o_8.n o_8.c]] H159 fun r161 H161 =>
                    ∃ n125 : Int,
                    r161 = .int .i64 n125 ∧
                    K (.bool ((n123 : Int) == n125)) H161) ∧
                (∃ p101 : Option Addr,
                cellH H158 ⟨b, bo + 3, none⟩ = some (.pointer p101) ∧
                Sub H158 H158 ∧
                (FnH Tryz.prog 13 #[.pointer p98, .agg #[.int .i64 n122, .int .i64 o_4, .int .i64 o_5, .int .i64 o_6, .int .i64 o_7, .slice o_8.p o_8.n o_8.c]] H158 fun r162 H162 =>
                  ∃ n126 : Int,
                  r162 = .int .i64 n126 ∧
                  FnH Tryz.prog 23 #[.pointer p101, .agg #[.int .i64 n122, .int .i64 o_4, .int .i64 o_5, .int .i64 o_6, .int .i64 o_7, .slice o_8.p o_8.n o_8.c]] H162 fun r163 H163 =>
                    ∃ n127 : Int,
                    r163 = .int .i64 n127 ∧
                    K (.bool ((n126 : Int) == n127)) H163) ∧
                Sub H158 H158 ∧
                FnH Tryz.prog 13 #[.pointer p98, .agg #[.int .i64 n122, .int .i64 o_4, .int .i64 o_5, .int .i64 o_6, .int .i64 o_7, .slice o_8.p o_8.n o_8.c]] H158 fun r164 H164 =>
                  ∃ n128 : Int,
                  r164 = .int .i64 n128 ∧
                  FnH Tryz.prog 23 #[.pointer p101, .agg #[.int .i64 n122, .int .i64 o_4, .int .i64 o_5, .int .i64 o_6, .int .i64 o_7, .slice o_8.p o_8.n o_8.c]] H164 fun r165 H165 =>
                    ∃ n129 : Int,
                    r165 = .int .i64 n129 ∧
                    K (.bool ((n128 : Int) == n129)) H165) ∧
                Sub H158 H158 ∧
                (FnH Tryz.prog 13 #[.pointer p98, .agg #[.int .i64 n122, .int .i64 o_4, .int .i64 o_5, .int .i64 o_6, .int .i64 o_7, .slice o_8.p o_8.n o_8.c]] H158 fun r166 H166 =>
                  ∃ n130 : Int,
                  r166 = .int .i64 n130 ∧
                  ∃ p102 : Option Addr,
                  cellH H166 ⟨b, bo + 3, none⟩ = some (.pointer p102) ∧
                  FnH Tryz.prog 23 #[.pointer p102, .agg #[.int .i64 n122, .int .i64 o_4, .int .i64 o_5, .int .i64 o_6, .int .i64 o_7, .slice o_8.p o_8.n o_8.c]] H166 fun r167 H167 =>
                    ∃ n131 : Int,
                    r167 = .int .i64 n131 ∧
                    K (.bool ((n130 : Int) == n131)) H167) ∧
                ∃ p103 : Option Addr,
                cellH H158 ⟨b, bo + 3, none⟩ = some (.pointer p103) ∧
                Sub H158 H158 ∧
                FnH Tryz.prog 13 #[.pointer p98, .agg #[.int .i64 n122, .int .i64 o_4, .int .i64 o_5, .int .i64 o_6, .int .i64 o_7, .slice o_8.p o_8.n o_8.c]] H158 fun r168 H168 =>
                  ∃ n132 : Int,
                  r168 = .int .i64 n132 ∧
                  FnH Tryz.prog 23 #[.pointer p103, .agg #[.int .i64 n122, .int .i64 o_4, .int .i64 o_5, .int .i64 o_6, .int .i64 o_7, .slice o_8.p o_8.n o_8.c]] H168 fun r169 H169 =>
                    ∃ n133 : Int,
                    r169 = .int .i64 n133 ∧
                    K (.bool ((n132 : Int) == n133)) H169)
             (
              ∃ p104 : Option Addr,
              cellH H1 ⟨b, bo + 2, none⟩ = some (.pointer p104) ∧
              (FnH Tryz.prog 13 #[.pointer p104, .agg #[.int .i64 o_3, .int .i64 o_4, .int .i64 o_5, .int .i64 o_6, .int .i64 o_7, .slice o_8.p o_8.n o_8.c]] H1 fun r170 H170 =>
                ∃ n134 : Int,
                r170 = .int .i64 n134 ∧
                (∃ p105 : Option Addr,
                cellH H170 ⟨b, bo + 3, none⟩ = some (.pointer p105) ∧
                FnH Tryz.prog 23 #[.pointer p105, .agg #[.int .i64 o_3, .int .i64 o_4, .int .i64 o_5, .int .i64 o_6, .int .i64 o_7, .slice o_8.p o_8.n o_8.c]] H170 fun r171 H171 =>
                  ∃ n135 : Int,
                  r171 = .int .i64 n135 ∧
                  K (.bool ((n134 : Int) == n135)) H171) ∧
                ∃ p106 : Option Addr,
                cellH H170 ⟨b, bo + 3, none⟩ = some (.pointer p106) ∧
                FnH Tryz.prog 23 #[.pointer p106, .agg #[.int .i64 o_3, .int .i64 o_4, .int .i64 o_5, .int .i64 o_6, .int .i64 o_7, .slice o_8.p o_8.n o_8.c]] H170 fun r172 H172 =>
                  ∃ n136 : Int,
                  r172 = .int .i64 n136 ∧
                  K (.bool ((n134 : Int) == n136)) H172) ∧
              (∃ p107 : Option Addr,
              cellH H1 ⟨b, bo + 3, none⟩ = some (.pointer p107) ∧
              Sub H1 H1 ∧
              (FnH Tryz.prog 13 #[.pointer p104, .agg #[.int .i64 o_3, .int .i64 o_4, .int .i64 o_5, .int .i64 o_6, .int .i64 o_7, .slice o_8.p o_8.n o_8.c]] H1 fun r173 H173 =>
                ∃ n137 : Int,
                r173 = .int .i64 n137 ∧
                FnH Tryz.prog 23 #[.pointer p107, .agg #[.int .i64 o_3, .int .i64 o_4, .int .i64 o_5, .int .i64 o_6, .int .i64 o_7, .slice o_8.p o_8.n o_8.c]] H173 fun r174 H174 =>
                  ∃ n138 : Int,
                  r174 = .int .i64 n138 ∧
                  K (.bool ((n137 : Int) == n138)) H174) ∧
              Sub H1 H1 ∧
              FnH Tryz.prog 13 #[.pointer p104, .agg #[.int .i64 o_3, .int .i64 o_4, .int .i64 o_5, .int .i64 o_6, .int .i64 o_7, .slice o_8.p o_8.n o_8.c]] H1 fun r175 H175 =>
                ∃ n139 : Int,
                r175 = .int .i64 n139 ∧
                FnH Tryz.prog 23 #[.pointer p107, .agg #[.int .i64 o_3, .int .i64 o_4, .int .i64 o_5, .int .i64 o_6, .int .i64 o_7, .slice o_8.p o_8.n o_8.c]] H175 fun r176 H176 =>
                  ∃ n140 : Int,
                  r176 = .int .i64 n140 ∧
                  K (.bool ((n139 : Int) == n140)) H176) ∧
              Sub H1 H1 ∧
              (FnH Tryz.prog 13 #[.pointer p104, .agg #[.int .i64 o_3, .int .i64 o_4, .int .i64 o_5, .int .i64 o_6, .int .i64 o_7, .slice o_8.p o_8.n o_8.c]] H1 fun r177 H177 =>
                ∃ n141 : Int,
                r177 = .int .i64 n141 ∧
                ∃ p108 : Option Addr,
                cellH H177 ⟨b, bo + 3, none⟩ = some (.pointer p108) ∧
                FnH Tryz.prog 23 #[.pointer p108, .agg #[.int .i64 o_3, .int .i64 o_4, .int .i64 o_5, .int .i64 o_6, .int .i64 o_7, .slice o_8.p o_8.n o_8.c]] H177 fun r178 H178 =>
                  ∃ n142 : Int,
                  r178 = .int .i64 n142 ∧
                  K (.bool ((n141 : Int) == n142)) H178) ∧
              ∃ p109 : Option Addr,
              cellH H1 ⟨b, bo + 3, none⟩ = some (.pointer p109) ∧
              Sub H1 H1 ∧
              FnH Tryz.prog 13 #[.pointer p104, .agg #[.int .i64 o_3, .int .i64 o_4, .int .i64 o_5, .int .i64 o_6, .int .i64 o_7, .slice o_8.p o_8.n o_8.c]] H1 fun r179 H179 =>
                ∃ n143 : Int,
                r179 = .int .i64 n143 ∧
                FnH Tryz.prog 23 #[.pointer p109, .agg #[.int .i64 o_3, .int .i64 o_4, .int .i64 o_5, .int .i64 o_6, .int .i64 o_7, .slice o_8.p o_8.n o_8.c]] H179 fun r180 H180 =>
                  ∃ n144 : Int,
                  r180 = .int .i64 n144 ∧
                  K (.bool ((n143 : Int) == n144)) H180))
           (
            br ((n1 : Int) == 4) (
              ∃ p110 : Option Addr,
              cellH H1 ⟨b, bo + 2, none⟩ = some (.pointer p110) ∧
              (FnH Tryz.prog 16 #[.pointer p110] H1 fun r181 H181 =>
                ∃ n145 : Int,
                r181 = .int .i64 n145 ∧
                ∃ p111 : Option Addr,
                cellH H181 ⟨b, bo + 1, none⟩ = some (.pointer p111) ∧
                FnH Tryz.prog 24 #[.pointer p111, .string (⟨#[115]⟩ : ByteArray)] H181 fun r182 H182 =>
                  ∃ n146 : Int,
                  r182 = .int .i64 n146 ∧
                  K (.bool ((n145 : Int) == n146)) H182) ∧
              ∃ p112 : Option Addr,
              cellH H1 ⟨b, bo + 1, none⟩ = some (.pointer p112) ∧
              Sub H1 H1 ∧
              FnH Tryz.prog 16 #[.pointer p110] H1 fun r183 H183 =>
                ∃ n147 : Int,
                r183 = .int .i64 n147 ∧
                FnH Tryz.prog 24 #[.pointer p112, .string (⟨#[115]⟩ : ByteArray)] H183 fun r184 H184 =>
                  ∃ n148 : Int,
                  r184 = .int .i64 n148 ∧
                  K (.bool ((n147 : Int) == n148)) H184)
             (
              br ((n1 : Int) == 5) (
                ∃ p113 : Option Addr,
                cellH H1 ⟨b, bo + 2, none⟩ = some (.pointer p113) ∧
                (FnH Tryz.prog 25 #[.pointer p113, .int .i64 o_1] H1 fun r185 H185 =>
                  ∃ n149 : Int,
                  r185 = .int .i64 n149 ∧
                  (∃ p114 : Option Addr,
                  cellH H185 ⟨b, bo + 3, none⟩ = some (.pointer p114) ∧
                  FnH Tryz.prog 26 #[.pointer p114, .int .i64 o_1] H185 fun r186 H186 =>
                    ∃ n150 : Int,
                    r186 = .int .i64 n150 ∧
                    K (.bool ((n149 : Int) == n150)) H186) ∧
                  ∃ p115 : Option Addr,
                  cellH H185 ⟨b, bo + 3, none⟩ = some (.pointer p115) ∧
                  FnH Tryz.prog 26 #[.pointer p115, .int .i64 o_1] H185 fun r187 H187 =>
                    ∃ n151 : Int,
                    r187 = .int .i64 n151 ∧
                    K (.bool ((n149 : Int) == n151)) H187) ∧
                (∃ p116 : Option Addr,
                cellH H1 ⟨b, bo + 3, none⟩ = some (.pointer p116) ∧
                Sub H1 H1 ∧
                (FnH Tryz.prog 25 #[.pointer p113, .int .i64 o_1] H1 fun r188 H188 =>
                  ∃ n152 : Int,
                  r188 = .int .i64 n152 ∧
                  FnH Tryz.prog 26 #[.pointer p116, .int .i64 o_1] H188 fun r189 H189 =>
                    ∃ n153 : Int,
                    r189 = .int .i64 n153 ∧
                    K (.bool ((n152 : Int) == n153)) H189) ∧
                Sub H1 H1 ∧
                FnH Tryz.prog 25 #[.pointer p113, .int .i64 o_1] H1 fun r190 H190 =>
                  ∃ n154 : Int,
                  r190 = .int .i64 n154 ∧
                  FnH Tryz.prog 26 #[.pointer p116, .int .i64 o_1] H190 fun r191 H191 =>
                    ∃ n155 : Int,
                    r191 = .int .i64 n155 ∧
                    K (.bool ((n154 : Int) == n155)) H191) ∧
                Sub H1 H1 ∧
                (FnH Tryz.prog 25 #[.pointer p113, .int .i64 o_1] H1 fun r192 H192 =>
                  ∃ n156 : Int,
                  r192 = .int .i64 n156 ∧
                  ∃ p117 : Option Addr,
                  cellH H192 ⟨b, bo + 3, none⟩ = some (.pointer p117) ∧
                  FnH Tryz.prog 26 #[.pointer p117, .int .i64 o_1] H192 fun r193 H193 =>
                    ∃ n157 : Int,
                    r193 = .int .i64 n157 ∧
                    K (.bool ((n156 : Int) == n157)) H193) ∧
                ∃ p118 : Option Addr,
                cellH H1 ⟨b, bo + 3, none⟩ = some (.pointer p118) ∧
                Sub H1 H1 ∧
                FnH Tryz.prog 25 #[.pointer p113, .int .i64 o_1] H1 fun r194 H194 =>
                  ∃ n158 : Int,
                  r194 = .int .i64 n158 ∧
                  FnH Tryz.prog 26 #[.pointer p118, .int .i64 o_1] H194 fun r195 H195 =>
                    ∃ n159 : Int,
                    r195 = .int .i64 n159 ∧
                    K (.bool ((n158 : Int) == n159)) H195)
               (
                br ((n1 : Int) == 6) (
                  br ((n1 : Int) == 6) (
                    ∃ p119 : Option Addr,
                    cellH H1 ⟨b, bo + 2, none⟩ = some (.pointer p119) ∧
                    ∃ p120 : Option Addr,
                    cellH H1 ⟨b, bo + 3, none⟩ = some (.pointer p120) ∧
                    FnH Tryz.prog 19 #[.pointer p119, .int .i64 o_1, .int .i64 o_2] H1 fun r196 H196 =>
                      ∃ l13 : Sl,
                      r196 = .slice l13.p l13.n l13.c ∧
                      Sub H1 H196 ∧
                      FnH Tryz.prog 28 #[.pointer p120, .int .i64 o_1, .int .i64 o_2] H196 fun r197 H197 =>
                        ∃ l14 : Sl,
                        r197 = .slice l14.p l14.n l14.c ∧
                        Sub H1 H197 ∧
                        FnH Tryz.prog 27 #[.slice l13.p l13.n l13.c, .slice l14.p l14.n l14.c] H197 fun r198 H198 =>
                          ∃ b19 : Bool,
                          r198 = .bool b19 ∧
                          Sub H1 H198 ∧
                          K (.bool b19) H198)
                   (
                    br ((n1 : Int) == 8) (
                      ∃ p121 : Option Addr,
                      cellH H1 ⟨b, bo, none⟩ = some (.pointer p121) ∧
                      FnH Tryz.prog 18 #[.pointer p121, .slice o_10.p o_10.n o_10.c] H1 fun r199 H199 =>
                        r199 = .tuple #[] ∧
                        ∃ p122 : Option Addr,
                        cellH H199 ⟨b, bo + 1, none⟩ = some (.pointer p122) ∧
                        FnH Tryz.prog 29 #[.pointer p122, .slice o_10.p o_10.n o_10.c] H199 fun r200 H200 =>
                          r200 = .tuple #[] ∧
                          ∃ p123 : Option Addr,
                          cellH H200 ⟨b, bo + 3, none⟩ = some (.pointer p123) ∧
                          ptrm p123 fun q7 o7 =>
                          ∃ n160 : Int,
                          cellH H200 ⟨q7, o7 + 2, none⟩ = some (.int .i64 n160) ∧
                          FnH Tryz.prog 8 #[.pointer (some ⟨b, bo, none⟩), .int .i64 n160] H200 fun r201 H201 =>
                            ∃ b20 : Bool,
                            r201 = .bool b20 ∧
                            K (.bool b20) H201)
                     (
                      FnH Tryz.prog 8 #[.pointer (some ⟨b, bo, none⟩), .int .i64 o_1] H1 fun r202 H202 =>
                        ∃ b21 : Bool,
                        r202 = .bool b21 ∧
                        K (.bool b21) H202)))
                 (
                  br ((n1 : Int) == 7) (
                    ∃ p124 : Option Addr,
                    cellH H1 ⟨b, bo + 2, none⟩ = some (.pointer p124) ∧
                    ∃ p125 : Option Addr,
                    cellH H1 ⟨b, bo + 3, none⟩ = some (.pointer p125) ∧
                    FnH Tryz.prog 19 #[.pointer p124, .int .i64 o_1, .int .i64 o_2] H1 fun r203 H203 =>
                      ∃ l15 : Sl,
                      r203 = .slice l15.p l15.n l15.c ∧
                      Sub H1 H203 ∧
                      FnH Tryz.prog 28 #[.pointer p125, .int .i64 o_1, .int .i64 o_2] H203 fun r204 H204 =>
                        ∃ l16 : Sl,
                        r204 = .slice l16.p l16.n l16.c ∧
                        Sub H1 H204 ∧
                        FnH Tryz.prog 27 #[.slice l15.p l15.n l15.c, .slice l16.p l16.n l16.c] H204 fun r205 H205 =>
                          ∃ b22 : Bool,
                          r205 = .bool b22 ∧
                          Sub H1 H205 ∧
                          K (.bool b22) H205)
                   (
                    br ((n1 : Int) == 8) (
                      ∃ p126 : Option Addr,
                      cellH H1 ⟨b, bo, none⟩ = some (.pointer p126) ∧
                      FnH Tryz.prog 18 #[.pointer p126, .slice o_10.p o_10.n o_10.c] H1 fun r206 H206 =>
                        r206 = .tuple #[] ∧
                        ∃ p127 : Option Addr,
                        cellH H206 ⟨b, bo + 1, none⟩ = some (.pointer p127) ∧
                        FnH Tryz.prog 29 #[.pointer p127, .slice o_10.p o_10.n o_10.c] H206 fun r207 H207 =>
                          r207 = .tuple #[] ∧
                          ∃ p128 : Option Addr,
                          cellH H207 ⟨b, bo + 3, none⟩ = some (.pointer p128) ∧
                          ptrm p128 fun q8 o8 =>
                          ∃ n161 : Int,
                          cellH H207 ⟨q8, o8 + 2, none⟩ = some (.int .i64 n161) ∧
                          FnH Tryz.prog 8 #[.pointer (some ⟨b, bo, none⟩), .int .i64 n161] H207 fun r208 H208 =>
                            ∃ b23 : Bool,
                            r208 = .bool b23 ∧
                            K (.bool b23) H208)
                     (
                      FnH Tryz.prog 8 #[.pointer (some ⟨b, bo, none⟩), .int .i64 o_1] H1 fun r209 H209 =>
                        ∃ b24 : Bool,
                        r209 = .bool b24 ∧
                        K (.bool b24) H209)))))))))
theorem logboomlaw5_Both_does_eq (b : Nat) (bo : Nat) (o_0 : Int) (o_1 : Int) (o_2 : Int) (o_3 : Int) (o_4 : Int) (o_5 : Int) (o_6 : Int) (o_7 : Int) (o_8 : Sl) (o_9 : Bool) (o_10 : Sl) (H : Heap) (K : Value → Heap → Prop) : logboomlaw5_Both_does_vc b bo o_0 o_1 o_2 o_3 o_4 o_5 o_6 o_7 o_8 o_9 o_10 H K = denFn Tryz.prog logboomlaw5_Both_does_ann Tryz.f9 (bodyOf Tryz.f9) [.pointer (some ⟨b, bo, none⟩), .agg #[.int .i64 o_0, .int .i64 o_1, .int .i64 o_2, .int .i64 o_3, .int .i64 o_4, .int .i64 o_5, .int .i64 o_6, .int .i64 o_7, .slice o_8.p o_8.n o_8.c, .bool o_9, .slice o_10.p o_10.n o_10.c]] H K := by kernel_rfl
theorem logboomlaw5_Both_does_fn (b : Nat) (bo : Nat) (o_0 : Int) (o_1 : Int) (o_2 : Int) (o_3 : Int) (o_4 : Int) (o_5 : Int) (o_6 : Int) (o_7 : Int) (o_8 : Sl) (o_9 : Bool) (o_10 : Sl) {H : Heap} {K : Value → Heap → Prop} (h : logboomlaw5_Both_does_vc b bo o_0 o_1 o_2 o_3 o_4 o_5 o_6 o_7 o_8 o_9 o_10 H K) : FnH Tryz.prog 9 #[.pointer (some ⟨b, bo, none⟩), .agg #[.int .i64 o_0, .int .i64 o_1, .int .i64 o_2, .int .i64 o_3, .int .i64 o_4, .int .i64 o_5, .int .i64 o_6, .int .i64 o_7, .slice o_8.p o_8.n o_8.c, .bool o_9, .slice o_10.p o_10.n o_10.c]] H K :=
  denFn_fn Tryz.mixed logboomlaw5_Both_does_ann Tryz.func9 (bodyOf_spec (by kernel_rfl)) (logboomlaw5_Both_does_eq b bo o_0 o_1 o_2 o_3 o_4 o_5 o_6 o_7 o_8 o_9 o_10 H K) h

end Go.Proofs.YtokceblmbmajgaaGreatDoor

/- Formulas of functions, printed by this session's vc.py; each is tied to the program by the kernel. -/
namespace Go.Proofs.YtokceblmbmajgaaGreatDoor
open Go.HL
set_option maxRecDepth 100000
/-! function 3: logboom/logboomlaw5.SegmentPlays -/
def logboomlaw5_SegmentPlays_ann : Anns := { hid := [38], loops := [(0, { slots := [(12, .int .i64)], kept := [2, 10], locs := [(0, [.ptr, .ptr, .ptr, .ptr])], keptL := [] })], joins := [], mix := [] }
def logboomlaw5_SegmentPlays_vc (size : Int) (base : Int) (script : Sl) (H : Heap) (K : Value → Heap → Prop) : Prop :=
  FnH Tryz.prog 4 #[] H fun r1 H1 =>
    ∃ b1 : Bool,
    r1 = .bool b1 ∧
    FnH Tryz.prog 5 #[.int .i64 size, .int .i64 20000] H1 fun r2 H2 =>
      ∃ n1 : Int,
      r2 = .int .i64 n1 ∧
      FnH Tryz.prog 6 #[.int .i64 (IntKind.wrap .i64 (1 + n1))] H2 fun r3 H3 =>
        ∃ p1 : Option Addr,
        ∃ n2 : Int,
        r3 = .tuple #[.pointer p1, .int .i64 n2] ∧
        br (!b1) (
          K (.bool false) H3)
         (
          br (Option.isNone p1) (
            K (.bool false) H3)
           (
            br ((n2 : Int) != 0) (
              K (.bool false) H3)
             (
              FnH Tryz.prog 7 #[.int .i64 (IntKind.wrap .i64 (1 + n1))] H3 fun r4 H4 =>
                ∃ p2 : Option Addr,
                r4 = .pointer p2 ∧
                ∀ q1 : Nat,
                H4 q1 = none →
                FnH Tryz.prog 8 #[.pointer (some ⟨q1, 0, none⟩), .int .i64 base] (Heap.upd H4 q1 (.cells #[.pointer p1, .pointer p2, .pointer none, .pointer none] 35 (0, 0))) fun r5 H5 =>
                  ∃ b2 : Bool,
                  r5 = .bool b2 ∧
                  ∃ p3 : Option Addr,
                  ∃ p4 : Option Addr,
                  ∃ p5 : Option Addr,
                  ∃ p6 : Option Addr,
                  H5 q1 = some (.cells #[.pointer p3, .pointer p4, .pointer p5, .pointer p6] 35 (0, 0)) ∧
                  letH (Heap.del H5 q1) fun H6 =>
                  br (!b2) (
                    K (.bool b2) H6)
                   (
                    br (Option.isNone p5) (
                      K (.bool b2) H6)
                     (
                      ∃ I1 : Int → Option Addr → Option Addr → Option Addr → Option Addr → Heap → Prop,
                      ∃ M1 : Int → Option Addr → Option Addr → Option Addr → Option Addr → Heap → Nat,
                      I1 0 p3 p4 p5 p6 H6 ∧
                      ∀ i_1 : Int,
                      ∀ p7 : Option Addr,
                      ∀ p8 : Option Addr,
                      ∀ p9 : Option Addr,
                      ∀ p10 : Option Addr,
                      ∀ H7 : Heap,
                      I1 i_1 p7 p8 p9 p10 H7 →
                      br (decide ((i_1 : Int) < (script.n : Nat))) (
                        br (decide ((i_1 : Int) < 100)) (
                          ∃ q2 : Nat,
                          ∃ o1 : Nat,
                          (script.p : Option Addr) = some ⟨q2, o1, none⟩ ∧
                          0 ≤ (i_1 : Int) ∧
                          (i_1 : Int) < (script.n : Nat) ∧
                          ∃ n3 : Int,
                          cellH H7 ⟨q2, o1 + Int.toNat i_1 * 11, none⟩ = some (.int .i64 n3) ∧
                          ∃ n4 : Int,
                          cellH H7 ⟨q2, o1 + Int.toNat i_1 * 11 + 1, none⟩ = some (.int .i64 n4) ∧
                          ∃ n5 : Int,
                          cellH H7 ⟨q2, o1 + Int.toNat i_1 * 11 + 2, none⟩ = some (.int .i64 n5) ∧
                          ∃ n6 : Int,
                          cellH H7 ⟨q2, o1 + Int.toNat i_1 * 11 + 3, none⟩ = some (.int .i64 n6) ∧
                          ∃ n7 : Int,
                          cellH H7 ⟨q2, o1 + Int.toNat i_1 * 11 + 4, none⟩ = some (.int .i64 n7) ∧
                          ∃ n8 : Int,
                          cellH H7 ⟨q2, o1 + Int.toNat i_1 * 11 + 5, none⟩ = some (.int .i64 n8) ∧
                          ∃ n9 : Int,
                          cellH H7 ⟨q2, o1 + Int.toNat i_1 * 11 + 6, none⟩ = some (.int .i64 n9) ∧
                          ∃ n10 : Int,
                          cellH H7 ⟨q2, o1 + Int.toNat i_1 * 11 + 7, none⟩ = some (.int .i64 n10) ∧
                          ∃ l1 : Sl,
                          cellH H7 ⟨q2, o1 + Int.toNat i_1 * 11 + 8, none⟩ = some (.slice l1.p l1.n l1.c) ∧
                          ∃ b3 : Bool,
                          cellH H7 ⟨q2, o1 + Int.toNat i_1 * 11 + 9, none⟩ = some (.bool b3) ∧
                          ∃ l2 : Sl,
                          cellH H7 ⟨q2, o1 + Int.toNat i_1 * 11 + 10, none⟩ = some (.slice l2.p l2.n l2.c) ∧
                          ∀ q3 : Nat,
                          H7 q3 = none →
                          FnH Tryz.prog 9 #[.pointer (some ⟨q3, 0, none⟩), .agg #[.int .i64 n3, .int .i64 n4, .int .i64 n5, .int .i64 n6, .int .i64 n7, .int .i64 n8, .int .i64 n9, .int .i64 n10, .slice l1.p l1.n l1.c, .bool b3, .slice l2.p l2.n l2.c]] (Heap.upd H7 q3 (.cells #[.pointer p7, .pointer p8, .pointer p9, .pointer p10] 35 (0, 0))) fun r6 H8 =>
                            ∃ b4 : Bool,
                            r6 = .bool b4 ∧
                            ∃ p11 : Option Addr,
                            ∃ p12 : Option Addr,
                            ∃ p13 : Option Addr,
                            ∃ p14 : Option Addr,
                            H8 q3 = some (.cells #[.pointer p11, .pointer p12, .pointer p13, .pointer p14] 35 (0, 0)) ∧
                            letH (Heap.del H8 q3) fun H9 =>
                            ∀ q4 : Nat,
                            H9 q4 = none →
                            FnH Tryz.prog 10 #[.pointer (some ⟨q4, 0, none⟩)] (Heap.upd H9 q4 (.cells #[.pointer p11, .pointer p12, .pointer p13, .pointer p14] 35 (0, 0))) fun r7 H10 =>
                              ∃ b5 : Bool,
                              r7 = .bool b5 ∧
                              ∃ p15 : Option Addr,
                              ∃ p16 : Option Addr,
                              ∃ p17 : Option Addr,
                              ∃ p18 : Option Addr,
                              H10 q4 = some (.cells #[.pointer p15, .pointer p16, .pointer p17, .pointer p18] 35 (0, 0)) ∧
                              letH (Heap.del H10 q4) fun H11 =>
                              br (!b4) (
                                K (.bool false) H11)
                               (
                                br (!b5) (
                                  K (.bool false) H11)
                                 (
                                  SelfEq ([.v (.slice script.p script.n script.c), .loc 0 0], [], [35]) ∧
                                  I1 (IntKind.wrap .i64 (i_1 + 1)) p15 p16 p17 p18 H11 ∧
                                  M1 (IntKind.wrap .i64 (i_1 + 1)) p15 p16 p17 p18 H11 < M1 i_1 p7 p8 p9 p10 H7)))
                         (
                          K (.bool true) H7))
                       (
                        K (.bool true) H7))))))
theorem logboomlaw5_SegmentPlays_eq (size : Int) (base : Int) (script : Sl) (H : Heap) (K : Value → Heap → Prop) : logboomlaw5_SegmentPlays_vc size base script H K = denFn Tryz.prog logboomlaw5_SegmentPlays_ann Tryz.f3 (bodyOf Tryz.f3) [.int .i64 size, .int .i64 base, .slice script.p script.n script.c] H K := by kernel_rfl
theorem logboomlaw5_SegmentPlays_fn (size : Int) (base : Int) (script : Sl) {H : Heap} {K : Value → Heap → Prop} (h : logboomlaw5_SegmentPlays_vc size base script H K) : FnH Tryz.prog 3 #[.int .i64 size, .int .i64 base, .slice script.p script.n script.c] H K :=
  denFn_fn Tryz.mixed logboomlaw5_SegmentPlays_ann Tryz.func3 (bodyOf_spec (by kernel_rfl)) (logboomlaw5_SegmentPlays_eq size base script H K) h

end Go.Proofs.YtokceblmbmajgaaGreatDoor
