import Derived.Test.YtmofinghoacobaaGreatDoorRM
import Derived.Test.YtmofinghoacobaaGreatDoorVf
namespace Go.Proofs.YtmofinghoacobaaGreatDoor
open Go Go.HL
set_option maxHeartbeats 6400000
set_option maxRecDepth 100000
theorem body_len {I : Im} (hok : ImOk I) : (bodyB I).length ≤ 20000 := by
  have hbl := brk_len hok
  have htl := hok.tops
  have hpl := hok.parts
  have hdl := hok.prds
  have h1 := flat_le (f := brkB) (k := 30) (l := I.brk) fun a _ => brkB_len a
  have h2 := flat_le (f := topB) (k := 62) (l := I.top) fun a h => topB_len (named_size (hok.topv a h).1)
  have h3 := flat_le (f := prtB) (k := 360) (l := I.prt) fun a h => prtB_len (hok.right a h)
  have h4 := lstB_len I.prd
  have h5 : (encL [I.app, (I.brk.length : Int)]).length ≤ 20 := encL_len _
  have h6 : (encL [(I.top.length : Int)]).length ≤ 10 := encL_len _
  have h7 : (encL [(I.prt.length : Int)]).length ≤ 10 := encL_len _
  unfold bodyB
  simp only [List.length_append]
  omega
theorem keep_len {I : Im} (hok : ImOk I) : 4 ≤ (keepB I).length ∧ (keepB I).length ≤ 20004 := by
  have := body_len hok
  unfold keepB
  rw [List.length_append]
  have h4 : (fourN (crcN (bodyB I))).length = 4 := rfl
  omega
section
variable {H : Heap} {K : Value → Heap → Prop}
theorem rlo_new (H1 : Heap) : HL.Holds [rlo H1 newI 0 ⟨none, 0, 0⟩ ⟨none, 0, 0⟩ ⟨none, 0, 0⟩ ⟨none, 0, 0⟩, ro H1] H1 :=
  Holds.ex.2 ⟨[], Holds.pure.2 ⟨⟨rfl, PsIn.nil (HL.Sub.refl _)⟩, Holds.flat.2 (((((Holds.whole H1).own_nil 3 1).own_nil 41 9).own_nil 99 3).own_nil 97 3)⟩⟩
theorem metaLoads_walk {s : ByteArray} {s1 s2 s3 : Sl} {l1 : List Mr} {la lt : List Int} (hl : Script H s1 l1) (ha : Ints H s2 la) (ht : Ints H s3 lt) (wa : ∀ x ∈ la, i64B x) (wt : ∀ x ∈ lt, i64B x) (k : ∀ H', HL.Sub H H' → K (.bool true) H') :
    FnH Tryz.prog 7 #[.string s, .slice s1.p s1.n s1.c, .slice s2.p s2.n s2.c, .slice s3.p s3.n s3.c] H K := by
  apply logboomlaw12_MetaLoads_fn
  unfold logboomlaw12_MetaLoads_vc
  refine shown12 fun H1 t1 => ⟨_, rfl, br_intro (fun _ => k H1 t1) (fun w0 => ?_)⟩
  have w0 := of_decide_eq_false w0
  refine ⟨fun i n a1 a2 a3 a4 H' => ∃ (I : Im) (A : Heap), ImR I ∧ (0 ≤ i ∧ i ≤ 40) ∧ (0 ≤ I.app ∧ I.app ≤ i) ∧ HL.Sub H1 A ∧ HL.Holds [rlo A I n a1 a2 a3 a4, ro A] H', fun i _ _ _ _ _ _ => (40 - i).toNat, ⟨newI, H1, newI_r, by omega, by show (0 : Int) ≤ 0 ∧ (0 : Int) ≤ 0; omega, HL.Sub.refl _, rlo_new H1⟩, ?_⟩
  rintro i n a1 a2 a3 a4 H2 ⟨I, A, hI, ⟨i0, i1⟩, ⟨p0, p1⟩, sA, h1⟩
  have hok := hI.ok
  refine br_intro (fun w => br_intro (fun w2 => ?_) (fun _ => ?_)) (fun _ => ?_)
  · have w := of_decide_eq_true w
    have w2 := of_decide_eq_true w2
    have q2 : HL.Sub A H2 := h1.sub 1 rfl
    have t2 : HL.Sub H A := t1.trans sA
    obtain ⟨q, o, r, e1, e2, e3, e4, e5, e6⟩ := hl.at_ i0 w
    have f := fun f x hx => (t2.trans q2).cell (e6 f x hx)
    have hrl := e3.list.len
    rw [wrap64_id (n := i + 1) (by omega) (by omega)]
    refine ⟨fun b H' => H' = H2 ∧ (b = true → r.2.n < 50), ⟨q, o, e1, e4, e5, r.2, f 7 _ rfl, br_intro (fun y => ⟨q, o, e1, e4, e5, _, f 5 _ rfl, rfl, rfl, fun _ => by have := of_decide_eq_true y; omega⟩) (fun _ => ⟨rfl, rfl, fun z => by cases z⟩)⟩, ?_⟩
    rintro b H3 ⟨rfl, hb⟩
    refine br_intro (fun y => ?_) (fun _ => ⟨rfl, ⟨I, A, hI, by omega, by omega, sA, h1⟩, by dsimp only; omega⟩)
    have hb := hb y
    refine ⟨q, o, e1, e4, e5, _, f 0 _ rfl, _, f 1 _ rfl, _, f 2 _ rfl, _, f 3 _ rfl, _, f 4 _ rfl, _, f 5 _ rfl, _, f 6 _ rfl, r.2, f 7 _ rfl, fun q4 hq4 => ?_⟩
    have h2 := rlend h1 hq4
    refine fits_spec (i := 0) (rimg_pack h2) rfl hok fun b c d => ⟨_, _, _, _, _, _, _, _, rfl, rgive h2 fun n' a1' a2' a3' a4' H5 h5 => fun q5 hq5 => ?_⟩
    refine rapply_spec (r := ⟨r.1.kind, r.1.a, b, c, d, r.1.name, r.1.text, r.1.list⟩) (s := r.2) (rimg_pack (rlend h5 hq5)) hok (e3.list.sub t2) (by show r.1.list.length ≤ _; omega) (by omega) fun H6 h6 => ⟨_, _, rfl, ?_⟩
    obtain ⟨A2, sA2, h7⟩ := rimg_apart h6
    refine rgive h7 fun n2 c1 c2 c3 c4 H7 h8 => ⟨rfl, ⟨_, A2, (apply_r hI ⟨r.1.kind, r.1.a, b, c, d, r.1.name, r.1.text, r.1.list⟩).1, by omega, ?_, sA.trans sA2, h8⟩, by dsimp only; omega⟩
    rw [apply_app]
    omega
  all_goals
    refine fun q6 hq6 => rkeep_spec (i := 0) (rimg_pack (rlend h1 hq6)) rfl hok (by omega) fun H8 s8 => ⟨_, rfl, ?_⟩
    obtain ⟨A2, sA2, h2⟩ := rimg_apart ((rimg_pack (rlend h1 hq6)).up s8)
    refine rgive h2 fun n' a1' a2' a3' a4' H9 h9 => fbNew h9 fun rb H10 h10 => ⟨rb, rfl, ?_⟩
    have hk := keep_len hok
    have hkl : (nb (strN (keepB I))).length = (keepB I).length := by rw [nb_len, strN_size]
    have hrb : rb.n = (keepB I).length := by
      obtain ⟨x, hx⟩ := Holds.ex.1 h10
      have := (Holds.pure.1 hx).1.1.1
      rw [this, hkl]
    have t3 : HL.Sub H A2 := t1.trans (sA.trans sA2)
    refine ⟨fun j H' => ∃ l : List Nat, l.length = (keepB I).length ∧ (∀ b ∈ l, b < 256) ∧ (0 ≤ j ∧ j ≤ 3) ∧ HL.Holds [fby rb l, ro A2] H', fun j _ => (3 - j).toNat, ⟨nb (strN (keepB I)), hkl, nb_byte _, by omega, (h10.pull 1 rfl).tail⟩, ?_⟩
    clear h10 h9 h2
    rintro j H11 ⟨l, hll, hlb, ⟨j0, j1⟩, h3⟩
    have fin : FnH Tryz.prog 26 #[.string s] H11 fun r8 H15 => ∃ b2 : Bool, r8 = .bool b2 ∧ 0 ≤ (4 : Int) ∧ (4 : Int) ≤ (rb.n : Nat) ∧ runH Tryz.prog (convert 58 9 (.slice (slP rb.p rb.c 4 1) (Int.toNat ((rb.n : Nat) - 4)) (Int.toNat ((rb.c : Nat) - 4)))) H15 fun r9 H16 => ∃ s7 : ByteArray, r9 = .string s7 ∧
        FnH Tryz.prog 27 #[.string s7] H16 fun r10 H17 => ∃ s8 : ByteArray, r10 = .string s8 ∧ FnH Tryz.prog 26 #[.string s8] H17 fun r11 H18 => ∃ b3 : Bool, r11 = .bool b3 ∧ br (true) (br (b2) (K (.bool b3) H18) (K (.bool false) H18)) (K (.bool false) H18) := by
      refine loads_spec h3.swap (by omega) fun H15 h15 => ⟨_, rfl, by decide, by omega, fbStr h15.swap hlb (by omega) ⟨_, rfl, summed27 (by rw [strN_size, List.length_drop]; omega) fun H17 s17 => ⟨_, rfl, ?_⟩⟩⟩
      refine loads_spec (h15.up s17) ?_ fun H18 h18 => ⟨_, rfl, br_t rfl (br_t rfl (k H18 (t3.trans (h18.sub 0 rfl))))⟩
      have hy : ∀ b ∈ l.drop 4, b < 256 := fun b hb => hlb b (List.mem_of_mem_drop hb)
      rw [nb_str hy, strN_app (fourN_bytes _) hy, strN_size, List.length_append, List.length_drop]
      have h4 : (fourN (crcN (l.drop 4))).length = 4 := rfl
      omega
    refine br_intro (fun v1 => br_intro (fun v2 => br_intro (fun v3 => br_intro (fun v4 => ?_) (fun _ => fin)) (fun _ => fin)) (fun _ => fin)) (fun _ => fin)
    have v1 := of_decide_eq_true v1
    have v2 := of_decide_eq_true v2
    have v3 := of_decide_eq_true v3
    have v4 := of_decide_eq_true v4
    clear fin
    have t4 : HL.Sub H H11 := t3.trans (h3.sub 1 rfl)
    obtain ⟨q1, o1, c1, c2, c3, c4⟩ := (ha.sub t4).at_ j0 v1
    obtain ⟨q2, o2, d1, d2, d3, d4⟩ := (ht.sub t4).at_ j0 v2
    have han := ha.len
    have htn := ht.len
    have hwa := wa _ (getD_mem (l := la) j0 (by omega))
    have hwt := wt _ (getD_mem (l := lt) j0 (by omega))
    rw [wrap64_id (n := ((rb.n : Nat) : Int) - 4) (by omega) (by omega), wrap64_id (n := j + 1) (by omega) (by omega)]
    obtain ⟨x1, x2⟩ := pickI_in (c := la.getD j.toNat 0) (n := ((rb.n : Nat) : Int) - 4) (by omega) hwa.1 hwa.2
    obtain ⟨y1, y2⟩ := pickI_in (c := lt.getD j.toNat 0) (n := 256) (by decide) hwt.1 hwt.2
    refine ⟨q1, o1, c1, c2, c3, _, c4, q2, o2, d1, d2, d3, _, d4, pick12_spec (by omega) ⟨_, rfl, HL.Sub.refl _, pick12_spec (by decide) ⟨_, rfl, HL.Sub.refl _, ?_⟩⟩⟩
    rw [wrap64_id (n := 4 + HL.pickI (la.getD j.toNat 0) (((rb.n : Nat) : Int) - 4)) (by omega) (by omega)]
    have ev : IntKind.wrap .u8 (HL.pickI (lt.getD j.toNat 0) 256) = (((HL.pickI (lt.getD j.toNat 0) 256).toNat : Nat) : Int) := by
      rw [wrap_u8]; omega
    rw [ev]
    refine fbSet h3 (by omega) (by omega) fun H14 h14 => ⟨rfl, ⟨_, by rw [List.length_set]; exact hll, fun b hb => ?_, by omega, h14⟩, by dsimp only; omega⟩
    rcases List.mem_or_eq_of_mem_set hb with q | q
    · exact hlb b q
    · rw [q]; omega
end
end Go.Proofs.YtmofinghoacobaaGreatDoor
