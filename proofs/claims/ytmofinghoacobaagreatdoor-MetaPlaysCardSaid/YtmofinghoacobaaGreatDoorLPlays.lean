import Derived.Test.YtmofinghoacobaaGreatDoorRM
import Derived.Test.YtmofinghoacobaaGreatDoorVg
namespace Go.Proofs.YtmofinghoacobaaGreatDoor
open Go Go.HL
set_option maxHeartbeats 6400000
set_option maxRecDepth 100000
theorem bodyP_bytes (I : Im) : ∀ b ∈ bodyB I, b < 256 :=
  bytes_app (bytes_app (bytes_app (bytes_app (bytes_app (bytes_app (encL_bytes _) (flat_bytes fun a _ => brkB_bytes a)) (encL_bytes _)) (flat_bytes fun a _ => topB_bytes a)) (encL_bytes _)) (flat_bytes fun a _ => prtB_bytes a)) (lstB_bytes _)
theorem keepP_bytes (I : Im) : ∀ b ∈ keepB I, b < 256 := bytes_app (fourN_bytes _) (bodyP_bytes I)
theorem keepP_size {I : Im} (hok : ImOk I) : (strN (keepB I)).size ≤ 20004 := by
  have hbl := brk_len hok
  have htl := hok.tops
  have hpl := hok.parts
  have hdl := hok.prds
  have h1 := flat_le (f := brkB) (k := 30) (l := I.brk) fun a _ => brkB_len a
  have h2 := flat_le (f := topB) (k := 62) (l := I.top) fun a h => topB_len (named_size (hok.topv a h).1)
  have h3 := flat_le (f := prtB) (k := 360) (l := I.prt) fun a h => prtB_len (hok.right a h)
  have h4 := lstB_len I.prd
  have h5 : (encL [I.app, (I.brk.length : Int)]).length ≤ 20 := encL_len _
  have h6 : (encL [(I.top.length : Int)]).length ≤ 10 := encL_len _
  have h7 : (encL [(I.prt.length : Int)]).length ≤ 10 := encL_len _
  have h8 : (fourN (crcN (bodyB I))).length = 4 := rfl
  rw [strN_size]
  unfold keepB
  rw [List.length_append]
  unfold bodyB at h8 ⊢
  simp only [List.length_append]
  omega
theorem rlo_sub {A A' : Heap} {I : Im} {n : Int} {l1 l2 l3 l4 : Sl} (s : HL.Sub A A') : ∀ H, rlo A I n l1 l2 l3 l4 H → rlo A' I n l1 l2 l3 l4 H := fun _ ⟨vs, ⟨e, hP⟩, h⟩ => ⟨vs, ⟨e, hP.1, (hP.sub s).2.1, HL.Sub.refl _⟩, h⟩
section
variable {cs : List Chunk} {H : Heap} {K : Value → Heap → Prop}
theorem rlo_zero (A : Heap) (h : HL.Holds cs H) : HL.Holds (rlo A newI 0 ⟨none, 0, 0⟩ ⟨none, 0, 0⟩ ⟨none, 0, 0⟩ ⟨none, 0, 0⟩ :: cs) H :=
  Holds.ex.2 ⟨[], Holds.pure.2 ⟨⟨rfl, PsIn.nil (HL.Sub.refl _)⟩, Holds.flat.2 ((((h.own_nil 3 1).own_nil 41 9).own_nil 99 3).own_nil 97 3)⟩⟩
theorem metaPlays_walk {s1 s2 : Sl} {l1 : List Mr} {lf : List Int} {keep : Int} (hl : Script H s1 l1) (hf : Ints H s2 lf) (wk : i64B keep) (k : ∀ H', HL.Sub H H' → K (.bool true) H') :
    FnH Tryz.prog 8 #[.slice s1.p s1.n s1.c, .slice s2.p s2.n s2.c, .int .i64 keep] H K := by
  apply logboomlaw12_MetaPlays_fn
  unfold logboomlaw12_MetaPlays_vc
  refine shown12 fun H1 t1 => ⟨_, rfl, new12_spec (Holds.whole H1) fun m H2 h2 => ⟨_, rfl, br_f rfl (br_f rfl ?_)⟩⟩
  obtain ⟨A, sA, h3⟩ := img_unpack h2
  refine ⟨fun p i n a1 a2 a3 a4 H' => ∃ (m : Nat) (I : Im) (A : Heap), p = some ⟨m, 0, none⟩ ∧ ImR I ∧ (0 ≤ i ∧ i ≤ 120) ∧ (0 ≤ I.app ∧ I.app ≤ i) ∧ HL.Sub H1 A ∧ HL.Holds [rlo A I n a1 a2 a3 a4, ro A, imgp A m I] H', fun _ i _ _ _ _ _ _ => (120 - i).toNat,
    ⟨m, newI, A, rfl, newI_r, by omega, by show (0 : Int) ≤ 0 ∧ (0 : Int) ≤ 0; omega, sA, rlo_zero A h3.swap⟩, ?_⟩
  clear h2 h3 sA A m
  rintro p i n a1 a2 a3 a4 H3 ⟨m, I, A, rfl, hI, ⟨i0, i1⟩, ⟨p0, p1⟩, sA, h1⟩
  have hok := hI.ok
  have tA : HL.Sub H A := t1.trans sA
  have done : K (.bool true) H3 := k H3 (tA.trans (h1.sub 1 rfl))
  refine br_intro (fun w => br_intro (fun w2 => ?_) (fun _ => done)) (fun _ => done)
  clear done
  have w := of_decide_eq_true w
  have w2 := of_decide_eq_true w2
  have q3 : HL.Sub H H3 := tA.trans (h1.sub 1 rfl)
  obtain ⟨q, o, r, e1, e2, e3, e4, e5, e6⟩ := hl.at_ i0 w
  have f := fun f x hx => q3.cell (e6 f x hx)
  have hrl := e3.list.len
  rw [wrap64_id (n := i + 1) (by omega) (by omega)]
  refine ⟨q, o, e1, e4, e5, _, f 0 _ rfl, _, f 1 _ rfl, _, f 2 _ rfl, _, f 3 _ rfl, _, f 4 _ rfl, _, f 5 _ rfl, _, f 6 _ rfl, r.2, f 7 _ rfl, ?_⟩
  refine br_intro (fun _ => ⟨rfl, ⟨m, I, A, rfl, hI, by omega, by omega, sA, h1⟩, by dsimp only; omega⟩) (fun y1 => ?_)
  refine br_intro (fun _ => ⟨rfl, ⟨m, I, A, rfl, hI, by omega, by omega, sA, h1⟩, by dsimp only; omega⟩) (fun y2 => ?_)
  have y1 := of_decide_eq_false y1
  have same : ∃ b c d : Int, r.1.b = b ∧ r.1.c = c ∧ r.1.d = d := ⟨_, _, _, rfl, rfl, rfl⟩
  refine ⟨fun n' c1 c2 c3 c4 x0 x1 x2 x3 x4 x5 x6 x7 H' => x0 = r.1.kind ∧ x1 = r.1.a ∧ x5 = r.1.name ∧ x6 = r.1.text ∧ x7 = r.2 ∧ HL.Holds [rlo A I n' c1 c2 c3 c4, ro A, imgp A m I] H',
    br_intro (fun z => ?_) (fun _ => ⟨rfl, rfl, rfl, rfl, rfl, rfl, h1⟩), ?_⟩
  · have z := of_decide_eq_true z
    obtain ⟨q2, o2, g1, g2, g3, g4⟩ := (hf.sub q3).at_ i0 z
    refine ⟨q2, o2, g1, g2, g3, _, g4, by decide, br_intro (fun _ q4 hq4 => ?_) (fun _ => ⟨rfl, rfl, rfl, rfl, rfl, rfl, h1⟩)⟩
    have h2 := rlend h1 hq4
    refine fits_spec (i := 0) (rimg_pack h2) rfl hok fun b c d => ⟨_, _, _, _, _, _, _, _, rfl, rgive h2 fun n' c1 c2 c3 c4 H5 h5 => ⟨rfl, rfl, rfl, rfl, rfl, rfl, h5⟩⟩
  clear same h1 f q3
  rintro n' c1 c2 c3 c4 x0 x1 xb xc xd x5 x6 x7 H6 ⟨rfl, rfl, rfl, rfl, rfl, h1⟩
  have hi : HL.Holds [img A m I, rlo A I n' c1 c2 c3 c4] H6 := img_pack ((h1.pull 2 rfl).perm (List.Perm.cons _ (List.Perm.swap _ _ _)))
  refine apply_spec (r := ⟨r.1.kind, r.1.a, xb, xc, xd, r.1.name, r.1.text, r.1.list⟩) (s := r.2) hi hok (e3.list.sub tA) (by omega) fun H7 h7 => ⟨_, _, rfl, fun q4 hq4 => ?_⟩
  obtain ⟨A2, sA2, h8⟩ := img_unpack h7
  have h9 : HL.Holds [rlo A2 I n' c1 c2 c3 c4, ro A2, imgp A2 m (applyI I ⟨r.1.kind, r.1.a, xb, xc, xd, r.1.name, r.1.text, r.1.list⟩).1] H7 := ((h8.pull 2 rfl).head (rlo_sub sA2)).perm (List.Perm.cons _ (List.Perm.swap _ _ _))
  refine rapply_spec (r := ⟨r.1.kind, r.1.a, xb, xc, xd, r.1.name, r.1.text, r.1.list⟩) (s := r.2) (rimg_pack (rlend h9 hq4)) hok (e3.list.sub (tA.trans sA2)) (by show r.1.list.length ≤ _; omega) (by omega) fun H10 h10 => ⟨_, _, rfl, ?_⟩
  obtain ⟨A3, sA3, h11⟩ := rimg_apart h10
  have hJ := (apply_r hI ⟨r.1.kind, r.1.a, xb, xc, xd, r.1.name, r.1.text, r.1.list⟩).1
  have happ := apply_app I ⟨r.1.kind, r.1.a, xb, xc, xd, r.1.name, r.1.text, r.1.list⟩
  have tA3 : HL.Sub H1 A3 := sA.trans (sA2.trans sA3)
  clear h7 h8 h9 h10 hi h1
  revert h11 hJ happ
  generalize (applyI I ⟨r.1.kind, r.1.a, xb, xc, xd, r.1.name, r.1.text, r.1.list⟩) = JR
  obtain ⟨J, ans, err⟩ := JR
  dsimp only
  intro h11 hJ happ
  have hokJ := hJ.ok
  refine rgive h11 fun n2 d1 d2 d3 d4 H12 h12 => fun q5 hq5 => ?_
  have h13 : HL.Holds [imgp A3 m J, rimgp A3 q5 J, ro A3] _ := (((rlend h12 hq5).pull 2 rfl).head (imgp_sub sA3))
  refine alike_spec h13 hJ (by omega) fun A4 H14 sA4 h14 => ⟨_, rfl, rgive h14.swap fun n3 b1 b2 b3 b4 H15 h15 => ?_⟩
  have tA4 : HL.Sub H1 A4 := tA3.trans sA4
  refine br_f (by simp) (br_f (by simp) (br_f rfl (pick12_spec (by decide) ⟨_, rfl, br_intro (fun _ => ?_) (fun _ => ?_)⟩)))
  · have h16 : HL.Holds [img A4 m J, rlo A4 J n3 b1 b2 b3 b4] H15 := img_pack ((h15.pull 2 rfl).pull 2 rfl)
    refine keep_spec (i := 0) h16 rfl hokJ (by omega) fun H17 s17 => ⟨_, rfl, ?_⟩
    obtain ⟨A5, sA5, h17⟩ := img_unpack (h16.up s17)
    have hnb := nb_str (keepP_bytes J)
    have hlk := load_keep hJ (by omega)
    refine load_spec (s := strN (keepB J)) h17.swap (by have := keepP_size hokJ; omega) (fun e => by rw [hnb, hlk] at e; cases e) fun I' e nn H18 h18 => ⟨_, _, rfl, ?_⟩
    rw [hnb, hlk] at e
    cases e
    obtain ⟨A6, sA6, h19⟩ := img_unpack h18
    have h20 : HL.Holds [imgp A6 m J, ro A6, imgp A6 nn J, rlo A6 J n3 b1 b2 b3 b4] H18 := by
      have x1 : HL.Holds [imgp A6 m J, imgp A6 nn J, ro A6, rlo A4 J n3 b1 b2 b3 b4] H18 := (h19.pull 2 rfl).head (imgp_sub sA6)
      have x2 : HL.Holds [rlo A6 J n3 b1 b2 b3 b4, imgp A6 m J, imgp A6 nn J, ro A6] H18 := (x1.pull 3 rfl).head (rlo_sub (sA5.trans sA6))
      exact (((x2.pull 0 rfl).pull 2 rfl).pull 3 rfl).pull 3 rfl
    refine clone12_spec h20 hokJ fun cc A7 H21 sA7 h21 => ⟨_, rfl, br_f rfl (br_f rfl (br_f rfl (rec_spec ⟨_, _, _, _, _, _, _, ⟨none, 0, 0⟩, rfl, ?_⟩)))⟩
    have h22 : HL.Holds [img A7 cc J, imgp A7 m J, imgp A7 nn J, rlo A7 J n3 b1 b2 b3 b4] H21 := by
      have x1 : HL.Holds [imgp A7 nn J, imgp A7 m J, imgp A7 cc J, ro A7, rlo A6 J n3 b1 b2 b3 b4] H21 := (h21.pull 3 rfl).head (imgp_sub sA7)
      have x2 : HL.Holds [rlo A7 J n3 b1 b2 b3 b4, imgp A7 nn J, imgp A7 m J, imgp A7 cc J, ro A7] H21 := (x1.pull 4 rfl).head (rlo_sub sA7)
      exact img_pack ((((x2.pull 1 rfl).pull 2 rfl).pull 4 rfl).pull 4 rfl)
    refine apply_spec (r := rM 4 1 1 1) (s := ⟨none, 0, 0⟩) h22 hokJ (Ints.nil _) (by omega) fun H23 h23 => ⟨_, _, rfl, fun q6 hq6 => ?_⟩
    obtain ⟨A8, sA8, h24⟩ := img_unpack h23
    have h25 : HL.Holds [rlo A8 J n3 b1 b2 b3 b4, ro A8, imgp A8 m J, imgp A8 nn J] H23 := by
      have x1 : HL.Holds [ro A8, imgp A7 m J, imgp A7 nn J, rlo A7 J n3 b1 b2 b3 b4] H23 := h24.tail
      have x2 : HL.Holds [imgp A8 m J, ro A8, imgp A7 nn J, rlo A7 J n3 b1 b2 b3 b4] H23 := (x1.pull 1 rfl).head (imgp_sub sA8)
      have x3 : HL.Holds [imgp A8 nn J, imgp A8 m J, ro A8, rlo A7 J n3 b1 b2 b3 b4] H23 := (x2.pull 2 rfl).head (imgp_sub sA8)
      have x4 : HL.Holds [rlo A8 J n3 b1 b2 b3 b4, imgp A8 nn J, imgp A8 m J, ro A8] H23 := (x3.pull 3 rfl).head (rlo_sub sA8)
      exact (((x4.pull 1 rfl).pull 2 rfl).pull 3 rfl).pull 3 rfl
    have h26 : HL.Holds [imgp A8 m J, rimgp A8 q6 J, ro A8, imgp A8 nn J] _ := (rlend h25 hq6).pull 2 rfl
    refine alike_spec h26 hJ (by omega) fun A9 H27 sA9 h27 => ⟨_, rfl, rgive h27.swap fun n4 g1 g2 g3 g4 H28 h28 => br_f rfl ?_⟩
    have h29 : HL.Holds [rlo A9 J n4 g1 g2 g3 g4, ro A9, imgp A9 nn J] H28 := by
      have x1 : HL.Holds [imgp A9 nn J, rlo A9 J n4 g1 g2 g3 g4, imgp A9 m J, ro A9] H28 := (h28.pull 3 rfl).head (imgp_sub sA9)
      have x2 : HL.Holds [ro A9, imgp A9 nn J, rlo A9 J n4 g1 g2 g3 g4, imgp A9 m J] H28 := x1.pull 3 rfl
      have x3 : HL.Holds [imgp A9 m J, rlo A9 J n4 g1 g2 g3 g4, ro A9, imgp A9 nn J] H28 := (x2.pull 2 rfl).pull 3 rfl
      exact x3.tail
    exact ⟨rfl, ⟨nn, J, A9, rfl, hJ, by omega, by omega, tA4.trans (sA5.trans (sA6.trans (sA7.trans (sA8.trans sA9)))), h29⟩, by omega⟩
  · exact ⟨rfl, ⟨m, J, A4, rfl, hJ, by omega, by omega, tA4, h15.perm (List.Perm.cons _ (List.Perm.swap _ _ _))⟩, by omega⟩
end
end Go.Proofs.YtmofinghoacobaaGreatDoor
