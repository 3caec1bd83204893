/- The law MetaRules: whatever records come, the rules are kept, and two images of the same records are one. -/
import Derived.Test.YtmofinghoacobaaGreatDoorBM
import Derived.Test.YtmofinghoacobaaGreatDoorV8
namespace Go.Proofs.YtmofinghoacobaaGreatDoor
open Go Go.HL
set_option maxHeartbeats 3200000
set_option maxRecDepth 100000

section
variable {cs : List Chunk} {H Lo : Heap} {K : Value → Heap → Prop}
theorem r132 {a b c : Chunk} (h : HL.Holds (a :: b :: c :: cs) H) : HL.Holds (a :: c :: b :: cs) H := (h.pull 2 rfl).swap
theorem rises_spec {v w : PV} {p q : Part} {kind : Int} (hv : PIn H v p) (hw : PIn H w q) (hp : RightOf p) (hq : RightOf q) (hR : Rise p q kind) (k : K (.bool true) H) : FnH Tryz.prog 20 #[v.val, w.val, .int .i64 kind] H K := by
  apply logboomlaw12_rises_fn
  unfold logboomlaw12_rises_vc
  rw [hv.leader, hv.epoch, hv.version, hw.leader, hw.epoch, hw.version]
  have v1 := hp.version
  have v2 := hp.epoch
  have r1 := hR.version
  have r2 := hR.ep
  have n5 := hv.replicas.len
  have m5 := hw.replicas.len
  have l5 := ids_len hp.replicas
  have l6 := ids_len hq.replicas
  rw [wrap64_id (n := p.version + 1) (by omega) (by omega)]
  refine br_f (decide_eq_false (by omega)) (br_f (decide_eq_false (by omega)) (br_f (decide_eq_false (by omega)) (br_f ?_ ?_)))
  · rcases r2 with ⟨e1, e2⟩ | ⟨e1, e2⟩
    · rw [e1, e2]; simp
    · rw [e2, decide_eq_true (by omega)]
      have : (q.leader != p.leader) = true := by simpa using e1
      rw [this]; rfl
  have key : ∀ n : Int, 0 ≤ n → n < v.replicas.n → (decide (p.replicas.getD n.toNat 0 ∈ q.replicas) = true) ∨ kind = 10 ∨ (kind = 7 ∧ decide (p.replicas.getD n.toNat 0 ∈ p.adding) = true) := fun n n0 n1 => by
    have hm := getD_mem (l := p.replicas) n0 (by omega)
    rcases hR.keep _ hm with g | g | ⟨g, g2⟩
    · exact .inl (decide_eq_true g)
    · exact .inr (.inl g)
    · exact .inr (.inr ⟨g, decide_eq_true g2⟩)
  refine ⟨fun t H' => H' = H ∧ (t = true → q.leader ≠ 0 ∧ q.leader ≠ p.leader), br_intro (fun z => ⟨rfl, rfl, fun y => ⟨by simpa using z, by simpa using y⟩⟩) (fun _ => ⟨rfl, rfl, fun y => by cases y⟩), ?_⟩
  rintro t H1 ⟨rfl, ht⟩
  refine br_intro (fun z => ?_) (fun _ => ?_)
  · obtain ⟨z1, z2⟩ := ht z
    refine in_spec hv.isr ⟨_, rfl, br_f (by rw [decide_eq_true (hR.lead z2 z1)]; rfl) ?_⟩
    refine ⟨fun n H' => H' = H1 ∧ 0 ≤ n ∧ n ≤ v.replicas.n, fun n _ => (v.replicas.n - n).toNat, ⟨rfl, Int.le_refl _, by omega⟩, ?_⟩
    rintro n H2 ⟨rfl, n0, n1⟩
    refine br_intro (fun y => ?_) (fun _ => ?_)
    · have y := of_decide_eq_true y
      obtain ⟨b, o, g1, g2, g3, g4⟩ := hv.replicas.at_ n0 y
      refine ⟨b, o, g1, g2, g3, _, g4, in_spec hw.replicas ⟨_, rfl, HL.Sub.refl _, b, o, g1, g2, g3, _, g4, in_spec hv.adding ⟨_, rfl, HL.Sub.refl _, ?_⟩⟩⟩
      rw [wrap64_id (n := n + 1) (by omega) (by omega)]
      refine br_intro (fun c1 => br_intro (fun c2 => br_f ?_ (br_f ?_ ⟨rfl, ⟨rfl, by omega, by omega⟩, by dsimp only; omega⟩)) (fun _ => ⟨rfl, ⟨rfl, by omega, by omega⟩, by dsimp only; omega⟩)) (fun _ => ⟨rfl, ⟨rfl, by omega, by omega⟩, by dsimp only; omega⟩)
      all_goals
        have c1 : ¬ decide (p.replicas.getD n.toNat 0 ∈ q.replicas) = true := by simpa using c1
        have c2 : ¬ kind = 10 := by simpa using c2
        obtain ⟨g, g2⟩ := ((key n n0 y).resolve_left c1).resolve_left c2
      · rw [g]; rfl
      · rw [g2]; rfl
    · refine ⟨fun t H' => H' = H2 ∧ (t = true → kind = 10 ∧ q.version > p.version), br_intro (fun z => ⟨rfl, rfl, fun y => ⟨by simpa using z, of_decide_eq_true y⟩⟩) (fun _ => ⟨rfl, rfl, fun y => by cases y⟩), ?_⟩
      rintro t2 H3 ⟨rfl, ht2⟩
      refine br_intro (fun c => ?_) (fun _ => k)
      obtain ⟨c1, c2⟩ := ht2 c
      have hd := hR.done c1 (by omega)
      refine ⟨fun n H' => H' = H3 ∧ 0 ≤ n ∧ n ≤ w.replicas.n, fun n _ => (w.replicas.n - n).toNat, ⟨rfl, Int.le_refl _, by omega⟩, ?_⟩
      rintro j H4 ⟨rfl, j0, j1⟩
      refine br_intro (fun y => ?_) (fun _ => k)
      have y := of_decide_eq_true y
      obtain ⟨b, o, g1, g2, g3, g4⟩ := hw.replicas.at_ j0 y
      have hm := hd _ (getD_mem (l := q.replicas) j0 (by omega))
      rw [wrap64_id (n := j + 1) (by omega) (by omega)]
      exact ⟨b, o, g1, g2, g3, _, g4, in_spec hv.isr ⟨_, rfl, HL.Sub.refl _, br_f (by rw [decide_eq_true hm]; rfl) ⟨rfl, ⟨rfl, by omega, by omega⟩, by dsimp only; omega⟩⟩⟩
  · refine ⟨fun n H' => H' = H1 ∧ 0 ≤ n ∧ n ≤ v.replicas.n, fun n _ => (v.replicas.n - n).toNat, ⟨rfl, Int.le_refl _, by omega⟩, ?_⟩
    rintro n H2 ⟨rfl, n0, n1⟩
    refine br_intro (fun y => ?_) (fun _ => ?_)
    · have y := of_decide_eq_true y
      obtain ⟨b, o, g1, g2, g3, g4⟩ := hv.replicas.at_ n0 y
      refine ⟨b, o, g1, g2, g3, _, g4, in_spec hw.replicas ⟨_, rfl, HL.Sub.refl _, b, o, g1, g2, g3, _, g4, in_spec hv.adding ⟨_, rfl, HL.Sub.refl _, ?_⟩⟩⟩
      rw [wrap64_id (n := n + 1) (by omega) (by omega)]
      refine br_intro (fun c1 => br_intro (fun c2 => br_f ?_ (br_f ?_ ⟨rfl, ⟨rfl, by omega, by omega⟩, by dsimp only; omega⟩)) (fun _ => ⟨rfl, ⟨rfl, by omega, by omega⟩, by dsimp only; omega⟩)) (fun _ => ⟨rfl, ⟨rfl, by omega, by omega⟩, by dsimp only; omega⟩)
      all_goals
        have c1 : ¬ decide (p.replicas.getD n.toNat 0 ∈ q.replicas) = true := by simpa using c1
        have c2 : ¬ kind = 10 := by simpa using c2
        obtain ⟨g, g2⟩ := ((key n n0 y).resolve_left c1).resolve_left c2
      · rw [g]; rfl
      · rw [g2]; rfl
    · refine ⟨fun t H' => H' = H2 ∧ (t = true → kind = 10 ∧ q.version > p.version), br_intro (fun z => ⟨rfl, rfl, fun y => ⟨by simpa using z, of_decide_eq_true y⟩⟩) (fun _ => ⟨rfl, rfl, fun y => by cases y⟩), ?_⟩
      rintro t2 H3 ⟨rfl, ht2⟩
      refine br_intro (fun c => ?_) (fun _ => k)
      obtain ⟨c1, c2⟩ := ht2 c
      have hd := hR.done c1 (by omega)
      refine ⟨fun n H' => H' = H3 ∧ 0 ≤ n ∧ n ≤ w.replicas.n, fun n _ => (w.replicas.n - n).toNat, ⟨rfl, Int.le_refl _, by omega⟩, ?_⟩
      rintro j H4 ⟨rfl, j0, j1⟩
      refine br_intro (fun y => ?_) (fun _ => k)
      have y := of_decide_eq_true y
      obtain ⟨b, o, g1, g2, g3, g4⟩ := hw.replicas.at_ j0 y
      have hm := hd _ (getD_mem (l := q.replicas) j0 (by omega))
      rw [wrap64_id (n := j + 1) (by omega) (by omega)]
      exact ⟨b, o, g1, g2, g3, _, g4, in_spec hv.isr ⟨_, rfl, HL.Sub.refl _, br_f (by rw [decide_eq_true hm]; rfl) ⟨rfl, ⟨rfl, by omega, by omega⟩, by dsimp only; omega⟩⟩⟩
theorem metaRules_walk {s : Sl} {l : List Mr} (hl : Script H s l) (k : ∀ H', HL.Sub H H' → K (.bool true) H') : FnH Tryz.prog 5 #[.slice s.p s.n s.c] H K := by
  apply logboomlaw12_MetaRules_fn
  unfold logboomlaw12_MetaRules_vc
  refine shown12 fun H1 s1 => ⟨_, rfl, new12_spec (Holds.whole H1) fun m H2 h2 => ⟨_, rfl, ?_⟩⟩
  obtain ⟨A, sA, h3⟩ := img_unpack h2
  refine new12_spec h3.swap fun n H3 h4 => ⟨_, rfl, br_f rfl (br_f rfl (br_f rfl ?_))⟩
  obtain ⟨A2, sA2, h5⟩ := img_unpack h4
  have h6 : HL.Holds [imgp A2 m newI, imgp A2 n newI, ro A2] H3 := ((h5.pull 2 rfl).head (imgp_sub sA2))
  clear h2 h3 h4 h5
  refine ⟨fun i H' => ∃ (I : Im) (A : Heap), Ruled I i ∧ I.app = i ∧ 0 ≤ i ∧ i ≤ 120 ∧ HL.Sub H1 A ∧ HL.Holds [imgp A m I, imgp A n I, ro A] H', fun i _ => (120 - i).toNat, ⟨newI, A2, newI_ruled, rfl, Int.le_refl _, by decide, sA.trans sA2, h6⟩, ?_⟩
  clear h6 sA2 sA
  rintro i H4 ⟨I, A, hI, happ, i0, i1, sA, h1⟩
  have done : K (.bool true) H4 := k H4 (s1.trans (sA.trans (h1.sub 2 rfl)))
  refine br_intro (fun w => br_intro (fun w2 => ?_) (fun _ => done)) (fun _ => done)
  clear done
  have w := of_decide_eq_true w
  have w2 := of_decide_eq_true w2
  have h2 : HL.Holds [img A m I, imgp A n I] H4 := img_pack (r132 h1)
  refine parts12_spec h2 hI.r.ok fun was Lo1 H5 sL1 hwas h3 => ⟨was, rfl, ?_⟩
  have t1 : HL.Sub H Lo1 := s1.trans (sA.trans sL1)
  have q5 := img_low (h3.read 0 rfl img_mono)
  obtain ⟨q, o, r, e1, e2, e3, e4, e5, e6⟩ := hl.at_ i0 w
  have f5 := fun f x hx => (t1.trans q5).cell (e6 f x hx)
  refine ⟨q, o, e1, e4, e5, _, f5 0 _ rfl, _, f5 1 _ rfl, _, f5 2 _ rfl, _, f5 3 _ rfl, _, f5 4 _ rfl, _, f5 5 _ rfl, _, f5 6 _ rfl, r.2, f5 7 _ rfl, ?_⟩
  refine apply_spec (r := r.1) (s := r.2) h3 hI.r.ok (e3.list.sub t1) (by omega) fun H6 h6 => ⟨_, _, rfl, ?_⟩
  have q6 := img_low (h6.read 0 rfl img_mono)
  have f6 := fun f x hx => (t1.trans q6).cell (e6 f x hx)
  refine ⟨q, o, e1, e4, e5, _, f6 0 _ rfl, _, f6 1 _ rfl, _, f6 2 _ rfl, _, f6 3 _ rfl, _, f6 4 _ rfl, _, f6 5 _ rfl, _, f6 6 _ rfl, r.2, f6 7 _ rfl, ?_⟩
  obtain ⟨A3, sA3, h7⟩ := img_unpack h6
  have h8 : HL.Holds [img A3 n I, imgp A3 m (applyI I r.1).1] H6 := img_pack (r132 ((h7.pull 2 rfl).head (imgp_sub (sL1.trans sA3))))
  clear h1 h2 h3 h6 h7
  refine apply_spec (r := r.1) (s := r.2) h8 hI.r.ok (e3.list.sub (t1.trans sA3)) (by omega) fun H7 h9 => ⟨_, _, rfl, ?_⟩
  obtain ⟨A4, sA4, h10⟩ := img_unpack h9
  have h11 : HL.Holds [img A4 m (applyI I r.1).1, imgp A4 n (applyI I r.1).1] H7 := img_pack (r132 ((h10.pull 2 rfl).head (imgp_sub sA4)))
  clear h8 h9 h10
  have hJ := hI.next (by omega) r.1
  obtain ⟨-, hN⟩ := apply_r hI.r r.1
  have happ := apply_app I r.1
  revert hJ hN happ h11
  generalize hJe : (applyI I r.1).1 = J
  intro h11 hJ hN happ
  refine parts12_spec h11 hJ.r.ok fun now Lo5 H8 sL5 hnow h12 => ⟨now, rfl, br_f (by simp) (br_f (by simp) ?_)⟩
  refine keep_spec (i := 0) h12 rfl hJ.r.ok (by omega) fun H9 s9 => ⟨_, rfl, ?_⟩
  obtain ⟨A6, sA6, h13⟩ := img_unpack (h12.up s9)
  have h14 : HL.Holds [img A6 n J, imgp A6 m J] H9 := img_pack (r132 ((h13.pull 2 rfl).head (imgp_sub (sL5.trans sA6))))
  refine keep_spec (i := 0) h14 rfl hJ.r.ok (by omega) fun H10 s10 => ⟨_, rfl, br_f (by rw [str_eq, decide_eq_true rfl]; rfl) (br_f (decide_eq_false ?_) ?_)⟩
  · rw [hnow.len, hwas.len]; have := hN.len; omega
  obtain ⟨A7, sA7, h15⟩ := img_unpack (h14.up s10)
  have h16 : HL.Holds [img A7 m J, imgp A7 n J] H10 := img_pack (r132 ((h15.pull 2 rfl).head (imgp_sub sA7)))
  clear h11 h12 h13 h14 h15
  refine up_spec (i := 0) h16 rfl hJ.r.ok fun u H11 s11 h17 => ⟨u, rfl, ?_⟩
  have hul := upL_len hJ.r.ok
  have hu : Ints H11 u (upL J.brk) := own_ints (h17.own 0 rfl) (by omega)
  have h18 := h16.up s11
  have q11 : HL.Sub A7 H11 := img_low (h18.read 0 rfl img_mono)
  have hnow' := hnow.sub ((sA6.trans sA7).trans q11)
  have hwas' := hwas.sub ((sA3.trans (sA4.trans (sL5.trans (sA6.trans sA7)))).trans q11)
  have hS := hl.sub ((t1.trans (sA3.trans (sA4.trans (sL5.trans (sA6.trans sA7))))).trans q11)
  have nl := hnow.len
  have wl := hwas.len
  have hpl := hJ.r.ok.parts
  refine ⟨fun c H' => H' = H11 ∧ 0 ≤ c ∧ c ≤ now.n, fun c _ => (now.n - c).toNat, ⟨rfl, Int.le_refl _, by omega⟩, ?_⟩
  rintro c H12 ⟨rfl, c0, c1⟩
  refine br_intro (fun y => ?_) (fun y => ?_)
  · have y := of_decide_eq_true y
    obtain ⟨b, o', v, p, g1, g2, g3, g4⟩ := hnow'.at_ c0 (by omega)
    have hpm := List.mem_of_getElem? g2
    have hr := hJ.r.ok.right p hpm
    have hld := hJ.led p hpm
    refine ⟨b, o', g1, c0, y, _, g4 1 _ rfl, in_spec hu ⟨_, rfl, b, o', g1, c0, y, v.isr, g4 4 _ rfl, b, o', g1, c0, y, _, g4 1 _ rfl, in_spec g3.isr ⟨_, rfl, HL.Sub.refl _, b, o', g1, c0, y, _, g4 1 _ rfl, ?_⟩⟩⟩
    rw [g3.leader, wrap64_id (n := c + 1) (by omega) (by omega)]
    have hil := g3.isr.len
    have hpos := hr.pos
    have hz : (((v.isr.n : Nat) : Int) == 0) = false := by
      have : ¬ ((v.isr.n : Nat) : Int) = 0 := by omega
      simpa using this
    refine br_intro (fun z => ?_) (fun z => ?_)
    · have z : ¬ p.leader = 0 := by simpa using z
      have z1 := hld.resolve_left z
      have z2 := hr.leader.resolve_left z
      refine br_f (by rw [decide_eq_true z1]; rfl) (br_f (by rw [decide_eq_true z2]; rfl) ⟨b, o', g1, c0, y, v.isr, g4 4 _ rfl, br_f hz ⟨rfl, ⟨rfl, by omega, by omega⟩, by dsimp only; omega⟩⟩)
    · exact ⟨b, o', g1, c0, y, v.isr, g4 4 _ rfl, br_f hz ⟨rfl, ⟨rfl, by omega, by omega⟩, by dsimp only; omega⟩⟩
  have hlen := hN.len
  refine ⟨fun c H' => H' = H12 ∧ 0 ≤ c ∧ c ≤ was.n, fun c _ => (was.n - c).toNat, ⟨rfl, Int.le_refl _, by omega⟩, ?_⟩
  rintro d H13 ⟨rfl, d0, d1⟩
  refine br_intro (fun z => ?_) (fun z => ?_)
  · have z := of_decide_eq_true z
    obtain ⟨b, o', v, p, g1, g2, g3, g4⟩ := hwas'.at_ d0 (by omega)
    obtain ⟨b2, o2, v2, p2, k1, k2, k3, k4⟩ := hnow'.at_ d0 (by omega)
    obtain ⟨p3, j1, j2⟩ := hN.rise _ _ g2
    rw [k2] at j1
    cases j1
    obtain ⟨q', o'', r', x1, x2, x3, x4, x5, x6⟩ := hS.at_ i0 w
    rw [e2] at x2
    cases x2
    refine ⟨b, o', g1, d0, z, _, g4 0 _ rfl, _, g4 1 _ rfl, _, g4 2 _ rfl, _, g4 3 _ rfl, v.isr, g4 4 _ rfl, v.replicas, g4 5 _ rfl, v.adding, g4 6 _ rfl, v.removing, g4 7 _ rfl, _, g4 8 _ rfl,
      b2, o2, k1, d0, by omega, _, k4 0 _ rfl, _, k4 1 _ rfl, _, k4 2 _ rfl, _, k4 3 _ rfl, v2.isr, k4 4 _ rfl, v2.replicas, k4 5 _ rfl, v2.adding, k4 6 _ rfl, v2.removing, k4 7 _ rfl, _, k4 8 _ rfl,
      q', o'', x1, x4, x5, _, x6 0 _ rfl, ?_⟩
    rw [wrap64_id (n := d + 1) (by omega) (by omega)]
    exact rises_spec (v := v) (w := v2) g3 k3 (hI.r.ok.right p (List.mem_of_getElem? g2)) (hJ.r.ok.right p2 (List.mem_of_getElem? k2)) j2 ⟨_, rfl, HL.Sub.refl _, br_f rfl ⟨rfl, ⟨rfl, by omega, by omega⟩, by dsimp only; omega⟩⟩
  · rw [wrap64_id (n := i + 1) (by omega) (by omega)]
    obtain ⟨A8, sA8, h19⟩ := img_unpack h18
    refine ⟨rfl, ⟨J, A8, hJ, by omega, by omega, by omega, ?_, ((h19.pull 2 rfl).head (imgp_sub sA8)).swap⟩, by dsimp only; omega⟩
    exact sA.trans (sL1.trans (sA3.trans (sA4.trans (sL5.trans (sA6.trans (sA7.trans sA8))))))
end
end Go.Proofs.YtmofinghoacobaaGreatDoor
