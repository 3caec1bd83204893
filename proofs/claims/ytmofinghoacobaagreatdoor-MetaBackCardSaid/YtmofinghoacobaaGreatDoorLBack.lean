/- The law MetaBack: an image that is kept and loaded goes on as the one that was kept. -/
import Derived.Test.YtmofinghoacobaaGreatDoorBM
import Derived.Test.YtmofinghoacobaaGreatDoorVa
namespace Go.Proofs.YtmofinghoacobaaGreatDoor
open Go Go.HL
set_option maxHeartbeats 3200000
set_option maxRecDepth 100000

theorem bodyB_bytes (I : Im) : ∀ b ∈ bodyB I, b < 256 :=
  bytes_app (bytes_app (bytes_app (bytes_app (bytes_app (bytes_app (encL_bytes _) (flat_bytes fun a _ => brkB_bytes a)) (encL_bytes _)) (flat_bytes fun a _ => topB_bytes a)) (encL_bytes _)) (flat_bytes fun a _ => prtB_bytes a)) (lstB_bytes _)
theorem keepB_bytes (I : Im) : ∀ b ∈ keepB I, b < 256 := bytes_app (fourN_bytes _) (bodyB_bytes I)
theorem bodyB_len {I : Im} (hok : ImOk I) : (bodyB I).length ≤ 20000 := by
  have h1 := flat_le (f := brkB) (k := 30) (l := I.brk) fun a _ => brkB_len a
  have h2 := flat_le (f := topB) (k := 62) (l := I.top) fun a h => topB_len (named_size (hok.topv a h).1)
  have h3 := flat_le (f := prtB) (k := 360) (l := I.prt) fun a h => prtB_len (hok.right a h)
  have h4 := lstB_len I.prd
  have h5 : (encL [I.app, (I.brk.length : Int)]).length ≤ 20 := encL_len _
  have h6 : (encL [(I.top.length : Int)]).length ≤ 10 := encL_len _
  have h7 : (encL [(I.prt.length : Int)]).length ≤ 10 := encL_len _
  have h8 := brk_len hok
  have h9 := hok.tops
  have h10 := hok.parts
  have h11 := hok.prds
  unfold bodyB
  simp only [List.length_append]
  omega
theorem keepB_size {I : Im} (hok : ImOk I) : (strN (keepB I)).size ≤ 20004 := by
  rw [strN_size]
  unfold keepB
  rw [List.length_append]
  have : (fourN (crcN (bodyB I))).length = 4 := rfl
  have := bodyB_len hok
  omega
theorem r132b {a b c : Chunk} {cs : List Chunk} {H : Heap} (h : HL.Holds (a :: b :: c :: cs) H) : HL.Holds (a :: c :: b :: cs) H := (h.pull 2 rfl).swap
section
variable {H : Heap} {K : Value → Heap → Prop}
theorem metaBack_walk {s1 s2 : Sl} {l1 l2 : List Mr} (hl1 : Script H s1 l1) (hl2 : Script H s2 l2) (k : ∀ H', HL.Sub H H' → K (.bool true) H') : FnH Tryz.prog 6 #[.slice s1.p s1.n s1.c, .slice s2.p s2.n s2.c] H K := by
  apply logboomlaw12_MetaBack_fn
  unfold logboomlaw12_MetaBack_vc
  refine shown12 fun H1 t1 => ⟨_, rfl, new12_spec (Holds.whole H1) fun m H2 h2 => ⟨_, rfl, br_f rfl (br_f rfl ?_)⟩⟩
  refine ⟨fun i H' => ∃ I : Im, ImR I ∧ I.app = i ∧ 0 ≤ i ∧ i ≤ 60 ∧ HL.Holds [img H1 m I] H', fun i _ => (60 - i).toNat, ⟨newI, newI_r, rfl, Int.le_refl _, by decide, h2⟩, ?_⟩
  clear h2
  rintro i H3 ⟨I, hr, happ, i0, i1, h3⟩
  have low := img_low (h3.read 0 rfl img_mono)
  refine br_intro (fun w => br_intro (fun w2 => ?_) (fun _ => ?_)) (fun _ => ?_)
  · have w := of_decide_eq_true w
    have w2 := of_decide_eq_true w2
    obtain ⟨q, o, r, e1, e2, e3, e4, e5, e6⟩ := hl1.at_ i0 w
    have f5 := fun f x hx => (t1.trans low).cell (e6 f x hx)
    refine ⟨q, o, e1, e4, e5, _, f5 0 _ rfl, _, f5 1 _ rfl, _, f5 2 _ rfl, _, f5 3 _ rfl, _, f5 4 _ rfl, _, f5 5 _ rfl, _, f5 6 _ rfl, r.2, f5 7 _ rfl, ?_⟩
    refine apply_spec (r := r.1) (s := r.2) h3 hr.ok (e3.list.sub t1) (by omega) fun H4 h4 => ⟨_, _, rfl, ?_⟩
    have p4 := apply_app I r.1
    rw [wrap64_id (n := i + 1) (by omega) (by omega)]
    exact ⟨rfl, ⟨_, (apply_r hr r.1).1, by omega, by omega, by omega, h4⟩, by dsimp only; omega⟩
  all_goals
    refine keep_spec (i := 0) h3 rfl hr.ok (by omega) fun H4 s4 => ⟨_, rfl, ?_⟩
    obtain ⟨A, sA, h4⟩ := img_unpack (h3.up s4)
    have hnb := nb_str (keepB_bytes I)
    have hlk := load_keep hr (by omega)
    refine load_spec (s := strN (keepB I)) h4.swap (by have := keepB_size hr.ok; omega) (fun e => by rw [hnb, hlk] at e; cases e) fun I' e n H5 h5 => ⟨_, _, rfl, br_f rfl (br_f rfl ?_)⟩
    rw [hnb, hlk] at e
    cases e
    obtain ⟨A2, sA2, h6⟩ := img_unpack h5
    have h7 : HL.Holds [imgp A2 m I, imgp A2 n I, ro A2] H5 := (h6.pull 2 rfl).head (imgp_sub sA2)
    clear h3 h4 h5 h6
    refine ⟨fun j H' => ∃ (J : Im) (A : Heap), ImR J ∧ 0 ≤ J.app ∧ J.app ≤ 60 + j ∧ 0 ≤ j ∧ j ≤ 40 ∧ HL.Sub H1 A ∧ HL.Holds [imgp A m J, imgp A n J, ro A] H', fun j _ => (40 - j).toNat, ⟨I, A2, hr, by omega, by omega, Int.le_refl _, by decide, sA.trans sA2, h7⟩, ?_⟩
    clear h7
    rintro j H6 ⟨J, B, hJ, a0, a1, j0, j1, sB, h8⟩
    have h9 : HL.Holds [img B m J, imgp B n J] H6 := img_pack (r132b h8)
    have h10 : HL.Holds [img B n J, imgp B m J] H6 := img_pack (r132b h8.swap)
    have done : K (.bool (J.app == J.app)) H6 := by
      have e : (J.app == J.app) = true := by simp
      rw [e]
      exact k H6 (t1.trans (sB.trans (h8.sub 2 rfl)))
    refine br_intro (fun w => br_intro (fun w2 => ?_) (fun _ => applied_spec (i := 0) h9 rfl ⟨_, rfl, applied_spec (i := 0) h10 rfl ⟨_, rfl, done⟩⟩)) (fun _ => applied_spec (i := 0) h9 rfl ⟨_, rfl, applied_spec (i := 0) h10 rfl ⟨_, rfl, done⟩⟩)
    clear done h10
    have w := of_decide_eq_true w
    have w2 := of_decide_eq_true w2
    obtain ⟨q, o, r, e1, e2, e3, e4, e5, e6⟩ := hl2.at_ j0 w
    have tB := t1.trans sB
    have q6 := img_low (h9.read 0 rfl img_mono)
    have f5 := fun f x hx => (tB.trans q6).cell (e6 f x hx)
    refine ⟨q, o, e1, e4, e5, _, f5 0 _ rfl, _, f5 1 _ rfl, _, f5 2 _ rfl, _, f5 3 _ rfl, _, f5 4 _ rfl, _, f5 5 _ rfl, _, f5 6 _ rfl, r.2, f5 7 _ rfl, ?_⟩
    refine apply_spec (r := r.1) (s := r.2) h9 hJ.ok (e3.list.sub tB) (by omega) fun H7 h11 => ⟨_, _, rfl, ?_⟩
    have q7 := img_low (h11.read 0 rfl img_mono)
    have f6 := fun f x hx => (tB.trans q7).cell (e6 f x hx)
    refine ⟨q, o, e1, e4, e5, _, f6 0 _ rfl, _, f6 1 _ rfl, _, f6 2 _ rfl, _, f6 3 _ rfl, _, f6 4 _ rfl, _, f6 5 _ rfl, _, f6 6 _ rfl, r.2, f6 7 _ rfl, ?_⟩
    obtain ⟨A3, sA3, h12⟩ := img_unpack h11
    have h13 : HL.Holds [img A3 n J, imgp A3 m (applyI J r.1).1] H7 := img_pack (r132b ((h12.pull 2 rfl).head (imgp_sub sA3)))
    refine apply_spec (r := r.1) (s := r.2) h13 hJ.ok (e3.list.sub (tB.trans sA3)) (by omega) fun H8 h14 => ⟨_, _, rfl, br_f (by simp) (br_f (by simp) ?_)⟩
    obtain ⟨A4, sA4, h15⟩ := img_unpack h14
    have h16 : HL.Holds [img A4 m (applyI J r.1).1, imgp A4 n (applyI J r.1).1] H8 := img_pack (r132b ((h15.pull 2 rfl).head (imgp_sub sA4)))
    have hG := (apply_r hJ r.1).1
    have p8 := apply_app J r.1
    revert hG p8 h16
    generalize (applyI J r.1).1 = G
    intro h16 hG p8
    refine keep_spec (i := 0) h16 rfl hG.ok (by omega) fun H9 s9 => ⟨_, rfl, ?_⟩
    obtain ⟨A6, sA6, h17⟩ := img_unpack (h16.up s9)
    have h18 : HL.Holds [img A6 n G, imgp A6 m G] H9 := img_pack (r132b ((h17.pull 2 rfl).head (imgp_sub sA6)))
    refine keep_spec (i := 0) h18 rfl hG.ok (by omega) fun H10 s10 => ⟨_, rfl, br_f (by rw [str_eq, decide_eq_true rfl]; rfl) ?_⟩
    obtain ⟨A7, sA7, h19⟩ := img_unpack (h18.up s10)
    rw [wrap64_id (n := j + 1) (by omega) (by omega)]
    exact ⟨rfl, ⟨G, A7, hG, by omega, by omega, by omega, by omega, sB.trans (sA3.trans (sA4.trans (sA6.trans sA7))), (h19.pull 2 rfl).head (imgp_sub sA7)⟩, by dsimp only; omega⟩
end
end Go.Proofs.YtmofinghoacobaaGreatDoor
