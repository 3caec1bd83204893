/- The law MetaPids: each new producer has the next id, and its epochs rise. -/
import Derived.Test.YtmofinghoacobaaGreatDoorBM
namespace Go.Proofs.YtmofinghoacobaaGreatDoor
open Go Go.HL
set_option maxHeartbeats 3200000
set_option maxRecDepth 100000

theorem apply_pid {I : Im} {r : Mt} (h : r.kind = 8) : applyI I r = pidI { I with app := I.app + 1 } r.a := by
  unfold applyI bodyI
  rw [if_neg (by omega), if_neg (by omega), if_neg (by omega), if_neg (by omega), if_pos h]
theorem pid_zero {J : Im} (h : J.prd.length < 1000) : pidI J 0 = ({ J with prd := J.prd ++ [0] }, (J.prd.length : Int) + 1, 0) := by
  unfold pidI
  rw [if_neg (by omega), if_neg (by omega), if_pos rfl, if_neg (by omega)]
theorem pid_over {J : Im} {a : Int} (h0 : 0 ≤ a) (h : a > J.prd.length) : pidI J a = (J, 0, 8) := by
  unfold pidI
  rw [if_neg (by omega), if_pos h]
theorem pid_in {J : Im} {a : Int} (h0 : 1 ≤ a) (h : a ≤ J.prd.length) (hl : J.prd.getD (a - 1).toNat 0 < 1000000000) : pidI J a = ({ J with prd := J.prd.set (a - 1).toNat (J.prd.getD (a - 1).toNat 0 + 1) }, J.prd.getD (a - 1).toNat 0 + 1, 0) := by
  unfold pidI
  rw [if_neg (by omega), if_neg (by omega), if_neg (by omega), if_neg (by omega)]
section
variable {H : Heap} {K : Value → Heap → Prop}
theorem metaPids_walk {s : Sl} {l : List Int} (hl : Ints H s l) (hw : ∀ x ∈ l, -9223372036854775808 ≤ x ∧ x ≤ 9223372036854775807) (k : ∀ H', HL.Sub H H' → K (.bool true) H') : FnH Tryz.prog 3 #[.slice s.p s.n s.c] H K := by
  apply logboomlaw12_MetaPids_fn
  unfold logboomlaw12_MetaPids_vc
  have hsl := hl.len
  refine shown12 fun H1 s1 => ⟨_, rfl, new12_spec (Holds.whole H1) fun m H2 h2 => ⟨_, rfl, br_f rfl (br_f rfl ?_)⟩⟩
  refine ⟨fun ep i H' => ∃ (I : Im) (E : List Int), I.prd = E ∧ ImR I ∧ 0 ≤ i ∧ i ≤ 200 ∧ I.app = i ∧ (E.length : Int) ≤ i ∧ (∀ e ∈ E, 0 ≤ e ∧ e ≤ i) ∧ HL.Holds [own 3 1 ep (iv E), img H1 m I] H', fun _ i _ => (200 - i).toNat,
    ⟨newI, [], rfl, newI_r, Int.le_refl _, by decide, rfl, Int.le_refl _, by simp, h2.own_nil 3 1⟩, ?_⟩
  rintro ep i H3 ⟨I, E, rfl, hr, i0, i1, happ, hEl, hE, h3⟩
  have hlo : HL.Sub H1 H3 := img_low (h3.read 1 rfl img_mono)
  have done : K (.bool true) H3 := k H3 (s1.trans hlo)
  refine br_intro (fun w => br_intro (fun w2 => ?_) (fun _ => done)) (fun _ => done)
  have w := of_decide_eq_true w
  have w2 := of_decide_eq_true w2
  have hep : Ints H3 ep I.prd := own_ints (h3.own 0 rfl) (by omega)
  have hen := hep.len
  obtain ⟨q, o, g1, g2, g3, g4⟩ := (hl.sub (s1.trans hlo)).at_ i0 w
  have hx := hw _ (getD_mem (l := l) i0 (by omega))
  refine ⟨q, o, g1, g2, g3, _, g4, ?_⟩
  rw [wrap64_id (n := (ep.n : Int) + 2) (by omega) (by omega)]
  refine pick_spec (by omega) ⟨_, rfl, ?_⟩
  obtain ⟨d0, d1⟩ := pick_range (c := l.getD i.toNat 0) (n := (ep.n : Int) + 2) hx (by omega)
  generalize pickI (l.getD i.toNat 0) ((ep.n : Int) + 2) = id at d0 d1 ⊢
  refine apply_spec (r := ⟨8, id, 0, 0, 0, ⟨#[]⟩, ⟨#[]⟩, []⟩) (s := ⟨none, 0, 0⟩) h3.swap hr.ok (Ints.nil _) (by omega) fun H4 h4 => ⟨_, _, rfl, ?_⟩
  have hr4 := (apply_r hr ⟨8, id, 0, 0, 0, ⟨#[]⟩, ⟨#[]⟩, []⟩).1
  have ha4 := apply_app I ⟨8, id, 0, 0, 0, ⟨#[]⟩, ⟨#[]⟩, []⟩
  rw [apply_pid rfl] at h4 hr4 ha4 ⊢
  have hlo4 : HL.Sub H1 H4 := img_low (h4.read 0 rfl img_mono)
  rw [wrap64_id (n := i + 1) (by omega) (by omega)]
  refine br_intro (fun z => ?_) (fun z => br_intro (fun z2 => ?_) (fun z2 => ?_))
  · have z : id = 0 := by simpa using z
    subst z
    have e := pid_zero (J := { I with app := I.app + 1 }) (by show I.prd.length < 1000; omega)
    have e : pidI { I with app := I.app + 1 } (Mt.a ⟨8, 0, 0, 0, 0, ⟨#[]⟩, ⟨#[]⟩, []⟩) = ({ I with app := I.app + 1, prd := I.prd ++ [0] }, (I.prd.length : Int) + 1, 0) := e
    rw [e] at h4 hr4 ha4 ⊢
    refine Holds.push okInt h4.swap (xs := [.int .i64 0]) (m := 1) rfl rfl (by omega) fun l1 H5 h5 n5 => ⟨l1, rfl, br_f ?_ (br_f rfl ⟨rfl, ⟨_, I.prd ++ [0], rfl, hr4, by omega, by omega, by omega, ?_, fun y hy => ?_, ?_⟩, by dsimp only; omega⟩)⟩
    · have : ((l1.n : Nat) : Int) = (I.prd.length : Int) + 1 := by omega
      rw [this]; simp
    · rw [List.length_append]; show ((I.prd.length + 1 : Nat) : Int) ≤ i + 1; omega
    · rcases List.mem_append.1 hy with q | q
      · have := hE y q; omega
      · rw [List.mem_singleton.1 q]; omega
    · have e2 : iv I.prd ++ [.int .i64 0] = iv (I.prd ++ [0]) := by simp [iv]
      rw [e2] at h5
      exact h5
  · have z2 := of_decide_eq_true z2
    have e := pid_over (J := { I with app := I.app + 1 }) d0 (by show id > I.prd.length; omega)
    have e : pidI { I with app := I.app + 1 } (Mt.a ⟨8, id, 0, 0, 0, ⟨#[]⟩, ⟨#[]⟩, []⟩) = ({ I with app := I.app + 1 }, 0, 8) := e
    rw [e] at h4 hr4 ha4 ⊢
    refine br_f rfl (br_f rfl ⟨rfl, ⟨{ I with app := I.app + 1 }, I.prd, rfl, hr4, by omega, by omega, by show I.app + 1 = _; omega, by omega, fun y hy => ?_, h4.swap⟩, by dsimp only; omega⟩)
    have := hE y hy; omega
  · have z : ¬ id = 0 := by simpa using z
    have z2 := of_decide_eq_false z2
    have hmem : I.prd.getD (id - 1).toNat 0 ∈ I.prd := getD_mem (by omega) (by omega)
    have hval := hE _ hmem
    have e := pid_in (J := { I with app := I.app + 1 }) (a := id) (by omega) (by show id ≤ I.prd.length; omega) (by show I.prd.getD (id - 1).toNat 0 < _; omega)
    have e : pidI { I with app := I.app + 1 } (Mt.a ⟨8, id, 0, 0, 0, ⟨#[]⟩, ⟨#[]⟩, []⟩) = ({ I with app := I.app + 1, prd := I.prd.set (id - 1).toNat (I.prd.getD (id - 1).toNat 0 + 1) }, I.prd.getD (id - 1).toNat 0 + 1, 0) := e
    rw [e] at h4 hr4 ha4 ⊢
    rw [wrap64_id (n := id - 1) (by omega) (by omega)]
    have hep4 : Ints H4 ep I.prd := own_ints (h4.own 1 rfl) (by omega)
    obtain ⟨q, o, g1, g2, g3, g4⟩ := hep4.at_ (j := id - 1) (by omega) (by omega)
    refine ⟨q, o, g1, g2, g3, _, g4, q, o, g1, g2, g3, ?_⟩
    rw [wrap64_id (n := I.prd.getD (id - 1).toNat 0 + 1) (by omega) (by omega)]
    refine Holds.setCell h4.swap g1 (j := (id - 1).toNat) (by rw [List.length_map]; omega) fun H5 h5 => ?_
    rw [iv_set] at h5
    have hI5 : Ints H5 ep (I.prd.set (id - 1).toNat (I.prd.getD (id - 1).toNat 0 + 1)) := own_ints (h5.own 0 rfl) (by rw [List.length_set]; omega)
    obtain ⟨q2, o2, f1, f2, f3, f4⟩ := hI5.at_ (j := id - 1) (by omega) (by omega)
    have hgd : (I.prd.set (id - 1).toNat (I.prd.getD (id - 1).toNat 0 + 1)).getD (id - 1).toNat 0 = I.prd.getD (id - 1).toNat 0 + 1 := by
      rw [List.getD, List.getElem?_set_self (by omega)]; rfl
    rw [hgd] at f4
    refine ⟨q2, o2, f1, f2, f3, _, f4, br_f (by simp) (br_f rfl ⟨rfl, ⟨_, _, rfl, hr4, by omega, by omega, by omega, ?_, fun y hy => ?_, h5⟩, by dsimp only; omega⟩)⟩
    · rw [List.length_set]; omega
    · rcases List.mem_or_eq_of_mem_set hy with q | q
      · have := hE y q; omega
      · omega
end
end Go.Proofs.YtmofinghoacobaaGreatDoor
