/- What the decisions on a move do with a partition's state. -/
import Derived.Test.YtahempkggcbegaaS6
namespace Go.Proofs.Ytahempkggcbegaa
open Go.HL
set_option maxHeartbeats 400000

def alterP (p : Part) (leader epoch version : Int) (isr up : List Int) : Part × Int :=
  if (!rightB p) = true then (zeroPart, 1) else
  if (decide (epoch < p.epoch) || (epoch == p.epoch && decide (version < p.version))) = true then (zeroPart, 13) else
  if (decide (epoch > p.epoch) || decide (version > p.version)) = true then (zeroPart, 14) else
  if (leader == 0 || leader != p.leader) = true then (zeroPart, 19) else
  if (!idsL isr) = true then (zeroPart, 1) else if (!decide (leader ∈ isr)) = true then (zeroPart, 1) else if (!withinL isr p.replicas) = true then (zeroPart, 1) else if (!withinL (withoutL isr p.isr) up) = true then (zeroPart, 1) else
  changedP { p with isr := withL p.replicas isr }
theorem ne_of_false {b : Bool} (h : b = false) : ¬ b = true := by rw [h]; simp
theorem alter_spec {H : Heap} {v : PV} {p : Part} {s u : Sl} {isr up : List Int} {leader epoch version : Int} {K : Value → Heap → Prop} (h : PIn H v p) (hb : Small p) (hi : Ints H s isr) (hup : Ints H u up)
    (k : Ans K H (alterP p leader epoch version isr up)) : FnH Try.prog 11 #[v.val, .int .i64 leader, .int .i64 epoch, .int .i64 version, .slice s.p s.n s.c, .slice u.p u.n u.c] H K := by
  apply reassign_Alter_fn
  unfold reassign_Alter_vc
  refine right_spec h fun H1 s1 => ⟨_, rfl, br_intro (fun h1 => k.err (by rw [alterP, if_pos h1]) s1) (fun h1 => ?_)⟩
  have h1' : ¬ (!rightB p) = true := ne_of_false h1
  have hr : RightOf p := right_iff.1 (by simpa using h1)
  rw [alterP, if_neg h1'] at k
  have k := k.sub s1
  have hi := hi.sub s1
  have hup := hup.sub s1
  have h := h.sub s1
  refine ⟨fun b H' => H' = H1 ∧ b = (decide (epoch < p.epoch) || (epoch == p.epoch && decide (version < p.version))), br_intro (fun h2 => ⟨rfl, rfl, ?_⟩) (fun h2 => br_intro (fun h3 => ⟨rfl, rfl, ?_⟩) (fun h3 => ⟨rfl, rfl, ?_⟩)), ?_⟩
  · rw [h.epoch] at h2; rw [h2]; rfl
  · rw [h.epoch] at h2 h3; rw [h2, h3, h.version]; rfl
  · rw [h.epoch] at h2 h3; rw [h2, h3]; rfl
  rintro b H2 ⟨rfl, e2⟩
  refine br_intro (fun h2 => k.err (by rw [if_pos (e2 ▸ h2)]) (Sub.refl _)) (fun h2 => ?_)
  rw [if_neg (ne_of_false (e2 ▸ h2))] at k
  refine ⟨fun b H' => H' = H2 ∧ b = (decide (epoch > p.epoch) || decide (version > p.version)), br_intro (fun h2 => ⟨rfl, rfl, ?_⟩) (fun h2 => ⟨rfl, rfl, ?_⟩), ?_⟩
  · rw [h.epoch] at h2; rw [h2]; rfl
  · rw [h.epoch] at h2; rw [h2, h.version]; rfl
  rintro b H3 ⟨rfl, e3⟩
  refine br_intro (fun h2 => k.err (by rw [if_pos (e3 ▸ h2)]) (Sub.refl _)) (fun h3 => ?_)
  rw [if_neg (ne_of_false (e3 ▸ h3))] at k
  refine ⟨fun b H' => H' = H3 ∧ b = (leader == 0 || leader != p.leader), br_intro (fun h2 => ⟨rfl, rfl, ?_⟩) (fun h2 => ⟨rfl, rfl, ?_⟩), ?_⟩
  · rw [h2]; rfl
  · rw [h2, h.leader]; rfl
  rintro b H4 ⟨rfl, e4⟩
  refine br_intro (fun h2 => k.err (by rw [if_pos (e4 ▸ h2)]) (Sub.refl _)) (fun h4 => ?_)
  rw [if_neg (ne_of_false (e4 ▸ h4))] at k
  refine ids_spec hi ⟨_, rfl, br_intro (fun h5 => k.err (by rw [if_pos h5]) (Sub.refl _)) (fun h5 => ?_)⟩
  rw [if_neg (ne_of_false h5)] at k
  have l5 := ids_len (l := isr) (by simpa using h5)
  have n5 := hi.len
  refine contains_spec hi ⟨_, rfl, br_intro (fun h6 => k.err (by rw [if_pos h6]) (Sub.refl _)) (fun h6 => ?_)⟩
  rw [if_neg (ne_of_false h6)] at k
  refine within_spec hi h.replicas (by omega) fun H7 s7 => ⟨_, rfl, br_intro (fun h7 => k.err (by rw [if_pos h7]) s7) (fun h7 => ?_)⟩
  rw [if_neg (ne_of_false h7)] at k
  refine without_spec (hi.sub s7) (h.isr.sub s7) (by omega) fun r H8 s8 hr8 => ⟨r, rfl, ?_⟩
  have s78 := s7.trans s8
  have n8 := hr8.len
  have m8 : (withoutL isr p.isr).length ≤ isr.length := List.length_filter_le _ _
  refine within_spec hr8 (hup.sub s78) (by omega) fun H9 s9 => ⟨_, rfl, br_intro (fun h7 => k.err (by rw [if_pos h7]) (s78.trans s9)) (fun h9 => ?_)⟩
  rw [if_neg (ne_of_false h9)] at k
  have s9 := s78.trans s9
  refine clone_part_spec (h.sub s9) hb fun w H' hs hw => ⟨w.id, w.leader, w.epoch, w.version, w.isr, w.replicas, w.adding, w.removing, w.min, rfl, ?_⟩
  have s10 := s9.trans hs
  refine with_spec hw.replicas (hi.sub s10) (by rw [hw.replicas.len]; exact hb.replicas) fun r2 H11 s11 hr11 => ⟨r2, rfl, ?_⟩
  have hw11 : PIn H11 { w with isr := r2 } { p with isr := withL p.replicas isr } := ⟨hw.id, hw.leader, hw.epoch, hw.version, hw.min, hr11, hw.replicas.sub s11, hw.adding.sub s11, hw.removing.sub s11⟩
  have T := changed_only (K := K) hw11 (by have := hr.version; show 0 ≤ p.version ∧ p.version ≤ _; omega) fun z hz => k z H11 (s10.trans s11) hz
  exact T

def finishB (p : Part) (up : List Int) : Part :=
  if (p.leader != 0 && !decide (p.leader ∈ withoutL p.replicas p.removing)) = true
  then ledP { p with replicas := withoutL p.replicas p.removing, adding := [], removing := [], isr := withL p.isr (withoutL p.replicas p.removing) } (wayL (withoutL p.replicas p.removing) (withL p.isr (withoutL p.replicas p.removing)) up 0)
  else { p with replicas := withoutL p.replicas p.removing, adding := [], removing := [], isr := withL p.isr (withoutL p.replicas p.removing) }
def finishP (p : Part) (up : List Int) : Part × Int :=
  if (!rightB p) = true then (zeroPart, 1) else if (!openB p) = true then (zeroPart, 19) else if (!withinL (withoutL p.replicas p.removing) p.isr) = true then (zeroPart, 19) else
  changedP (finishB p up)
theorem finish_spec {H : Heap} {v : PV} {p : Part} {u : Sl} {up : List Int} {K : Value → Heap → Prop} (h : PIn H v p) (hb : Small p) (hup : Ints H u up)
    (k : Ans K H (finishP p up)) : FnH Try.prog 12 #[v.val, .slice u.p u.n u.c] H K := by
  apply reassign_Finish_fn
  unfold reassign_Finish_vc
  have n1 := h.replicas.len
  have b1 := hb.replicas
  refine without_spec h.replicas h.removing (by omega) fun t H1 s1 ht => ⟨t, rfl, ?_⟩
  have h := h.sub s1
  have hup := hup.sub s1
  have k := k.sub s1
  refine right_spec h fun H2 s2 => ⟨_, rfl, br_intro (fun h1 => k.err (by rw [finishP, if_pos h1]) s2) (fun h1 => ?_)⟩
  have hr : RightOf p := right_iff.1 (by simpa using h1)
  rw [finishP, if_neg (ne_of_false h1)] at k
  have h := h.sub s2
  have hup := hup.sub s2
  have k := k.sub s2
  have ht := ht.sub s2
  refine open_spec h ⟨ids_len hr.adding, ids_len hr.removing⟩ ⟨_, rfl, br_intro (fun h1 => k.err (by rw [if_pos h1]) (Sub.refl _)) (fun h1 => ?_)⟩
  rw [if_neg (ne_of_false h1)] at k
  have nt := ht.len
  have bt : (withoutL p.replicas p.removing).length ≤ p.replicas.length := List.length_filter_le _ _
  refine within_spec ht h.isr (by omega) fun H4 s4 => ⟨_, rfl, br_intro (fun h1 => k.err (by rw [if_pos h1]) s4) (fun h1 => ?_)⟩
  rw [if_neg (ne_of_false h1)] at k
  have k := k.sub s4
  refine clone_part_spec (h.sub s4) hb fun w H5 s5 hw => ⟨w.id, w.leader, w.epoch, w.version, w.isr, w.replicas, w.adding, w.removing, w.min, rfl, ?_⟩
  have s45 := s4.trans s5
  have k := k.sub s5
  refine with_spec hw.isr (ht.sub s45) (by rw [hw.isr.len]; exact hb.isr) fun r H6 s6 hr6 => ⟨r, rfl, ?_⟩
  have k := k.sub s6
  have ht := ht.sub (s45.trans s6)
  have hup := hup.sub (s45.trans s6)
  have he : 0 ≤ p.epoch ∧ p.epoch ≤ 1000000000 := by have := hr.epoch; omega
  have hv : 0 ≤ p.version ∧ p.version ≤ 1000000000 := by have := hr.version; omega
  have hw6 : PIn H6 ⟨w.id, w.leader, w.epoch, w.version, r, t, ⟨none, 0, 0⟩, ⟨none, 0, 0⟩, w.min⟩ { p with replicas := withoutL p.replicas p.removing, adding := [], removing := [], isr := withL p.isr (withoutL p.replicas p.removing) } :=
    ⟨hw.id, hw.leader, hw.epoch, hw.version, hw.min, hr6, ht, Ints.nil _, Ints.nil _⟩
  unfold finishB at k
  refine br_intro (fun h2 => ?_) (fun h2 => ?_) <;> rw [hw.leader] at h2
  · have e7 : w.leader = p.leader := hw.leader
    rw [e7]
    refine contains_spec ht ⟨_, rfl, br_intro (fun h3 => ?_) (fun h3 => ?_)⟩
    · rw [if_pos (by rw [h2, h3]; rfl)] at k
      rw [← e7]
      have T := way_led (K := K) ht hr6 hup (by omega) hw6 he hv k
      exact T
    · rw [if_neg (by rw [h2, h3]; simp)] at k
      rw [← e7]
      have T := changed_only (K := K) hw6 hv fun z hz => k z H6 (Sub.refl _) hz
      exact T
  · rw [if_neg (by rw [h2]; simp)] at k
    have T := changed_only (K := K) hw6 hv fun z hz => k z H6 (Sub.refl _) hz
    exact T

def cancelB (p : Part) (up : List Int) : Part :=
  if p.leader ∈ p.adding
  then ledP { p with replicas := withoutL p.replicas p.adding, isr := withoutL p.isr p.adding, adding := [], removing := [] } (wayL (withoutL p.replicas p.adding) (withoutL p.isr p.adding) up 0)
  else { p with replicas := withoutL p.replicas p.adding, isr := withoutL p.isr p.adding, adding := [], removing := [] }
def cancelP (p : Part) (up : List Int) : Part × Int :=
  if (!rightB p) = true then (zeroPart, 1) else if (!openB p) = true then (zeroPart, 19) else if withinL p.isr p.adding = true then (zeroPart, 19) else
  changedP (cancelB p up)
theorem cancel_spec {H : Heap} {v : PV} {p : Part} {u : Sl} {up : List Int} {K : Value → Heap → Prop} (h : PIn H v p) (hb : Small p) (hup : Ints H u up)
    (k : Ans K H (cancelP p up)) : FnH Try.prog 18 #[v.val, .slice u.p u.n u.c] H K := by
  apply reassign_Cancel_fn
  unfold reassign_Cancel_vc
  refine right_spec h fun H2 s2 => ⟨_, rfl, br_intro (fun h1 => k.err (by rw [cancelP, if_pos h1]) s2) (fun h1 => ?_)⟩
  have hr : RightOf p := right_iff.1 (by simpa using h1)
  rw [cancelP, if_neg (ne_of_false h1)] at k
  have h := h.sub s2
  have hup := hup.sub s2
  have k := k.sub s2
  refine open_spec h ⟨ids_len hr.adding, ids_len hr.removing⟩ ⟨_, rfl, br_intro (fun h1 => k.err (by rw [if_pos h1]) (Sub.refl _)) (fun h1 => ?_)⟩
  rw [if_neg (ne_of_false h1)] at k
  refine within_spec h.isr h.adding (by rw [h.isr.len]; exact hb.isr) fun H4 s4 => ⟨_, rfl, br_intro (fun h1 => k.err (by rw [if_pos h1]) s4) (fun h1 => ?_)⟩
  rw [if_neg (ne_of_false h1)] at k
  have k := k.sub s4
  refine clone_part_spec (h.sub s4) hb fun w H5 s5 hw => ⟨w.id, w.leader, w.epoch, w.version, w.isr, w.replicas, w.adding, w.removing, w.min, rfl, ?_⟩
  have s45 := s4.trans s5
  have k := k.sub s5
  refine contains_spec hw.adding ⟨_, rfl, ?_⟩
  have e7 : decide (w.leader ∈ p.adding) = decide (p.leader ∈ p.adding) := by rw [hw.leader]
  refine without_spec hw.replicas hw.adding (by rw [hw.replicas.len]; exact hb.replicas) fun r6 H6 s6 hr6 => ⟨r6, rfl, s6, ?_⟩
  refine without_spec (hw.isr.sub s6) (hw.adding.sub s6) (by rw [hw.isr.len]; exact hb.isr) fun r7 H7 s7 hr7 => ⟨r7, rfl, s6.trans s7, ?_⟩
  have k := k.sub (s6.trans s7)
  have hup := hup.sub (s45.trans (s6.trans s7))
  have he : 0 ≤ p.epoch ∧ p.epoch ≤ 1000000000 := by have := hr.epoch; omega
  have hv : 0 ≤ p.version ∧ p.version ≤ 1000000000 := by have := hr.version; omega
  have hw6 : PIn H7 ⟨w.id, w.leader, w.epoch, w.version, r7, r6, ⟨none, 0, 0⟩, ⟨none, 0, 0⟩, w.min⟩ { p with replicas := withoutL p.replicas p.adding, isr := withoutL p.isr p.adding, adding := [], removing := [] } :=
    ⟨hw.id, hw.leader, hw.epoch, hw.version, hw.min, hr7, hr6.sub s7, Ints.nil _, Ints.nil _⟩
  have n6 := hr6.len
  have m6 : (withoutL p.replicas p.adding).length ≤ p.replicas.length := List.length_filter_le _ _
  have b6 := hb.replicas
  unfold cancelB at k
  refine br_intro (fun h2 => ?_) (fun h2 => ?_) <;> rw [e7] at h2
  · rw [if_pos (of_decide_eq_true h2)] at k
    have T := way_led (K := K) (hr6.sub s7) hr7 hup (by omega) hw6 he hv k
    exact T
  · rw [if_neg (of_decide_eq_false h2)] at k
    have T := changed_only (K := K) hw6 hv fun z hz => k z H7 (Sub.refl _) hz
    exact T
end Go.Proofs.Ytahempkggcbegaa
