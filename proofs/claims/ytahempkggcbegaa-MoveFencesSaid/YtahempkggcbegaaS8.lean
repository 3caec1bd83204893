/- What Begin does; the law's own small functions. -/
import Derived.Test.YtahempkggcbegaaS7
namespace Go.Proofs.Ytahempkggcbegaa
open Go.HL
set_option maxHeartbeats 400000

theorem clone_own_spec {H : Heap} {s : Sl} {l : List Int} {K : Value → Heap → Prop} (hl : Ints H s l) (hb : s.n ≤ 1000000)
    (k : ∀ r H', HL.Sub H H' → Own H' 3 1 r (l.map (Value.int .i64)) → Fresh H r → K (.slice r.p r.n r.c) H') : FnH Try.prog 32 #[.slice s.p s.n s.c] H K := by
  apply slices_Clone_Lint_int_fn
  unfold slices_Clone_Lint_int_vc
  refine br_intro (fun hn => ?_) (fun hn => ?_)
  · have hp : s.p = none := by simpa using hn
    rw [hl.pnone hp] at k
    exact k ⟨none, 0, 0⟩ H (Sub.refl _) (Own.nil _ _ _) (Fresh.nil _ _ _)
  · intro q hq
    refine letH_intro fun H1 e1 => ?_
    have hs1 : HL.Sub H H1 := by rw [e1]; exact Sub.new hq _
    have ho : Own H1 3 1 ⟨some ⟨q, 0, none⟩, 0, 0⟩ [] := ⟨rfl, Nat.le_refl _, .inr ⟨q, #[], rfl, by rw [e1]; exact Heap.upd_same _ _ _, rfl, fun i h => by simp at h⟩⟩
    refine append_own (s := ⟨some ⟨q, 0, none⟩, 0, 0⟩) ok22 ok22.under ho (H0 := H) (fun b o sp h => by simp at h; rw [← h.1]; exact hq) hs1 (hl.cells.sub hs1) (by simp [hl.len]) (noTups_ints _ _) (by show 0 + s.n ≤ _; omega) ?_
    intro r H2 go gf gs gn
    exact ⟨r, rfl, k r H2 gs (by simpa using go) gf⟩

def beginB (p : Part) (targets : List Int) : Part := { p with adding := withoutL targets p.replicas, removing := withoutL p.replicas targets, replicas := targets ++ withoutL p.replicas targets }
def beginP (p : Part) (targets up : List Int) : Part × Int :=
  if (!rightB p || (!idsL targets || (decide (targets.length = 0) || decide (5 < targets.length)))) = true then (zeroPart, 1) else if openB p = true then (zeroPart, 19) else
  if (!withinL (withoutL targets p.replicas) up) = true then (zeroPart, 8) else if targets = p.replicas then (p, 0) else changedP (beginB p targets)
theorem begin_spec {H : Heap} {v : PV} {p : Part} {s u : Sl} {targets up : List Int} {K : Value → Heap → Prop} (h : PIn H v p) (hb : Small p) (hi : Ints H s targets) (hup : Ints H u up)
    (k : Ans K H (beginP p targets up)) : FnH Try.prog 9 #[v.val, .slice s.p s.n s.c, .slice u.p u.n u.c] H K := by
  apply reassign_Begin_fn
  unfold reassign_Begin_vc
  have n0 := hi.len
  refine ⟨fun b H' => HL.Sub H H' ∧ b = (!rightB p || (!idsL targets || (decide (targets.length = 0) || decide (5 < targets.length)))), right_spec h fun H1 s1 => ⟨_, rfl, br_intro (fun h1 => ⟨rfl, s1, by rw [h1, Bool.true_or]⟩) (fun h1 => ?_)⟩, ?_⟩
  · refine ids_spec (hi.sub s1) ⟨_, rfl, br_intro (fun h2 => ⟨rfl, s1, by rw [h1, h2, Bool.true_or, Bool.or_true]⟩) (fun h2 => ?_)⟩
    have e : (((s.n : Nat) : Int) == 0) = decide (targets.length = 0) := by rw [eqb]; exact decide_eq_decide.2 (by omega)
    refine br_intro (fun h3 => ⟨rfl, s1, ?_⟩) (fun h3 => ⟨rfl, s1, ?_⟩) <;> rw [e] at h3
    · rw [h3, Bool.true_or, Bool.or_true, Bool.or_true]
    · rw [h1, h2, h3, Bool.false_or, Bool.false_or, Bool.false_or]; have e2 : decide (((s.n : Nat) : Int) > 5) = decide (5 < targets.length) := decide_eq_decide.2 (by omega)
      rw [e2]
  rintro b H3 ⟨s3, eb⟩
  refine br_intro (fun h1 => k.err (by rw [beginP, if_pos (eb ▸ h1)]) s3) (fun h1 => ?_)
  rw [eb] at h1
  rw [beginP, if_neg (ne_of_false h1)] at k
  simp only [Bool.or_eq_false_iff] at h1
  obtain ⟨h1, h2, h3, h4⟩ := h1
  have hr : RightOf p := right_iff.1 (by simpa using h1)
  have h := h.sub s3
  have hi := hi.sub s3
  have hup := hup.sub s3
  have k := k.sub s3
  have l1 : targets.length ≤ 5 := by simpa using h4
  refine open_spec h ⟨ids_len hr.adding, ids_len hr.removing⟩ ⟨_, rfl, br_intro (fun h1 => k.err (by rw [if_pos h1]) (Sub.refl _)) (fun h1 => ?_)⟩
  rw [if_neg (ne_of_false h1)] at k
  refine without_spec hi h.replicas (by omega) fun r5 H5 s5 hr5 => ⟨r5, rfl, ?_⟩
  have n5 := hr5.len
  have m5 : (withoutL targets p.replicas).length ≤ targets.length := List.length_filter_le _ _
  refine within_spec hr5 (hup.sub s5) (by omega) fun H6 s6 => ⟨_, rfl, br_intro (fun h1 => k.err (by rw [if_pos h1]) (s5.trans s6)) (fun h1 => ?_)⟩
  rw [if_neg (ne_of_false h1)] at k
  have s6 := s5.trans s6
  refine clone_part_spec (h.sub s6) hb fun w H7 s7 hw => ⟨w.id, w.leader, w.epoch, w.version, w.isr, w.replicas, w.adding, w.removing, w.min, rfl, ?_⟩
  have s7 := s6.trans s7
  have k := k.sub s7
  have hi := hi.sub s7
  refine equal_spec hi hw.replicas ⟨_, rfl, br_intro (fun h2 => ?_) (fun h2 => ?_)⟩
  · rw [if_pos (of_decide_eq_true h2)] at k
    exact k w H7 (Sub.refl _) hw
  · rw [if_neg (of_decide_eq_false h2)] at k
    refine without_spec hi hw.replicas (by omega) fun r9 H9 s9 hr9 => ⟨r9, rfl, s9, ?_⟩
    refine without_spec (hw.replicas.sub s9) (hi.sub s9) (by rw [hw.replicas.len]; exact hb.replicas) fun r10 H10 s10 hr10 => ⟨r10, rfl, s9.trans s10, ?_⟩
    have s710 := s9.trans s10
    refine clone_own_spec (hi.sub s710) (by omega) fun r11 H11 s11 ho11 hf11 => ⟨r11, rfl, s11, ?_⟩
    have n10 := hr10.len
    have m10 : (withoutL p.replicas targets).length ≤ p.replicas.length := List.length_filter_le _ _
    have lr := ids_len hr.replicas
    have n11 := ho11.1
    simp only [List.length_map, Nat.mul_one] at n11
    refine append_own ok22 ok22.under ho11 hf11 s11 (hr10.cells.sub s11) (by simp [hr10.len]) (noTups_ints _ _) (by omega) ?_
    intro r12 H12 ho12 hf12 s12 n12
    refine ⟨r12, rfl, ?_⟩
    have hr12 : Ints H12 r12 (targets ++ withoutL p.replicas targets) := Own.ints (by rw [List.map_append]; exact ho12) (by simp; omega)
    have s712 := s710.trans s12
    have hw12 : PIn H12 ⟨w.id, w.leader, w.epoch, w.version, w.isr, r12, r9, r10, w.min⟩ (beginB p targets) :=
      ⟨hw.id, hw.leader, hw.epoch, hw.version, hw.min, hw.isr.sub s712, hr12, hr9.sub (s10.trans s12), hr10.sub s12⟩
    have T := changed_only (K := K) hw12 (by have := hr.version; show 0 ≤ p.version ∧ p.version ≤ _; omega) fun z hz => k z H12 s712 hz
    exact T

theorem sameList_spec {H : Heap} {s t : Sl} {l m : List Int} {K : Value → Heap → Prop} (hl : Ints H s l) (hm : Ints H t m) (k : K (.bool (decide (l = m))) H) :
    FnH Try.prog 10 #[.slice s.p s.n s.c, .slice t.p t.n t.c] H K := by
  apply logboomlaw11_sameList_fn
  unfold logboomlaw11_sameList_vc
  have h1 := hl.len
  have h2 := hm.len
  have hbig := hl.big
  have no : ¬ l = m → K (.bool false) H := fun q => by rw [decide_eq_false q] at k; exact k
  refine br_intro (fun hne => ?_) (fun heq => ?_)
  · have hne : ¬ (s.n : Int) = t.n := by simpa using hne
    exact no fun q => hne (by rw [h1, h2, q])
  · have heq : (s.n : Int) = t.n := by simpa using heq
    refine ⟨fun n H1 => H1 = H ∧ 0 ≤ n ∧ n ≤ s.n ∧ l.take n.toNat = m.take n.toNat, fun n _ => (s.n - n).toNat, ⟨rfl, by omega, by omega, by simp⟩, ?_⟩
    rintro n H1 ⟨rfl, h3, h4, h5⟩
    refine br_intro (fun hlt => ?_) (fun hge => ?_)
    · have hlt := of_decide_eq_true hlt
      obtain ⟨b, o, g1, g2, g3, g4⟩ := hl.at_ h3 hlt
      obtain ⟨b', o', f1, f2, f3, f4⟩ := hm.at_ h3 (by omega)
      refine ⟨b, o, g1, g2, g3, _, g4, b', o', f1, f2, f3, _, f4, br_intro (fun he => ?_) (fun he => ?_)⟩
      · have he : ¬ l.getD n.toNat 0 = m.getD n.toNat 0 := by simpa using he
        exact no fun q => he (by rw [q])
      · have he : l.getD n.toNat 0 = m.getD n.toNat 0 := by simpa using he
        rw [wrap64_id (by omega) (by omega)]
        refine ⟨rfl, ⟨rfl, by omega, by omega, ?_⟩, by dsimp only; omega⟩
        rw [take_next (d := 0) h3 (by omega), take_next (d := 0) h3 (by omega), h5, he]
    · have hge : ¬ n < s.n := by simpa using hge
      rw [take_all (by omega), take_all (by omega)] at h5
      rw [decide_eq_true h5] at k; exact k
theorem in_spec {H : Heap} {s : Sl} {l : List Int} {x : Int} {K : Value → Heap → Prop} (h : Ints H s l) (k : K (.bool (decide (x ∈ l))) H) :
    FnH Try.prog 13 #[.slice s.p s.n s.c, .int .i64 x] H K := by
  apply logboomlaw11_in_fn
  unfold logboomlaw11_in_vc
  have hl := h.len
  have hbig := h.big
  refine ⟨fun n H1 => H1 = H ∧ 0 ≤ n ∧ n ≤ s.n ∧ x ∉ l.take n.toNat, fun n _ => (s.n - n).toNat, ⟨rfl, by omega, by omega, by simp⟩, ?_⟩
  rintro n H1 ⟨rfl, h0, h1, hx⟩
  refine br_intro (fun hlt => ?_) (fun hge => ?_)
  · have hlt := of_decide_eq_true hlt
    obtain ⟨b, o, g1, g2, g3, g4⟩ := h.at_ h0 hlt
    refine ⟨b, o, g1, g2, g3, _, g4, br_intro (fun he => ?_) (fun hne => ?_)⟩
    · have he : l.getD n.toNat 0 = x := by simpa using he
      have hm : x ∈ l := by rw [← he]; exact getD_mem h0 (by omega)
      rw [decide_eq_true hm] at k; exact k
    · have hne : ¬ l.getD n.toNat 0 = x := by simpa using hne
      rw [wrap64_id (by omega) (by omega)]
      refine ⟨rfl, ⟨rfl, by omega, by omega, ?_⟩, by dsimp only; omega⟩
      rw [take_next (d := 0) h0 (by omega)]
      simp only [List.mem_append, List.mem_singleton]
      rintro (q | q)
      · exact hx q
      · exact hne q.symm
  · have hge : ¬ n < s.n := by simpa using hge
    rw [take_all (by omega)] at hx
    rw [decide_eq_false hx] at k; exact k
def pickI (c n : Int) : Int := Int.tmod (if c < 0 then IntKind.wrap .i64 (0 - IntKind.wrap .i64 (c + 1)) else c) n
theorem pick_spec {c n : Int} {H : Heap} {K : Value → Heap → Prop} (hn : n ≠ 0) (k : K (.int .i64 (pickI c n)) H) : FnH Try.prog 14 #[.int .i64 c, .int .i64 n] H K := by
  apply logboomlaw11_pick_fn
  unfold pickI at k
  refine br_intro (fun h => ⟨hn, ?_⟩) (fun h => ⟨hn, ?_⟩)
  · rw [if_pos (of_decide_eq_true h)] at k; exact k
  · rw [if_neg (of_decide_eq_false h)] at k; exact k
def knownP : Part := ⟨1, 1, 3, 5, [1, 2], [1, 2, 3], [], [], 2⟩
theorem known_spec {H : Heap} {K : Value → Heap → Prop} (k : ∀ (u : PV) H', HL.Sub H H' → PIn H' u knownP → K u.val H') : FnH Try.prog 21 #[] H K := by
  apply logboomlaw11_known_fn
  unfold logboomlaw11_known_vc
  intro q1 h1
  refine letH_intro fun H1 e1 => ?_
  intro q2 h2
  refine letH_intro fun H2 e2 => ?_
  have s1 : HL.Sub H H1 := by rw [e1]; exact Sub.new h1 _
  have s2 : HL.Sub H1 H2 := by rw [e2]; exact Sub.new h2 _
  have i1 : Ints H1 ⟨some ⟨q1, 0, none⟩, 2, 2⟩ [1, 2] := ⟨rfl, by show (2 : Nat) ≤ _; omega, Nat.le_refl _, by
    rw [e1]; exact CellsAt.block (Heap.upd_same _ _ _) (fun i hi => by
      match i, hi with
      | 0, _ => rfl
      | 1, _ => rfl)⟩
  have i2 : Ints H2 ⟨some ⟨q2, 0, none⟩, 3, 3⟩ [1, 2, 3] := ⟨rfl, by show (3 : Nat) ≤ _; omega, Nat.le_refl _, by
    rw [e2]; exact CellsAt.block (Heap.upd_same _ _ _) (fun i hi => by
      match i, hi with
      | 0, _ => rfl
      | 1, _ => rfl
      | 2, _ => rfl)⟩
  exact k ⟨1, 1, 3, 5, ⟨some ⟨q1, 0, none⟩, 2, 2⟩, ⟨some ⟨q2, 0, none⟩, 3, 3⟩, ⟨none, 0, 0⟩, ⟨none, 0, 0⟩, 2⟩ H2 (s1.trans s2) ⟨rfl, rfl, rfl, rfl, rfl, i1.sub s2, i2, Ints.nil _, Ints.nil _⟩
end Go.Proofs.Ytahempkggcbegaa
