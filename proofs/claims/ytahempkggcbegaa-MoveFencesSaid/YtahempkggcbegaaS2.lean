/- What a partition's state is, and what the small functions on it do. -/
import Derived.Test.YtahempkggcbegaaS1
import Derived.Test.YtahempkggcbegaaV2
namespace Go.Proofs.Ytahempkggcbegaa
open Go.HL

theorem length_le_of_nodup {l : List Int} : ∀ (m : List Int), l.Nodup → (∀ x ∈ l, x ∈ m) → l.length ≤ m.length := by
  intro m
  induction m generalizing l with
  | nil =>
    intro _ h
    cases l with
    | nil => simp
    | cons x l => exact absurd (h x (by simp)) (by simp)
  | cons a m ih =>
    intro hn h
    have h1 : (l.erase a).length ≤ m.length := ih (hn.erase a) fun x hx => by
      have hx' := (hn.mem_erase_iff.1 hx)
      have := h x hx'.2
      rcases List.mem_cons.1 this with q | q
      · exact absurd q hx'.1
      · exact q
    by_cases ha : a ∈ l
    · rw [List.length_erase_of_mem ha] at h1; simp; omega
    · rw [List.erase_of_not_mem ha] at h1; simp; omega
theorem ids_nodup {l : List Int} (h : idsL l = true) : l.Nodup := (of_decide_eq_true h).1
theorem ids_mem {l : List Int} (h : idsL l = true) {x : Int} (hx : x ∈ l) : 1 ≤ x ∧ x ≤ 7 := (of_decide_eq_true h).2 x hx
theorem ids_len {l : List Int} (h : idsL l = true) : l.length ≤ 7 :=
  length_le_of_nodup [1, 2, 3, 4, 5, 6, 7] (ids_nodup h) fun x hx => by have := ids_mem h hx; simp; omega

/-- A partition's state, as data. -/
structure Part where
  id : Int
  leader : Int
  epoch : Int
  version : Int
  isr : List Int
  replicas : List Int
  adding : List Int
  removing : List Int
  min : Int
/-- And as it lies in memory. -/
structure PV where
  id : Int
  leader : Int
  epoch : Int
  version : Int
  isr : Sl
  replicas : Sl
  adding : Sl
  removing : Sl
  min : Int
abbrev PV.val (v : PV) : Value := .agg #[.int .i64 v.id, .int .i64 v.leader, .int .i64 v.epoch, .int .i64 v.version, .slice v.isr.p v.isr.n v.isr.c, .slice v.replicas.p v.replicas.n v.replicas.c, .slice v.adding.p v.adding.n v.adding.c, .slice v.removing.p v.removing.n v.removing.c, .int .i64 v.min]
structure PIn (H : Heap) (v : PV) (p : Part) : Prop where
  id : v.id = p.id
  leader : v.leader = p.leader
  epoch : v.epoch = p.epoch
  version : v.version = p.version
  min : v.min = p.min
  isr : Ints H v.isr p.isr
  replicas : Ints H v.replicas p.replicas
  adding : Ints H v.adding p.adding
  removing : Ints H v.removing p.removing
theorem PIn.sub {H H' : Heap} (hs : HL.Sub H H') {v : PV} {p : Part} (h : PIn H v p) : PIn H' v p :=
  ⟨h.id, h.leader, h.epoch, h.version, h.min, h.isr.sub hs, h.replicas.sub hs, h.adding.sub hs, h.removing.sub hs⟩

def rightB (p : Part) : Bool :=
  decide (1 ≤ p.id ∧ p.id ≤ 16) && decide (1 ≤ p.min ∧ p.min ≤ 5) && decide (1 ≤ p.epoch ∧ p.epoch ≤ 1000000000) && decide (1 ≤ p.version ∧ p.version ≤ 1000000000) &&
  idsL p.replicas && idsL p.isr && idsL p.adding && idsL p.removing && decide (0 < p.isr.length) && withinL p.isr p.replicas && withinL p.adding p.replicas && withinL p.removing p.replicas &&
  decide ((withL p.adding p.removing).length = 0) && decide (p.removing.length < p.replicas.length) && (decide (p.leader = 0) || decide (p.leader ∈ p.isr))

theorem right_spec {H : Heap} {v : PV} {p : Part} {K : Value → Heap → Prop} (h : PIn H v p) (k : ∀ H', HL.Sub H H' → K (.bool (rightB p)) H') : FnH Try.prog 8 #[v.val] H K := by
  apply reassign_Right_fn
  have no : ∀ H', HL.Sub H H' → rightB p = false → K (.bool false) H' := fun H' hs e => e ▸ k H' hs
  obtain ⟨e1, e2, e3, e4, e5, hi, hr, ha, hm⟩ := h
  rw [e1, e2, e3, e4, e5]
  refine number_spec ⟨_, rfl, br_intro (fun h1 => ?_) (fun h1 => no _ (Sub.refl _) (by simp only [rightB, h1, Bool.false_and]))⟩
  refine number_spec ⟨_, rfl, br_intro (fun h2 => ?_) (fun h2 => no _ (Sub.refl _) (by simp only [rightB, h2, Bool.and_false, Bool.false_and]))⟩
  refine number_spec ⟨_, rfl, br_intro (fun h3 => ?_) (fun h3 => no _ (Sub.refl _) (by simp only [rightB, h3, Bool.and_false, Bool.false_and]))⟩
  refine number_spec ⟨_, rfl, br_intro (fun h4 => ?_) (fun h4 => no _ (Sub.refl _) (by simp only [rightB, h4, Bool.and_false, Bool.false_and]))⟩
  refine ids_spec hr ⟨_, rfl, br_intro (fun h5 => ?_) (fun h5 => no _ (Sub.refl _) (by simp only [rightB, h5, Bool.and_false, Bool.false_and]))⟩
  refine ids_spec hi ⟨_, rfl, br_intro (fun h6 => ?_) (fun h6 => no _ (Sub.refl _) (by simp only [rightB, h6, Bool.and_false, Bool.false_and]))⟩
  refine ids_spec ha ⟨_, rfl, br_intro (fun h7 => ?_) (fun h7 => no _ (Sub.refl _) (by simp only [rightB, h7, Bool.and_false, Bool.false_and]))⟩
  refine ids_spec hm ⟨_, rfl, br_intro (fun h8 => ?_) (fun h8 => no _ (Sub.refl _) (by simp only [rightB, h8, Bool.and_false, Bool.false_and]))⟩
  have l5 := ids_len h5; have l6 := ids_len h6; have l7 := ids_len h7; have l8 := ids_len h8
  have n5 := hr.len; have n6 := hi.len; have n7 := ha.len; have n8 := hm.len
  have hh9 : ∀ b, decide ((v.isr.n : Int) > 0) = b → decide (0 < p.isr.length) = b := fun b hb => by
    rw [← hb]; exact decide_eq_decide.2 (by omega)
  refine br_intro (fun h9 => ?_) (fun h9 => no _ (Sub.refl _) (by simp only [rightB, hh9 _ h9, Bool.and_false, Bool.false_and]))
  have h9 := hh9 _ h9
  refine within_spec hi hr (by omega) fun H1 s1 => ⟨_, rfl, br_intro (fun h10 => ?_) (fun h10 => no _ s1 (by simp only [rightB, h10, Bool.and_false, Bool.false_and]))⟩
  refine within_spec (ha.sub s1) (hr.sub s1) (by omega) fun H2 s2 => ⟨_, rfl, br_intro (fun h11 => ?_) (fun h11 => no _ (s1.trans s2) (by simp only [rightB, h11, Bool.and_false, Bool.false_and]))⟩
  have s2 := s1.trans s2
  refine within_spec (hm.sub s2) (hr.sub s2) (by omega) fun H3 s3 => ⟨_, rfl, br_intro (fun h12 => ?_) (fun h12 => no _ (s2.trans s3) (by simp only [rightB, h12, Bool.and_false, Bool.false_and]))⟩
  have s3 := s2.trans s3
  refine with_spec (ha.sub s3) (hm.sub s3) (by omega) fun r H4 s4 hr4 => ⟨r, rfl, ?_⟩
  have s4 := s3.trans s4
  have n9 := hr4.len
  have hh13 : ∀ b, ((r.n : Int) == 0) = b → decide ((withL p.adding p.removing).length = 0) = b := fun b hb => by
    rw [← hb, ← n9, Bool.eq_iff_iff]; simp
  refine br_intro (fun h13 => ?_) (fun h13 => no _ s4 (by simp only [rightB, hh13 _ h13, Bool.and_false, Bool.false_and]))
  have h13 := hh13 _ h13
  have hh14 : ∀ b, decide ((v.removing.n : Int) < v.replicas.n) = b → decide (p.removing.length < p.replicas.length) = b := fun b hb => by
    rw [← hb]; exact decide_eq_decide.2 (by omega)
  refine br_intro (fun h14 => ?_) (fun h14 => no _ s4 (by simp only [rightB, hh14 _ h14, Bool.and_false, Bool.false_and]))
  have h14 := hh14 _ h14
  have fin : ∀ b : Bool, (decide (p.leader = 0) || decide (p.leader ∈ p.isr)) = b → rightB p = b := fun b hb => by
    simp only [rightB, h1, h2, h3, h4, h5, h6, h7, h8, h9, h10, h11, h12, h13, h14, Bool.and_self, Bool.true_and, hb]
  have k4 := k H4 s4
  refine br_intro (fun h15 => ?_) (fun h15 => ?_)
  · have h15 : p.leader = 0 := by simpa using h15
    rw [fin true (by simp [h15])] at k4
    exact k4
  · have h15 : ¬ p.leader = 0 := by simpa using h15
    refine contains_spec (hi.sub s4) ⟨_, rfl, ?_⟩
    rw [fin (decide (p.leader ∈ p.isr)) (by rw [decide_eq_false h15, Bool.false_or])] at k4
    exact k4
end Go.Proofs.Ytahempkggcbegaa
