/- Chapter 8: answered. -/
import Derived.Test.YtkabaoigablphaaS9
namespace Go.Proofs.Ytkabaoigablphaa
open Go.HL
set_option maxHeartbeats 800000
set_option maxRecDepth 10000

/-- A batch in the log, and its records' place. -/
abbrev Bs := Bt × Sl
abbrev eBs : Bs → List Value := fun x => [.int .i64 x.1.base, .int .i64 0, .int .i64 x.1.pid, .int .i64 x.1.epoch, .int .i64 x.1.seq, .slice x.2.p x.2.n x.2.c]
theorem eBslen : ∀ x, (eBs x).length = 6 := fun _ => rfl
/-- What the walk from the log's end keeps: epoch, sequence behind, count, found. -/
structure Ans where
  epoch : Int
  behind : Int
  count : Int
  found : Int
def ansStep (b : Bt) (A : Ans) (x : Bt) : Ans :=
  if x.pid ≠ b.pid then A else
    ⟨if A.epoch < 0 then x.epoch else A.epoch, if A.epoch < 0 then x.seq + x.n else A.behind, if x.epoch = (if A.epoch < 0 then x.epoch else A.epoch) then A.count + 1 else A.count,
      if x.epoch = b.epoch ∧ x.seq = b.seq ∧ x.n = b.n ∧ (if A.epoch < 0 then x.epoch else A.epoch) = b.epoch ∧ (if x.epoch = (if A.epoch < 0 then x.epoch else A.epoch) then A.count + 1 else A.count) ≤ 5 then x.base else A.found⟩
def ansF (b : Bt) (l : List Bt) : Ans := l.foldr (fun x A => ansStep b A x) ⟨-1, 0, 0, -1⟩
def finB (b : Bt) (at0 e : Int) (A : Ans) : Bool :=
  if A.found ≥ 0 then decide (e = 0) && decide (at0 = A.found)
  else if e = 0 then decide (at0 = -1) && ((decide (b.epoch = A.epoch) && decide (b.seq = A.behind)) || (decide (b.epoch > A.epoch) && decide (b.seq = 0)))
  else if e = 13 then decide (b.epoch < A.epoch)
  else if e = 11 then (decide (b.epoch = A.epoch) && decide (b.seq > A.behind)) || (decide (b.epoch > A.epoch) && decide (b.seq > 0))
  else decide (e = 12) && decide (b.epoch = A.epoch) && decide (b.seq < A.behind)
theorem ansF_count {b : Bt} : ∀ l : List Bt, 0 ≤ (ansF b l).count ∧ (ansF b l).count ≤ l.length := by
  intro l
  induction l with
  | nil => exact ⟨Int.le_refl _, Int.le_refl _⟩
  | cons x l ih =>
    have e : ansF b (x :: l) = ansStep b (ansF b l) x := rfl
    rw [e]
    unfold ansStep
    simp only [List.length_cons]
    split
    · omega
    · dsimp only
      split <;> omega
theorem ansF_cons {b : Bt} {l : List Bt} {j : Nat} (h : j < l.length) : ansF b (l.drop j) = ansStep b (ansF b (l.drop (j + 1))) l[j] := by
  rw [List.drop_eq_getElem_cons h]; rfl
theorem beq_dec (a b : Int) : (a == b) = decide (a = b) := by
  by_cases h : a = b
  · rw [decide_eq_true h, h]; simp
  · rw [decide_eq_false h]; simpa using h
theorem answered_spec {H : Heap} {s : Sl} {l : List Bs} {b : Bt} {sb : Sl} {at0 e : Int} {K : Value → Heap → Prop} (h : Recs eBs H s l) (hl : ∀ x ∈ l, BtB x.1 ∧ x.2.n = x.1.n) (hb : BtB b) (nb : sb.n = b.n)
    (hno : e = 0 → at0 < 0 → ∀ x ∈ l, overM x.1 b = false) (k : K (.bool (finB b at0 e (ansF b (l.map Prod.fst)))) H) : FnH Try.prog 15 #[.slice s.p s.n s.c, btV b sb, .int .i64 at0, .int .i64 e] H K := by
  apply logboomlaw8_answered_fn
  unfold logboomlaw8_answered_vc
  have hn := h.len
  have hbg := h.big
  have hlm : (l.map Prod.fst).length = l.length := List.length_map ..
  refine ⟨fun ep be ct fo i H1 => H1 = H ∧ -1 ≤ i ∧ i < s.n ∧ ansF b ((l.map Prod.fst).drop (i + 1).toNat) = ⟨ep, be, ct, fo⟩, fun _ _ _ _ i _ => (i + 1).toNat, ⟨rfl, ?_, ?_, ?_⟩, ?_⟩
  · rw [wrap64_id (by omega) (by omega)]; omega
  · rw [wrap64_id (by omega) (by omega)]; omega
  · rw [wrap64_id (by omega) (by omega), List.drop_eq_nil_of_le (by omega)]; rfl
  rintro ep be ct fo i H1 ⟨rfl, i0, i1, hA⟩
  refine br_intro (fun v => ?_) (fun v => ?_)
  · have v : i ≥ 0 := of_decide_eq_true v
    obtain ⟨q, o, x, e1, e2, e3⟩ := h.at_ eBslen (by decide) v i1
    have hx := hl x (List.mem_of_getElem? e2)
    obtain ⟨hj, ej⟩ := List.getElem?_eq_some_iff.1 e2
    have hj' : i.toNat < (l.map Prod.fst).length := by omega
    have eS := ansF_cons (b := b) hj'
    have e5 : (i + 1).toNat = i.toNat + 1 := by omega
    rw [← e5, hA] at eS
    have e6 : (l.map Prod.fst)[i.toNat] = x.1 := by rw [List.getElem_map, ej]
    rw [e6] at eS
    have hc := ansF_count (b := b) ((l.map Prod.fst).drop (i + 1).toNat)
    rw [hA] at hc
    simp only [List.length_drop, hlm] at hc
    rw [wrap64_id (n := i - 1) (by omega) (by omega)]
    have e7 : (i - 1 + 1).toNat = i.toNat := by omega
    have fin : ∀ {ep' be' ct' fo'}, ansStep b ⟨ep, be, ct, fo⟩ x.1 = ⟨ep', be', ct', fo'⟩ → (H1 = H1 ∧ -1 ≤ i - 1 ∧ i - 1 < s.n ∧ ansF b ((l.map Prod.fst).drop (i - 1 + 1).toNat) = ⟨ep', be', ct', fo'⟩) ∧ (i - 1 + 1).toNat < (i + 1).toNat := fun z => ⟨⟨rfl, by omega, by omega, by rw [e7, eS]; exact z⟩, by omega⟩
    have w := hx.1
    have w1 := w.seq0; have w2 := w.seq1; have w3 := w.n
    refine ⟨q, o, e1, v, i1, _, e3 0 _ rfl, _, e3 1 _ rfl, _, e3 2 _ rfl, _, e3 3 _ rfl, _, e3 4 _ rfl, x.2, e3 5 _ rfl, br_intro (fun u => ?_) (fun u => ?_)⟩
    · have u : x.1.pid ≠ b.pid := by simpa using u
      have := fin (ep' := ep) (be' := be) (ct' := ct) (fo' := fo) (by unfold ansStep; rw [if_pos u])
      exact ⟨rfl, this.1, this.2⟩
    have u : ¬ x.1.pid ≠ b.pid := by simpa using u
    unfold ansStep at fin
    rw [if_neg u] at fin
    dsimp only at fin
    rw [hx.2, wrap64_id (n := x.1.seq + (x.1.n : Int)) (by omega) (by omega), wrap64_id (n := ct + 1) (by omega) (by omega), nb]
    generalize eep : (if ep < 0 then x.1.epoch else ep) = ep2 at fin
    generalize ebe : (if ep < 0 then x.1.seq + (x.1.n : Int) else be) = be2 at fin
    generalize ect : (if x.1.epoch = ep2 then ct + 1 else ct) = ct2 at fin
    generalize efo : (if x.1.epoch = b.epoch ∧ x.1.seq = b.seq ∧ x.1.n = b.n ∧ ep2 = b.epoch ∧ ct2 ≤ 5 then x.1.base else fo) = fo2 at fin
    refine ⟨fun e' b' H2 => H2 = H1 ∧ e' = ep2 ∧ b' = be2, br_intro (fun z => ?_) (fun z => ?_), ?_⟩
    · have z := of_decide_eq_true z
      rw [if_pos z] at eep ebe
      exact ⟨rfl, rfl, eep, ebe⟩
    · have z := of_decide_eq_false z
      rw [if_neg z] at eep ebe
      exact ⟨rfl, rfl, eep, ebe⟩
    rintro _ _ H2 ⟨rfl, rfl, rfl⟩
    refine ⟨fun c' H3 => H3 = H2 ∧ c' = ct2, br_intro (fun z => ?_) (fun z => ?_), ?_⟩
    · rw [if_pos (by simpa using z)] at ect; exact ⟨rfl, rfl, ect⟩
    · rw [if_neg (by simpa using z)] at ect; exact ⟨rfl, rfl, ect⟩
    rintro _ H3 ⟨rfl, rfl⟩
    refine ⟨fun f' H4 => H4 = H3 ∧ f' = fo2, ?_, ?_⟩
    · refine br_intro (fun z1 => br_intro (fun z2 => br_intro (fun z3 => br_intro (fun z4 => br_intro (fun z5 => ?_) (fun z5 => ?_)) (fun z4 => ?_)) (fun z3 => ?_)) (fun z2 => ?_)) (fun z1 => ?_)
      · rw [if_pos ⟨eq_of_beq z1, eq_of_beq z2, by have := eq_of_beq z3; omega, eq_of_beq z4, of_decide_eq_true z5⟩] at efo; exact ⟨rfl, rfl, efo⟩
      · rw [if_neg (fun t => absurd t.2.2.2.2 (of_decide_eq_false z5))] at efo; exact ⟨rfl, rfl, efo⟩
      · rw [if_neg (fun t => absurd t.2.2.2.1 (by simpa using z4))] at efo; exact ⟨rfl, rfl, efo⟩
      · rw [if_neg (fun t => by have := t.2.2.1; rw [this] at z3; simp at z3)] at efo; exact ⟨rfl, rfl, efo⟩
      · rw [if_neg (fun t => absurd t.2.1 (by simpa using z2))] at efo; exact ⟨rfl, rfl, efo⟩
      · rw [if_neg (fun t => absurd t.1 (by simpa using z1))] at efo; exact ⟨rfl, rfl, efo⟩
    rintro _ H4 ⟨rfl, rfl⟩
    have hov := overlap_spec (a := x.1) (b := b) (sa := x.2) (sb := sb) (H := H4) w hb hx.2 nb (K := fun r1 H5 => r1 = .bool (overM x.1 b) ∧ H5 = H4) ⟨rfl, rfl⟩
    rw [← hx.2, ← nb]
    have f2 := fin rfl
    refine hov.mono fun r1 H5 => ?_
    rintro ⟨rfl, rfl⟩
    refine ⟨_, rfl, br_intro (fun z1 => br_intro (fun z2 => br_intro (fun z3 => ?_) (fun z3 => ⟨rfl, f2.1, f2.2⟩)) (fun z2 => ⟨rfl, f2.1, f2.2⟩)) (fun z1 => ⟨rfl, f2.1, f2.2⟩)⟩
    rw [hno (eq_of_beq z2) (of_decide_eq_true z3) x (List.mem_of_getElem? e2)] at z1
    cases z1
  · have v : ¬ i ≥ 0 := of_decide_eq_false v
    have : i = -1 := by omega
    subst this
    have hA : ansF b (l.map Prod.fst) = ⟨ep, be, ct, fo⟩ := hA
    rw [hA] at k
    unfold finB at k
    dsimp only at k
    refine br_intro (fun z => ?_) (fun z => ?_)
    · rw [if_pos (of_decide_eq_true z)] at k
      refine br_intro (fun z2 => ?_) (fun z2 => ?_)
      · rw [decide_eq_true (eq_of_beq z2)] at k
        rw [beq_dec]; simpa using k
      · rw [decide_eq_false (by simpa using z2)] at k
        simpa using k
    rw [if_neg (of_decide_eq_false z)] at k
    refine br_intro (fun z2 => ?_) (fun z2 => ?_)
    · rw [if_pos (eq_of_beq z2)] at k
      refine br_intro (fun z3 => ?_) (fun z3 => ?_)
      · rw [decide_eq_true (eq_of_beq z3)] at k
        refine br_intro (fun z4 => br_intro (fun z5 => ?_) (fun z5 => br_intro (fun z6 => ?_) (fun z6 => ?_))) (fun z4 => br_intro (fun z6 => ?_) (fun z6 => ?_))
        · rw [decide_eq_true (eq_of_beq z4), decide_eq_true (eq_of_beq z5)] at k; exact k
        · rw [decide_eq_false (p := b.seq = be) (by simpa using z5), z6] at k; rw [beq_dec]; simpa using k
        · rw [decide_eq_false (p := b.seq = be) (by simpa using z5), z6] at k; simpa using k
        · rw [decide_eq_false (p := b.epoch = ep) (by simpa using z4), z6] at k; rw [beq_dec]; simpa using k
        · rw [decide_eq_false (p := b.epoch = ep) (by simpa using z4), z6] at k; simpa using k
      · rw [decide_eq_false (by simpa using z3)] at k
        simpa using k
    rw [if_neg (by simpa using z2)] at k
    refine br_intro (fun z3 => ?_) (fun z3 => ?_)
    · rw [if_pos (eq_of_beq z3)] at k; exact k
    rw [if_neg (by simpa using z3)] at k
    refine br_intro (fun z4 => ?_) (fun z4 => ?_)
    · rw [if_pos (eq_of_beq z4)] at k
      refine br_intro (fun z4 => br_intro (fun z5 => ?_) (fun z5 => br_intro (fun z6 => ?_) (fun z6 => ?_))) (fun z4 => br_intro (fun z6 => ?_) (fun z6 => ?_))
      · rw [decide_eq_true (eq_of_beq z4), z5] at k; exact k
      · rw [z5, z6] at k; simpa using k
      · rw [z5, z6] at k; simpa using k
      · rw [decide_eq_false (p := b.epoch = ep) (by simpa using z4), z6] at k; simpa using k
      · rw [decide_eq_false (p := b.epoch = ep) (by simpa using z4), z6] at k; simpa using k
    rw [if_neg (by simpa using z4)] at k
    refine br_intro (fun z5 => br_intro (fun z6 => ?_) (fun z6 => ?_)) (fun z5 => ?_)
    · rw [decide_eq_true (eq_of_beq z5), decide_eq_true (eq_of_beq z6)] at k; simpa using k
    · rw [decide_eq_false (p := b.epoch = ep) (by simpa using z6)] at k; simpa using k
    · rw [decide_eq_false (p := e = 12) (by simpa using z5)] at k; simpa using k
end Go.Proofs.Ytkabaoigablphaa
