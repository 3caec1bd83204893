/- Chapter 8: Ask. -/
import Derived.Test.YtkabaoigablphaaS5
namespace Go.Proofs.Ytkabaoigablphaa
open Go.HL
set_option maxHeartbeats 800000
set_option maxRecDepth 10000

theorem cell_eq {x y : Int} {cs ds : Array Value} {o d : Nat} (hx : cs[o]? = some (.int .i64 x)) (hy : ds[o]? = some (.int .i64 y)) {β : Type} {f : Bool → Sem β} {H : Heap} {K : β → Prop} (k : runR Try.prog (f (x == y)) H K) :
    runR Try.prog (do let u ← part 3 cs o; let v ← part 3 ds o; let b ← Op.equalIn (d + 1) 3 u v; f b) H K := by
  have hp : ∀ {zs : Array Value} {z : Int} {K' : Value → Prop}, zs[o]? = some (.int .i64 z) → K' (.int .i64 z) → runR Try.prog (part 3 zs o) H K' := fun h k => by
    unfold part
    refine runR_bind (runR_isAgg Try.underlying3 ?_)
    have : isAggT Try.prog 3 = false := by kernel_rfl
    rw [this]
    simp only [Bool.false_eq_true, if_false, h]
    exact k
  refine runR_bind (hp hx ?_)
  refine runR_bind (hp hy ?_)
  refine runR_bind ?_
  unfold Op.equalIn
  refine runR_bind (runR_underlying Try.underlying3 ?_)
  exact k
theorem span_eq {a b c a' b' c' : Int} {H : Heap} {K : Value → Prop} (k : K (.bool (decide (a = a' ∧ b = b' ∧ c = c')))) :
    runR Try.prog (binOp .eql 60 (.agg #[.int .i64 a, .int .i64 b, .int .i64 c]) (.agg #[.int .i64 a', .int .i64 b', .int .i64 c'])) H K := by
  show runR Try.prog (Op.equal 60 (.agg #[.int .i64 a, .int .i64 b, .int .i64 c]) (.agg #[.int .i64 a', .int .i64 b', .int .i64 c']) >>= fun b => pure (.bool b)) H K
  refine runR_bind ?_
  have k' : ∀ r : Bool, r = decide (a = a' ∧ b = b' ∧ c = c') → runR Try.prog (pure (.bool r) : Sem Value) H K := fun r hr => by subst hr; exact k
  generalize hF : (fun r : Bool => runR Try.prog (pure (.bool r) : Sem Value) H K) = F
  have kF : ∀ r : Bool, r = decide (a = a' ∧ b = b' ∧ c = c') → F r := fun r hr => by rw [← hF]; exact k' r hr
  clear hF k' k
  unfold Op.equal Op.maxDepth Op.equalIn
  refine runR_bind (runR_underlying Try.underlying60 ?_)
  dsimp only
  have hs : Try.prog.stoodInHeld 60 = false := by kernel_rfl
  refine runR_bind ?_
  show runR Try.prog (if Try.prog.stoodInHeld 60 = true then _ else _) H F
  rw [hs]
  simp only [Bool.false_eq_true, if_false, List.forIn_toArray, List.forIn_cons, List.forIn_nil]
  simp only [ne_eq, String.reduceEq, not_false_eq_true, if_true]
  refine runR_bind (runR_bind (cell_eq (d := 9998) rfl rfl ?_))
  by_cases e1 : a = a'
  case neg =>
    rw [show (a == a') = false by simpa using e1]
    exact kF false (decide_eq_false (fun z => e1 z.1)).symm
  rw [show (a == a') = true by simpa using e1]
  refine runR_bind (cell_eq (d := 9998) rfl rfl ?_)
  by_cases e2 : b = b'
  case neg =>
    rw [show (b == b') = false by simpa using e2]
    exact kF false (decide_eq_false (fun z => e2 z.2.1)).symm
  rw [show (b == b') = true by simpa using e2]
  refine runR_bind (cell_eq (d := 9998) rfl rfl ?_)
  by_cases e3 : c = c'
  case neg =>
    rw [show (c == c') = false by simpa using e3]
    exact kF false (decide_eq_false (fun z => e3 z.2.2)).symm
  rw [show (c == c') = true by simpa using e3]
  exact kF true (decide_eq_true ⟨e1, e2, e3⟩).symm
theorem within8_spec {n m : Int} {H : Heap} {K : Value → Heap → Prop} (k : K (.bool (inB n m)) H) : FnH Try.prog 32 #[.int .i64 n, .int .i64 m] H K := by
  apply dedup_within_fn
  unfold dedup_within_vc
  unfold inB at k
  refine br_intro (fun q => ?_) (fun q => ?_)
  · have q := of_decide_eq_true q
    rw [decide_eq_true (show 0 ≤ n from q), Bool.true_and] at k; exact k
  · have q := of_decide_eq_false q
    rw [decide_eq_false (show ¬ 0 ≤ n from q), Bool.false_and] at k; exact k
abbrev ansV (p : Int × Int) : Value := .tuple #[.int .i64 p.1, .int .i64 p.2]
def askBad (pid epoch seq n : Int) : Bool := !inB pid 1000000000 || !inB epoch 1000000000 || !inB seq 1000000000 || decide (n < 1) || decide (n > 64) || (decide (pid = 0) && decide (orI .i64 epoch seq ≠ 0))
def nextS (l : List Nt) : Int := IntKind.wrap .i64 ((l.getD (l.length - 1) nt0).2.1 + (l.getD (l.length - 1) nt0).2.2.1)
def isN (epoch seq n : Int) (x : Nt) : Bool := decide (x.1 = epoch ∧ x.2.1 = seq ∧ x.2.2.1 = n)
/-- The answer, from the last epoch's last notes. -/
def askL (l : List Nt) (epoch seq n : Int) : Int × Int :=
  if l.length = 0 then (if seq > 0 then (-1, 11) else (-1, 0))
  else if epoch > (l.getD 0 nt0).1 then (if seq > 0 then (-1, 11) else (-1, 0))
  else if epoch < (l.getD 0 nt0).1 then (-1, 13)
  else match l.find? (isN epoch seq n) with
    | some x => (x.2.2.2, 0)
    | none => if seq = nextS l then (-1, 0) else if seq > nextS l then (-1, 11) else (-1, 12)
def askM (T : Tb) (pid epoch seq n : Int) : Int × Int :=
  if askBad pid epoch seq n = true then (-1, 1)
  else if pid = 0 then (-1, 0)
  else if seq > 1000000 - n + 1 then (-1, 20)
  else askL (latestM ((lookL T pid).getD []) 5) epoch seq n
theorem ask_spec {H : Heap} {t : Nat} {T : Tb} {pid epoch seq n : Int} {K : Value → Heap → Prop} (h : tab t T H) (hL : Low T 100000) (k : K (ansV (askM T pid epoch seq n)) H) :
    FnH Try.prog 14 #[.pointer (some ⟨t, 0, none⟩), .int .i64 pid, .int .i64 epoch, .int .i64 seq, .int .i64 n] H K := by
  apply dedup_Table_Ask_fn
  unfold dedup_Table_Ask_vc
  refine ⟨fun bb H1 => H1 = H ∧ bb = askBad pid epoch seq n, ?_, ?_⟩
  · refine within8_spec ⟨_, rfl, br_intro (fun q => ⟨rfl, rfl, by unfold askBad; rw [q]; simp⟩) (fun q1 => within8_spec ⟨_, rfl, br_intro (fun q => ⟨rfl, rfl, by unfold askBad; rw [q]; simp⟩) (fun q2 => within8_spec ⟨_, rfl, br_intro (fun q => ⟨rfl, rfl, by unfold askBad; rw [q]; simp⟩) (fun q3 =>
      br_intro (fun q => ⟨rfl, rfl, by unfold askBad; rw [q]; simp⟩) (fun q4 => br_intro (fun q => ⟨rfl, rfl, by unfold askBad; rw [q]; simp⟩) (fun q5 => br_intro (fun q => ⟨rfl, rfl, ?_⟩) (fun q => ⟨rfl, rfl, ?_⟩))))⟩)⟩)⟩
    · have q : pid = 0 := by simpa using q
      unfold askBad
      rw [q1, q2, q3, q4, q5, decide_eq_true q]
      simp [bne]
      rw [Bool.eq_iff_iff]; simp
    · have q : ¬ pid = 0 := by simpa using q
      unfold askBad
      rw [q1, q2, q3, q4, q5, decide_eq_false q]; rfl
  rintro bb H1 ⟨rfl, rfl⟩
  unfold askM at k
  refine br_intro (fun q => ?_) (fun q => ?_)
  · rw [if_pos q] at k; exact k
  rw [if_neg (by rw [q]; simp)] at k
  have hn : 1 ≤ n ∧ n ≤ 64 := by
    unfold askBad at q
    simp only [Bool.or_eq_false_iff, decide_eq_false_iff_not] at q
    omega
  refine br_intro (fun q2 => ?_) (fun q2 => ?_)
  · rw [if_pos (by simpa using q2)] at k; exact k
  rw [if_neg (by simpa using q2)] at k
  rw [wrap64_id (n := 1000000 - n) (by omega) (by omega), wrap64_id (n := 1000000 - n + 1) (by omega) (by omega)]
  refine br_intro (fun q3 => ?_) (fun q3 => ?_)
  · rw [if_pos (of_decide_eq_true q3)] at k; exact k
  rw [if_neg (of_decide_eq_false q3)] at k
  obtain ⟨⟨mb, ps⟩, ⟨eT, hN⟩, hh⟩ := h
  have hm := hh.map 1 rfl
  obtain ⟨s, l, ev, hr, el⟩ : ∃ (s : Sl) (l : List Nt), (lookL (tmap ps) pid).getD (.slice none 0 0) = .slice s.p s.n s.c ∧ Recs eN H1 s l ∧ (lookL T pid).getD [] = l := by
    cases e : lookL (tmap ps) pid with
    | none =>
      refine ⟨⟨none, 0, 0⟩, [], rfl, Recs.nil _, ?_⟩
      have : lookL T pid = none := by
        rw [← eT]
        unfold lookL at e ⊢
        rw [idx_tmap] at e
        rw [idx_tmod]
        cases e2 : idxL ps pid with
        | none => rfl
        | some q => rw [e2] at e; cases e
      rw [this]; rfl
    | some v =>
      obtain ⟨j, s, l, e1, rfl, e2, e3⟩ := look_held e
      have h4 := Holds.read (hh.read 2 rfl (Holds.mono _)) j (by rw [List.getElem?_map, e1]; rfl) (hown_mono (pid, s, l))
      have e3 : lookL T pid = some l := by rw [← eT]; exact e3
      have := hL.look e3
      exact ⟨s, l, rfl, Own.recs eNlen (by decide) h4 (by show l.length ≤ _; omega), by rw [e3]; rfl⟩
  rw [el] at k
  refine ⟨some mb, hh.cell 0 rfl rfl, runH_lookup1 u53 kint z56 hm (k := pid) ?_⟩
  rw [ev]
  refine ⟨s, rfl, latest_spec (most := 5) hr fun r hr2 => ⟨r, rfl, ?_⟩⟩
  generalize latestM l 5 = y at *
  have hy := hr2.len
  have hyb := hr2.big
  unfold askL at k
  have ord : K (ansV (if seq > 0 then (-1, 11) else (-1, 0))) H1 → br (decide (seq > 0)) (K (.tuple #[.int .i64 (-1), .int .i64 11]) H1) (K (.tuple #[.int .i64 (-1), .int .i64 0]) H1) := fun k =>
    br_intro (fun q => by rw [if_pos (of_decide_eq_true q)] at k; exact k) (fun q => by rw [if_neg (of_decide_eq_false q)] at k; exact k)
  refine br_intro (fun w => ?_) (fun w => ?_)
  · have w : (r.n : Int) = 0 := by simpa using w
    rw [if_pos (by omega)] at k; exact ord k
  have w : ¬ (r.n : Int) = 0 := by simpa using w
  rw [if_neg (by omega)] at k
  obtain ⟨q1, o1, p1, p2⟩ := Recs.getN hr2 (j := 0) (Int.le_refl _) (by omega)
  refine ⟨q1, o1, p1, Int.le_refl _, by omega, (y.getD 0 nt0).1, p2 0 _ rfl, br_intro (fun w2 => ?_) (fun w2 => ?_)⟩
  · rw [if_pos (of_decide_eq_true w2)] at k; exact ord k
  rw [if_neg (of_decide_eq_false w2)] at k
  refine ⟨q1, o1, p1, Int.le_refl _, by omega, (y.getD 0 nt0).1, p2 0 _ rfl, br_intro (fun w3 => ?_) (fun w3 => ?_)⟩
  · rw [if_pos (of_decide_eq_true w3)] at k; exact k
  rw [if_neg (of_decide_eq_false w3)] at k
  refine ⟨fun i H2 => H2 = H1 ∧ 0 ≤ i ∧ i ≤ r.n ∧ (y.take i.toNat).find? (isN epoch seq n) = none, fun i _ => (r.n - i).toNat, ⟨rfl, Int.le_refl _, by omega, rfl⟩, ?_⟩
  rintro i H2 ⟨rfl, i0, i1, hf⟩
  refine br_intro (fun v => ?_) (fun v => ?_)
  · have v := of_decide_eq_true v
    obtain ⟨q2, o2, p3, p4⟩ := Recs.getN hr2 i0 v
    have hi : i.toNat < y.length := by omega
    have hg : y.getD i.toNat nt0 = y[i.toNat] := by rw [List.getD, List.getElem?_eq_getElem hi]; rfl
    refine ⟨q2, o2, p3, i0, v, _, p4 0 _ rfl, _, p4 1 _ rfl, _, p4 2 _ rfl, _, p4 3 _ rfl, span_eq ⟨_, rfl, br_intro (fun u => ?_) (fun u => ?_)⟩⟩
    · have e : y.find? (isN epoch seq n) = some (y.getD i.toNat nt0) := by
        rw [hg] at u ⊢
        have e3 : y.find? (isN epoch seq n) = (y.take i.toNat ++ y.drop i.toNat).find? (isN epoch seq n) := by rw [List.take_append_drop]
        rw [e3, List.find?_append, hf, List.drop_eq_getElem_cons hi, List.find?_cons_of_pos (show isN epoch seq n y[i.toNat] = true from u)]
        rfl
      rw [e] at k; exact k
    · rw [wrap64_id (n := i + 1) (by omega) (by omega)]
      refine ⟨rfl, ⟨rfl, by omega, by omega, ?_⟩, by dsimp only; omega⟩
      rw [take_next (d := nt0) i0 (by omega), List.find?_append, hf, List.find?_cons_of_neg (by
        have u : isN epoch seq n (y.getD i.toNat nt0) = false := u
        rw [u]; simp)]
      rfl
  · have v := of_decide_eq_false v
    rw [List.take_of_length_le (by omega)] at hf
    rw [hf] at k
    obtain ⟨q2, o2, p3, p4⟩ := Recs.getN hr2 (j := (r.n : Int) - 1) (by omega) (by omega)
    have eL : ((r.n : Int) - 1).toNat = y.length - 1 := by omega
    rw [wrap64_id (n := (r.n : Int) - 1) (by omega) (by omega)]
    rw [eL] at p4 ⊢
    refine ⟨q2, o2, p3, by omega, by omega, _, p4 0 _ rfl, _, p4 1 _ rfl, _, p4 2 _ rfl, _, p4 3 _ rfl, br_intro (fun u => ?_) (fun u => br_intro (fun u2 => ?_) (fun u2 => ?_))⟩
    · have u : seq = nextS y := eq_of_beq u
      dsimp only at k
      rw [if_pos u] at k; exact k
    · have u : ¬ seq = nextS y := fun z => by have u2 : (seq == nextS y) = true := beq_iff_eq.2 z; exact absurd (u2.symm.trans u) (by decide)
      dsimp only at k
      rw [if_neg u, if_pos (show seq > nextS y from of_decide_eq_true u2)] at k; exact k
    · have u : ¬ seq = nextS y := fun z => by have u2 : (seq == nextS y) = true := beq_iff_eq.2 z; exact absurd (u2.symm.trans u) (by decide)
      dsimp only at k
      rw [if_neg u, if_neg (show ¬ seq > nextS y from of_decide_eq_false u2)] at k; exact k
end Go.Proofs.Ytkabaoigablphaa
