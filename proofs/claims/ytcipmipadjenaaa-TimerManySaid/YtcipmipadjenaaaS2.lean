/- What up and down do to the queue. -/
import Derived.Test.YtcipmipadjenaaaP1
namespace Go.Proofs.Ytcipmipadjenaaa
open Go.HL
set_option maxHeartbeats 400000

theorem swapL_perm {es : List E} {i j : Nat} (hi : i < es.length) (hj : j < es.length) : (swapL es i j).Perm es := by
  have h := Array.swap_perm (xs := es.toArray) (i := i) (j := j) (by simpa using hi) (by simpa using hj)
  rw [Array.perm_iff_toList_perm, Array.toList_swap] at h
  have e : swapL es i j = (es.toArray.toList.set i es.toArray[j]).set j es.toArray[i] := by
    unfold swapL
    simp [hi, hj]
  rw [e]; exact h

/-- The timers' own block: the queue, and the map beside it. -/
structure QT (H : Heap) (t : Nat) (m : Value) (s : Sl) (es : List E) : Prop where
  top : H t = some (.cells #[.slice s.p s.n s.c, m] 50 (0, 0))
  q : QIn H s es
  small : es.length ≤ 1000000
theorem QT.slice {H : Heap} {t : Nat} {m : Value} {s : Sl} {es : List E} (h : QT H t m s es) : cellH H ⟨t, 0, none⟩ = some (.slice s.p s.n s.c) := by rw [cellH_eq h.top]; rfl
theorem QT.swapped {H H' : Heap} {t : Nat} {m : Value} {s : Sl} {es : List E} {i j : Nat} (h : QT H t m s es) (q : QIn H' s (swapL es i j)) (hk : Keep H H') : QT H' t m s (swapL es i j) :=
  ⟨hk _ _ h.top (by show (50 : Nat) ≠ 51; decide) (by show (50 : Nat) ≠ 54; decide), q, by rw [swapL_length]; exact h.small⟩
theorem swapL_above {es : List E} {i j n : Nat} (hi : i < n) (hj : j < n) (hn : n ≤ es.length) (k : Nat) (hk : n ≤ k) : (swapL es i j)[k]? = es[k]? := by
  rw [swapL_get (by omega) (by omega), if_neg (by omega), if_neg (by omega)]

theorem up_spec {H : Heap} {t n : Nat} {m : Value} {s : Sl} {es : List E} {j : Int} {K : Value → Heap → Prop} (h : QT H t m s es) (hn : n ≤ es.length) (hj : 0 ≤ j ∧ j < n) (hu : UpInv es n j.toNat)
    (k : ∀ H' es', QT H' t m s es' → es'.Perm es → HeapN es' n → (∀ i, n ≤ i → es'[i]? = es[i]?) → Keep H H' → K (.tuple #[]) H') : FnH Try.prog 28 #[.iface 56 (.pointer (some ⟨t, 0, none⟩)), .int .i64 j] H K := by
  apply heap_up_fn
  unfold heap_up_vc
  refine ⟨fun j H1 => 0 ≤ j ∧ j < n ∧ ∃ es1, QT H1 t m s es1 ∧ es1.Perm es ∧ UpInv es1 n j.toNat ∧ (∀ i, n ≤ i → es1[i]? = es[i]?) ∧ Keep H H1, fun j _ => j.toNat, ⟨hj.1, hj.2, es, h, List.Perm.refl _, hu, fun _ _ => rfl, Keep.refl _⟩, ?_⟩
  rintro j H1 ⟨j0, j1, es1, h1, p1, u1, a1, k1⟩
  have l1 := p1.length_eq
  have sm := h.small
  have sl := h1.q.len
  refine ⟨by decide, ?_⟩
  rw [wrap64_id (n := j - 1) (by omega) (by omega)]
  rcases Int.lt_or_eq_of_le j0 with hpos | hz
  · have ep : Int.tdiv (j - 1) 2 = ((par j.toNat : Nat) : Int) := by
      rw [Int.tdiv_eq_ediv_of_nonneg (by omega)]; unfold par; omega
    have hp : par j.toNat < j.toNat := by unfold par; omega
    rw [ep, wrap64_id (by omega) (by omega)]
    refine br_f (by rw [Bool.eq_false_iff]; simp; omega) ⟨s, h1.slice, less_spec h1.q ⟨j0, by omega⟩ ⟨by omega, by omega⟩ ⟨_, rfl, ?_⟩⟩
    have et : ((par j.toNat : Nat) : Int).toNat = par j.toNat := by omega
    rw [et]
    refine br_intro (fun hb => ?_) (fun hb => ?_)
    · have hb : lessE es1[j.toNat]! es1[par j.toNat]! = false := by simpa using hb
      exact k H1 es1 h1 p1 (up_done u1 (.inr (less_false hb))) a1 k1
    · have hb : lessE es1[j.toNat]! es1[par j.toNat]! = true := by simpa using hb
      refine ⟨s, h1.slice, swap_spec h1.q ⟨by omega, by omega⟩ ⟨j0, by omega⟩ fun H2 q2 k2 => ⟨rfl, rfl, ?_, ?_⟩⟩
      · rw [et] at q2
        refine ⟨by omega, by omega, swapL es1 (par j.toNat) j.toNat, h1.swapped q2 k2, (swapL_perm (by omega) (by omega)).trans p1, ?_, fun i hi => ?_, k1.trans k2⟩
        · rw [et]
          exact up_step (by omega) u1 (by omega) (by omega) (less_true hb)
        · rw [swapL_above (n := n) (by omega) (by omega) (by omega) i hi]; exact a1 i hi
      · dsimp only; omega
  · subst hz
    have e0 : Int.tdiv (0 - 1) 2 = 0 := by decide
    rw [e0]
    exact br_t (by decide) (k H1 es1 h1 p1 (up_done u1 (.inl rfl)) a1 k1)

theorem par_cases {k i : Nat} (h0 : 0 < k) (h : par k = i) : k = 2 * i + 1 ∨ k = 2 * i + 2 := by unfold par at h; omega
theorem down_spec {H : Heap} {t n : Nat} {m : Value} {s : Sl} {es : List E} {i0 : Int} {K : Value → Heap → Prop} (h : QT H t m s es) (hn : n ≤ es.length) (hi : 0 ≤ i0 ∧ i0 ≤ n) (hu : DownInv es n i0.toNat i0.toNat)
    (k : ∀ H' es' b, QT H' t m s es' → es'.Perm es → (b = true → HeapN es' n) → (b = false → UpInv es' n i0.toNat) → (∀ i, n ≤ i → es'[i]? = es[i]?) → Keep H H' → K (.bool b) H') : FnH Try.prog 27 #[.iface 56 (.pointer (some ⟨t, 0, none⟩)), .int .i64 i0, .int .i64 n] H K := by
  apply heap_down_fn
  unfold heap_down_vc
  have sm := h.small
  refine ⟨fun i H1 => i0 ≤ i ∧ i ≤ n ∧ ∃ es1, QT H1 t m s es1 ∧ es1.Perm es ∧ DownInv es1 n i0.toNat i.toNat ∧ (∀ i, n ≤ i → es1[i]? = es[i]?) ∧ Keep H H1, fun i _ => (n - i).toNat, ⟨Int.le_refl _, hi.2, es, h, List.Perm.refl _, hu, fun _ _ => rfl, Keep.refl _⟩, ?_⟩
  rintro i H1 ⟨j0, j1, es1, h1, p1, u1, a1, k1⟩
  have l1 := p1.length_eq
  have sl := h1.q.len
  have hi0 := hi.1
  have done : (∀ c, 0 < c → c < n → par c = i.toNat → le es1[i.toNat]! es1[c]!) → K (.bool (decide (i > i0))) H1 := fun hc => by
    obtain ⟨d1, d2⟩ := down_done u1 hc
    exact k H1 es1 _ h1 p1 (fun q => d1 (by have := of_decide_eq_true q; omega)) (fun q => d2 (by have := of_decide_eq_false q; omega)) a1 k1
  rw [wrap64_id (n := 2 * i) (by omega) (by omega), wrap64_id (n := 2 * i + 1) (by omega) (by omega)]
  refine br_intro (fun q => done fun c c0 c1 cp => ?_) (fun q => br_f (decide_eq_false (by omega)) ?_)
  · have q := of_decide_eq_true q
    rcases par_cases c0 cp with e | e <;> omega
  have q := of_decide_eq_false q
  rw [wrap64_id (n := 2 * i + 1 + 1) (by omega) (by omega)]
  -- one step to the child c
  have step : ∀ (c : Int), (c = 2 * i + 1 ∨ c = 2 * i + 2) → c < n → (∀ k, 0 < k → k < n → par k = i.toNat → le es1[c.toNat]! es1[k]!) → ∀ {T : Value → Heap → Prop}, (∀ H', (i0 ≤ c ∧ c ≤ n ∧ ∃ es1, QT H' t m s es1 ∧ es1.Perm es ∧ DownInv es1 n i0.toNat c.toNat ∧ (∀ i, n ≤ i → es1[i]? = es[i]?) ∧ Keep H H') → T (.tuple #[]) H') →
      lessE es1[c.toNat]! es1[i.toNat]! = true → FnH Try.prog 48 #[.slice s.p s.n s.c, .int .i64 i, .int .i64 c] H1 T := fun c hc hcn hmin T hT hl => by
    refine swap_spec h1.q ⟨by omega, by omega⟩ ⟨by omega, by omega⟩ fun H2 q2 k2 => hT H2 ⟨by omega, by omega, _, h1.swapped q2 k2, (swapL_perm (by omega) (by omega)).trans p1, ?_, fun i hi => ?_, k1.trans k2⟩
    · exact down_step (by omega) u1 (by omega) (by omega) (by omega) (by unfold par; omega) (less_true hl) hmin
    · rw [swapL_above (n := n) (by omega) (by omega) (by omega) i hi]; exact a1 i hi
  have meas : ∀ (c : Int), (c = 2 * i + 1 ∨ c = 2 * i + 2) → (n - c).toNat < (n - i).toNat := fun c hc => by omega
  refine br_intro (fun q2 => ?_) (fun q2 => ?_)
  · have q2 := of_decide_eq_true q2
    refine ⟨s, h1.slice, less_spec h1.q ⟨by omega, by omega⟩ ⟨by omega, by omega⟩ ⟨_, rfl, br_intro (fun hb => ?_) (fun hb => ?_)⟩⟩
    · have hmin : ∀ k, 0 < k → k < n → par k = i.toNat → le es1[(2 * i + 1 + 1).toNat]! es1[k]! := fun k k0 k1 kp => by
        rcases par_cases k0 kp with e | e
        · have : (2 * i + 1).toNat = k := by omega
          rw [← this]; exact less_true hb
        · have : (2 * i + 1 + 1).toNat = k := by omega
          rw [← this]; exact le_refl _
      refine ⟨s, h1.slice, less_spec h1.q ⟨by omega, by omega⟩ ⟨by omega, by omega⟩ ⟨_, rfl, br_intro (fun hb2 => done fun c c0 c1 cp => ?_) (fun hb2 => ?_)⟩⟩
      · exact le_trans (less_false (by simpa using hb2)) (hmin c c0 c1 cp)
      · refine ⟨s, h1.slice, step _ (by omega) (by omega) hmin (fun H' hI => ⟨rfl, rfl, hI, meas _ (by omega)⟩) (by simpa using hb2)⟩
    · have hmin : ∀ k, 0 < k → k < n → par k = i.toNat → le es1[(2 * i + 1).toNat]! es1[k]! := fun k k0 k1 kp => by
        rcases par_cases k0 kp with e | e
        · have : (2 * i + 1).toNat = k := by omega
          rw [← this]; exact le_refl _
        · have : (2 * i + 1 + 1).toNat = k := by omega
          rw [← this]; exact less_false hb
      refine ⟨s, h1.slice, less_spec h1.q ⟨by omega, by omega⟩ ⟨by omega, by omega⟩ ⟨_, rfl, br_intro (fun hb2 => done fun c c0 c1 cp => ?_) (fun hb2 => ?_)⟩⟩
      · exact le_trans (less_false (by simpa using hb2)) (hmin c c0 c1 cp)
      · refine ⟨s, h1.slice, step _ (by omega) (by omega) hmin (fun H' hI => ⟨rfl, rfl, hI, meas _ (by omega)⟩) (by simpa using hb2)⟩
  · have q2 := of_decide_eq_false q2
    have hmin : ∀ k, 0 < k → k < n → par k = i.toNat → le es1[(2 * i + 1).toNat]! es1[k]! := fun k k0 k1 kp => by
      rcases par_cases k0 kp with e | e
      · have : (2 * i + 1).toNat = k := by omega
        rw [← this]; exact le_refl _
      · omega
    refine ⟨s, h1.slice, less_spec h1.q ⟨by omega, by omega⟩ ⟨by omega, by omega⟩ ⟨_, rfl, br_intro (fun hb2 => done fun c c0 c1 cp => ?_) (fun hb2 => ?_)⟩⟩
    · exact le_trans (less_false (by simpa using hb2)) (hmin c c0 c1 cp)
    · refine ⟨s, h1.slice, step _ (by omega) (by omega) hmin (fun H' hI => ⟨rfl, rfl, hI, meas _ (by omega)⟩) (by simpa using hb2)⟩
end Go.Proofs.Ytcipmipadjenaaa
