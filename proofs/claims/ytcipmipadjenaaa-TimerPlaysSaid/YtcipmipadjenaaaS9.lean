/- What Set of the timers does. -/
import Derived.Test.YtcipmipadjenaaaS8
namespace Go.Proofs.Ytcipmipadjenaaa
open Go.HL
set_option maxHeartbeats 400000

theorem heap_change {es : List E} {n i : Nat} {e' : E} (h : HeapN es n) (hl : n ≤ es.length) (hi : i < n) : DownInv (es.set i e') n i i := by
  have g : ∀ k, k ≠ i → (es.set i e')[k]! = es[k]! := fun k hk => by
    rw [List.getElem!_eq_getElem?_getD, List.getElem!_eq_getElem?_getD, List.getElem?_set_ne (Ne.symm hk)]
  refine ⟨fun k k0 k1 kp kne => ?_, fun k k0 k1 kp p0 => ?_⟩
  · have : k ≠ i := by rcases kne with q | q <;> omega
    rw [g _ kp, g _ this]
    exact h k k0 k1
  · have hpk : par k < k := by unfold par; omega
    have hpi : par i < i := by unfold par; omega
    rw [g _ (by omega), g _ (by omega)]
    have h1 := h k k0 k1
    rw [kp] at h1
    exact le_trans (h i p0 hi) h1
theorem set_perm {es : List E} {i : Nat} {e e' : E} (hi : es[i]? = some e) : ∃ rest, es.Perm (e :: rest) ∧ (es.set i e').Perm (e' :: rest) := by
  induction es generalizing i with
  | nil => simp at hi
  | cons a es ih =>
    cases i with
    | zero =>
      simp at hi; subst hi
      exact ⟨es, List.Perm.refl _, by simp⟩
    | succ i =>
      obtain ⟨rest, p1, p2⟩ := ih (i := i) (by simpa using hi)
      exact ⟨a :: rest, (p1.cons a).trans (List.Perm.swap _ _ _), by simpa using (p2.cons a).trans (List.Perm.swap _ _ _)⟩
theorem set_spec {H : Heap} {t : Nat} {es : List E} {key due : Int} {K : Value → Heap → Prop} (h : TIn H t es) (k0 : (due < 0 ∨ due > 1000000000) → K (.int .i64 1) H)
    (k1 : ¬ (due < 0 ∨ due > 1000000000) → (∀ e ∈ es, e.key ≠ key) → 1000 ≤ es.length → K (.int .i64 3) H)
    (k2 : ∀ H' es', ¬ (due < 0 ∨ due > 1000000000) → ¬ ((∀ e ∈ es, e.key ≠ key) ∧ 1000 ≤ es.length) → TIn H' t es' → (kd es').Perm ((key, due) :: kd (but es key)) → K (.int .i64 0) H') : FnH Try.prog 9 #[.pointer (some ⟨t, 0, none⟩), .int .i64 key, .int .i64 due] H K := by
  obtain ⟨⟨s, mb, ml, hq, hm, hp⟩, hh, hk, hf⟩ := h
  apply timer_Timers_Set_fn
  refine br_intro (fun q => k0 (.inl (of_decide_eq_true q))) (fun q => br_intro (fun q2 => k0 (.inr (of_decide_eq_true q2))) (fun q2 => ?_))
  have hd : ¬ (due < 0 ∨ due > 1000000000) := by have := of_decide_eq_false q; have := of_decide_eq_false q2; omega
  refine ⟨some mb, hq.mapc, runH_lookup u46 kint z51 hm (k := key) ?_⟩
  obtain ⟨me, mc, m1, m2⟩ := hm
  rcases look_cases hp key with ⟨e, hn⟩ | ⟨i, e, hi, rfl, hl⟩
  · rw [e]
    refine ⟨none, false, rfl, br_f rfl ⟨some mb, hq.mapc, me, mc, m1, ?_⟩⟩
    have lm : me.size = es.length := by
      have a1 := congrArg List.length m2
      have a2 := hp.length_eq
      simp only [kvs, encs, List.length_map, Array.length_toList] at a1 a2
      omega
    rw [lm]
    refine br_intro (fun q => k1 hd hn (by have := of_decide_eq_true q; omega)) (fun q => ?_)
    have q := of_decide_eq_false q
    intro b hb
    refine letH_intro fun H4 g4 => ?_
    have s4 : HL.Sub H H4 := by rw [g4]; exact Sub.new hb _
    have hb4 : H4 b = some (oneO ⟨b, key, due⟩ 0) := by rw [g4]; exact Heap.upd_same _ _ _
    have q4 : QT H4 t (.map (some mb)) s es := by
      refine ⟨s4 _ _ hq.top, ⟨?_, fun i e he => s4 _ _ (hq.q.ones i e he)⟩, hq.small⟩
      obtain ⟨o1, o2, o3⟩ := hq.q.own
      exact ⟨o1, o2, o3.imp_right fun ⟨b, arr, q, hq, r⟩ => ⟨b, arr, q, s4 _ _ hq, r⟩⟩
    refine ⟨some mb, q4.mapc, runH_update u46 kint ⟨me, mc, s4 _ _ m1, m2⟩ (k := key) fun me' mc' hm' => ?_⟩
    have q5 := q4.updMap (a' := me') (c' := mc') (s4 _ _ m1)
    have hbm : b ≠ mb := fun x => by rw [x, m1] at hb; cases hb
    have hnew : ∀ d ∈ es, d.b ≠ b := fun d hd x => by
      obtain ⟨i, hi⟩ := List.getElem?_of_mem hd
      have := hq.q.ones i d hi
      rw [x, hb] at this; cases this
    refine hpush_spec (e := ⟨b, key, due⟩) (x := 0) q5 hh (by rw [Heap.upd_ne _ _ hbm]; exact hb4) hnew (by omega) fun H6 s6 es6 h6 p6 hh6 k6 => ⟨rfl, ?_⟩
    have hm6 := k6.map (Heap.upd_same H4 mb (.map me' mc')) ⟨_, _, _, q5.top⟩
    have l6 := p6.length_eq
    simp only [List.length_append, List.length_cons, List.length_nil] at l6
    have e' : idxL ml key = none := by unfold lookL at e; simpa using e
    rw [putL_none e'] at hm'
    refine k2 H6 es6 hd (fun x => by omega) ⟨⟨s6, mb, ml ++ [(key, ptrV b)], h6, ⟨me', mc', hm6, hm'⟩, ?_⟩, hh6, ?_, by omega⟩ ?_
    · refine ((hp.append_right _).trans ?_).trans (p6.symm.map fun e => (e.key, ptrV e.b))
      rw [List.map_append]; exact List.Perm.refl _
    · refine keys_perm p6 ?_
      rw [List.map_append, List.nodup_append]
      refine ⟨hk, by simp, fun a ha c hc => ?_⟩
      obtain ⟨d, hd, rfl⟩ := List.mem_map.1 ha
      simp only [List.map_cons, List.map_nil, List.mem_singleton] at hc
      rw [hc]; exact hn d hd
    · rw [but_self hn]
      refine (p6.map fun e => (e.key, e.due)).trans ?_
      rw [List.map_append]
      exact List.perm_append_comm
  · rw [hl]
    have hli := (List.getElem?_eq_some_iff.1 hi).1
    have ho := hq.q.ones i e hi
    refine ⟨some ⟨e.b, 0, none⟩, true, rfl, br_t rfl (ptrm_intro rfl ⟨⟨_, by rw [cellH_eq ho]; rfl⟩, frozenH_eq ho, letH_intro fun H2 g2 => ?_⟩)⟩
    rw [Heap.set_block ho] at g2
    have g2 : H2 = H.upd e.b (oneO ⟨e.b, e.key, due⟩ i) := g2
    have ho2 : H2 e.b = some (oneO ⟨e.b, e.key, due⟩ i) := by rw [g2]; exact Heap.upd_same _ _ _
    have hte : t ≠ e.b := fun x => by have := hq.top; rw [x, ho] at this; simp at this
    have q2 : QT H2 t (.map (some mb)) s (es.set i ⟨e.b, e.key, due⟩) := by
      refine ⟨by rw [g2, Heap.upd_ne _ _ hte]; exact hq.top, ⟨?_, fun j d hj => ?_⟩, by simpa using hq.small⟩
      · obtain ⟨o1, o2, o3⟩ := hq.q.own
        have em : ((es.set i ⟨e.b, e.key, due⟩).map fun e => ptrV e.b) = es.map fun e => ptrV e.b := by
          rw [List.map_set]
          refine List.ext_getElem? fun j => ?_
          rw [List.getElem?_set]
          split
          · rename_i x; subst x
            have hg : es[i] = e := by have := List.getElem?_eq_getElem hli; rw [hi] at this; simpa using this.symm
            simp [hli, hg]
          · rfl
        rw [em]
        refine ⟨o1, o2, o3.imp_right fun ⟨b, arr, q, hb, r⟩ => ⟨b, arr, q, ?_, r⟩⟩
        have : b ≠ e.b := fun x => by rw [x, ho] at hb; simp at hb
        rw [g2, Heap.upd_ne _ _ this]; exact hb
      · rw [List.getElem?_set] at hj
        split at hj
        · rename_i x; subst x
          have hj : some (⟨e.b, e.key, due⟩ : E) = some d := by simpa [hli] using hj
          simp only [Option.some.injEq] at hj
          subst hj; exact ho2
        · rename_i x
          have hd' := hq.q.ones j d hj
          have : d.b ≠ e.b := fun y => by
            have hh := ho; rw [← y, hd'] at hh
            simp at hh
            omega
          rw [g2, Heap.upd_ne _ _ this]; exact hd'
    refine ptrm_intro rfl ⟨(i : Int), by rw [cellH_eq ho2]; rfl, ?_⟩
    have ei : ((i : Int)).toNat = i := by omega
    refine fix_spec (i := (i : Int)) q2 ⟨by omega, by simp; omega⟩ (by rw [ei]; simpa using heap_change hh (Nat.le_refl _) hli) fun H3 es3 h3 p3 hh3 k3 => ⟨rfl, ?_⟩
    have hmb2 : H2 mb = some (.map me mc) := by
      have : mb ≠ e.b := fun x => by rw [x, ho] at m1; cases m1
      rw [g2, Heap.upd_ne _ _ this]; exact m1
    have hm3 := k3.toT.map (t := t) hmb2 ⟨_, _, _, q2.top⟩
    obtain ⟨rest, r1, r2⟩ := set_perm (e' := ⟨e.b, e.key, due⟩) hi
    have l3 := p3.length_eq
    simp only [List.length_set] at l3
    refine k2 H3 es3 hd (fun x => x.1 e (List.mem_of_getElem? hi) rfl) ⟨⟨s, mb, ml, h3, ⟨me, mc, hm3, m2⟩, ?_⟩, hh3, ?_, by omega⟩ ?_
    · refine hp.trans (((r1.map fun e => (e.key, ptrV e.b)).trans ?_).trans ((p3.trans r2).symm.map fun e => (e.key, ptrV e.b)))
      exact List.Perm.refl _
    · have h1 := (r1.map E.key).nodup_iff.1 hk
      exact ((p3.trans r2).map E.key).nodup_iff.2 h1
    · refine ((p3.trans r2).map fun e => (e.key, e.due)).trans ?_
      have hb := but_of (rest := rest) (e := e) (es := es) (List.perm_append_comm.trans r1.symm) hk
      exact (hb.map fun e => (e.key, e.due)).cons _
end Go.Proofs.Ytcipmipadjenaaa
