/- Chapter 8: the plain law of a log that takes what is new: what the table knows of it. -/
import Derived.Test.YtkabaoigablphaaP1
namespace Go.Proofs.Ytkabaoigablphaa
open Go.HL
set_option maxHeartbeats 800000
set_option maxRecDepth 10000

theorem look_fm {f : Int → List Nt → Option (List Nt)} {k : Int} : ∀ {T : Tb}, (T.map Prod.fst).Nodup → lookL (T.filterMap fun p => (f p.1 p.2).map fun v => (p.1, v)) k = (lookL T k).bind (f k) := by
  intro T
  induction T with
  | nil => intro _; rfl
  | cons p T ih =>
    intro hn
    obtain ⟨h1, h2⟩ := List.nodup_cons.1 (show (p.1 :: T.map Prod.fst).Nodup from hn)
    have ih := ih h2
    by_cases e : k = p.1
    · subst e
      rw [lookL_cons_eq]
      cases q : f p.1 p.2 with
      | none =>
        rw [List.filterMap_cons_none (by rw [q]; rfl), ih, lookL_none h1]
        show none = f p.1 p.2
        rw [q]
      | some v =>
        rw [List.filterMap_cons_some (by rw [q]; rfl)]
        show lookL ((p.1, v) :: _) p.1 = f p.1 p.2
        rw [q]; exact lookL_cons_eq (p := (p.1, v))
    · rw [lookL_cons_ne e, ← ih]
      cases q : f p.1 p.2 with
      | none => rw [List.filterMap_cons_none (by rw [q]; rfl)]
      | some v => rw [List.filterMap_cons_some (by rw [q]; rfl), lookL_cons_ne (p := (p.1, v)) e]
theorem fm_keys {f : Int → List Nt → Option (List Nt)} : ∀ {T : Tb}, (T.map Prod.fst).Nodup → ((T.filterMap fun p => (f p.1 p.2).map fun v => (p.1, v)).map Prod.fst).Nodup := by
  intro T hn
  refine hn.sublist ?_
  clear hn
  induction T with
  | nil => exact List.Sublist.slnil
  | cons p T ih =>
    cases q : f p.1 p.2 with
    | none => rw [List.filterMap_cons_none (by rw [q]; rfl)]; exact ih.cons _
    | some v => rw [List.filterMap_cons_some (by rw [q]; rfl)]; exact ih.cons_cons _
theorem look_mem {T : Tb} {p : Int × List Nt} (hn : (T.map Prod.fst).Nodup) (h : p ∈ T) : lookL T p.1 = some p.2 := by
  obtain ⟨i, hi⟩ := List.getElem?_of_mem h
  unfold lookL
  rw [idxL_nodup hn (k := p.1) (v := p.2) hi]; rfl
/-- A batch as the law makes them. -/
structure OkB (b : Bt) : Prop where
  pid0 : 1 ≤ b.pid
  pid1 : b.pid ≤ 3
  ep0 : 0 ≤ b.epoch
  ep1 : b.epoch ≤ 2
  seq0 : 0 ≤ b.seq
  seq1 : b.seq ≤ 11
  n0 : 1 ≤ b.n
  n1 : b.n ≤ 3
  base0 : 0 ≤ b.base
def NP (x y : Nt) : Prop := x.2.2.2 < y.2.2.2 ∧ (x.1 < y.1 ∨ x.1 = y.1 ∧ x.2.1 + x.2.2.1 ≤ y.2.1)
structure DI (l : List Bt) (T : Tb) (start next i : Int) : Prop where
  i0 : 0 ≤ i
  len : (l.length : Int) ≤ i
  st0 : 0 ≤ start
  st1 : start ≤ next
  nx : next ≤ 3 * i
  ok : ∀ x ∈ l, OkB x
  lt : ∀ x ∈ l, x.base < next
  chain : l.Pairwise fun x y => x.base < y.base ∧ (x.pid = y.pid → x.epoch < y.epoch ∨ x.epoch = y.epoch ∧ x.seq + (x.n : Int) ≤ y.seq)
  keys : (T.map Prod.fst).Nodup
  tab : ∀ p, ∃ D S1 S2, logN p l = D ++ (S1 ++ S2) ∧ (lookL T p).getD [] = S1 ++ S2 ∧ Safe D S1 ∧ ∀ x ∈ D ++ S1, x.2.2.2 < start
section
variable {l : List Bt} {T : Tb} {start next i : Int}
theorem DI.init : DI [] [] 0 0 0 := ⟨by decide, by decide, by decide, by decide, by decide, by simp, by simp, List.Pairwise.nil, List.nodup_nil, fun p => ⟨[], [], [], rfl, rfl, .inl rfl, by simp⟩⟩
theorem DI.np (h : DI l T start next i) (p : Int) : (logN p l).Pairwise NP := by
  unfold logN
  rw [List.pairwise_map]
  refine List.Pairwise.imp_of_mem (fun {x y} hx hy hxy => ?_) (h.chain.filter _)
  have hx := (List.mem_filter.1 hx).2
  have hy := (List.mem_filter.1 hy).2
  exact ⟨hxy.1, hxy.2 ((of_decide_eq_true hx).trans (of_decide_eq_true hy).symm)⟩
theorem np_mon {N : List Nt} (h : N.Pairwise NP) : Mon N := h.imp fun {x y} hxy => by unfold NP at hxy; omega
theorem mem_logN {p : Int} {x : Nt} (hx : x ∈ logN p l) : ∃ b ∈ l, b.pid = p ∧ ntOf b = x := by
  obtain ⟨b, hb, e⟩ := List.mem_map.1 hx
  obtain ⟨h1, h2⟩ := List.mem_filter.1 hb
  exact ⟨b, h1, of_decide_eq_true h2, e⟩
theorem DI.lat (h : DI l T start next i) (p : Int) : latestM ((lookL T p).getD []) 5 = latestM (logN p l) 5 := by
  obtain ⟨D, S1, S2, e1, e2, hs, -⟩ := h.tab p
  have hm := np_mon (h.np p)
  rw [e1] at hm
  rw [e2, e1, (hs.more S2).lat (List.pairwise_append.1 hm).2.1]
theorem DI.sub (h : DI l T start next i) {p : Int} {x : Nt} (hx : x ∈ (lookL T p).getD []) : x ∈ logN p l := by
  obtain ⟨D, S1, S2, e1, e2, -, -⟩ := h.tab p
  rw [e2] at hx
  rw [e1]; exact List.mem_append_right _ hx
theorem DI.low (h : DI l T start next i) (hi : i ≤ 200) : Low T 100000 := fun p hp => by
  obtain ⟨D, S1, S2, e1, e2, -, -⟩ := h.tab p.1
  rw [look_mem h.keys hp] at e2
  have e2 : p.2 = S1 ++ S2 := e2
  have hl : (logN p.1 l).length ≤ l.length := by
    unfold logN; rw [List.length_map]; exact List.length_filter_le _ _
  rw [e1, List.length_append, ← e2] at hl
  have := h.len
  omega
/-- The answer, said of the log. -/
def askN (N : List Nt) (epoch seq n : Int) : Int × Int := askL (latestM N 5) epoch seq n
theorem DI.ask (h : DI l T start next i) {b : Bt} (hb : OkB b) : askM T b.pid b.epoch b.seq b.n = askN (logN b.pid l) b.epoch b.seq b.n := by
  have h1 := hb.pid0; have h2 := hb.pid1; have h3 := hb.ep0; have h4 := hb.ep1; have h5 := hb.seq0; have h6 := hb.seq1; have h7 := hb.n0; have h8 := hb.n1
  have hin : ∀ x : Int, 0 ≤ x → x ≤ 1000000000 → inB x 1000000000 = true := fun x h0 h1 => by unfold inB; rw [decide_eq_true h0, decide_eq_true h1]; rfl
  unfold askM
  rw [if_neg (by
    unfold askBad
    rw [hin _ (by omega) (by omega), hin _ h3 (by omega), hin _ h5 (by omega), decide_eq_false (show ¬ (b.n : Int) < 1 by omega), decide_eq_false (show ¬ (b.n : Int) > 64 by omega), decide_eq_false (show ¬ b.pid = 0 by omega)]
    simp), if_neg (by omega), if_neg (by omega), h.lat]
  rfl
theorem lat_sub {N : List Nt} {y : Nt} (h : y ∈ latestM N 5) : y ∈ N := List.mem_of_mem_drop h
theorem getD0 {Y : List Nt} (h : Y ≠ []) : Y.getD 0 nt0 ∈ Y := by
  cases Y with
  | nil => exact absurd rfl h
  | cons a Y => exact List.mem_cons_self
theorem nextS_lat {N : List Nt} (hb : 0 ≤ (lastN N).2.1 + (lastN N).2.2.1 ∧ (lastN N).2.1 + (lastN N).2.2.1 ≤ 1000) : nextS (latestM N 5) = (lastN N).2.1 + (lastN N).2.2.1 := by
  have e := lat_last (l := N) (m := 5) (by decide)
  unfold nextS
  show IntKind.wrap .i64 ((lastN (latestM N 5)).2.1 + (lastN (latestM N 5)).2.2.1) = _
  rw [e, wrap64_id (by omega) (by omega)]
theorem DI.nb (h : DI l T start next i) {p : Int} {x : Nt} (hx : x ∈ logN p l) : 0 ≤ x.2.1 + x.2.2.1 ∧ x.2.1 + x.2.2.1 ≤ 1000 ∧ 0 ≤ x.2.2.1 ∧ 0 ≤ x.2.2.2 ∧ 0 ≤ x.1 ∧ x.2.2.2 < next := by
  obtain ⟨b, hb, -, rfl⟩ := mem_logN hx
  have := h.ok b hb
  have h5 := this.seq0; have h6 := this.seq1; have h7 := this.n0; have h8 := this.n1; have := this.base0; have h9 := (h.ok b hb).ep0; have := h.lt b hb
  refine ⟨?_, ?_, ?_, ?_, ?_, ?_⟩ <;> dsimp only [ntOf] <;> omega
theorem np_last {N : List Nt} {x : Nt} (np : N.Pairwise NP) (hx : x ∈ N) (hnn : 0 ≤ (lastN N).2.2.1) (heq : x.1 = (lastN N).1) : x.2.1 + x.2.2.1 ≤ (lastN N).2.1 + (lastN N).2.2.1 := by
  induction N with
  | nil => simp at hx
  | cons a N ih =>
    obtain ⟨n1, n2⟩ := List.pairwise_cons.1 np
    by_cases hN' : N = []
    · subst hN'
      simp only [List.mem_singleton] at hx
      subst hx; exact Int.le_refl _
    · rw [lastN_cons hN'] at heq hnn ⊢
      rcases List.mem_cons.1 hx with e | e
      · subst e
        have := (n1 _ (lastN_mem hN')).2
        omega
      · exact ih n2 e hnn heq
/-- What is new lies behind all. -/
theorem DI.after (h : DI l T start next i) {b : Bt} (hb : OkB b) (h0 : (askN (logN b.pid l) b.epoch b.seq b.n).2 = 0) (h1 : (askN (logN b.pid l) b.epoch b.seq b.n).1 < 0) :
    ∀ x ∈ logN b.pid l, x.1 < b.epoch ∨ x.1 = b.epoch ∧ x.2.1 + x.2.2.1 ≤ b.seq := by
  intro x hx
  have hN : logN b.pid l ≠ [] := List.ne_nil_of_mem hx
  have hm := np_mon (h.np b.pid)
  have hxl := hm.last hx
  have hY : latestM (logN b.pid l) 5 ≠ [] := lat_ne (by decide) hN
  have hY0 : ¬ (latestM (logN b.pid l) 5).length = 0 := fun e => hY (List.length_eq_zero_iff.1 e)
  have e0 : ((latestM (logN b.pid l) 5).getD 0 nt0).1 = (lastN (logN b.pid l)).1 := lat_epoch (by decide) _ (getD0 hY)
  unfold askN askL at h0 h1
  rw [if_neg hY0, e0] at h0 h1
  by_cases c1 : b.epoch > (lastN (logN b.pid l)).1
  · exact .inl (by omega)
  rw [if_neg c1] at h0 h1
  by_cases c2 : b.epoch < (lastN (logN b.pid l)).1
  · rw [if_pos c2] at h0; exact absurd h0 (by decide)
  rw [if_neg c2] at h0 h1
  have hlast := lastN_mem hN
  have hnb := h.nb hlast
  rw [nextS_lat ⟨hnb.1, hnb.2.1⟩] at h0 h1
  cases q : (latestM (logN b.pid l) 5).find? (isN b.epoch b.seq b.n) with
  | some y =>
    rw [q] at h1
    have := (h.nb (lat_sub (List.mem_of_find?_eq_some q))).2.2.2.1
    exact absurd h1 (by show ¬ y.2.2.2 < 0; omega)
  | none =>
    rw [q] at h0
    dsimp only at h0
    by_cases c3 : b.seq = (lastN (logN b.pid l)).2.1 + (lastN (logN b.pid l)).2.2.1
    · by_cases c4 : x.1 < b.epoch
      · exact .inl c4
      · refine .inr ⟨by omega, ?_⟩
        have key := np_last (h.np b.pid) hx hnb.2.2.1 (by omega)
        omega
    · rw [if_neg c3] at h0
      split at h0 <;> exact absurd h0 (by decide)
/-- An answer is one that a log may give. -/
theorem DI.answer (h : DI l T start next i) {b : Bt} (hb : OkB b) : finB b (askN (logN b.pid l) b.epoch b.seq b.n).1 (askN (logN b.pid l) b.epoch b.seq b.n).2 (ansF b l) = true := by
  have hep := hb.ep0
  have hse := hb.seq0
  rw [ansF_filter]
  by_cases hN : logN b.pid l = []
  · have hL : (l.filter fun x => decide (x.pid = b.pid)) = [] := by simpa [logN] using hN
    rw [hL, hN]
    show finB b (askL [] b.epoch b.seq b.n).1 (askL [] b.epoch b.seq b.n).2 ⟨-1, 0, 0, -1⟩ = true
    unfold askL
    rw [if_pos (show ([] : List Nt).length = 0 from rfl)]
    split
    · rename_i c
      show finB b (-1) 11 _ = true
      unfold finB
      rw [if_neg (by decide), if_neg (by decide), if_neg (by decide), if_pos rfl, decide_eq_true (p := b.epoch > -1) (by omega), decide_eq_true (p := b.seq > 0) c]
      simp
    · rename_i c
      show finB b (-1) 0 _ = true
      unfold finB
      rw [if_neg (by decide), if_pos rfl, decide_eq_true (p := b.epoch > -1) (by omega), decide_eq_true (p := b.seq = 0) (by omega)]
      simp
  have hL : (l.filter fun x => decide (x.pid = b.pid)) ≠ [] := by simpa [logN] using hN
  have hm := np_mon (h.np b.pid)
  obtain ⟨ct, e1, -⟩ := ans_state (b := b) (L := l.filter fun x => decide (x.pid = b.pid)) (fun x hx => by
    obtain ⟨h1, h2⟩ := List.mem_filter.1 hx
    exact ⟨of_decide_eq_true h2, (h.ok x h1).ep0⟩) hm hL
  rw [e1]
  have hY : latestM (logN b.pid l) 5 ≠ [] := lat_ne (by decide) hN
  have hY0 : ¬ (latestM (logN b.pid l) 5).length = 0 := fun e => hY (List.length_eq_zero_iff.1 e)
  have e0 : ((latestM (logN b.pid l) 5).getD 0 nt0).1 = (lastN (logN b.pid l)).1 := lat_epoch (by decide) _ (getD0 hY)
  have hnb := h.nb (lastN_mem hN)
  have hns := nextS_lat ⟨hnb.1, hnb.2.1⟩
  have hnone : ¬ b.epoch = (lastN (logN b.pid l)).1 → fndN b (latestM (logN b.pid l) 5) = -1 := fun c => by
    unfold fndN
    rw [List.find?_eq_none.2 fun y hy => ?_]
    have := lat_epoch (l := logN b.pid l) (m := 5) (by decide) y hy
    intro z
    have z := (of_decide_eq_true z).1
    exact c (by omega)
  have hE : (lastN (logN b.pid l)).1 = (lastN ((l.filter fun x => decide (x.pid = b.pid)).map ntOf)).1 := rfl
  generalize hA : (⟨(lastN ((l.filter fun x => decide (x.pid = b.pid)).map ntOf)).1, (lastN ((l.filter fun x => decide (x.pid = b.pid)).map ntOf)).2.1 + (lastN ((l.filter fun x => decide (x.pid = b.pid)).map ntOf)).2.2.1, ct, fndN b (latestM ((l.filter fun x => decide (x.pid = b.pid)).map ntOf) 5)⟩ : Ans) = A
  have hA : A = ⟨(lastN (logN b.pid l)).1, (lastN (logN b.pid l)).2.1 + (lastN (logN b.pid l)).2.2.1, ct, fndN b (latestM (logN b.pid l) 5)⟩ := hA.symm
  have h0y : ∀ y ∈ logN b.pid l, 0 ≤ y.2.2.2 := fun y hy => (h.nb hy).2.2.2.1
  clear e1 hE hL
  unfold askN askL
  rw [if_neg hY0, e0]
  generalize logN b.pid l = N at *
  by_cases c1 : b.epoch > (lastN N).1
  · rw [if_pos c1, hA, hnone (by omega)]
    split
    · rename_i c
      show finB b (-1) 11 _ = true
      unfold finB
      dsimp only
      rw [if_neg (by decide), if_neg (by decide), if_neg (by decide), if_pos rfl]
      rw [decide_eq_true c1, decide_eq_true c]; simp
    · rename_i c
      show finB b (-1) 0 _ = true
      unfold finB
      dsimp only
      rw [if_neg (by decide), if_pos rfl]
      rw [decide_eq_true c1, decide_eq_true (p := b.seq = 0) (by omega)]; simp
  rw [if_neg c1]
  by_cases c2 : b.epoch < (lastN N).1
  · rw [if_pos c2, hA, hnone (by omega)]
    show finB b (-1) 13 _ = true
    unfold finB
    dsimp only
    rw [if_neg (by decide), if_neg (by decide), if_pos rfl]
    exact decide_eq_true c2
  rw [if_neg c2, hns]
  have hee : b.epoch = (lastN N).1 := by omega
  unfold fndN at hA
  cases q : (latestM N 5).find? (isN b.epoch b.seq b.n) with
  | some y =>
    rw [q] at hA
    have hy : y ∈ N := lat_sub (List.mem_of_find?_eq_some q)
    have h0 : 0 ≤ y.2.2.2 := by
      exact h0y y hy
    dsimp only at hA ⊢
    rw [hA]
    unfold finB
    rw [if_pos h0]; simp
  | none =>
    rw [q] at hA
    dsimp only at hA ⊢
    by_cases c3 : b.seq = (lastN N).2.1 + (lastN N).2.2.1
    · rw [if_pos c3, hA]
      unfold finB
      dsimp only
      rw [if_neg (by decide), if_pos rfl]
      rw [decide_eq_true hee, decide_eq_true c3]; rfl
    · rw [if_neg c3]
      split
      · rename_i c4
        rw [hA]
        unfold finB
        dsimp only
        rw [if_neg (by decide), if_neg (by decide), if_neg (by decide), if_pos rfl]
        rw [decide_eq_true hee, decide_eq_true c4]; rfl
      · rename_i c4
        rw [hA]
        unfold finB
        dsimp only
        rw [if_neg (by decide), if_neg (by decide), if_neg (by decide), if_neg (by decide)]
        rw [decide_eq_true hee, decide_eq_true (p := b.seq < (lastN N).2.1 + (lastN N).2.2.1) (by omega)]; rfl
end
end Go.Proofs.Ytkabaoigablphaa
