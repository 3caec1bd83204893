/- Chapter 8: the steps of a log that takes what is new: append, cut, delete. -/
import Derived.Test.YtkabaoigablphaaP2
namespace Go.Proofs.Ytkabaoigablphaa
open Go.HL
set_option maxHeartbeats 800000
set_option maxRecDepth 10000

theorem putL_nodup {T : Tb} {k : Int} {v : List Nt} (h : (T.map Prod.fst).Nodup) : ((putL T k v).map Prod.fst).Nodup := by
  cases e : idxL T k with
  | none =>
    rw [putL_none e, List.map_append, List.nodup_append]
    refine ⟨h, by simp, fun a ha b hb => ?_⟩
    simp only [List.map_cons, List.map_nil, List.mem_singleton] at hb
    subst hb
    rintro rfl
    obtain ⟨q, hq⟩ := idxL_mem ha
    rw [e] at hq; cases hq
  | some q => rw [putL_keys (v := q.2) (by unfold lookL; rw [e]; rfl)]; exact h
theorem take_ahead (l : List Nt) (c : Int) : l.take (aheadM l c) = l.takeWhile fun x => decide (x.2.2.2 < c) := by
  have e := List.takeWhile_append_dropWhile (p := fun x : Nt => decide (x.2.2.2 < c)) (l := l)
  have : l.take (aheadM l c) = ((l.takeWhile fun x => decide (x.2.2.2 < c)) ++ l.dropWhile fun x => decide (x.2.2.2 < c)).take (aheadM l c) := by rw [e]
  rw [this]; exact List.take_left
theorem drop_ahead (l : List Nt) (c : Int) : l.drop (aheadM l c) = l.dropWhile fun x => decide (x.2.2.2 < c) := by
  have e := List.takeWhile_append_dropWhile (p := fun x : Nt => decide (x.2.2.2 < c)) (l := l)
  have : l.drop (aheadM l c) = ((l.takeWhile fun x => decide (x.2.2.2 < c)) ++ l.dropWhile fun x => decide (x.2.2.2 < c)).drop (aheadM l c) := by rw [e]
  rw [this]; exact List.drop_left
theorem takeWhile_filter {c : Int} {l : List Nt} (h : l.Pairwise NP) : (l.takeWhile fun x => decide (x.2.2.2 < c)) = l.filter fun x => decide (x.2.2.2 < c) := by
  induction l with
  | nil => rfl
  | cons a l ih =>
    obtain ⟨h1, h2⟩ := List.pairwise_cons.1 h
    by_cases q : a.2.2.2 < c
    · rw [List.takeWhile_cons_of_pos (by simpa using q), List.filter_cons_of_pos (by simpa using q), ih h2]
    · rw [List.takeWhile_cons_of_neg (by simpa using q), List.filter_cons_of_neg (by simpa using q)]
      symm
      refine List.filter_eq_nil_iff.2 fun x hx => ?_
      have := (h1 x hx).1
      simp only [decide_eq_true_eq]; omega
theorem logN_append (p : Int) (a b : List Bt) : logN p (a ++ b) = logN p a ++ logN p b := by simp [logN]
theorem logN_filter (p : Int) (c : Int) (l : List Bt) : (logN p l).filter (fun x => decide (x.2.2.2 < c)) = logN p (l.filter fun x => decide (x.base < c)) := by
  induction l with
  | nil => rfl
  | cons a l ih =>
    unfold logN at ih ⊢
    by_cases h1 : a.pid = p <;> by_cases h2 : a.base < c
    · rw [List.filter_cons_of_pos (by simpa using h1), List.map_cons, List.filter_cons_of_pos (by simpa using h2), ih, List.filter_cons_of_pos (a := a) (by simpa using h2), List.filter_cons_of_pos (by simpa using h1)]; rfl
    · rw [List.filter_cons_of_pos (by simpa using h1), List.map_cons, List.filter_cons_of_neg (by simpa using h2), ih, List.filter_cons_of_neg (a := a) (by simpa using h2)]
    · rw [List.filter_cons_of_neg (by simpa using h1), ih, List.filter_cons_of_pos (a := a) (by simpa using h2), List.filter_cons_of_neg (by simpa using h1)]
    · rw [List.filter_cons_of_neg (by simpa using h1), ih, List.filter_cons_of_neg (a := a) (by simpa using h2)]
section
variable {l : List Bt} {T : Tb} {start next i : Int}
theorem DI.step (h : DI l T start next i) : DI l T start next (i + 1) :=
  ⟨by have := h.i0; omega, by have := h.len; omega, h.st0, h.st1, by have := h.nx; omega, h.ok, h.lt, h.chain, h.keys, h.tab⟩
theorem DI.push (h : DI l T start next i) (hi : i ≤ 200) {b : Bt} (hb : OkB b) (hbase : b.base = next) (hafter : ∀ x ∈ logN b.pid l, x.1 < b.epoch ∨ x.1 = b.epoch ∧ x.2.1 + x.2.2.1 ≤ b.seq) :
    DI (l ++ [b]) (noteM T b.base b.pid b.epoch b.seq b.n) start (next + b.n) (i + 1) := by
  have hlate : lateB ((lookL T b.pid).getD []) b.base b.epoch b.seq = false := by
    unfold lateB
    split
    · rfl
    · rename_i q
      have hne : (lookL T b.pid).getD [] ≠ [] := fun e => q (by rw [e]; rfl)
      have hm := h.sub (lastN_mem hne)
      have h1 := h.nb hm
      have h2 := hafter _ hm
      have e1 : nextS ((lookL T b.pid).getD []) = (lastN ((lookL T b.pid).getD [])).2.1 + (lastN ((lookL T b.pid).getD [])).2.2.1 := by
        unfold nextS
        rw [wrap64_id (by have := h1.1; show _ ≤ (lastN ((lookL T b.pid).getD [])).2.1 + (lastN ((lookL T b.pid).getD [])).2.2.1; omega) (by have := h1.2.1; show (lastN ((lookL T b.pid).getD [])).2.1 + (lastN ((lookL T b.pid).getD [])).2.2.1 ≤ _; omega)]
      rw [e1]
      show (decide ((lastN ((lookL T b.pid).getD [])).2.2.2 ≥ b.base) || decide ((lastN ((lookL T b.pid).getD [])).1 > b.epoch) || (decide ((lastN ((lookL T b.pid).getD [])).1 = b.epoch) && decide (b.seq < _))) = false
      rw [decide_eq_false (p := (lastN ((lookL T b.pid).getD [])).2.2.2 ≥ b.base) (by omega), decide_eq_false (p := (lastN ((lookL T b.pid).getD [])).1 > b.epoch) (by omega)]
      by_cases c : (lastN ((lookL T b.pid).getD [])).1 = b.epoch
      · rw [decide_eq_false (p := b.seq < _) (by omega)]; simp
      · rw [decide_eq_false c]; rfl
  have eT : noteM T b.base b.pid b.epoch b.seq b.n = putL T b.pid ((lookL T b.pid).getD [] ++ [ntOf b]) := by
    unfold noteM
    rw [if_neg (by rw [hlate]; simp)]
  rw [eT]
  have hn0 := hb.n0
  have hn1 := hb.n1
  refine ⟨by have := h.i0; omega, by have := h.len; rw [List.length_append]; simp; omega, h.st0, by have := h.st1; omega, by have := h.nx; omega, fun x hx => ?_, fun x hx => ?_, ?_, putL_nodup h.keys, fun p => ?_⟩
  · rcases List.mem_append.1 hx with y | y
    · exact h.ok x y
    · simp only [List.mem_singleton] at y; rw [y]; exact hb
  · rcases List.mem_append.1 hx with y | y
    · have := h.lt x y; omega
    · simp only [List.mem_singleton] at y; rw [y]; omega
  · refine List.pairwise_append.2 ⟨h.chain, by simp, fun x hx y hy => ?_⟩
    simp only [List.mem_singleton] at hy
    subst hy
    refine ⟨by rw [hbase]; exact h.lt x hx, fun e => ?_⟩
    exact hafter (ntOf x) (List.mem_map.2 ⟨x, List.mem_filter.2 ⟨hx, by simpa using e⟩, rfl⟩)
  · obtain ⟨D, S1, S2, e1, e2, hs, hlt⟩ := h.tab p
    rw [lookL_put, logN_append]
    by_cases c : p = b.pid
    · subst c
      rw [if_pos rfl]
      refine ⟨D, S1, S2 ++ [ntOf b], ?_, ?_, hs, hlt⟩
      · rw [e1]
        have : logN b.pid [b] = [ntOf b] := by simp [logN]
        rw [this]; simp
      · show (lookL T b.pid).getD [] ++ [ntOf b] = _
        rw [e2]; simp
    · rw [if_neg c]
      have : logN p [b] = [] := by
        have c' : ¬ b.pid = p := fun e => c e.symm
        simp [logN, c']
      rw [this, List.append_nil]
      exact ⟨D, S1, S2, e1, e2, hs, hlt⟩
theorem DI.cut (h : DI l T start next i) {k : Nat} (hk : k < l.length) (hs : start ≤ l[k].base) : DI (l.take k) (cutM T l[k].base) start l[k].base (i + 1) := by
  have hmem : l[k] ∈ l := List.getElem_mem hk
  have es : l = l.take k ++ l[k] :: l.drop (k + 1) := by rw [← List.drop_eq_getElem_cons hk, List.take_append_drop]
  have hch := h.chain
  rw [es] at hch
  obtain ⟨c1, c2, c3⟩ := List.pairwise_append.1 hch
  have hlt : ∀ x ∈ l.take k, x.base < l[k].base := fun x hx => (c3 x hx _ List.mem_cons_self).1
  have hge : ∀ x ∈ l[k] :: l.drop (k + 1), ¬ x.base < l[k].base := fun x hx => by
    rcases List.mem_cons.1 hx with e | e
    · rw [e]; omega
    · have := ((List.pairwise_cons.1 c2).1 x e).1; omega
  have hf : (l.filter fun x => decide (x.base < l[k].base)) = l.take k := by
    have e : (l.filter fun x => decide (x.base < l[k].base)) = (l.take k ++ l[k] :: l.drop (k + 1)).filter fun x => decide (x.base < l[k].base) := by rw [← es]
    rw [e, List.filter_append, List.filter_eq_self.2 (fun x hx => decide_eq_true (hlt x hx)), List.filter_eq_nil_iff.2 (fun x hx => by simpa using hge x hx), List.append_nil]
  have hin : ∀ x ∈ l.take k, x ∈ l := fun x hx => List.mem_of_mem_take hx
  refine ⟨by have := h.i0; omega, by have := h.len; rw [List.length_take]; omega, h.st0, hs, by have := h.lt _ hmem; have := h.nx; omega, fun x hx => h.ok x (hin x hx), hlt, c1, fm_keys h.keys, fun p => ?_⟩
  obtain ⟨D, S1, S2, e1, e2, hsf, hl⟩ := h.tab p
  have np := h.np p
  rw [e1] at np
  have npS := (List.pairwise_append.1 np).2.1
  refine ⟨D, S1, S2.filter fun x => decide (x.2.2.2 < l[k].base), ?_, ?_, hsf, hl⟩
  · rw [← hf, ← logN_filter, e1, List.filter_append, List.filter_append, List.filter_eq_self.2 (fun x hx => decide_eq_true (by have := hl x (List.mem_append_left _ hx); omega)),
      (List.filter_eq_self (l := S1)).2 (fun x hx => decide_eq_true (by have := hl x (List.mem_append_right _ hx); omega))]
  · have e3 : (lookL (cutM T l[k].base) p).getD [] = ((lookL T p).getD []).takeWhile fun x => decide (x.2.2.2 < l[k].base) := by
      unfold cutM
      rw [look_fm h.keys]
      cases q : lookL T p with
      | none => rfl
      | some w =>
        show ((if aheadM w l[k].base > 0 then some (w.take (aheadM w l[k].base)) else none : Option (List Nt))).getD [] = w.takeWhile _
        rw [← take_ahead]
        split
        · rfl
        · rename_i c
          have : aheadM w l[k].base = 0 := by omega
          rw [this]; rfl
    rw [e3, e2, takeWhile_filter npS, List.filter_append, (List.filter_eq_self (l := S1)).2 (fun x hx => decide_eq_true (by have := hl x (List.mem_append_right _ hx); omega))]
theorem DI.del (h : DI l T start next i) {c : Int} (hc0 : start ≤ c) (hc1 : c ≤ next) : DI l (delM T c) c next (i + 1) := by
  refine ⟨by have := h.i0; omega, by have := h.len; omega, by have := h.st0; omega, hc1, by have := h.nx; omega, h.ok, h.lt, h.chain, fm_keys h.keys, fun p => ?_⟩
  obtain ⟨D, S1, S2, e1, e2, hs, hl⟩ := h.tab p
  have hm := np_mon (h.np p)
  have e3 : (lookL (delM T c) p).getD [] = latestM (((lookL T p).getD []).takeWhile fun x => decide (x.2.2.2 < c)) 5 ++ ((lookL T p).getD []).dropWhile fun x => decide (x.2.2.2 < c) := by
    unfold delM
    rw [look_fm h.keys]
    cases q : lookL T p with
    | none => rfl
    | some w =>
      show latestM (w.take (aheadM w c)) 5 ++ w.drop (aheadM w c) = latestM (w.takeWhile _) 5 ++ w.dropWhile _
      rw [take_ahead, drop_ahead]
  rw [e2] at e3
  have hS1 : ∀ x ∈ S1, decide (x.2.2.2 < c) = true := fun x hx => decide_eq_true (by have := hl x (List.mem_append_right _ hx); omega)
  have hA : ((S1 ++ S2).takeWhile fun x => decide (x.2.2.2 < c)) = S1 ++ S2.takeWhile fun x => decide (x.2.2.2 < c) := List.takeWhile_append_of_pos hS1
  have hAB := List.takeWhile_append_dropWhile (p := fun x : Nt => decide (x.2.2.2 < c)) (l := S1 ++ S2)
  have hSA : Safe D ((S1 ++ S2).takeWhile fun x => decide (x.2.2.2 < c)) := by rw [hA]; exact hs.more _
  have hAlt : ∀ x ∈ (S1 ++ S2).takeWhile (fun x => decide (x.2.2.2 < c)), x.2.2.2 < c := fun x hx => by
    have := List.all_takeWhile (p := fun x : Nt => decide (x.2.2.2 < c)) (l := S1 ++ S2)
    exact of_decide_eq_true (List.all_eq_true.1 this x hx)
  generalize ((S1 ++ S2).takeWhile fun x => decide (x.2.2.2 < c)) = A at *
  generalize ((S1 ++ S2).dropWhile fun x => decide (x.2.2.2 < c)) = B at *
  rw [e1, ← hAB, ← List.append_assoc] at hm
  obtain ⟨A0, eA, hS⟩ := hSA.del (List.pairwise_append.1 hm).1
  refine ⟨D ++ A0, latestM A 5, B, ?_, e3, hS, fun x hx => ?_⟩
  · rw [e1, ← hAB, List.append_assoc, ← List.append_assoc A0, ← eA]
  · rw [List.append_assoc, ← eA] at hx
    rcases List.mem_append.1 hx with y | y
    · have := hl x (List.mem_append_left _ y); omega
    · exact hAlt x y
end
end Go.Proofs.Ytkabaoigablphaa
