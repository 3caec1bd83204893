import Derived.Test.YthldclmeojkboaaGreatDoorHlPure
namespace Go.HL
set_option linter.unusedVariables false
set_option linter.unusedSimpArgs false
theorem locH_mem {bs : List Nat} : ∀ {ls : List (Option (Nat × List Value))} {b : Nat} {o : Obj}, locH bs ls b = some o →
    ∃ i T c, bs[i]? = some b ∧ locL ls i = some (T, c) ∧ o = .cells c.toArray T (0, 0) := by
  induction bs with
  | nil => intro ls b o h; cases h
  | cons x bs ih =>
    intro ls b o h
    cases ls with
    | nil => cases h
    | cons y ls =>
      simp only [locH] at h
      by_cases e : b = x
      · rw [if_pos e] at h
        cases y with
        | some y =>
          simp only [Option.some.injEq] at h
          exact ⟨0, y.1, y.2, by simp [e], rfl, h.symm⟩
        | none =>
          obtain ⟨i, T, c, h1, h2, h3⟩ := ih h
          exact ⟨i + 1, T, c, by simpa using h1, h2, h3⟩
      · rw [if_neg e] at h
        obtain ⟨i, T, c, h1, h2, h3⟩ := ih h
        exact ⟨i + 1, T, c, by simpa using h1, h2, h3⟩
structure Rel (st : St) (bs : List Nat) (H R : Heap) (a : Act) (w : World) : Prop where
  len : bs.length = st.loc.length
  nd : bs.Nodup
  lt : ∀ b ∈ bs, b < w.heap.size
  fit : Fit (H.join (locH bs st.loc)) R w
  dj : H.disj (locH bs st.loc)
  env : Env bs st.env a.tmps
  df : a.defers = []
theorem Rel.apart {st : St} {bs : List Nat} {H R : Heap} {a : Act} {w : World} (h : Rel st bs H R a w) {b : Nat} {o : Obj} (hb : R b = some o) : H b = none ∧ locH bs st.loc b = none := by
  have := h.fit.apart _ _ hb
  unfold Heap.join at this
  cases h1 : H b with
  | some x => rw [h1] at this; simp at this
  | none => rw [h1] at this; exact ⟨rfl, by simpa using this⟩
theorem Rel.fitH {st : St} {bs : List Nat} {H R : Heap} {a : Act} {w : World} (h : Rel st bs H R a w) : Fit H (R.join (locH bs st.loc)) w := h.fit.split h.dj
theorem Rel.heap {st : St} {bs : List Nat} {H H' R : Heap} {a : Act} {w w' : World} (h : Rel st bs H R a w) (hf : Fit H' (R.join (locH bs st.loc)) w') (hc : Calm w w') : Rel st bs H' R a w' := by
  obtain ⟨h1, h2⟩ := hf.glue (fun b o hb => (h.apart hb).2)
  exact ⟨h.len, h.nd, fun b hb => Nat.lt_of_lt_of_le (h.lt b hb) hc.size, h1, h2, h.env, h.df⟩
theorem Rel.put {st : St} {bs : List Nat} {H R : Heap} {a : Act} {w : World} (h : Rel st bs H R a w) (d : Option Tmp) {x : SVal} {v : Value} (hx : SRel bs x v) : Rel (st.put d x) bs H R (a.put d v) w := by
  refine ⟨?_, h.nd, h.lt, ?_, ?_, h.env.put d hx, ?_⟩
  · cases d <;> exact h.len
  · cases d <;> exact h.fit
  · cases d <;> exact h.dj
  · cases d <;> exact h.df
theorem exTs_ex {P : Program} : ∀ {ts : List TypeId} {acc : List Value} {f : List Value → Prop}, exTs P ts acc f → ∃ l, f l := by
  intro ts
  induction ts with
  | nil => intro acc f h; exact ⟨_, h⟩
  | cons t ts ih => intro acc f h; obtain ⟨v, h⟩ := exT_ex h; exact ih h
theorem exR_ex {P : Program} {t : TypeId} {f : Value → Prop} (h : exR P t f) : ∃ v, f v := by
  unfold exR at h
  split at h
  · obtain ⟨l, h⟩ := exTs_ex h; exact ⟨_, h⟩
  · exact exT_ex h
def BsExt (bs bs' : List Nat) : Prop := ∀ (i b : Nat), bs[i]? = some b → bs'[i]? = some b
theorem BsExt.refl (bs : List Nat) : BsExt bs bs := fun _ _ h => h
theorem BsExt.trans {a b c : List Nat} (h : BsExt a b) (k : BsExt b c) : BsExt a c := fun i x hx => k i x (h i x hx)
def LocExt (l l' : List (Option (Nat × List Value))) : Prop := ∀ i x, locL l i = some x → locL l' i = some x
theorem LocExt.refl (l : List (Option (Nat × List Value))) : LocExt l l := fun _ _ h => h
theorem LocExt.trans {a b c : List (Option (Nat × List Value))} (h : LocExt a b) (k : LocExt b c) : LocExt a c := fun i x hx => k i x (h i x hx)
theorem put_loc (st : St) (d : Option Tmp) (x : SVal) : (st.put d x).loc = st.loc := by cases d <;> rfl
theorem LocExt.put (st : St) (d : Option Tmp) (x : SVal) : LocExt st.loc (st.put d x).loc := by rw [put_loc]; exact LocExt.refl _
def Good (P : Program) (o : Oper) (st : St) (bs : List Nat) (H R : Heap) (a : Act) (w : World) (K : St → Heap → Prop) : Prop :=
  ∀ (next : Act → World → Prop) (Q : Exit → Act → World → Prop),
    (∀ st' bs' H' a' w', Rel st' bs' H' R a' w' → Calm w w' → BsExt bs bs' → (keepOK o st = true → LocExt st.loc st'.loc) → K st' H' → next a' w') → o.wp P a w next Q
theorem Good.of_value {P : Program} {o : Oper} {st : St} {bs : List Nat} {H R : Heap} {a : Act} {w : World} {K : St → Heap → Prop} {v : Value} {w' : World}
    (hr : (execOp a.eval o).run P w = .ok (.value v) w') {st' : St} {bs' : List Nat} {H' : Heap} (h1 : Rel st' bs' H' R (a.put o.dst v) w') (h2 : Calm w w') (h3 : K st' H') (h4 : BsExt bs bs') (h5 : keepOK o st = true → LocExt st.loc st'.loc) : Good P o st bs H R a w K := by
  intro next Q hk
  unfold Oper.wp
  rw [hr]
  exact hk _ _ _ _ _ h1 h2 h4 h5 h3
theorem Good.of_skip {P : Program} {o : Oper} {st : St} {bs : List Nat} {H R : Heap} {a : Act} {w : World} {K : St → Heap → Prop} {w' : World}
    (hr : (execOp a.eval o).run P w = .ok .skip w') {st' : St} {bs' : List Nat} {H' : Heap} (h1 : Rel st' bs' H' R (a.put o.dst undef) w') (h2 : Calm w w') (h3 : K st' H') (h4 : BsExt bs bs') (h5 : keepOK o st = true → LocExt st.loc st'.loc) : Good P o st bs H R a w K := by
  intro next Q hk
  unfold Oper.wp
  rw [hr]
  exact hk _ _ _ _ _ h1 h2 h4 h5 h3
theorem Good.of_enter {P : Program} {o : Oper} {st : St} {bs : List Nat} {H R : Heap} {a : Act} {w w1 : World} {K : St → Heap → Prop} {f : FuncId} {args : Array Value}
    (hr : (execOp a.eval o).run P w = .ok (.enter f args) w1) (hc1 : Calm w w1) {H1 R1 : Heap} (hf : Fit H1 R1 w1) {K1 : Value → Heap → Prop} (hfn : FnH P f args H1 K1)
    (hk1 : ∀ v H2 w2, Fit H2 R1 w2 → Calm w1 w2 → K1 v H2 → ∃ st' bs' H', Rel st' bs' H' R (a.put o.dst v) w2 ∧ BsExt bs bs' ∧ (keepOK o st = true → LocExt st.loc st'.loc) ∧ K st' H') : Good P o st bs H R a w K := by
  intro next Q hk
  unfold Oper.wp
  rw [hr]
  simp only [Oper.upon]
  refine (hfn R1 w1 hf).mono ?_
  rintro e w2 ⟨v, H2, rfl, h1, h2, h3⟩
  obtain ⟨st', bs', H', g1, g3, g4, g2⟩ := hk1 v H2 w2 h1 h2 h3
  exact hk _ _ _ _ _ g1 (hc1.trans h2) g3 g4 g2
theorem onNext_good {P : Program} {o : Oper} {st : St} {bs : List Nat} {H R : Heap} {a : Act} {w : World} {K : St → Heap → Prop} (hr : Rel st bs H R a w)
    (h : runH P (execOp a.eval o) H (onNext P o st K)) : Good P o st bs H R a w K := by
  obtain ⟨nx, H', w', h1, h2, h3, h4⟩ := runH_sound h hr.fitH
  cases nx with
  | value v =>
    have h4 : exR P o.type fun x => v = x ∧ K (st.put o.dst (.v x)) H' := h4
    obtain ⟨x, rfl, hk⟩ := exR_ex h4
    exact Good.of_value h1 ((hr.heap h2 h3).put (x := .v _) _ rfl) h3 hk (BsExt.refl _) (fun _ => LocExt.put _ _ _)
  | skip => exact Good.of_skip h1 ((hr.heap h2 h3).put (x := .v _) _ rfl) h3 h4 (BsExt.refl _) (fun _ => LocExt.put _ _ _)
  | enter f args =>
    refine Good.of_enter h1 h3 h2 h4 ?_
    intro v H2 w2 g1 g2 g3
    obtain ⟨x, rfl, hk⟩ := exR_ex g3
    exact ⟨_, _, _, (hr.heap g1 (h3.trans g2)).put (x := .v _) _ rfl, BsExt.refl _, fun _ => LocExt.put _ _ _, hk⟩
  | _ => exact h4.elim
theorem plainO_good {P : Program} {o : Oper} {st : St} {bs : List Nat} {H R : Heap} {a : Act} {w : World} {K : St → Heap → Prop} (hr : Rel st bs H R a w) (h : plainO P o st H K) : Good P o st bs H R a w K := by
  unfold plainO at h
  split at h
  · rename_i h1
    split at h
    · rename_i h2
      refine onNext_good hr ?_
      rw [execOp_rho hr.env h1 h2]; exact h
    · exact h.elim
  · exact h.elim
theorem runH_value {P : Program} {s : Sem Value} {H : Heap} {K : Next → Heap → Prop} (h : runH P s H fun v H' => K (.value v) H') : runH P (do pure (.value (← s)) : Sem Next) H K := runH_bind h
theorem runH_unit {P : Program} {s : Sem Unit} {H : Heap} {K : Next → Heap → Prop} (h : runH P s H fun _ H' => K .skip H') : runH P (do s; pure .skip : Sem Next) H K := runH_bind h
theorem semT_good {P : Program} {s : Sem Value} {o : Oper} {st : St} {bs : List Nat} {H R : Heap} {a : Act} {w : World} {K : St → Heap → Prop} (hr : Rel st bs H R a w)
    (hs : execOp a.eval o = (do pure (.value (← s)) : Sem Next)) (h : semT P s o st H K) : Good P o st bs H R a w K := by
  refine onNext_good hr ?_
  rw [hs]
  exact runH_value h
theorem semK_good {P : Program} {s : Sem Value} {o : Oper} {st : St} {bs : List Nat} {H R : Heap} {a : Act} {w : World} {K : St → Heap → Prop} (hr : Rel st bs H R a w)
    (hs : execOp a.eval o = (do pure (.value (← s)) : Sem Next)) (h : runH P s H fun v H' => K (st.put o.dst (.v v)) H') : Good P o st bs H R a w K := by
  have h2 : runH P (execOp a.eval o) H fun nx H' => match nx with | .value v => K (st.put o.dst (.v v)) H' | _ => False := by
    rw [hs]; exact runH_value h
  obtain ⟨nx, H', w', h1, g2, h3, h4⟩ := runH_sound h2 hr.fitH
  cases nx with
  | value v => exact Good.of_value h1 ((hr.heap g2 h3).put (x := .v _) _ rfl) h3 h4 (BsExt.refl _) (fun _ => LocExt.put _ _ _)
  | _ => exact h4.elim
theorem semN_good {P : Program} {s : Sem Value} {b : Bool} {o : Oper} {st : St} {bs : List Nat} {H R : Heap} {a : Act} {w : World} {K : St → Heap → Prop} (hr : Rel st bs H R a w)
    (hs : execOp a.eval o = (do pure (.value (← s)) : Sem Next)) (h : semN P s b o st H K) : Good P o st bs H R a w K := by
  refine semK_good hr hs ?_
  unfold semN at h
  split at h
  · refine runH_mono (fun v H' hv => ?_) h
    rcases hv with ⟨rfl, hk⟩ | ⟨k, x, rfl, hk⟩ <;> exact hk
  · refine runH_mono (fun v H' hv => ?_) h
    rcases hv with ⟨rfl, hk⟩ | ⟨k, x, rfl, hk⟩ <;> exact hk
theorem semU_good {P : Program} {s : Sem Unit} {o : Oper} {st : St} {bs : List Nat} {H R : Heap} {a : Act} {w : World} {K : St → Heap → Prop} (hr : Rel st bs H R a w)
    (hs : execOp a.eval o = (do s; pure .skip : Sem Next)) (h : semU P s o st H K) : Good P o st bs H R a w K := by
  refine onNext_good hr ?_
  rw [hs]
  exact runH_unit h
theorem Fit.congr {H H' R : Heap} {w : World} (h : Fit H R w) (e : ∀ b, H' b = H b) : Fit H' R w := by
  have : H' = H := funext e
  rw [this]; exact h
theorem locL_append {ls : List (Option (Nat × List Value))} {x : Option (Nat × List Value)} : ∀ {i : Nat}, locL (ls ++ [x]) i = if i < ls.length then locL ls i else if i = ls.length then x else none := by
  induction ls with
  | nil => intro i; cases i <;> simp [locL]
  | cons y ls ih =>
    intro i
    cases i with
    | zero => simp [locL]
    | succ i => simp only [List.cons_append, locL, ih]; simp
theorem locH_append {bs : List Nat} : ∀ {ls : List (Option (Nat × List Value))} {b : Nat} {x : Nat × List Value}, bs.length = ls.length → b ∉ bs →
    locH (bs ++ [b]) (ls ++ [some x]) = (locH bs ls).upd b (.cells x.2.toArray x.1 (0, 0)) := by
  induction bs with
  | nil =>
    intro ls b x h hb
    cases ls with
    | nil => funext y; simp [locH, Heap.upd]
    | cons _ _ => simp at h
  | cons c bs ih =>
    intro ls b x h hb
    cases ls with
    | nil => simp at h
    | cons l ls =>
      have h1 : b ≠ c := fun e => hb (by simp [e])
      have h2 : b ∉ bs := fun e => hb (by simp [e])
      funext y
      simp only [List.cons_append, locH, ih (by simpa using h) h2]
      unfold Heap.upd
      by_cases e : y = c
      · subst e
        have h3 : ¬ y = b := fun q => h1 q.symm
        simp only [if_true, if_neg h3]
      · simp only [if_neg e]
theorem getElem?_snoc {bs : List Nat} {b : Nat} : ∀ (i c : Nat), bs[i]? = some c → (bs ++ [b])[i]? = some c := by
  intro i c h
  have := (List.getElem?_eq_some_iff.1 h).1
  rw [List.getElem?_append_left this]; exact h
theorem Rel.newLoc {st : St} {bs : List Nat} {H R : Heap} {a : Act} {w : World} (h : Rel st bs H R a w) (d : Tmp) (T : Nat) (c : List Value) :
    Rel { env := st.env.set d (.loc st.loc.length 0), loc := st.loc ++ [some (T, c)] } (bs ++ [w.heap.size]) H R (a.put (some d) (.pointer (some ⟨w.heap.size, 0, none⟩))) { w with heap := w.heap.push (.cells c.toArray T (0, 0)) } := by
  have hnew : w.heap.size ∉ bs := fun hb => Nat.lt_irrefl _ (h.lt _ hb)
  have hfr := h.fit.fresh
  have hHn : H w.heap.size = none := by
    unfold Heap.join at hfr
    cases e : H w.heap.size with
    | none => rfl
    | some x => rw [e] at hfr; simp at hfr
  have hLn : locH bs st.loc w.heap.size = none := by
    unfold Heap.join at hfr
    rw [hHn] at hfr; simpa using hfr
  have hlH := locH_append (ls := st.loc) (x := (T, c)) h.len hnew
  refine ⟨by simp [h.len], ?_, ?_, ?_, ?_, ?_, h.df⟩
  · rw [List.nodup_append]
    exact ⟨h.nd, by simp, fun x hx y hy => by simp at hy; subst hy; exact fun e => hnew (e ▸ hx)⟩
  · intro b hb
    simp only [List.mem_append, List.mem_singleton] at hb
    simp only [Array.size_push]
    rcases hb with hb | rfl
    · have := h.lt b hb; omega
    · omega
  · refine (h.fit.new (.cells c.toArray T (0, 0))).congr ?_
    intro b
    rw [hlH]
    unfold Heap.join Heap.upd
    by_cases e : b = w.heap.size
    · subst e; simp [hHn]
    · simp [e]
  · intro b o hb
    rw [hlH] at hb
    unfold Heap.upd at hb
    by_cases e : b = w.heap.size
    · subst e; exact hHn
    · rw [if_neg e] at hb; exact h.dj _ _ hb
  · have := (h.env.mono (bs' := bs ++ [w.heap.size]) getElem?_snoc)
    refine this.set d ⟨w.heap.size, ?_, rfl⟩
    rw [← h.len]
    simp
theorem locL_set {ls : List (Option (Nat × List Value))} {x : Option (Nat × List Value)} : ∀ {i j : Nat}, locL (ls.set i x) j = if i = j ∧ j < ls.length then x else locL ls j := by
  induction ls with
  | nil => intro i j; simp [locL]
  | cons y ls ih =>
    intro i j
    cases i with
    | zero => cases j <;> simp [locL]
    | succ i => cases j with
      | zero => simp [locL]
      | succ j => simp only [List.set_cons_succ, locL, ih]; simp
theorem locL_lt {ls : List (Option (Nat × List Value))} {x : Nat × List Value} : ∀ {i : Nat}, locL ls i = some x → i < ls.length := by
  induction ls with
  | nil => intro i h; cases h
  | cons y ls ih =>
    intro i h
    cases i with
    | zero => simp
    | succ i => have := ih h; simp; omega
theorem locH_set {bs : List Nat} (hn : bs.Nodup) {ls : List (Option (Nat × List Value))} {i b T U : Nat} {c c' : List Value} (hb : bs[i]? = some b) (hl : locL ls i = some (T, c)) :
    locH bs (ls.set i (some (U, c'))) = (locH bs ls).upd b (.cells c'.toArray U (0, 0)) := by
  induction bs generalizing ls i with
  | nil => simp at hb
  | cons x bs ih =>
    cases ls with
    | nil => cases hl
    | cons y ls =>
      cases i with
      | zero =>
        simp at hb; subst hb
        funext z
        simp only [List.set_cons_zero, locH]
        unfold Heap.upd
        by_cases e : z = x
        · simp [e]
        · simp [e]
      | succ i =>
        simp at hb
        have hx : b ≠ x := fun e => by subst e; exact (List.nodup_cons.1 hn).1 (List.mem_of_getElem? hb)
        have := ih (List.nodup_cons.1 hn).2 hb (show locL ls i = some (T, c) from hl)
        funext z
        simp only [List.set_cons_succ, locH, this]
        unfold Heap.upd
        by_cases e : z = x
        · subst e
          have hz : ¬ z = b := fun q => hx q.symm
          cases y <;> simp [hz]
        · simp [e]
def Heap.one (b : Nat) (o : Obj) : Heap := fun x => if x = b then some o else none
theorem Fit.carve {G R : Heap} {w : World} {b : Nat} {o : Obj} (h : Fit G R w) (hb : G b = some o) : Fit (Heap.one b o) (R.join (G.del b)) w := by
  have hRb : R b = none := by
    cases e : R b with
    | none => rfl
    | some x => rw [h.apart _ _ e] at hb; cases hb
  refine ⟨?_, ?_, ?_⟩
  · intro x p hx
    unfold Heap.one at hx
    split at hx
    · rename_i e; subst e; simp at hx; subst hx; exact h.own _ _ hb
    · cases hx
  · intro x p hx
    unfold Heap.join at hx
    cases e : R x with
    | some q => rw [e] at hx; simp at hx; subst hx; exact h.rest _ _ e
    | none =>
      rw [e] at hx; simp at hx
      unfold Heap.del at hx
      split at hx
      · cases hx
      · exact h.own _ _ hx
  · intro x p hx
    unfold Heap.one
    rw [if_neg]
    intro e; subst e
    unfold Heap.join at hx
    rw [hRb] at hx; simp [Heap.del] at hx
theorem Fit.back {G R : Heap} {w : World} {b : Nat} {o o' : Obj} (hG : G b = some o) (hR : ∀ x p, R x = some p → G x = none) (h : Fit (Heap.one b o') (R.join (G.del b)) w) : Fit (G.upd b o') R w := by
  have hRb : R b = none := by
    cases e : R b with
    | none => rfl
    | some x => rw [hR _ _ e] at hG; cases hG
  refine ⟨?_, ?_, ?_⟩
  · intro x p hx
    unfold Heap.upd at hx
    split at hx
    · rename_i e; subst e; simp at hx; subst hx; exact h.own _ _ (by simp [Heap.one])
    · rename_i e
      refine h.rest _ _ ?_
      unfold Heap.join
      have : R x = none := by
        cases q : R x with
        | none => rfl
        | some y => rw [hR _ _ q] at hx; cases hx
      rw [this]; simp [Heap.del, e, hx]
  · intro x p hx
    exact h.rest _ _ (by unfold Heap.join; rw [hx]; rfl)
  · intro x p hx
    unfold Heap.upd
    rw [if_neg]
    · exact hR _ _ hx
    · intro e; subst e; rw [hRb] at hx; cases hx
theorem overL_length : ∀ (cs : List Value) (n : Nat) (vs : List Value), (overL cs n vs).length = cs.length := by
  intro cs
  induction cs with
  | nil => intro n vs; cases vs <;> cases n <;> rfl
  | cons c cs ih =>
    intro n vs
    cases vs with
    | nil => cases n <;> rfl
    | cons v vs => cases n <;> simp [overL, ih]
theorem overL_cons (cs : List Value) (n : Nat) (v : Value) (vs : List Value) : overL cs n (v :: vs) = overL (cs.set n v) (n + 1) vs := by
  induction cs generalizing n with
  | nil => cases vs <;> simp [overL]
  | cons c cs ih =>
    cases n with
    | zero =>
      simp only [overL, List.set_cons_zero]
      cases vs <;> cases cs <;> simp [overL]
    | succ n =>
      simp only [overL, List.set_cons_succ, ih]
      cases vs with
      | nil => cases cs <;> simp [overL]
      | cons u vs => simp [overL]
theorem runH_storeCells {P : Program} {b T : Nat} {o : Nat} : ∀ (vs : List Value) (i : Nat) (cs : List Value) {K : Unit → Heap → Prop}, noTups vs = true → o + i + vs.length ≤ cs.length →
    K () (Heap.one b (.cells (overL cs (o + i) vs).toArray T (0, 0))) → runH P (storeCells ⟨b, o, none⟩ vs i) (Heap.one b (.cells cs.toArray T (0, 0))) K := by
  intro vs
  induction vs with
  | nil =>
    intro i cs K h1 h2 hk
    have : overL cs (o + i) [] = cs := by cases cs <;> cases (o + i) <;> rfl
    rw [this] at hk; exact hk
  | cons v vs ih =>
    intro i cs K h1 h2 hk
    simp only [noTups] at h1
    split at h1
    · cases h1
    · rename_i hv
      simp only [storeCells]
      simp only [List.length_cons] at h2
      have hlt : o + i < cs.length := by omega
      refine runH_bind ⟨hv, ⟨cs[o + i], ?_⟩, ?_, ?_⟩
      · rw [addr_add]; simp [cellH, Heap.one, cellO, hlt]
      · rw [addr_add]; simp [frozenH, Heap.one, frozenO]
      · have hset : (Heap.one b (.cells cs.toArray T (0, 0))).set (Addr.add ⟨b, o, none⟩ i) v = Heap.one b (.cells (cs.set (o + i) v).toArray T (0, 0)) := by
          rw [addr_add]
          funext x
          unfold Heap.set Heap.one
          by_cases e : x = b
          · simp [e, setO]
          · simp [e]
        show runH P (storeCells ⟨b, o, none⟩ vs (i + 1)) _ K
        rw [hset]
        refine ih (i + 1) (cs.set (o + i) v) h1 (by simp; omega) ?_
        rw [overL_cons] at hk
        exact hk
theorem runH_underlying {P : Program} {t : TypeId} {d : TypeDesc} {H : Heap} {K : TypeDesc → Heap → Prop} (h : P.underlying t = some d) (k : K d H) : runH P (underlying t) H K := by
  show runH P (match P.underlying t with | some d => pure d | none => stuck "no such type") H K
  rw [h]; exact k
theorem runH_typeInfo {P : Program} {t : TypeId} {i : TypeInfo} {H : Heap} {K : TypeInfo → Heap → Prop} (h : P.info? t = some i) (k : K i H) : runH P (typeInfo t) H K := by
  show runH P (match P.info? t with | some d => pure d | none => stuck "no such type") H K
  rw [h]; exact k
theorem runH_sizeOf {P : Program} {t : TypeId} {H : Heap} {K : Nat → Heap → Prop} (h : hasT P t = true) (k : K (sizeT P t) H) : runH P (sizeOf t) H K := by
  obtain ⟨i, hi, hs⟩ := hasT_info h
  refine runH_bind (runH_typeInfo hi ?_)
  show K i.size H
  rw [← hs]; exact k
theorem runH_storeVar {P : Program} {T : TypeId} {a : Addr} {v : Value} {H : Heap} {K : Unit → Heap → Prop} (hT : hasT P T = true) (hl : v.cells.toList.length = sizeT P T)
    (h : runH P (storeCells a v.cells.toList) H K) : runH P (storeVar T a v) H K := by
  unfold storeVar
  refine runH_bind (runH_sizeOf hT ?_)
  have : v.cells.size = sizeT P T := by simpa using hl
  rw [if_neg (by simp [this])]
  exact h
theorem runH_stores {P : Program} {b o : Nat} : ∀ (vs : List Value) (i : Nat) {H : Heap} {K : Heap → Prop}, noTups vs = true → stores b (o + i) vs H K → runH P (storeCells ⟨b, o, none⟩ vs i) H fun _ H' => K H' := by
  intro vs
  induction vs with
  | nil => intro i H K h1 h; exact h
  | cons v vs ih =>
    intro i H K h1 ⟨h2, h3, h4⟩
    simp only [noTups] at h1
    split at h1
    · cases h1
    · rename_i hv
      simp only [storeCells]
      refine runH_bind ⟨hv, ?_, ?_, ?_⟩
      · rw [addr_add]; exact h2
      · rw [addr_add]; exact h3
      · rw [addr_add]; exact ih (i + 1) h1 h4
theorem Rel.setLoc {st : St} {bs : List Nat} {H H' R : Heap} {a : Act} {w w' : World} (h : Rel st bs H R a w) {i b T U : Nat} {c c' : List Value} (hb : bs[i]? = some b) (hl : locL st.loc i = some (T, c))
    (hf : Fit (H'.join ((locH bs st.loc).upd b (.cells c'.toArray U (0, 0)))) R w') (hc : Calm w w') (hHb : H' b = none) (hd : ∀ x p, x ≠ b → locH bs st.loc x = some p → H' x = none) : Rel { st with loc := st.loc.set i (some (U, c')) } bs H' R a w' := by
  have e := locH_set h.nd (U := U) (c' := c') hb hl
  refine ⟨by simp [h.len], h.nd, fun x hx => Nat.lt_of_lt_of_le (h.lt x hx) hc.size, ?_, ?_, h.env, h.df⟩
  · rw [e]; exact hf
  · intro x o hx
    rw [e] at hx
    unfold Heap.upd at hx
    split at hx
    · rename_i q; subst q; exact hHb
    · rename_i q; exact hd _ _ q hx
theorem join_upd {H L : Heap} {b : Nat} {o : Obj} (h : H b = none) : H.join (L.upd b o) = (H.join L).upd b o := by
  funext x
  unfold Heap.join Heap.upd
  by_cases e : x = b
  · simp [e, h]
  · simp [e]
theorem storeLoc_good {P : Program} {o : Oper} {st : St} {bs : List Nat} {H R : Heap} {a : Act} {w : World} {K : St → Heap → Prop} (hr : Rel st bs H R a w) {T : TypeId} {x y : Operand} {v : Value} {i off U : Nat} {cs : List Value}
    (ho : o.op = .store T x y) (hy : st.get y = .v v) (hlen : v.cells.toList.length = sizeT P T) (hT : hasT P T = true) (hnt : noTups v.cells.toList = true) (hx : st.get x = .loc i off) (hl : locL st.loc i = some (U, cs))
    (hle : off + v.cells.toList.length ≤ cs.length) (h : K ({ st with loc := st.loc.set i (some (U, overL cs off v.cells.toList)) }.put o.dst (.v undef)) H) : Good P o st bs H R a w K := by
  obtain ⟨b, hb, hpx⟩ := get_loc hr.env hx
  have hL := locH_at hr.nd hb hl
  have hHb := hr.dj _ _ hL
  have hG : (H.join (locH bs st.loc)) b = some (.cells cs.toArray U (0, 0)) := Heap.join_right hr.dj hL
  have hrun : runH P (execOp a.eval o) (Heap.one b (.cells cs.toArray U (0, 0))) (fun nx H' => nx = .skip ∧ H' = Heap.one b (.cells (overL cs off v.cells.toList).toArray U (0, 0))) := by
    simp only [execOp, ho, get_v hr.env hy, hpx]
    refine runH_unit ?_
    unfold Instr.storeAt
    refine runH_bind ?_
    refine runH_storeVar hT hlen ?_
    refine runH_storeCells _ 0 cs hnt (by simpa using hle) ⟨rfl, rfl⟩
  obtain ⟨nx, H', w', h1, h2, h3, rfl, rfl⟩ := runH_sound hrun (hr.fit.carve hG)
  have h4 := Fit.back hG (fun x p hx => hr.fit.apart _ _ hx) h2
  rw [← join_upd hHb] at h4
  exact Good.of_skip h1 ((hr.setLoc hb hl h4 h3 hHb (fun x p _ hp => hr.dj _ _ hp)).put (x := .v _) _ rfl) h3 h (BsExt.refl _) (fun q => by simp [keepOK, ho] at q)
theorem argsV_spec {bs : List Nat} {st : St} {a : Act} (he : Env bs st.env a.tmps) : ∀ {xs : List Operand} {l : List Value}, argsV st xs = some l → xs.map a.eval = l := by
  intro xs
  induction xs with
  | nil => intro l h; simp only [argsV, Option.some.injEq] at h; subst h; rfl
  | cons x xs ih =>
    intro l h
    simp only [argsV] at h
    split at h
    · rename_i v hv
      split at h
      · rename_i r hr
        simp only [Option.some.injEq] at h; subst h
        simp [get_v he hv, ih hr]
      · cases h
    · cases h
theorem argsLoc_spec {bs : List Nat} {st : St} {a : Act} (he : Env bs st.env a.tmps) : ∀ {xs : List Operand} {i : Nat} {g : Nat → List Value}, argsLoc st xs = some (i, g) → ∃ b, bs[i]? = some b ∧ xs.map a.eval = g b := by
  intro xs
  induction xs with
  | nil => intro i g h; cases h
  | cons x xs ih =>
    intro i g h
    simp only [argsLoc] at h
    split at h
    · rename_i v hv
      split at h
      · rename_i i' g' hr
        simp only [Option.some.injEq, Prod.mk.injEq] at h
        obtain ⟨rfl, rfl⟩ := h
        obtain ⟨b, h1, h2⟩ := ih hr
        exact ⟨b, h1, by simp [get_v he hv, h2]⟩
      · cases h
    · rename_i i' off hv
      split at h
      · rename_i l hl
        simp only [Option.some.injEq, Prod.mk.injEq] at h
        obtain ⟨rfl, rfl⟩ := h
        obtain ⟨b, h1, h2⟩ := get_loc he hv
        exact ⟨b, h1, by simp [h2, argsV_spec he hl]⟩
      · cases h
    · cases h
theorem run_callFunc {P : Program} {f : FuncId} {args : Array Value} {w : World} (h : goFn P f = true) : (callFunc f args).run P w = .ok (.enter f args) w := by
  unfold goFn at h
  unfold callFunc
  cases e : P.funcs[f]? with
  | none => rw [e] at h; cases h
  | some fn =>
    rw [e] at h
    simp only [] at h
    split at h
    · cases h
    · rename_i hn
      split at h
      · rename_i c hb
        show Sem.run P (match P.funcs[f]? with | none => _ | some fn => _) w = _
        rw [e]
        simp only [hn, hb]
        rfl
      · cases h
theorem run_call {P : Program} {o : Oper} {a : Act} {w : World} {f : Operand} {args : Array Operand} {tys : Array TypeId} {k : FuncId} {first captured : Array Value} (ho : o.op = .call { callee := .value f, args := args, argTypes := tys })
    (hf : a.eval f = .func (.func k) first captured) (hg : goFn P k = true) : (execOp a.eval o).run P w = .ok (.enter k (first ++ args.map a.eval ++ captured)) w := by
  simp only [execOp, ho, resolve, hf, Deferred.ofValue, invoke]
  show (callFunc k (first ++ args.map a.eval ++ captured)).run P w = _
  rw [run_callFunc hg]
theorem callO_good {P : Program} {o : Oper} {st : St} {bs : List Nat} {H R : Heap} {a : Act} {w : World} {K : St → Heap → Prop} (hr : Rel st bs H R a w) {f : Operand} {args : Array Operand} {tys : Array TypeId} {k : FuncId} {pre captured : List Value}
    (ho : o.op = .call { callee := .value f, args := args, argTypes := tys }) (hf : a.eval f = .func (.func k) pre.toArray captured.toArray) (h : callO P o k pre captured args.toList st H K) : Good P o st bs H R a w K := by
  unfold callO at h
  split at h
  · exact h.elim
  rename_i hg
  have hrun := fun w => run_call (w := w) ho hf hg
  split at h
  · rename_i l hl
    have e : pre.toArray ++ args.map a.eval ++ captured.toArray = (pre ++ (l ++ captured)).toArray := by
      apply Array.ext'; simp [argsV_spec hr.env hl]
    rw [e] at hrun
    refine Good.of_enter (hrun w) (Calm.refl _) hr.fitH h ?_
    intro v H2 w2 g1 g2 g3
    obtain ⟨x, rfl, hk⟩ := exR_ex g3
    exact ⟨_, _, _, (hr.heap g1 g2).put (x := .v _) _ rfl, BsExt.refl _, fun _ => LocExt.put _ _ _, hk⟩
  · rename_i hnone
    split at h
    · rename_i i g hl
      split at h
      · rename_i T cs hloc
        obtain ⟨b, hb, hargs⟩ := argsLoc_spec hr.env hl
        have hL := locH_at hr.nd hb hloc
        have hHb := hr.dj _ _ hL
        have e : pre.toArray ++ args.map a.eval ++ captured.toArray = (pre ++ (g b ++ captured)).toArray := by
          apply Array.ext'; simp [hargs]
        rw [e] at hrun
        have hF : Fit (H.upd b (.cells cs.toArray T (0, 0))) (R.join ((locH bs st.loc).del b)) w := by
          have hd : (H.upd b (.cells cs.toArray T (0, 0))).disj ((locH bs st.loc).del b) := by
            intro x p hx
            unfold Heap.del at hx
            split at hx
            · cases hx
            · rename_i q; rw [Heap.upd_ne _ _ q]; exact hr.dj _ _ hx
          refine Fit.split hd (hr.fit.congr ?_)
          intro x
          unfold Heap.join Heap.upd Heap.del
          by_cases q : x = b
          · subst q; simp [hHb, hL]
          · simp [q]
        refine Good.of_enter (hrun w) (Calm.refl _) hF (h b hHb) ?_
        intro v H2 w2 g1 g2 g3
        obtain ⟨x, rfl, g4⟩ := exR_ex g3
        obtain ⟨cs', h5, hk⟩ := exvs_ex g4
        have hLR : ∀ x p, locH bs st.loc x = some p → R x = none := by
          intro x p hx
          cases q : R x with
          | none => rfl
          | some y => rw [(hr.apart q).2] at hx; cases hx
        have hd2 : ∀ x p, x ≠ b → locH bs st.loc x = some p → H2 x = none := by
          intro x p q hx
          refine g1.apart x p ?_
          unfold Heap.join
          rw [hLR _ _ hx]; simp [Heap.del, q, hx]
        have hF2 : Fit ((H2.del b).join ((locH bs st.loc).upd b (.cells cs'.toArray T (0, 0)))) R w2 := by
          refine ⟨?_, ?_, ?_⟩
          · intro x p hx
            unfold Heap.join Heap.del Heap.upd at hx
            by_cases q : x = b
            · subst q; simp at hx; subst hx; exact g1.own _ _ h5
            · simp only [if_neg q] at hx
              cases e2 : H2 x with
              | some y => rw [e2] at hx; simp at hx; subst hx; exact g1.own _ _ e2
              | none =>
                rw [e2] at hx; simp at hx
                refine g1.rest _ _ ?_
                unfold Heap.join
                rw [hLR _ _ hx]; simp [Heap.del, q, hx]
          · intro x p hx
            exact g1.rest _ _ (by unfold Heap.join; rw [hx]; rfl)
          · intro x p hx
            have q : x ≠ b := by
              intro q; subst q
              rw [hLR _ _ hL] at hx; cases hx
            unfold Heap.join Heap.del Heap.upd
            simp only [if_neg q]
            rw [g1.apart x p (by unfold Heap.join; rw [hx]; rfl), (hr.apart hx).2]; rfl
        exact ⟨_, bs, _, (hr.setLoc (H' := H2.del b) hb hloc hF2 g2 (by simp [Heap.del]) (fun x p q hx => by rw [Heap.del_ne _ q]; exact hd2 _ _ q hx)).put (x := .v _) _ rfl, BsExt.refl _, fun q => by simp [keepOK, ho, hnone] at q, hk⟩
      · exact h.elim
    · exact h.elim
end Go.HL
