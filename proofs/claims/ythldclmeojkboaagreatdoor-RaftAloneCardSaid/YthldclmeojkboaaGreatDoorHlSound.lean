import Derived.Test.YthldclmeojkboaaGreatDoorHlDen
namespace Go.HL
set_option linter.unusedVariables false
set_option linter.unusedSimpArgs false
theorem runR_mono {P : Program} {α : Type} {s : Sem α} : ∀ {H : Heap} {K K' : α → Prop}, (∀ a, K a → K' a) → runR P s H K → runR P s H K' := by
  induction s with
  | pure a => intro H K K' h; exact h _
  | load m a k ih => intro H K K' h ⟨v, h1, h2⟩; exact ⟨v, h1, ih v h h2⟩
  | shape r k ih => intro H K K' h ⟨c, e, fz, h1, h2⟩; exact ⟨c, e, fz, h1, ih _ h h2⟩
  | frozen a k ih => intro H K K' h ⟨c, e, fz, h1, h2⟩; exact ⟨c, e, fz, h1, ih _ h h2⟩
  | getObj r k ih => intro H K K' h ⟨o, h1, h2, h3⟩; exact ⟨o, h1, h2, ih o h h3⟩
  | program k ih => intro H K K' h h1; exact ih P h h1
  | mark m k ih => intro H K K' h h1; exact ih h h1
  | store m a v k ih => intro H K K' h h1; exact h1.elim
  | new o k ih => intro H K K' h h1; exact h1.elim
  | freeze a n k ih => intro H K K' h h1; exact h1.elim
  | setObj r o k ih => intro H K K' h h1; exact h1.elim
  | choose q k ih => intro H K K' h h1; exact h1.elim
  | sys c k ih => intro H K K' h h1; exact h1.elim
  | halt x => intro H K K' h h1; exact h1.elim
theorem cellH_sub {H G : Heap} (hs : ∀ b o, H b = some o → G b = some o) {a : Addr} {v : Value} (h : cellH H a = some v) : cellH G a = some v := by
  unfold cellH at *
  split at h
  · cases h
  · rename_i h0
    rw [if_neg h0]
    cases e : H a.block with
    | none => rw [e] at h; simp [cellO] at h
    | some o => rw [hs _ _ e]; rw [e] at h; exact h
theorem runR_sound {P : Program} {α : Type} {s : Sem α} : ∀ {H : Heap} {K : α → Prop}, runR P s H K →
    ∃ a, K a ∧ ∀ G R w, (∀ b o, H b = some o → G b = some o) → Fit G R w → s.run P w = .ok a w := by
  induction s with
  | pure a => intro H K h; exact ⟨a, h, fun _ _ _ _ _ => rfl⟩
  | load m a k ih =>
    intro H K ⟨v, h1, h2⟩
    obtain ⟨b, hb, hr⟩ := ih v h2
    exact ⟨b, hb, fun G R w hs hf => by simp only [Sem.run, hf.cell (cellH_sub hs h1)]; exact hr G R w hs hf⟩
  | shape r k ih =>
    intro H K ⟨c, e, fz, h1, h2⟩
    obtain ⟨b, hb, hr⟩ := ih _ h2
    exact ⟨b, hb, fun G R w hs hf => by simp only [Sem.run, World.shape?, hf.own _ _ (hs _ _ h1)]; exact hr G R w hs hf⟩
  | frozen a k ih =>
    intro H K ⟨c, e, fz, h1, h2⟩
    obtain ⟨b, hb, hr⟩ := ih _ h2
    refine ⟨b, hb, fun G R w hs hf => ?_⟩
    have : w.frozen? a = frozenH H a := by
      unfold World.frozen? frozenH
      rw [hf.own _ _ (hs _ _ h1), h1]; rfl
    simp only [Sem.run, this]; exact hr G R w hs hf
  | getObj r k ih =>
    intro H K ⟨o, h1, h2, h3⟩
    obtain ⟨b, hb, hr⟩ := ih o h3
    refine ⟨b, hb, fun G R w hs hf => ?_⟩
    simp only [Sem.run, hf.own _ _ (hs _ _ h1)]
    cases o <;> first | (simp [isCells] at h2; done) | exact hr G R w hs hf
  | program k ih => intro H K h; exact ih P h
  | mark m k ih => intro H K h; exact ih h
  | store m a v k ih => intro H K h1; exact h1.elim
  | new o k ih => intro H K h1; exact h1.elim
  | freeze a n k ih => intro H K h1; exact h1.elim
  | setObj r o k ih => intro H K h1; exact h1.elim
  | choose q k ih => intro H K h1; exact h1.elim
  | sys c k ih => intro H K h1; exact h1.elim
  | halt x => intro H K h1; exact h1.elim
theorem runR_bind {P : Program} {α β : Type} {s : Sem α} {f : α → Sem β} : ∀ {H : Heap} {K : β → Prop}, runR P s H (fun a => runR P (f a) H K) → runR P (s >>= f) H K := by
  show ∀ {H : Heap} {K : β → Prop}, runR P s H (fun a => runR P (f a) H K) → runR P (s.bind f) H K
  induction s with
  | pure a => intro H K h; exact h
  | load m a k ih => intro H K ⟨v, h1, h2⟩; exact ⟨v, h1, ih v h2⟩
  | shape r k ih => intro H K ⟨c, e, fz, h1, h2⟩; exact ⟨c, e, fz, h1, ih _ h2⟩
  | frozen a k ih => intro H K ⟨c, e, fz, h1, h2⟩; exact ⟨c, e, fz, h1, ih _ h2⟩
  | getObj r k ih => intro H K ⟨o, h1, h2, h3⟩; exact ⟨o, h1, h2, ih o h3⟩
  | program k ih => intro H K h; exact ih P h
  | mark m k ih => intro H K h; exact ih h
  | store m a v k ih => intro H K h1; exact h1.elim
  | new o k ih => intro H K h1; exact h1.elim
  | freeze a n k ih => intro H K h1; exact h1.elim
  | setObj r o k ih => intro H K h1; exact h1.elim
  | choose q k ih => intro H K h1; exact h1.elim
  | sys c k ih => intro H K h1; exact h1.elim
  | halt x => intro H K h1; exact h1.elim
theorem runR_underlying {P : Program} {t : TypeId} {d : TypeDesc} {H : Heap} {K : TypeDesc → Prop} (h : P.underlying t = some d) (k : K d) : runR P (underlying t) H K := by
  show runR P (match P.underlying t with | some d => pure d | none => stuck "no such type") H K
  rw [h]; exact k
theorem runR_typeInfo {P : Program} {t : TypeId} {i : TypeInfo} {H : Heap} {K : TypeInfo → Prop} (h : P.info? t = some i) (k : K i) : runR P (typeInfo t) H K := by
  show runR P (match P.info? t with | some d => pure d | none => stuck "no such type") H K
  rw [h]; exact k
theorem hasT_underlying {P : Program} {t : TypeId} (h : hasT P t = true) : ∃ d, P.underlying t = some d := by
  unfold hasT at h
  cases e : P.underlying t with
  | none => rw [e] at h; cases h
  | some d => exact ⟨d, rfl⟩
theorem hasT_info {P : Program} {t : TypeId} (h : hasT P t = true) : ∃ i, P.info? t = some i ∧ sizeT P t = i.size := by
  obtain ⟨d, hd⟩ := hasT_underlying h
  unfold Program.underlying at hd
  unfold sizeT
  cases e : P.info? t with
  | none => rw [e] at hd; cases hd
  | some i => exact ⟨i, rfl, rfl⟩
theorem runR_sizeOf {P : Program} {t : TypeId} {H : Heap} {K : Nat → Prop} (h : hasT P t = true) (k : K (sizeT P t)) : runR P (sizeOf t) H K := by
  obtain ⟨i, hi, hs⟩ := hasT_info h
  refine runR_bind (runR_typeInfo hi ?_)
  show K i.size
  rw [← hs]; exact k
theorem runR_isAgg {P : Program} {t : TypeId} {H : Heap} {K : Bool → Prop} {d : TypeDesc} (h : P.underlying t = some d) (k : K (isAggT P t)) : runR P (isAgg t) H K := by
  refine runR_bind (runR_underlying h ?_)
  unfold isAggT at k
  rw [h] at k
  cases d <;> exact k
def SRel (bs : List Nat) : SVal → Value → Prop
  | .v x, y => y = x
  | .loc i off, y => ∃ b, bs[i]? = some b ∧ y = .pointer (some ⟨b, off, none⟩)
  | .dead, _ => True
structure Env (bs : List Nat) (env : List SVal) (tmps : Array Value) : Prop where
  len : env.length = tmps.size
  at_ : ∀ i, SRel bs (getL env i) (tmps.getD i undef)
def locH : List Nat → List (Option (Nat × List Value)) → Heap
  | b :: bs, x :: ls => fun y => if y = b then (match x with | some (T, c) => some (.cells c.toArray T (0, 0)) | none => locH bs ls y) else locH bs ls y
  | _, _ => fun _ => none
theorem locH_at {bs : List Nat} (hn : bs.Nodup) : ∀ {ls : List (Option (Nat × List Value))} {i b T : Nat} {c : List Value}, bs[i]? = some b → locL ls i = some (T, c) → locH bs ls b = some (.cells c.toArray T (0, 0)) := by
  induction bs with
  | nil => intro ls i b T c h; simp at h
  | cons x bs ih =>
    intro ls i b T c h h2
    cases ls with
    | nil => simp [locL] at h2
    | cons y ls =>
      cases i with
      | zero =>
        simp at h; subst h
        simp only [locL] at h2; subst h2
        simp [locH]
      | succ i =>
        simp at h
        have hx : b ≠ x := fun e => by
          subst e
          exact (List.nodup_cons.1 hn).1 (List.mem_of_getElem? h)
        simp only [locH, if_neg hx]
        exact ih (List.nodup_cons.1 hn).2 h h2
theorem get_v {bs : List Nat} {st : St} {a : Act} (he : Env bs st.env a.tmps) {x : Operand} {v : Value} (h : st.get x = .v v) : a.eval x = v := by
  cases x with
  | tmp t =>
    have := he.at_ t
    simp only [St.get] at h
    rw [h] at this
    exact this
  | const u => simp only [St.get, SVal.v.injEq] at h; exact h
  | global g => simp only [St.get, SVal.v.injEq] at h; exact h
  | func f => simp only [St.get, SVal.v.injEq] at h; exact h
theorem get_rel {bs : List Nat} {st : St} {a : Act} (he : Env bs st.env a.tmps) (x : Operand) : SRel bs (st.get x) (a.eval x) := by
  cases x with
  | tmp t => exact he.at_ t
  | const u => rfl
  | global g => rfl
  | func f => rfl
theorem get_loc {bs : List Nat} {st : St} {a : Act} (he : Env bs st.env a.tmps) {x : Operand} {i off : Nat} (h : st.get x = .loc i off) : ∃ b, bs[i]? = some b ∧ a.eval x = .pointer (some ⟨b, off, none⟩) := by
  have := get_rel he x
  rw [h] at this
  exact this
theorem getL_set {l : List SVal} {i j : Nat} {x : SVal} : getL (l.set i x) j = if i = j ∧ j < l.length then x else getL l j := by
  induction l generalizing i j with
  | nil => simp [getL]
  | cons y l ih =>
    cases i with
    | zero =>
      cases j with
      | zero => simp [getL]
      | succ j => simp [getL]
    | succ i =>
      cases j with
      | zero => simp [getL]
      | succ j => simp only [List.set_cons_succ, getL, ih]; simp
theorem getL_lt {l : List SVal} {j : Nat} (h : getL l j ≠ .dead) : j < l.length := by
  induction l generalizing j with
  | nil => simp [getL] at h
  | cons y l ih =>
    cases j with
    | zero => simp
    | succ j => simp only [getL] at h; have := ih h; simp; omega
theorem Env.set {bs : List Nat} {env : List SVal} {tmps : Array Value} (he : Env bs env tmps) (d : Nat) {x : SVal} {v : Value} (hx : SRel bs x v) : Env bs (env.set d x) (tmps.setIfInBounds d v) := by
  refine ⟨by simp [he.len], fun i => ?_⟩
  rw [getL_set]
  by_cases h : d = i ∧ i < env.length
  · rw [if_pos h]
    obtain ⟨rfl, h2⟩ := h
    rw [he.len] at h2
    simp [Array.getD, h2]
    exact hx
  · rw [if_neg h]
    have := he.at_ i
    by_cases hd : d = i
    · subst hd
      have h2 : ¬ d < tmps.size := by rw [← he.len]; exact fun q => h ⟨rfl, q⟩
      simp [Array.getD, h2] at this ⊢
      exact this
    · have : (tmps.setIfInBounds d v).getD i undef = tmps.getD i undef := by
        simp only [Array.getD_eq_getD_getElem?, Array.getElem?_setIfInBounds_ne hd]
      rw [this]
      exact he.at_ i
theorem Env.put {bs : List Nat} {st : St} {a : Act} (he : Env bs st.env a.tmps) (d : Option Tmp) {x : SVal} {v : Value} (hx : SRel bs x v) : Env bs (st.put d x).env (a.put d v).tmps := by
  cases d with
  | none => exact he
  | some d => exact he.set d hx
theorem SRel.mono {bs bs' : List Nat} (h : ∀ (i b : Nat), bs[i]? = some b → bs'[i]? = some b) {x : SVal} {v : Value} (hx : SRel bs x v) : SRel bs' x v := by
  cases x with
  | v x => exact hx
  | loc i off => obtain ⟨b, h1, h2⟩ := hx; exact ⟨b, h _ _ h1, h2⟩
  | dead => trivial
theorem Env.mono {bs bs' : List Nat} (h : ∀ (i b : Nat), bs[i]? = some b → bs'[i]? = some b) {env : List SVal} {tmps : Array Value} (he : Env bs env tmps) : Env bs' env tmps :=
  ⟨he.len, fun i => (he.at_ i).mono h⟩
theorem allV_spec {bs : List Nat} {st : St} {a : Act} (he : Env bs st.env a.tmps) : ∀ {xs : List Operand}, allV st xs = true → ∀ x ∈ xs, a.eval x = st.rho x := by
  intro xs
  induction xs with
  | nil => intro _ x hx; cases hx
  | cons y xs ih =>
    intro h x hx
    simp only [allV] at h
    cases hy : st.get y with
    | v u =>
      rw [hy] at h
      simp only [SVal.isV] at h
      rcases List.mem_cons.1 hx with rfl | hx
      · rw [get_v he hy]; simp [St.rho, hy, SVal.val]
      · exact ih h x hx
    | loc i off => rw [hy] at h; simp [SVal.isV] at h
    | dead => rw [hy] at h; simp [SVal.isV] at h
theorem noSelect_spec {o : Oper} (h : noSelect o.op = true) : ∀ cs b, o.op ≠ .select cs b := by
  intro cs b e
  rw [e] at h
  cases h
theorem execOp_rho {bs : List Nat} {st : St} {a : Act} (he : Env bs st.env a.tmps) {o : Oper} (hs : noSelect o.op = true) (h : allV st o.op.operands.toList = true) : execOp a.eval o = execOp st.rho o :=
  execOp_congr o (noSelect_spec hs) fun x hx => allV_spec he h x (by simpa using hx)
def Yields (P : Program) (bs : List Nat) (o : Oper) (a : Act) (G : Heap) (K : SVal → Prop) : Prop :=
  ∃ x v, K x ∧ SRel bs x v ∧ ∀ R w, Fit G R w → (execOp a.eval o).run P w = .ok (.value v) w
theorem Yields.of_runR {P : Program} {bs : List Nat} {o : Oper} {a : Act} {G : Heap} {K : SVal → Prop}
    (h : runR P (execOp a.eval o) G fun nx => ∃ x v, nx = .value v ∧ SRel bs x v ∧ K x) : Yields P bs o a G K := by
  obtain ⟨nx, ⟨x, v, rfl, h2, h3⟩, h4⟩ := runR_sound h
  exact ⟨x, v, h3, h2, fun R w hf => h4 G R w (fun _ _ h => h) hf⟩
theorem runR_sub {P : Program} {α : Type} {s : Sem α} : ∀ {H G : Heap} {K : α → Prop}, (∀ b o, H b = some o → G b = some o) → runR P s H K → runR P s G K := by
  induction s with
  | pure a => intro H G K hs h; exact h
  | load m a k ih => intro H G K hs ⟨v, h1, h2⟩; exact ⟨v, cellH_sub hs h1, ih v hs h2⟩
  | shape r k ih => intro H G K hs ⟨c, e, fz, h1, h2⟩; exact ⟨c, e, fz, hs _ _ h1, ih _ hs h2⟩
  | frozen a k ih =>
    intro H G K hs ⟨c, e, fz, h1, h2⟩
    refine ⟨c, e, fz, hs _ _ h1, ?_⟩
    have : frozenH G a = frozenH H a := by unfold frozenH; rw [hs _ _ h1, h1]
    rw [this]; exact ih _ hs h2
  | getObj r k ih => intro H G K hs ⟨o, h1, h2, h3⟩; exact ⟨o, hs _ _ h1, h2, ih o hs h3⟩
  | program k ih => intro H G K hs h1; exact ih P hs h1
  | mark m k ih => intro H G K hs h1; exact ih hs h1
  | store m a v k ih => intro H G K hs h1; exact h1.elim
  | new o k ih => intro H G K hs h1; exact h1.elim
  | freeze a n k ih => intro H G K hs h1; exact h1.elim
  | setObj r o k ih => intro H G K hs h1; exact h1.elim
  | choose q k ih => intro H G K hs h1; exact h1.elim
  | sys c k ih => intro H G K hs h1; exact h1.elim
  | halt x => intro H G K hs h1; exact h1.elim
theorem plainR_sound {P : Program} {bs : List Nat} {o : Oper} {st : St} {a : Act} {H G : Heap} {K : SVal → Prop} (hs : ∀ b o, H b = some o → G b = some o)
    (he : Env bs st.env a.tmps) (h : plainR P o st H K) : Yields P bs o a G K := by
  unfold plainR at h
  split at h
  · rename_i h1
    split at h
    · rename_i h2
      refine Yields.of_runR ?_
      rw [execOp_rho he h1 h2]
      refine runR_mono ?_ (runR_sub hs h)
      intro nx hn
      cases nx with
      | value v => exact ⟨.v v, v, rfl, rfl, hn⟩
      | _ => exact hn.elim
    · exact h.elim
  · exact h.elim
theorem takeL_eq {α : Type} (l : List α) (n : Nat) : takeL l n = l.take n := by
  induction l generalizing n with
  | nil => cases n <;> rfl
  | cons x l ih => cases n with
    | zero => rfl
    | succ n => simp [takeL, ih]
theorem dropL_eq {α : Type} (l : List α) (n : Nat) : dropL l n = l.drop n := by
  induction l generalizing n with
  | nil => cases n <;> rfl
  | cons x l ih => cases n with
    | zero => rfl
    | succ n => simp [dropL, ih]
theorem addr_add (b o i : Nat) : Addr.add ⟨b, o, none⟩ i = ⟨b, o + i, none⟩ := by
  unfold Addr.add
  split
  · rename_i h; subst h; rfl
  · rfl
theorem runR_loadCellsFrom {P : Program} {H : Heap} {b o : Nat} {K : Array Value → Prop} : ∀ (l : List Value) (i : Nat) (acc : Array Value),
    (∀ j (h : j < l.length), cellH H ⟨b, o + (i + j), none⟩ = some l[j]) → K (acc ++ l.toArray) → runR P (loadCellsFrom ⟨b, o, none⟩ i l.length acc) H K := by
  intro l
  induction l with
  | nil => intro i acc h k; simpa [loadCellsFrom, runR, pure] using k
  | cons x l ih =>
    intro i acc h k
    show runR P (loadCellsFrom ⟨b, o, none⟩ i (l.length + 1) acc) H K
    simp only [loadCellsFrom]
    refine runR_bind ⟨x, ?_, ?_⟩
    · rw [addr_add]; exact h 0 (by simp)
    · refine ih (i + 1) (acc.push x) (fun j hj => ?_) ?_
      · have := h (j + 1) (by simp; omega)
        rw [show i + 1 + j = i + (j + 1) by omega]
        simpa using this
      · have : acc.push x ++ l.toArray = acc ++ (x :: l).toArray := by
          apply Array.ext'; simp
        rw [this]; exact k
theorem exs_spec {H : Heap} {b o : Nat} {f : List Value → Prop} : ∀ (ks : List Kind) (i : Nat) (acc : List Value), exs H b o ks i acc f →
    ∃ l : List Value, l.length = ks.length ∧ (∀ j (h : j < l.length), cellH H ⟨b, o + (i + j), none⟩ = some l[j]) ∧ f (acc.reverse ++ l) := by
  intro ks
  induction ks with
  | nil => intro i acc h; exact ⟨[], rfl, fun j h => by simp at h, by simpa [exs] using h⟩
  | cons k ks ih =>
    intro i acc h
    obtain ⟨x, h1, h2⟩ := h
    obtain ⟨l, hl, hc, hf⟩ := ih _ _ h2
    refine ⟨k.enc x :: l, by simp [hl], ?_, by simpa using hf⟩
    intro j hj
    cases j with
    | zero => simpa using h1
    | succ j =>
      have := hc j (by simpa using hj)
      rw [show i + (j + 1) = i + 1 + j by omega]
      simpa using this
theorem join_sub {H L : Heap} : ∀ b o, H b = some o → (H.join L) b = some o := fun b o h => Heap.join_left h
theorem loadO_sound {P : Program} {bs : List Nat} {T : TypeId} {sv : SVal} {v0 : Value} {loc : List (Option (Nat × List Value))} {H : Heap} {K : Value → Prop} (hn : bs.Nodup) (hd : H.disj (locH bs loc))
    (hx : SRel bs sv v0) (h : loadO P T sv loc H K) : ∃ a, v0 = .pointer (some a) ∧ runR P (loadVar T a) (H.join (locH bs loc)) K := by
  unfold loadO at h
  split at h
  · exact h.elim
  rename_i hT
  obtain ⟨i, hi, hsz⟩ := hasT_info hT
  split at h
  · -- a local
    rename_i i off
    obtain ⟨b, hb, rfl⟩ := hx
    refine ⟨_, rfl, ?_⟩
    split at h
    · rename_i U cs hl
      have hL := locH_at hn hb hl
      have hG : (H.join (locH bs loc)) b = some (.cells cs.toArray U (0, 0)) := Heap.join_right hd hL
      have hcell : ∀ j (hj : j < cs.length), cellH (H.join (locH bs loc)) ⟨b, j, none⟩ = some cs[j] := by
        intro j hj
        simp [cellH, hG, cellO, hj]
      obtain ⟨d, hu⟩ := hasT_underlying hT
      unfold loadVar
      refine runR_bind (runR_isAgg hu ?_)
      split at h
      · rename_i hagg
        rw [hagg]
        split at h
        · rename_i hlen
          have hlen' : (takeL (dropL cs off) (sizeT P T)).length = sizeT P T := by simpa using hlen
          simp only [if_true]
          refine runR_bind (runR_sizeOf hT ?_)
          refine runR_bind ?_
          unfold loadCells
          rw [← hlen']
          refine runR_loadCellsFrom (takeL (dropL cs off) (sizeT P T)) 0 #[] (fun j hj => ?_) ?_
          · have h3 : off + j < cs.length := by
              have : j < (takeL (dropL cs off) (sizeT P T)).length := hj
              rw [takeL_eq, dropL_eq] at this
              simp at this; omega
            rw [Nat.zero_add, hcell _ h3]
            congr 1
            simp [takeL_eq, dropL_eq]
          · simpa [runR, pure] using h
        · exact h.elim
      · rename_i hagg
        rw [hagg]
        split at h
        · rename_i c cs' hdr
          rw [dropL_eq] at hdr
          have h3 : off < cs.length := by
            have : (cs.drop off).length = (c :: cs').length := by rw [hdr]
            simp at this; omega
          have h4 : cs[off] = c := by
            have := List.drop_eq_getElem_cons h3
            rw [hdr] at this
            exact (List.cons.inj this).1.symm
          exact ⟨c, by rw [hcell _ h3, h4], h⟩
        · exact h.elim
    · exact h.elim
  · rename_i b off
    refine ⟨⟨b, off, none⟩, hx, ?_⟩
    obtain ⟨d, hu⟩ := hasT_underlying hT
    unfold loadVar
    refine runR_bind (runR_isAgg hu ?_)
    split at h
    · rename_i hagg
      rw [hagg]
      split at h
      · rename_i hlen
        have hlen' : (kindsT P 9 T).length = sizeT P T := by simpa using hlen
        simp only [if_true]
        refine runR_bind (runR_sizeOf hT ?_)
        refine runR_bind ?_
        obtain ⟨l, hl, hc, hf⟩ := exs_spec _ _ _ h
        unfold loadCells
        rw [← hlen', ← hl]
        refine runR_loadCellsFrom l 0 #[] (fun j hj => ?_) ?_
        · rw [Nat.zero_add]
          have := hc j hj
          rw [Nat.zero_add] at this
          exact cellH_sub join_sub this
        · simpa [runR, pure] using hf
      · exact h.elim
    · rename_i hagg
      rw [hagg]
      obtain ⟨x, h1, h2⟩ := h
      exact ⟨_, cellH_sub join_sub h1, h2⟩
  · exact h.elim
end Go.HL
