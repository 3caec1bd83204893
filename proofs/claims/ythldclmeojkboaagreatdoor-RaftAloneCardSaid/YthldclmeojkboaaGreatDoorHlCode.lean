import Derived.Test.YthldclmeojkboaaGreatDoorHlOps
namespace Go.HL
set_option linter.unusedVariables false
set_option linter.unusedSimpArgs false
theorem guardSlot_spec {ops : Array Oper} {j : Nat} {d : Tmp} (h : guardSlot ops.toList j = some d) : (ops[j]?).bind (·.dst) = some d := by
  unfold guardSlot at h
  split at h
  · rename_i o l hl
    rw [dropL_eq] at hl
    have h3 : j < ops.toList.length := by
      have : (ops.toList.drop j).length = (o :: l).length := by rw [hl]
      simp at this; simp; omega
    have h4 := List.drop_eq_getElem_cons h3
    rw [hl] at h4
    have h5 := (List.cons.inj h4).1
    simp at h3 h5
    simp [h3, ← h5, h]
  · cases h
theorem yielded_of {ops : Array Oper} {bs : List Nat} {st : St} {a : Act} (he : Env bs st.env a.tmps) {j : Nat} {d : Tmp} (hd : guardSlot ops.toList j = some d) {v : Value} (hv : getL st.env d = .v v) :
    yielded ops a.tmps j = match v with | .bool b => some b | _ => none := by
  have h1 := guardSlot_spec hd
  have h2 : d < a.tmps.size := by rw [← he.len]; exact getL_lt (by rw [hv]; simp)
  have h3 := he.at_ d
  rw [hv] at h3
  have h4 : a.tmps[d]? = some v := by
    have h3 : a.tmps.getD d undef = v := h3
    simp [Array.getD, h2] at h3
    simp [h2, h3]
  unfold yielded
  rw [h1]
  simp only [Option.bind_some, h4]
  cases v <;> rfl
theorem Rel.known {st : St} {bs : List Nat} {H R : Heap} {a : Act} {w : World} (h : Rel st bs H R a w) {d : Tmp} {v : Value} (hv : getL st.env d = .v v) : Rel { st with env := st.env.set d (.v v) } bs H R a w := by
  have : Env bs (st.env.set d (.v v)) a.tmps := by
    have h2 := h.env.set d (x := .v v) (v := v) rfl
    have h4 : a.tmps.setIfInBounds d v = a.tmps := by
      have h3 := h.env.at_ d
      rw [hv] at h3
      have h3 : a.tmps.getD d undef = v := h3
      by_cases q : d < a.tmps.size
      · simp [Array.getD, q] at h3
        apply Array.ext_getElem?
        intro i
        by_cases e : d = i
        · subst e; simp [q, h3]
        · rw [Array.getElem?_setIfInBounds_ne e]
      · rw [Array.setIfInBounds_eq_of_size_le (Nat.le_of_not_lt q)]
    rw [h4] at h2
    exact h2
  exact ⟨h.len, h.nd, h.lt, h.fit, h.dj, this, h.df⟩
theorem denOps_sound {P : Program} {hid : List Nat} {ops : Array Oper} {K : St → Heap → Prop} {R : Heap} {Q : Exit → Act → World → Prop} : ∀ (l : List Oper) {st : St} {bs : List Nat} {H : Heap} {a : Act} {w : World},
    Rel st bs H R a w → denOps P hid ops.toList l st H K → (∀ st' bs' H' a' w', Rel st' bs' H' R a' w' → Calm w w' → K st' H' → Q .normal a' w') → wpList P ops Q l a w := by
  intro l
  induction l with
  | nil => intro st bs H a w hr h hk; exact hk _ _ _ _ _ hr (Calm.refl _) h
  | cons o l ih =>
    intro st bs H a w hr h hk
    have hrun : ∀ (st : St), Rel st bs H R a w → (stepO P hid o st H fun st' H' => denOps P hid ops.toList l st' H' K) → Region.wanted o (yielded ops a.tmps) = true → wpList P ops Q (o :: l) a w := by
      intro st hr h hw
      unfold wpList
      rw [if_pos hw]
      refine .inl (stepO_good hr h _ _ ?_)
      intro st' bs' H' a' w' h1 h2 _ _ h3
      exact ih h1 h3 fun st'' bs'' H'' a'' w'' g1 g2 g3 => hk _ _ _ _ _ g1 (h2.trans g2) g3
    have hskip : ∀ (st : St), Rel st bs H R a w → denOps P hid ops.toList l (st.put o.dst (.v undef)) H K → Region.wanted o (yielded ops a.tmps) = false → wpList P ops Q (o :: l) a w := by
      intro st hr h hw
      unfold wpList
      rw [if_neg (by simp [hw])]
      exact ih (hr.put (x := .v undef) _ rfl) h hk
    simp only [denOps] at h
    split at h
    · rename_i hg
      exact hrun st hr h (by simp [Region.wanted, hg])
    · rename_i j want hg
      split at h
      · exact h.elim
      · rename_i d hd
        split at h
        · rename_i c hc
          have hy := yielded_of hr.env hd hc
          simp only [] at hy
          cases c with
          | true =>
            simp only [br] at h
            cases want with
            | true => exact hrun _ (hr.known hc) h (by simp [Region.wanted, hg, hy])
            | false => exact hskip _ (hr.known hc) h (by simp [Region.wanted, hg, hy])
          | false =>
            simp only [br] at h
            cases want with
            | true => exact hskip _ (hr.known hc) h (by simp [Region.wanted, hg, hy])
            | false => exact hrun _ (hr.known hc) h (by simp [Region.wanted, hg, hy])
        · rename_i vs hc
          have hy := yielded_of hr.env hd hc
          simp only [] at hy
          exact hskip _ hr h (by simp [Region.wanted, hg, hy])
        · exact h.elim
def Cls (G R : Heap) (w0 : World) (w : World) : Prop := Fit G R w ∧ Calm w0 w
theorem quietO_sound {P : Program} {o : Oper} {st : St} {bs : List Nat} {H R : Heap} {a : Act} {w : World} {K : St → Prop} (hr : Rel st bs H R a w) (h : quietO P o st H K) :
    ∃ x v, (∀ w', Cls (H.join (locH bs st.loc)) R w w' → o.quietAt P a (Cls (H.join (locH bs st.loc)) R w) w' v) ∧ SRel bs x v ∧ K (st.put o.dst x) := by
  unfold quietO at h
  split at h
  · obtain ⟨x, v, h1, h2, h3⟩ := pureO_sound hr.nd hr.dj hr.env h
    refine ⟨x, v, fun w' hw' => ?_, h2, h1⟩
    unfold Oper.quietAt
    rw [h3 R w' hw'.1]
    exact ⟨rfl, rfl⟩
  · split at h
    · rename_i f args tys ho
      split at h
      · rename_i k captured hc
        split at h
        · rename_i hg
          split at h
          · rename_i l hl
            obtain ⟨v, h1, h2⟩ := exR_ex h
            refine ⟨.v v, v, fun w' hw' => ?_, rfl, h2⟩
            unfold calleeOf calleeX at hc
            split at hc
            · rename_i k' first cap hf
              · simp only [Option.some.injEq, Prod.mk.injEq] at hc
                obtain ⟨rfl, hfirst, rfl⟩ := hc
                have hf0 : first = #[] := by apply Array.ext'; simpa using hfirst
                subst hf0
                unfold Oper.quietAt
                have hrun := run_call (w := w') (captured := cap) ho (by simpa using get_v hr.env hf) hg
                have e : args.map a.eval ++ cap = (l ++ cap.toList).toArray := by
                  apply Array.ext'; simp [argsV_spec hr.env hl]
                rw [Array.empty_append, e] at hrun
                rw [hrun]
                refine ⟨rfl, ?_⟩
                refine (h1 (R.join (locH bs st.loc)) w' (hw'.1.split hr.dj)).mono ?_
                rintro e' w'' ⟨r, H', rfl, g1, g2, rfl, g4⟩
                refine ⟨rfl, ⟨?_, ?_, ?_⟩, hw'.2.trans g2⟩
                · intro x p hx
                  unfold Heap.join at hx
                  cases q : H x with
                  | some y => rw [q] at hx; simp at hx; subst hx; exact g1.own _ _ (g4 _ _ q)
                  | none =>
                    rw [q] at hx; simp at hx
                    refine g1.rest _ _ ?_
                    unfold Heap.join
                    cases q2 : R x with
                    | some y => rw [(hr.apart q2).2] at hx; cases hx
                    | none => simpa using hx
                · intro x p hx
                  exact g1.rest _ _ (by unfold Heap.join; rw [hx]; rfl)
                · intro x p hx
                  exact hr.fit.apart _ _ hx
            · cases hc
          · exact h.elim
        · exact h.elim
      · exact h.elim
    · rename_i t x i ok ho
      split at h
      · rename_i hv
        have e := allV_spec hr.env hv
        obtain ⟨v, h1, h2⟩ := runR_sound h
        obtain ⟨y, rfl, hk⟩ := exR_ex h1
        refine ⟨.v v, v, fun w' hw' => ?_, rfl, hk⟩
        unfold Oper.quietAt
        simp only [execOp, ho, e x (by simp), e i (by simp)]
        have := h2 _ R w' join_sub hw'.1
        have e2 : Sem.run P (do pure (Next.value (← Instr.lookup t (st.rho x) (st.rho i) ok))) w' = .ok (.value v) w' := by
          rw [Sem.run_bind, this]; rfl
        rw [e2]
        exact ⟨rfl, rfl⟩
      · exact h.elim
    · exact h.elim
theorem quietOps_sound {P : Program} {ops : Array Oper} {K : St → Prop} {H R : Heap} {w : World} {loc : List (Option (Nat × List Value))} {bs : List Nat} {Q : Act → Prop} : ∀ (l : List Oper) {st : St} {a : Act},
    Rel st bs H R a w → st.loc = loc → quietOps P ops.toList H l st K → (∀ st' a', Rel st' bs H R a' w → st'.loc = loc → K st' → Q a') → wpQuiet P ops (Cls (H.join (locH bs loc)) R w) Q l a := by
  intro l
  induction l with
  | nil => intro st a hr hl h hk; exact hk _ _ hr hl h
  | cons o l ih =>
    intro st a hr hl h hk
    have hrun : ∀ (st : St), Rel st bs H R a w → st.loc = loc → (quietO P o st H fun st' => quietOps P ops.toList H l st' K) → Region.wanted o (yielded ops a.tmps) = true → wpQuiet P ops (Cls (H.join (locH bs loc)) R w) Q (o :: l) a := by
      intro st hr hl h hw
      unfold wpQuiet
      rw [if_pos hw]
      obtain ⟨x, v, h1, h2, h3⟩ := quietO_sound hr h
      rw [hl] at h1
      refine ⟨v, h1, ih (hr.put _ h2) ?_ h3 hk⟩
      cases o.dst <;> exact hl
    have hskip : ∀ (st : St), Rel st bs H R a w → st.loc = loc → quietOps P ops.toList H l (st.put o.dst (.v undef)) K → Region.wanted o (yielded ops a.tmps) = false → wpQuiet P ops (Cls (H.join (locH bs loc)) R w) Q (o :: l) a := by
      intro st hr hl h hw
      unfold wpQuiet
      rw [if_neg (by simp [hw])]
      refine ih (hr.put (x := .v undef) _ rfl) ?_ h hk
      cases o.dst <;> exact hl
    simp only [quietOps] at h
    split at h
    · rename_i hg
      exact hrun st hr hl h (by simp [Region.wanted, hg])
    · rename_i j want hg
      split at h
      · exact h.elim
      · rename_i d hd
        split at h
        · rename_i c hc
          have hy := yielded_of hr.env hd hc
          simp only [] at hy
          cases c with
          | true =>
            simp only [br] at h
            cases want with
            | true => exact hrun _ (hr.known hc) hl h (by simp [Region.wanted, hg, hy])
            | false => exact hskip _ (hr.known hc) hl h (by simp [Region.wanted, hg, hy])
          | false =>
            simp only [br] at h
            cases want with
            | true => exact hskip _ (hr.known hc) hl h (by simp [Region.wanted, hg, hy])
            | false => exact hrun _ (hr.known hc) hl h (by simp [Region.wanted, hg, hy])
        · rename_i vs hc
          have hy := yielded_of hr.env hd hc
          simp only [] at hy
          exact hskip _ hr hl h (by simp [Region.wanted, hg, hy])
        · exact h.elim
theorem Rel.world {st : St} {bs : List Nat} {H R : Heap} {a : Act} {w w' : World} (h : Rel st bs H R a w) (hc : Cls (H.join (locH bs st.loc)) R w w') : Rel st bs H R a w' :=
  ⟨h.len, h.nd, fun b hb => Nat.lt_of_lt_of_le (h.lt b hb) hc.2.size, hc.1, h.dj, h.env, h.df⟩
theorem Kind.app_enc {k : Kind} {v : Value} {f : k.T → Prop} (h : k.app v f) : ∃ x, k.enc x = v ∧ f x := by
  cases k <;> cases v <;> first | exact h.elim | exact ⟨_, rfl, h⟩ | skip
  · simp only [Kind.app] at h
    split at h
    · rename_i hk; have := intKindEq_spec hk; subst this; exact ⟨_, rfl, h⟩
    · exact h.elim
  · rename_i g x y
    cases g <;> first | exact h.elim | exact ⟨⟨_, x, y⟩, rfl, h⟩
  · rename_i p
    rcases p with _ | ⟨b, o, _ | _⟩
    · exact h.elim
    · cases o with
      | zero => exact ⟨b, rfl, h⟩
      | succ o => exact h.elim
    · exact h.elim
theorem allI_app : ∀ {ks : List Kind} {I : FunK ks (Heap → Prop)} {g : (Heap → Prop) → List Value → Prop} {vs : List Value} {H : Heap}, allI ks I g → appI ks I vs H → ∃ i, g i vs ∧ i H := by
  intro ks
  induction ks with
  | nil =>
    intro I g vs H h h2
    cases vs with
    | nil => exact ⟨I, h, h2⟩
    | cons _ _ => exact h2.elim
  | cons k ks ih =>
    intro I g vs H h h2
    cases vs with
    | nil => exact h2.elim
    | cons v vs =>
      obtain ⟨x, rfl, h3⟩ := Kind.app_enc h2
      obtain ⟨i, h4, h5⟩ := ih (h x) h3
      exact ⟨i, h4, h5⟩
theorem allIM_app : ∀ {ks : List Kind} {I : FunK ks (Heap → Prop)} {μ : FunK ks (Heap → Nat)} {g : (Heap → Prop) → (Heap → Nat) → List Value → Prop} {vs : List Value} {H : Heap}, allIM ks I μ g → appI ks I vs H → ∃ i m, g i m vs ∧ i H := by
  intro ks
  induction ks with
  | nil =>
    intro I μ g vs H h h2
    cases vs with
    | nil => exact ⟨I, μ, h, h2⟩
    | cons _ _ => exact h2.elim
  | cons k ks ih =>
    intro I μ g vs H h h2
    cases vs with
    | nil => exact h2.elim
    | cons v vs =>
      obtain ⟨x, rfl, h3⟩ := Kind.app_enc h2
      obtain ⟨i, m, h4, h5⟩ := ih (h x) h3
      exact ⟨i, m, h4, h5⟩
theorem allIM_appM : ∀ {ks : List Kind} {I : FunK ks (Heap → Prop)} {μ : FunK ks (Heap → Nat)} {g : (Heap → Prop) → (Heap → Nat) → List Value → Prop} {vs : List Value} {H : Heap} {n : Nat}, allIM ks I μ g → appIM ks I μ vs H n → ∃ i m, g i m vs ∧ i H ∧ m H < n := by
  intro ks
  induction ks with
  | nil =>
    intro I μ g vs H n h h2
    cases vs with
    | nil => exact ⟨I, μ, h, h2.1, h2.2⟩
    | cons _ _ => exact h2.elim
  | cons k ks ih =>
    intro I μ g vs H n h h2
    cases vs with
    | nil => exact h2.elim
    | cons v vs =>
      obtain ⟨x, rfl, h3⟩ := Kind.app_enc h2
      obtain ⟨i, m, h4, h5⟩ := ih (h x) h3
      exact ⟨i, m, h4, h5⟩
theorem getL_keepOnly {kept : List Nat} {n : Nat} : ∀ {l : List SVal} {i j : Nat}, getL (keepOnly kept n l i) j = if kept.contains (i + j) then keepV n (getL l j) else .dead := by
  intro l
  induction l with
  | nil => intro i j; simp only [keepOnly, getL, keepV]; split <;> rfl
  | cons x l ih =>
    intro i j
    cases j with
    | zero => simp only [keepOnly, getL, Nat.add_zero]; cases kept.contains i <;> rfl
    | succ j =>
      simp only [keepOnly, getL, ih]
      rw [show i + 1 + j = i + (j + 1) by omega]
theorem keepOnly_length {kept : List Nat} {n : Nat} : ∀ {l : List SVal} {i : Nat}, (keepOnly kept n l i).length = l.length := by
  intro l
  induction l with
  | nil => intro i; rfl
  | cons x l ih => intro i; simp [keepOnly, ih]
theorem Env.weak {bs : List Nat} {env : List SVal} {tmps : Array Value} (he : Env bs env tmps) (d : Nat) {x : SVal} (hx : SRel bs x (tmps.getD d undef)) : Env bs (env.set d x) tmps := by
  refine ⟨by simp [he.len], fun i => ?_⟩
  rw [getL_set]
  by_cases h : d = i ∧ i < env.length
  · rw [if_pos h, ← h.1]; exact hx
  · rw [if_neg h]; exact he.at_ i
theorem svals_spec {env : List SVal} : ∀ {ss : List (Nat × Kind)} {l : List Value}, svals (ss.map fun s => getL env s.1) = some l → l.length = ss.length ∧ ∀ bs tmps (env0 : List SVal) (r : List Value), Env bs env tmps → Env bs env0 tmps → Env bs (setAll env0 ss (l ++ r)) tmps := by
  intro ss
  induction ss with
  | nil => intro l h; simp only [List.map_nil, svals, Option.some.injEq] at h; subst h; exact ⟨rfl, fun bs tmps env0 r _ h => by cases r <;> exact h⟩
  | cons s ss ih =>
    intro l h
    obtain ⟨d, k⟩ := s
    simp only [List.map_cons] at h
    cases hv : getL env d with
    | v x =>
      rw [hv] at h
      simp only [svals] at h
      split at h
      · rename_i r hr
        simp only [Option.some.injEq] at h; subst h
        obtain ⟨h1, h2⟩ := ih hr
        refine ⟨by simp [h1], fun bs tmps env0 r' he h0 => ?_⟩
        simp only [List.cons_append, setAll]
        refine h2 bs tmps _ r' he (h0.weak d ?_)
        have := he.at_ d
        rw [hv] at this
        exact this
      · cases h
    | loc i off => rw [hv] at h; simp [svals] at h
    | dead => rw [hv] at h; simp [svals] at h
theorem locL_keep {kept : List Nat} : ∀ {l : List (Option (Nat × List Value))} {i j : Nat}, locL (keepLocs kept l i) j = if kept.contains (i + j) then locL l j else none := by
  intro l
  induction l with
  | nil => intro i j; simp [keepLocs, locL]
  | cons x l ih =>
    intro i j
    cases j with
    | zero => simp only [keepLocs, locL, Nat.add_zero]; cases kept.contains i <;> rfl
    | succ j =>
      simp only [keepLocs, locL, ih]
      rw [show i + 1 + j = i + (j + 1) by omega]
theorem keepLocs_length {kept : List Nat} : ∀ {l : List (Option (Nat × List Value))} {i : Nat}, (keepLocs kept l i).length = l.length := by
  intro l
  induction l with
  | nil => intro i; rfl
  | cons x l ih => intro i; simp [keepLocs, ih]
theorem setLocs_length {old : List (Option (Nat × List Value))} : ∀ {ls : List (Nat × List Kind)} {l : List (Option (Nat × List Value))} {vs : List Value}, (setLocs old l ls vs).length = l.length := by
  intro ls
  induction ls with
  | nil => intro l vs; rfl
  | cons x ls ih => intro l vs; obtain ⟨i, ks⟩ := x; simp [setLocs, ih]
theorem locVals_spec {loc old : List (Option (Nat × List Value))} : ∀ {ls : List (Nat × List Kind)} {l : List Value}, locVals loc ls = some l → (ls.map fun x => typeL loc x.1) = (ls.map fun x => typeL old x.1) →
    ∀ (l0 : List (Option (Nat × List Value))), (∀ i T c, locL l0 i = some (T, c) → locL loc i = some (T, c)) → ∀ i T c, locL (setLocs old l0 ls l) i = some (T, c) → locL loc i = some (T, c) := by
  intro ls
  induction ls with
  | nil => intro l h ht l0 h0; cases l <;> exact h0
  | cons x ls ih =>
    intro l h ht l0 h0
    obtain ⟨i, ks⟩ := x
    simp only [locVals] at h
    split at h
    · rename_i T cs hl
      split at h
      · rename_i hlen
        split at h
        · rename_i r hr
          simp only [Option.some.injEq] at h; subst h
          have hlen' : cs.length = ks.length := by simpa using hlen
          simp only [List.map_cons, List.cons.injEq] at ht
          simp only [setLocs, takeL_eq, dropL_eq]
          rw [← hlen', List.take_left, List.drop_left]
          refine ih hr ht.2 _ ?_
          intro j U c hj
          rw [locL_set] at hj
          by_cases e : i = j ∧ j < l0.length
          · rw [if_pos e] at hj
            obtain ⟨rfl, _⟩ := e
            simp only [Option.some.injEq, Prod.mk.injEq] at hj
            obtain ⟨h1, rfl⟩ := hj
            rw [hl]
            have h2 : typeL loc i = T := by unfold typeL; rw [hl]
            rw [← h1, ← ht.1, h2]
          · rw [if_neg e] at hj
            exact h0 _ _ _ hj
        · cases h
      · cases h
    · cases h
theorem Env.take {bs : List Nat} {n : Nat} {env : List SVal} {tmps : Array Value} (he : Env bs env tmps) (hk : ∀ i, ∀ j off, getL env i = .loc j off → j < n) : Env (bs.take n) env tmps := by
  refine ⟨he.len, fun i => ?_⟩
  have := he.at_ i
  cases e : getL env i with
  | v x => rw [e] at this; exact this
  | dead => trivial
  | loc j off =>
    rw [e] at this
    obtain ⟨b, h1, h2⟩ := this
    exact ⟨b, by rw [List.getElem?_take_of_lt (hk i j off e)]; exact h1, h2⟩
theorem setAll_loc {j off i : Nat} : ∀ {ss : List (Nat × Kind)} {env : List SVal} {vs : List Value}, getL (setAll env ss vs) i = .loc j off → getL env i = .loc j off := by
  intro ss
  induction ss with
  | nil => intro env vs h; cases vs <;> exact h
  | cons s ss ih =>
    intro env vs h
    obtain ⟨d, k⟩ := s
    cases vs with
    | nil => exact h
    | cons v vs =>
      simp only [setAll] at h
      have h2 := ih h
      rw [getL_set] at h2
      split at h2
      · cases h2
      · exact h2
theorem Rel.carry {an : Ann} {st st' : St} {bs : List Nat} {H R : Heap} {a : Act} {w : World} (h : Rel st' bs H R a w) (hz : sizesOK st st' = true) (hs : an.same st st') {vs : List Value} (hv : an.vals st' = some vs) :
    Rel (an.put st vs) (bs.take st.loc.length) H R a w := by
  unfold sizesOK at hz
  split at hz
  · rename_i hz1
    have hle := Nat.le_of_ble_eq_true hz1
    have hlen : st'.env.length = st.env.length := by
      have := Nat.eq_of_beq_eq_true hz; exact this
    unfold Ann.vals at hv
    split at hv
    · rename_i l hl
      split at hv
      · rename_i r hr
        simp only [Option.some.injEq] at hv; subst hv
        unfold Ann.same Ann.kept? at hs
        simp only [Prod.mk.injEq] at hs
        obtain ⟨hs1, hs2, hs3⟩ := hs
        obtain ⟨h1, h2⟩ := svals_spec hl
        have hkeep : ∀ i, i ∈ an.kept → getL st'.env i = getL st.env i := by
          intro i hi
          have := List.map_inj_left.1 hs1 i hi
          exact this
        have hkeepL : ∀ i, i ∈ an.keptL → locL st'.loc i = locL st.loc i := by
          intro i hi
          exact List.map_inj_left.1 hs2 i hi
        have hlocs : ∀ i T c, locL (an.put st (l ++ r)).loc i = some (T, c) → locL st'.loc i = some (T, c) := by
          have e : dropL (l ++ r) an.slots.length = r := by rw [dropL_eq, ← h1, List.drop_left]
          simp only [Ann.put, e]
          refine locVals_spec hr hs3 _ ?_
          intro i T c hi
          rw [locL_keep] at hi
          split at hi
          · rename_i hc
            rw [hkeepL i (by simpa using hc)]; exact hi
          · cases hi
        have hll : (an.put st (l ++ r)).loc.length = st.loc.length := by
          simp [Ann.put, setLocs_length, keepLocs_length]
        have hsub : ∀ x p, locH (bs.take st.loc.length) (an.put st (l ++ r)).loc x = some p → locH bs st'.loc x = some p := by
          intro x p hx
          obtain ⟨i, T, c, g1, g2, rfl⟩ := locH_mem hx
          have hi := locL_lt g2
          rw [hll] at hi
          rw [List.getElem?_take_of_lt hi] at g1
          exact locH_at h.nd g1 (hlocs _ _ _ g2)
        refine ⟨?_, h.nd.sublist (List.take_sublist _ _), fun b hb => h.lt b (List.mem_of_mem_take hb), ?_, fun x p hx => h.dj _ _ (hsub _ _ hx), ?_, h.df⟩
        · rw [hll, List.length_take, h.len]; omega
        · refine ⟨?_, h.fit.rest, ?_⟩
          · intro x p hx
            unfold Heap.join at hx
            cases q : H x with
            | some y => rw [q] at hx; simp at hx; subst hx; exact h.fit.own _ _ (Heap.join_left q)
            | none => rw [q] at hx; simp at hx; exact h.fit.own _ _ (Heap.join_right h.dj (hsub _ _ hx))
          · intro x p hx
            have := h.apart hx
            unfold Heap.join
            rw [this.1]
            cases q : locH (bs.take st.loc.length) (an.put st (l ++ r)).loc x with
            | none => rfl
            | some y => rw [hsub _ _ q] at this; cases this.2
        · have hk0 : Env bs (keepOnly an.kept st.loc.length st.env 0) a.tmps := by
            refine ⟨by rw [keepOnly_length, ← hlen]; exact h.env.len, fun i => ?_⟩
            rw [getL_keepOnly]
            split
            · rename_i hc
              have hi := hkeep i (by simpa using hc)
              have := h.env.at_ i
              rw [hi] at this
              cases e : getL st.env i with
              | v x => rw [e] at this; exact this
              | dead => trivial
              | loc j off =>
                rw [e] at this
                simp only [keepV]
                split
                · exact this
                · trivial
            · trivial
          have hk1 := h2 bs a.tmps _ r h.env hk0
          refine hk1.take ?_
          intro i j off hi
          have h3 := setAll_loc hi
          rw [getL_keepOnly] at h3
          split at h3
          · cases e : getL st.env i with
            | v x => rw [e] at h3; cases h3
            | dead => rw [e] at h3; cases h3
            | loc j' off' =>
              rw [e] at h3
              simp only [keepV] at h3
              split at h3
              · rename_i hb
                cases h3
                exact Nat.blt_eq ▸ hb |> fun q => by simpa using q
              · cases h3
          · cases h3
      · cases hv
    · cases hv
  · cases hz
end Go.HL
