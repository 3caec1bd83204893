import Derived.Test.YthldclmeojkboaaGreatDoorHlCode
import Derived.OrdersHeld
namespace Go.HL
set_option linter.unusedVariables false
set_option linter.unusedSimpArgs false
def wpAnyS (P : Program) (ops : Array Oper) (Q : Exit → Act → World → Prop) (S : Array Bool → World → Prop) : Nat → Array Bool → Act → World → Prop
  | 0, listed, a, w => Region.ready .any ops listed = [] ∧ Q .normal a w
  | fuel + 1, listed, a, w =>
    (Region.ready .any ops listed = [] → Q .normal a w) ∧
    ∀ i ∈ Region.ready .any ops listed, wpOp P ops Q i (fun a' w' => S (listed.setIfInBounds i true) w' ∧ wpAnyS P ops Q S fuel (listed.setIfInBounds i true) a' w') a w
theorem wpAny_of_S {P : Program} {ops : Array Oper} {Q : Exit → Act → World → Prop} {S : Array Bool → World → Prop} : ∀ (fuel : Nat) (listed : Array Bool) (a : Act) (w : World), wpAnyS P ops Q S fuel listed a w → wpAny P .any ops Q fuel listed a w
  | 0, _, _, _, h => h
  | fuel + 1, _, _, _, h => ⟨h.1, fun i hi => wpOp_mono (fun a' w' h' => wpAny_of_S fuel _ a' w' h'.2) (h.2 i hi)⟩
theorem noneListed_set {B : List Nat} {listed : Array Bool} {i : Nat} (hi : i ∉ B) : noneListed B (listed.setIfInBounds i true) = noneListed B listed := by
  unfold noneListed
  apply Bool.eq_iff_iff.2
  simp only [List.all_eq_true]
  refine forall_congr' fun b => forall_congr' fun hb => ?_
  have : i ≠ b := fun e => hi (e ▸ hb)
  rw [getD_set_ne true this]
def Closed (ops : Array Oper) (listed : Array Bool) : Prop := ∀ k o, ops[k]? = some o → listed.getD k false = true → ∀ e ∈ o.after, Region.binds .any e = true → listed.getD e.on false = true
theorem Closed.start (ops : Array Oper) (n : Nat) : Closed ops (Array.replicate n false) := by
  intro k o hk hl
  simp only [Array.getD_eq_getD_getElem?, Array.getElem?_replicate] at hl
  split at hl <;> cases hl
theorem getD_set_true {listed : Array Bool} {i k : Nat} {d : Bool} (h : listed.getD k d = true) : (listed.setIfInBounds i true).getD k d = true := by
  by_cases e : i = k
  · subst e
    simp only [Array.getD_eq_getD_getElem?] at h ⊢
    by_cases hlt : i < listed.size
    · simp [hlt]
    · rw [Array.setIfInBounds_eq_of_size_le (Nat.le_of_not_lt hlt)]; exact h
  · rw [getD_set_ne _ e]; exact h
theorem Closed.step {ops : Array Oper} {listed : Array Bool} (h : Closed ops listed) {i : Nat} (hr : i ∈ Region.ready .any ops listed) : Closed ops (listed.setIfInBounds i true) := by
  obtain ⟨_, oi, hoi, hall⟩ := mem_ready.1 hr
  intro k o hk hl e he hb
  by_cases q : i = k
  · subst q
    rw [hoi] at hk
    simp only [Option.some.injEq] at hk
    subst hk
    exact getD_set_true (hall e he hb)
  · rw [getD_set_ne _ q] at hl
    exact getD_set_true (h k o hk hl e he hb)
theorem waitsT_spec {ops : Array Oper} {listed : Array Bool} (hc : Closed ops listed) {i : Nat} (hi : listed.getD i false = false) : ∀ {n b : Nat}, waitsT ops n b i = true →
    (∃ o, ops[b]? = some o ∧ ∃ e ∈ o.after, Region.binds .any e = true ∧ listed.getD e.on false = false) := by
  intro n
  induction n with
  | zero => intro b h; cases h
  | succ n ih =>
    intro b h
    simp only [waitsT] at h
    split at h
    · rename_i o ho
      simp only [List.any_eq_true] at h
      obtain ⟨e, he, h1⟩ := h
      split at h1
      · rename_i hb
        split at h1
        · rename_i hq
          have := Nat.eq_of_beq_eq_true hq
          exact ⟨o, ho, e, by simpa using he, hb, by rw [this]; exact hi⟩
        · obtain ⟨o', ho', e', he', hb', hl'⟩ := ih h1
          refine ⟨o, ho, e, by simpa using he, hb, ?_⟩
          cases q : listed.getD e.on false with
          | false => rfl
          | true => rw [hc _ _ ho' q _ he' hb'] at hl'; cases hl'
      · cases h1
    · cases h
theorem waits_notReady {ops : Array Oper} {listed : Array Bool} (hc : Closed ops listed) {i b : Nat} (hi : listed.getD i false = false) (hw : waitsFor ops b i = true) : b ∉ Region.ready .any ops listed := by
  intro hr
  obtain ⟨o, ho, e, he, hb, hl⟩ := waitsT_spec hc hi hw
  obtain ⟨_, ob, hob, hall⟩ := mem_ready.1 hr
  rw [hob] at ho
  simp only [Option.some.injEq] at ho
  subst ho
  rw [hall e he hb] at hl; cases hl
theorem ready_unlisted {ops : Array Oper} {listed : Array Bool} {i : Nat} (h : i ∈ Region.ready .any ops listed) : listed.getD i false = false := by
  obtain ⟨h0, _⟩ := mem_ready.1 h
  simp only [Array.getD_eq_getD_getElem?] at h0 ⊢
  cases e : listed[i]? with
  | none => rfl
  | some x => rw [e] at h0; simpa using h0
theorem wpAnyS_first {P : Program} {ops : Array Oper} {Q : Exit → Act → World → Prop} {B : List Nat} {SA C : World → Prop} {i : Nat} {oi : Oper} {v : Value} (hi : ops[i]? = some oi) (hsel : ∀ (j : Nat) (o : Oper) cs b, ops[j]? = some o → o.op ≠ .select cs b)
    (hQ : ∀ c a w, Q (.panic c) (a.put oi.dst v) w → Q (.panic c) a w) (hiB : i ∉ B) (useS : Bool) (hCS : useS = true → C = SA) (hCT : useS = false → C = fun _ => True)
    (hB : useS = true → ∀ b ∈ B, waitsFor ops b i = true) :
    ∀ (fuel : Nat) (listed : Array Bool) (a : Act) (w : World),
      (useS = true → noneListed B listed = true) → Closed ops listed →
      (∀ j oj, ops[j]? = some oj → j ≠ i → listed.getD j true = false → (∀ e ∈ oj.after, Region.binds .any e = true → e.on ≠ i) → oi.apart ops oj = true) →
      i ∈ Region.ready .any ops listed → YieldsIf P ops C oi v a → C w → (noneListed B listed = true → SA w) →
      wpAnyS P ops Q (fun l w => noneListed B l = true → SA w) fuel (listed.setIfInBounds i true) (a.put oi.dst v) w → wpAnyS P ops Q (fun l w => noneListed B l = true → SA w) (fuel + 1) listed a w := by
  intro fuel
  induction fuel with
  | zero =>
    intro listed a w hnl hcl hfree hr hy hC hS H
    refine ⟨fun h => (by rw [h] at hr; cases hr), fun j hj => ?_⟩
    by_cases hji : j = i
    · subst hji; exact hy.wpOp hi hC ⟨fun q => hS (by rw [← noneListed_set (listed := listed) hiB]; exact q), H⟩
    · have := ready_mono hj hji
      rw [H.1] at this
      cases this
  | succ fuel ih =>
    intro listed a w hnl hcl hfree hr hy hC hS H
    refine ⟨fun h => (by rw [h] at hr; cases hr), fun j hj => ?_⟩
    by_cases hji : j = i
    · subst hji; exact hy.wpOp hi hC ⟨fun q => hS (by rw [← noneListed_set (listed := listed) hiB]; exact q), H⟩
    · have h1 := H.2 j (ready_mono hj hji)
      obtain ⟨hjun, oj, hoj, hall⟩ := mem_ready.1 hj
      have hnot : ∀ e ∈ oj.after, Region.binds .any e = true → e.on ≠ i := fun e he hb heq => by
        have h1 := hall e he hb
        have h0 := (mem_ready.1 hr).1
        rw [heq] at h1
        rcases Nat.lt_or_ge i listed.size with h' | h'
        · simp [h'] at h0 h1; rw [h0] at h1; cases h1
        · simp [Array.getElem?_eq_none h'] at h1
      have hjB : useS = true → j ∉ B := fun hu hjB => by
        exact waits_notReady hcl (ready_unlisted hr) (hB hu j hjB) hj
      have h2 := wpOp_putIf hoj (hfree j oj hoj hji hjun hnot) (fun cs b => hsel i oi cs b hi) (fun cs b => hsel j oj cs b hoj) hQ hy h1
      have hfree' : ∀ k ok, ops[k]? = some ok → k ≠ i → (listed.setIfInBounds j true).getD k true = false →
          (∀ e ∈ ok.after, Region.binds .any e = true → e.on ≠ i) → oi.apart ops ok = true := fun k ok hk hki hun hno => by
        refine hfree k ok hk hki ?_ hno
        by_cases hjk : j = k
        · subst hjk; exact hjun
        · rw [getD_set_ne true hjk] at hun; exact hun
      refine wpOp_mono (fun a' w' h3 => ?_) h2
      obtain ⟨hy', hS', hH'⟩ := h3
      rw [Array.setIfInBounds_comm _ _ (Ne.symm hji)] at hS' hH'
      rw [noneListed_set hiB] at hS'
      have hnl' : useS = true → noneListed B (listed.setIfInBounds j true) = true := fun hu => by rw [noneListed_set (hjB hu)]; exact hnl hu
      have hC' : C w' := by
        cases hu : useS with
        | true => rw [hCS hu]; exact hS' (hnl' hu)
        | false => rw [hCT hu]; trivial
      exact ⟨hS', ih (listed.setIfInBounds j true) a' w' hnl' (hcl.step hj) hfree' (ready_mono hr (Ne.symm hji)) hy' hC' hS' hH'⟩
theorem allIdx_mem {f : Nat → Prop} : ∀ {l : List Nat}, allIdx l f → ∀ i ∈ l, f i := by
  intro l
  induction l with
  | nil => intro _ i hi; cases hi
  | cons x l ih =>
    intro h i hi
    cases l with
    | nil =>
      simp only [List.mem_singleton] at hi
      subst hi; exact h
    | cons y l =>
      rcases List.mem_cons.1 hi with rfl | hi
      · exact h.1
      · exact ih h.2 i hi
theorem pickE_spec {P : Program} {ops : Array Oper} {B : List Nat} {listed : Array Bool} {i : Nat} {o : Oper} {m : Bool} : ∀ {rs : List Nat}, pickE P ops B listed rs = some (i, o, m) →
    i ∈ rs ∧ ops[i]? = some o ∧ isPure o.op = true ∧ Region.free .any ops listed i = true ∧ i ∉ B ∧ (m = false → noneListed B listed = true ∧ ∀ b ∈ B, waitsFor ops b i = true) := by
  intro rs
  induction rs with
  | nil => intro h; cases h
  | cons r rs ih =>
    intro h
    simp only [pickE] at h
    split at h
    · obtain ⟨h1, h2⟩ := ih h; exact ⟨List.mem_cons_of_mem _ h1, h2⟩
    · rename_i o' ho
      split at h
      · obtain ⟨h1, h2⟩ := ih h; exact ⟨List.mem_cons_of_mem _ h1, h2⟩
      · rename_i hc
        simp only [Bool.and_eq_true] at hc
        obtain ⟨⟨c1, c3⟩, c4⟩ := hc
        have c4' : r ∉ B := by simpa using c4
        split at h
        · simp only [Option.some.injEq, Prod.mk.injEq] at h
          obtain ⟨rfl, rfl, rfl⟩ := h
          exact ⟨List.mem_cons_self, ho, c1, c3, c4', fun q => by cases q⟩
        · split at h
          · rename_i hw
            simp only [Option.some.injEq, Prod.mk.injEq] at h
            obtain ⟨rfl, rfl, rfl⟩ := h
            simp only [Bool.and_eq_true, List.all_eq_true] at hw
            exact ⟨List.mem_cons_self, ho, c1, c3, c4', fun _ => hw⟩
          · obtain ⟨h1, h2⟩ := ih h; exact ⟨List.mem_cons_of_mem _ h1, h2⟩
theorem guardM_cases {ops : Array Oper} {o : Oper} {st : St} {bs : List Nat} {H R : Heap} {a : Act} {w : World} {run skip : St → Prop} (hr : Rel st bs H R a w) (h : guardM ops.toList o st run skip) :
    ∃ st', Rel st' bs H R a w ∧ st'.loc = st.loc ∧ ((Region.wanted o (yielded ops a.tmps) = true ∧ run st') ∨ (Region.wanted o (yielded ops a.tmps) = false ∧ skip st')) := by
  unfold guardM at h
  split at h
  · rename_i hg
    exact ⟨st, hr, rfl, .inl ⟨by simp [Region.wanted, hg], h⟩⟩
  · rename_i j want hg
    split at h
    · exact h.elim
    · rename_i d hd
      split at h
      · rename_i c hc
        have hy := yielded_of hr.env hd hc
        simp only [] at hy
        cases c with
        | true =>
          simp only [br] at h
          cases want with
          | true => exact ⟨_, hr.known hc, rfl, .inl ⟨by simp [Region.wanted, hg, hy], h⟩⟩
          | false => exact ⟨_, hr.known hc, rfl, .inr ⟨by simp [Region.wanted, hg, hy], h⟩⟩
        | false =>
          simp only [br] at h
          cases want with
          | true => exact ⟨_, hr.known hc, rfl, .inr ⟨by simp [Region.wanted, hg, hy], h⟩⟩
          | false => exact ⟨_, hr.known hc, rfl, .inl ⟨by simp [Region.wanted, hg, hy], h⟩⟩
      · rename_i vs hc
        have hy := yielded_of hr.env hd hc
        simp only [] at hy
        exact ⟨st, hr, rfl, .inr ⟨by simp [Region.wanted, hg, hy], h⟩⟩
      · exact h.elim
theorem allNone_ext : ∀ {l l' : List (Option (Nat × List Value))}, allNone l = true → LocExt l l' := by
  intro l l' h i x hx
  exfalso
  induction l generalizing i with
  | nil => simp [locL] at hx
  | cons y l ih =>
    cases y with
    | some z => simp [allNone] at h
    | none =>
      cases i with
      | zero => simp [locL] at hx
      | succ i => exact ih (by simpa [allNone] using h) i (by simpa [locL] using hx)
theorem mixOps_sound {P : Program} {hid : List Nat} {ops : Array Oper} {B : List Nat} {H0 R : Heap} {loc0 : List (Option (Nat × List Value))} {bs0 : List Nat} {K : St → Heap → Prop} {Q : Exit → Act → World → Prop}
    (hsel : Region.noSelect ops = true) (hQ : ∀ c a a' w, Q (.panic c) a w → Q (.panic c) a' w) (hd0 : H0.disj (locH bs0 loc0)) (hl0 : bs0.length = loc0.length) :
    ∀ (fuel : Nat) (listed : Array Bool) {st : St} {bs : List Nat} {H : Heap} {a : Act} {w : World}, Rel st bs H R a w → BsExt bs0 bs → Closed ops listed → (noneListed B listed = true → LocExt loc0 st.loc ∧ Sub H0 H) →
    mixOps P hid ops B H0 loc0 fuel listed st H K → (∀ st' bs' H' a' w', Rel st' bs' H' R a' w' → Calm w w' → K st' H' → Q .normal a' w') →
    wpAnyS P ops Q (fun l w => noneListed B l = true → (∀ b o, (H0.join (locH bs0 loc0)) b = some o → w.heap[b]? = some o)) fuel listed a w := by
  intro fuel
  induction fuel with
  | zero =>
    intro listed st bs H a w hr hbs hcl hS h hk
    simp only [mixOps] at h
    split at h
    · rename_i e; exact ⟨e, hk _ _ _ _ _ hr (Calm.refl _) h⟩
    · exact h.elim
  | succ fuel ih =>
    intro listed st bs H a w hr hbs hcl hS h hk
    have hSA : ∀ {st : St} {bs : List Nat} {H : Heap} {a : Act} {w : World}, Rel st bs H R a w → BsExt bs0 bs → (LocExt loc0 st.loc ∧ Sub H0 H) → ∀ b o, (H0.join (locH bs0 loc0)) b = some o → w.heap[b]? = some o := by
      intro st bs H a w hr hbs hLS b o hb
      unfold Heap.join at hb
      cases e : H0 b with
      | some x => rw [e] at hb; simp at hb; subst hb; exact hr.fit.own _ _ (Heap.join_left (hLS.2 _ _ e))
      | none =>
        rw [e] at hb; simp at hb
        obtain ⟨i, T, c, g1, g2, rfl⟩ := locH_mem hb
        exact hr.fit.own _ _ (Heap.join_right hr.dj (locH_at hr.nd (hbs _ _ g1) (hLS.1 _ _ g2)))
    simp only [mixOps] at h
    split at h
    · rename_i e
      exact ⟨fun _ => hk _ _ _ _ _ hr (Calm.refl _) h, fun i hi => by rw [e] at hi; cases hi⟩
    · rename_i r rs e
      split at h
      · -- looks at no memory
        rename_i i o hp
        obtain ⟨h1, h2, h3, h5, h6, h7⟩ := pickE_spec hp
        rw [← e] at h1
        obtain ⟨st', hr', hloc, ⟨hw, h⟩ | ⟨hw, h⟩⟩ := guardM_cases hr h
        case inr =>
          refine wpAnyS_first (C := fun _ => True) h2 (Region.noSelect_spec hsel) (fun c a w hq => hQ c _ _ _ hq) h6 false (fun q => by cases q) (fun _ => rfl) (fun q => by cases q) fuel listed a w (fun q => by cases q) hcl
            (Region.free_spec h2 h5) h1 (.inr ⟨hw, rfl⟩) trivial (fun q => hSA hr hbs (hS q)) ?_
          refine ih _ (hr'.put (x := .v undef) _ rfl) hbs (hcl.step h1) ?_ h hk
          intro q
          rw [noneListed_set h6] at q
          rw [put_loc, hloc]; exact hS q
        have hnil : ∀ bs : List Nat, locH bs [] = fun _ => none := fun bs => by cases bs <;> rfl
        obtain ⟨x, v, g1, g2, g3⟩ := pureO_sound (bs := bs) (st := { st' with loc := [] }) (a := a) (H := Heap.emp) hr.nd (fun b o hb => by rw [hnil] at hb; cases hb) hr'.env h
        refine wpAnyS_first (C := fun _ => True) h2 (Region.noSelect_spec hsel) (fun c a w hq => hQ c _ _ _ hq) h6 false (fun q => by cases q) (fun _ => rfl) (fun q => by cases q) fuel listed a w (fun q => by cases q) hcl
          (Region.free_spec h2 h5) h1 (.inl ⟨hw, fun w _ => g3 Heap.emp w (Fit.mk (fun b o hb => by unfold Heap.join at hb; rw [hnil] at hb; cases hb) (fun b o hb => by cases hb) (fun b o hb => by cases hb))⟩) trivial (fun q => hSA hr hbs (hS q)) ?_
        refine ih _ (hr'.put _ g2) hbs (hcl.step h1) ?_ g1 hk
        intro q
        rw [noneListed_set h6] at q
        rw [put_loc, hloc]; exact hS q
      · -- reads what was there at the beginning
        rename_i i o hp
        obtain ⟨h1, h2, h3, h5, h6, h7⟩ := pickE_spec hp
        obtain ⟨h7, h8⟩ := h7 rfl
        rw [← e] at h1
        obtain ⟨st', hr', hloc, ⟨hw, h⟩ | ⟨hw, h⟩⟩ := guardM_cases hr h
        case inr =>
          refine wpAnyS_first (C := fun _ => True) h2 (Region.noSelect_spec hsel) (fun c a w hq => hQ c _ _ _ hq) h6 false (fun q => by cases q) (fun _ => rfl) (fun q => by cases q) fuel listed a w (fun q => by cases q) hcl
            (Region.free_spec h2 h5) h1 (.inr ⟨hw, rfl⟩) trivial (fun q => hSA hr hbs (hS q)) ?_
          refine ih _ (hr'.put (x := .v undef) _ rfl) hbs (hcl.step h1) ?_ h hk
          intro q
          rw [noneListed_set h6] at q
          rw [put_loc, hloc]; exact hS q
        obtain ⟨hle, hsub⟩ := hS h7
        have hbs0 : locH bs0 loc0 = locH bs loc0 := by
          have key : ∀ (l : List (Option (Nat × List Value))) (b0 b1 : List Nat), b0.length = l.length → (∀ (i b : Nat), b0[i]? = some b → b1[i]? = some b) → locH b0 l = locH b1 l := by
            intro l
            induction l with
            | nil => intro b0 b1 hl hx; cases b0 with
              | nil => cases b1 <;> rfl
              | cons _ _ => simp at hl
            | cons y l ihl =>
              intro b0 b1 hl hx
              cases b0 with
              | nil => simp at hl
              | cons c b0 =>
                cases b1 with
                | nil => have := hx 0 c rfl; simp at this
                | cons c' b1 =>
                  have hc : c' = c := by have := hx 0 c rfl; simpa using this
                  subst hc
                  have := ihl b0 b1 (by simpa using hl) (fun i b hb => by have := hx (i + 1) b (by simpa using hb); simpa using this)
                  simp only [locH, this]
          exact key _ _ _ hl0 hbs
        obtain ⟨x, v, g1, g2, g3⟩ := pureO_sound (bs := bs) (st := { st' with loc := loc0 }) (a := a) (H := H0) hr.nd (by show H0.disj (locH bs loc0); rw [← hbs0]; exact hd0) hr'.env h
        have g3 : ∀ R w, Fit (H0.join (locH bs loc0)) R w → (execOp a.eval o).run P w = .ok (.value v) w := g3
        rw [← hbs0] at g3
        refine wpAnyS_first (C := fun w => ∀ b o, (H0.join (locH bs0 loc0)) b = some o → w.heap[b]? = some o) h2 (Region.noSelect_spec hsel) (fun c a w hq => hQ c _ _ _ hq) h6 true (fun _ => rfl) (fun q => by cases q) (fun _ => h8) fuel listed a w (fun _ => h7) hcl
          (Region.free_spec h2 h5) h1 (.inl ⟨hw, fun w hq => g3 Heap.emp w (Fit.mk hq (fun b o hb => by cases hb) (fun b o hb => by cases hb))⟩) (hSA hr hbs (hS h7)) (fun q => hSA hr hbs (hS q)) ?_
        refine ih _ (hr'.put _ g2) hbs (hcl.step h1) ?_ g1 hk
        intro q
        rw [put_loc, hloc]; exact ⟨hle, hsub⟩
      · -- it changes memory
        refine ⟨fun q => (by rw [q] at e; cases e), fun i hi => ?_⟩
        have hcl' := hcl.step hi
        rw [e] at hi
        have hi' := allIdx_mem h i hi
        split at hi'
        · exact hi'.elim
        · rename_i o ho
          obtain ⟨st1, hr1, hloc, ⟨hw, hi'⟩ | ⟨hw, hi'⟩⟩ := guardM_cases hr hi'
          case inr =>
            unfold wpOp
            simp only [ho]
            rw [if_neg (by simp [hw])]
            by_cases hB : B.contains i = true
            · have hB' : i ∈ B := by simpa using hB
              have hnl : noneListed B (listed.setIfInBounds i true) = true → False := by
                intro q
                unfold noneListed at q
                simp only [List.all_eq_true] at q
                have := q i hB'
                by_cases hlt : i < listed.size
                · simp [Array.getD, hlt] at this
                · simp [Array.getD, hlt] at this
              exact ⟨fun q => (hnl q).elim, ih _ (hr1.put (x := .v undef) _ rfl) hbs hcl' (fun q => (hnl q).elim) hi' hk⟩
            · have hB' : i ∉ B := by simpa using hB
              have hS' : noneListed B (listed.setIfInBounds i true) = true → LocExt loc0 (st1.put o.dst (.v undef)).loc ∧ Sub H0 H := fun q => by
                rw [noneListed_set hB'] at q
                rw [put_loc, hloc]; exact hS q
              exact ⟨fun q => by rw [noneListed_set hB'] at q; exact hSA hr hbs (hS q), ih _ (hr1.put (x := .v undef) _ rfl) hbs hcl' hS' hi' hk⟩
          rw [← hloc] at hS
          clear hr h
          have hr := hr1
          unfold wpOp
          simp only [ho]
          rw [if_pos hw]
          refine .inl ?_
          split at hi'
          · rename_i hB
            have hB' : i ∈ B := by simpa using hB
            refine stepO_good hr hi' _ _ ?_
            intro st' bs' H' a' w' g1 g2 g3 g4 g5
            have hnl : noneListed B (listed.setIfInBounds i true) = true → False := by
              intro q
              unfold noneListed at q
              simp only [List.all_eq_true] at q
              have := q i hB'
              by_cases hlt : i < listed.size
              · simp [Array.getD, hlt] at this
              · simp [Array.getD, hlt] at this
            refine ⟨fun q => (hnl q).elim, ih _ g1 (hbs.trans g3) hcl' (fun q => (hnl q).elim) g5 fun st'' bs'' H'' a'' w'' f1 f2 f3 => hk _ _ _ _ _ f1 (g2.trans f2) f3⟩
          · rename_i hB
            have hB' : i ∉ B := by simpa using hB
            split at hi'
            · split at hi'
              · rename_i hko
                refine stepO_good hr hi' _ _ ?_
                intro st' bs' H' a' w' g1 g2 g3 g4 g5
                have hS' : noneListed B (listed.setIfInBounds i true) = true → LocExt loc0 st'.loc ∧ Sub H0 H' := fun q => by
                  rw [noneListed_set hB'] at q
                  refine ⟨?_, g5.1⟩
                  cases hn : allNone loc0 with
                  | true => exact allNone_ext hn
                  | false => rw [hn, Bool.or_false] at hko; exact (hS q).1.trans (g4 hko)
                refine ⟨fun q => hSA g1 (hbs.trans g3) (hS' q), ih _ g1 (hbs.trans g3) hcl' hS' g5.2 fun st'' bs'' H'' a'' w'' f1 f2 f3 => hk _ _ _ _ _ f1 (g2.trans f2) f3⟩
              · exact hi'.elim
            · rename_i hnone
              refine stepO_good hr hi' _ _ ?_
              intro st' bs' H' a' w' g1 g2 g3 g4 g5
              have hno : noneListed B (listed.setIfInBounds i true) = true → False := fun q => by
                rw [noneListed_set hB'] at q
                rw [q] at hnone; cases hnone
              refine ⟨fun q => (hno q).elim, ih _ g1 (hbs.trans g3) hcl' (fun q => (hno q).elim) g5 fun st'' bs'' H'' a'' w'' f1 f2 f3 => hk _ _ _ _ _ f1 (g2.trans f2) f3⟩
end Go.HL
