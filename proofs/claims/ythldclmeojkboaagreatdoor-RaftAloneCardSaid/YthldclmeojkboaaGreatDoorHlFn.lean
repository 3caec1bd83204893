import Derived.Test.YthldclmeojkboaaGreatDoorHlMix
namespace Go.HL
set_option linter.unusedVariables false
set_option linter.unusedSimpArgs false
theorem heapAt_disj {l : List Nat} {id : Nat} {H L : Heap} (h : H.disj L) : (heapAt l id H).disj L := by
  unfold heapAt
  split
  · intro b o hb; rfl
  · exact h
theorem noLocs_len : ∀ (l : List (Option (Nat × List Value))), (noLocs l).length = l.length
  | [] => rfl
  | _ :: l => congrArg (· + 1) (noLocs_len l)
theorem noLocs_all : ∀ (l : List (Option (Nat × List Value))), allNone (noLocs l) = true
  | [] => rfl
  | _ :: l => noLocs_all l
theorem noLocs_heap : ∀ (bs : List Nat) (l : List (Option (Nat × List Value))), locH bs (noLocs l) = fun _ => none
  | [], [] => rfl
  | [], _ :: _ => rfl
  | _ :: _, [] => rfl
  | b :: bs, _ :: l => by
    have h := noLocs_heap bs l
    funext x
    simp [noLocs, locH, h]
theorem locAt_disj {l : List Nat} {id : Nat} {H : Heap} {bs : List Nat} {loc : List (Option (Nat × List Value))} (h : H.disj (locH bs loc)) : H.disj (locH bs (locAt l id loc)) := by
  unfold locAt
  split
  · rw [noLocs_heap]
    intro b o hb
    cases hb
  · exact h
theorem locAt_len {l : List Nat} {id : Nat} {loc : List (Option (Nat × List Value))} : (locAt l id loc).length = loc.length := by
  unfold locAt
  split
  · exact noLocs_len loc
  · rfl
theorem locAt_ext {l : List Nat} {id : Nat} {loc : List (Option (Nat × List Value))} : LocExt (locAt l id loc) loc := by
  unfold locAt
  split
  · exact allNone_ext (noLocs_all loc)
  · exact LocExt.refl _
theorem heapAt_sub {l : List Nat} {id : Nat} {H : Heap} : Sub (heapAt l id H) H := by
  unfold heapAt
  split
  · intro b o hb; cases hb
  · intro b o hb; exact hb
theorem wp_loopR {P : Program} {c : Code} {Q : Exit → Act → World → Prop} (I : Nat → Act → World → Prop) {n : Nat} {a : Act} {w : World} (h₀ : I n a w)
    (round : ∀ n a w, I n a w → c.wp P (Exit.then (fun a' w' => ∃ m, m < n ∧ I m a' w') Q) a w) : (Code.loop c).wp P Q a w := by
  intro b k cs
  have key : ∀ n a w, I n a w →
      ∃ e a' w', Q e a' w' ∧ Arrives P (lone (b.at a (.code c :: .inLoop c :: k)) cs w) b k cs e a' w' := by
    intro n
    induction n using Nat.strongRecOn with
    | _ n ih =>
      intro a w hI
      obtain ⟨e, a₁, w₁, hq, harr⟩ := round n a w hI b (.inLoop c :: k) cs
      cases e with
      | normal =>
        obtain ⟨m, hlt, hI₁⟩ := hq
        obtain ⟨e₂, a₂, w₂, hq₂, harr₂⟩ := ih m hlt a₁ w₁ hI₁
        exact ⟨e₂, a₂, w₂, hq₂, .of_steps (Steps.trans harr (.one step_inLoop)) harr₂⟩
      | exit id => exact ⟨_, a₁, w₁, hq, .pass (x := .inLoop c) rfl (fun _ _ => .inl (by simp)) harr⟩
      | goto l => exact ⟨_, a₁, w₁, hq, .pass (x := .inLoop c) rfl (fun _ _ => .inl (by simp)) harr⟩
      | ret => exact ⟨_, a₁, w₁, hq, .pass (x := .inLoop c) rfl (fun _ _ => .inl (by simp)) harr⟩
      | panic ch => exact ⟨_, a₁, w₁, hq, .pass (x := .inLoop c) rfl (fun _ _ => .inl (by simp)) harr⟩
      | outgrown => exact ⟨_, a₁, w₁, hq, .pass (x := .inLoop c) rfl (fun _ _ => .inl (by simp)) harr⟩
  obtain ⟨e, a', w', hq, harr⟩ := key n a w h₀
  exact ⟨e, a', w', hq, .of_steps (.one step_loop) harr⟩
theorem den_sound {P : Program} (hm : P.follows .mixedOrders = true) {A : Anns} {R : Heap} : ∀ (c : Code) {n : Nat} {st : St} {bs : List Nat} {H : Heap} {a : Act} {w : World} {K : Exit → St → Heap → Prop} {Q : Exit → Act → World → Prop},
    Rel st bs H R a w → den P A c n st H K → (∀ e st' bs' H' a' w', Rel st' bs' H' R a' w' → Calm w w' → K e st' H' → Q e a' w') → c.wp P Q a w := by
  intro c
  induction c with
  | skip => intro n st bs H a w K Q hr h hk; exact wp_skip (hk _ _ _ _ _ _ hr (Calm.refl _) h)
  | ret => intro n st bs H a w K Q hr h hk; exact wp_ret (hk _ _ _ _ _ _ hr (Calm.refl _) h)
  | exit id => intro n st bs H a w K Q hr h hk; exact wp_exit (hk _ _ _ _ _ _ hr (Calm.refl _) h)
  | region id ops d =>
    intro n st bs H a w K Q hr h hk
    simp only [den] at h
    split at h
    · refine wp_region_list (denOps_sound _ hr h ?_)
      intro st' bs' H' a' w' h1 h2 h3
      exact hk _ _ _ _ _ _ h1 h2 h3
    · split at h
      · split at h
        · rename_i hsel
          refine wp_mono (Q := fun e a w => e = .normal ∧ Q .normal a w) ?_ (fun e a w q => by rw [q.1]; exact q.2)
          refine wp_region_any hm (wpAny_of_S _ _ _ _ (mixOps_sound (K := fun st' H' => K .normal st' H') (bs0 := bs) hsel (fun c a a' w q => by cases q.1) (heapAt_disj (locAt_disj hr.dj)) (by rw [locAt_len]; exact hr.len) _ _ (w := { w with drawn := w.drawn + 1 }) ⟨hr.len, hr.nd, hr.lt, ⟨hr.fit.own, hr.fit.rest, hr.fit.apart⟩, hr.dj, hr.env, hr.df⟩ (BsExt.refl _) (Closed.start _ _) (fun _ => ⟨locAt_ext, heapAt_sub⟩) h ?_))
          intro st' bs' H' a' w' h1 h2 h3
          exact ⟨rfl, hk _ _ _ _ _ _ h1 ((Calm.drawn w _).trans h2) h3⟩
        · exact h.elim
      split at h
      · rename_i hB
        have hC : Cls (H.join (locH bs st.loc)) R w { w with drawn := w.drawn + 1 } := ⟨⟨hr.fit.own, hr.fit.rest, hr.fit.apart⟩, Calm.drawn _ _⟩
        refine wp_region_quiet (C := Cls (H.join (locH bs st.loc)) R w) hm hB hC ?_
        refine quietOps_sound (loc := st.loc) _ hr rfl h ?_
        intro st' a' h1 h2 h3 w' hw'
        exact hk _ _ _ _ _ _ (h1.world (by rw [h2]; exact hw')) hw'.2 h3
      · exact h.elim
  | seq x y ihx ihy =>
    intro n st bs H a w K Q hr h hk
    simp only [den] at h
    split at h
    · refine wp_seq (ihx hr h ?_)
      intro e st' bs' H' a' w' h1 h2 h3
      cases e with
      | normal => exact ihy h1 h3 fun e st'' bs'' H'' a'' w'' g1 g2 g3 => hk _ _ _ _ _ _ g1 (h2.trans g2) g3
      | _ => exact hk _ _ _ _ _ _ h1 h2 h3
    · rename_i an _
      obtain ⟨J, hx, hy⟩ := h
      refine wp_seq (ihx hr hx ?_)
      intro e st' bs' H' a' w' h1 h2 h3
      cases e with
      | normal =>
        simp only [] at h3
        split at h3
        · rename_i hz
          obtain ⟨hs, h4⟩ := h3
          split at h4
          · rename_i vs hv
            have h5 := h1.carry hz hs hv
            obtain ⟨j, h6, h7⟩ := allI_app hy h4
            exact ihy h5 (h6 H' h7) fun e st'' bs'' H'' a'' w'' g1 g2 g3 => hk _ _ _ _ _ _ g1 (h2.trans g2) g3
          · exact h4.elim
        · exact h3.elim
      | _ => exact hk _ _ _ _ _ _ h1 h2 h3
  | cond c x y ihx ihy =>
    intro n st bs H a w K Q hr h hk
    simp only [den] at h
    split at h
    · rename_i t hc
      refine wp_cond (get_v hr.env hc) ?_
      cases t with
      | true => exact ihx hr h hk
      | false => exact ihy hr h hk
    · exact h.elim
  | block id c ih =>
    intro n st bs H a w K Q hr h hk
    simp only [den] at h
    refine wp_block (ih hr h ?_)
    intro e st' bs' H' a' w' h1 h2 h3
    cases e with
    | exit j =>
      simp only [Exit.inBlock]
      simp only [] at h3
      split at h3
      · rename_i hb
        rw [if_pos (Nat.eq_of_beq_eq_true hb)]
        exact hk _ _ _ _ _ _ h1 h2 h3
      · rename_i hb
        rw [if_neg (fun q => by subst q; simp at hb)]
        exact hk _ _ _ _ _ _ h1 h2 h3
    | _ => exact hk _ _ _ _ _ _ h1 h2 h3
  | loop c ih =>
    intro n st bs H a w K Q hr h hk
    simp only [den] at h
    split at h
    · exact h.elim
    rename_i an _
    split at h
    · exact h.elim
    rename_i vs0 hv0
    obtain ⟨I, μ, h0, hall⟩ := h
    have hstart : Rel (an.put st vs0) (bs.take st.loc.length) H R a w := hr.carry (by unfold sizesOK; rw [show Nat.ble st.loc.length st.loc.length = true from by simp]; simp) rfl hv0
    obtain ⟨i0, m0, g0, hi0⟩ := allIM_app hall h0
    refine wp_loopR (fun k a' w' => Calm w w' ∧ ∃ vs bs' H' i m, Rel (an.put st vs) bs' H' R a' w' ∧ i H' ∧ m H' = k ∧
      (∀ H', i H' → den P A c n (an.put st vs) H' fun e st' H'' =>
            match e with
            | .normal => match sizesOK st st' with
              | true => an.same st st' ∧ (match an.vals st' with | some vs' => appIM an.kinds I μ vs' H'' (m H') | none => False)
              | false => False
            | e => K e st' H'')) (n := m0 H) ⟨Calm.refl _, vs0, _, H, i0, m0, hstart, hi0, rfl, g0⟩ ?_
    rintro k a1 w1 ⟨hc1, vs, bs1, H1, i, m, hr1, hi1, hm1, hden⟩
    refine ih hr1 (hden H1 hi1) ?_
    intro e st' bs' H' a' w' h1 h2 h3
    cases e with
    | normal =>
      simp only [] at h3
      split at h3
      · rename_i hz
        obtain ⟨hs, h4⟩ := h3
        split at h4
        · rename_i vs' hv
          have h5 := h1.carry hz hs hv
          obtain ⟨i', m', h6, h7, h8⟩ := allIM_appM hall h4
          exact ⟨m' H', by omega, hc1.trans h2, vs', _, H', i', m', h5, h7, rfl, h6⟩
        · exact h4.elim
      · exact h3.elim
    | _ => exact hk _ _ _ _ _ _ h1 (hc1.trans h2) h3
  | rangeFunc f ps as b => intro n st bs H a w K Q hr h hk; exact h.elim
  | scope b => intro n st bs H a w K Q hr h hk; exact h.elim
  | label l => intro n st bs H a w K Q hr h hk; exact h.elim
  | goto l => intro n st bs H a w K Q hr h hk; exact h.elim
  | refuse y => intro n st bs H a w K Q hr h hk; exact h.elim
theorem resOne_eq (l : List Value) : (if h : l.toArray.size = 1 then l.toArray[0] else .tuple l.toArray) = resOne l := by
  match l with
  | [] => rfl
  | [v] => rfl
  | a :: b :: l => simp [resOne]
theorem resK_sound {P : Program} {st : St} {bs : List Nat} {H R : Heap} {a : Act} {w : World} (hr : Rel st bs H R a w) : ∀ (rs : List ResultVar) {acc : List Value} {f : List Value → Prop}, resK P st H rs acc f →
    runR P (rs.mapM fun (r : ResultVar) => (match r with
        | .tmp t => pure (a.tmps.getD t undef)
        | .cell b t => do loadVar t (← asAddr (a.tmps.getD b undef)) : Sem Value)) (H.join (locH bs st.loc)) fun l => f (acc.reverse ++ l) := by
  intro rs
  induction rs with
  | nil => intro acc f h; simpa [resK, runR, pure] using h
  | cons r rs ih =>
    intro acc f h
    rw [List.mapM_cons]
    cases r with
    | tmp t =>
      simp only [resK] at h
      split at h
      · rename_i x hx
        have h1 := hr.env.at_ t
        rw [hx] at h1
        have h1 : a.tmps.getD t undef = x := h1
        refine runR_bind ?_
        show runR P _ _ _
        simp only [h1]
        refine runR_bind (runR_mono ?_ (ih h))
        intro l hl
        show f (acc.reverse ++ x :: l)
        simpa using hl
      · exact h.elim
    | cell b T =>
      simp only [resK] at h
      obtain ⟨ad, h1, h2⟩ := loadO_sound hr.nd hr.dj (hr.env.at_ b) h
      refine runR_bind ?_
      simp only [h1]
      refine runR_bind (s := asAddr (.pointer (some ad))) ?_
      show runR P (loadVar T ad) _ _
      refine runR_mono ?_ h2
      intro x hx
      refine runR_bind (runR_mono ?_ (ih hx))
      intro l hl
      show f (acc.reverse ++ x :: l)
      simpa using hl
theorem results_sound {P : Program} {fn : Func} {st : St} {bs : List Nat} {H R : Heap} {a : Act} {w : World} (hr : Rel st bs H R a w) {K : Value → Prop} (h : resK P st H fn.results.toList [] fun l => K (resOne l)) :
    ∃ v, (results fn a.tmps).run P w = .ok v w ∧ K v := by
  have h1 : runR P (results fn a.tmps) (H.join (locH bs st.loc)) K := by
    unfold results
    refine runR_bind ?_
    rw [Array.mapM_eq_mapM_toList]
    refine runR_bind (runR_mono ?_ (resK_sound hr _ h))
    intro l hl
    show K (if h : l.toArray.size = 1 then l.toArray[0] else .tuple l.toArray)
    rw [resOne_eq]
    simpa using hl
  obtain ⟨v, hv, hrun⟩ := runR_sound h1
  exact ⟨v, hrun _ R w (fun _ _ h => h) hr.fit, hv⟩
theorem initEnv_spec : ∀ (args : List Value) (n : Nat), Env [] (initEnv args n) (args.toArray ++ Array.replicate (n - args.length) undef) := by
  intro args n
  have hlen : ∀ (args : List Value) (n : Nat), (initEnv args n).length = args.length + (n - args.length) := by
    intro args
    induction args with
    | nil => intro n; simp [initEnv]
    | cons v l ih => intro n; simp only [initEnv, List.length_cons, ih]; omega
  have hget : ∀ (args : List Value) (n i : Nat), i < args.length + (n - args.length) → getL (initEnv args n) i = .v ((args ++ List.replicate (n - args.length) undef).getD i undef) := by
    intro args
    induction args with
    | nil =>
      intro n
      induction n with
      | zero => intro i hi; simp at hi
      | succ n ih =>
        intro i hi
        cases i with
        | zero => rfl
        | succ i =>
          have := ih i (by simp at hi ⊢; omega)
          simp only [initEnv, List.replicate_succ, getL] at this ⊢
          rw [this]
          simp [List.replicate_succ]
    | cons v l ih =>
      intro n i hi
      cases i with
      | zero => rfl
      | succ i =>
        simp only [initEnv, getL]
        rw [ih (n - 1) i (by simp only [List.length_cons] at hi; omega)]
        rw [show n - 1 - l.length = n - (v :: l).length by simp only [List.length_cons]; omega]
        simp
  refine ⟨by rw [hlen]; simp, fun i => ?_⟩
  by_cases hi : i < args.length + (n - args.length)
  · rw [hget _ _ _ hi]
    show _ = _
    simp only [Array.getD_eq_getD_getElem?, List.getD_eq_getElem?_getD]
    congr 1
    rw [← Array.getElem?_toList]
    simp
  · cases e : getL (initEnv args n) i with
    | dead => trivial
    | v x => exact absurd (getL_lt (by rw [e]; simp)) (by rw [hlen]; exact hi)
    | loc j off => exact absurd (getL_lt (by rw [e]; simp)) (by rw [hlen]; exact hi)
theorem denFn_sound {P : Program} (hm : P.follows .mixedOrders = true) (A : Anns) {f : FuncId} {fn : Func} {c : Code} (hf : P.funcs[f]? = some fn) (hb : fn.body = some c) {args : List Value} {H : Heap} {K : Value → Heap → Prop}
    (h : denFn P A fn c args H K) : FnH P f args.toArray H K := by
  intro R w hw
  refine calls_of_wp hf hb ?_
  have hr : Rel { env := initEnv args fn.ntmps, loc := [] } [] H R { tmps := args.toArray ++ Array.replicate (fn.ntmps - args.toArray.size) undef, defers := [] } w := by
    refine Rel.mk rfl List.nodup_nil (fun b hb => by cases hb) ?_ (fun b o hb => by cases hb) ?_ rfl
    · refine hw.congr fun b => ?_
      simp [Heap.join, locH]
    · have := initEnv_spec args fn.ntmps
      simpa using this
  refine den_sound hm c hr h ?_
  intro e st bs H' a w' h1 h2 h3
  cases e with
  | normal =>
    obtain ⟨v, g1, g2⟩ := results_sound (K := fun v => K v H') h1 h3
    exact ⟨h1.df, v, g1, v, H', rfl, ⟨fun b o hb => h1.fit.own _ _ (Heap.join_left hb), h1.fit.rest, fun b o hb => (h1.apart hb).1⟩, h2, g2⟩
  | ret =>
    obtain ⟨v, g1, g2⟩ := results_sound (K := fun v => K v H') h1 h3
    exact ⟨h1.df, v, g1, v, H', rfl, ⟨fun b o hb => h1.fit.own _ _ (Heap.join_left hb), h1.fit.rest, fun b o hb => (h1.apart hb).1⟩, h2, g2⟩
  | _ => exact h3.elim
theorem bodyOf_spec {fn : Func} (h : (match fn.body with | some _ => true | none => false) = true) : fn.body = some (bodyOf fn) := by
  unfold bodyOf
  cases e : fn.body with
  | none => rw [e] at h; cases h
  | some c => rfl
theorem br_intro {c : Bool} {A B : Prop} (hA : c = true → A) (hB : c = false → B) : br c A B := by
  cases c with
  | true => exact hA rfl
  | false => exact hB rfl
theorem letH_intro {x : Heap} {f : Heap → Prop} (h : ∀ H, H = x → f H) : letH x f := h x rfl
theorem ptrm_intro {p : Option Addr} {f : Nat → Nat → Prop} {b o : Nat} (h : p = some ⟨b, o, none⟩) (hf : f b o) : ptrm p f := by subst h; exact hf
theorem denFn_fn {P : Program} (hm : P.follows .mixedOrders = true) (A : Anns) {f : FuncId} {fn : Func} {c : Code} (hf : P.funcs[f]? = some fn) (hb : fn.body = some c) {args : List Value} {H : Heap} {K : Value → Heap → Prop} {vc : Prop}
    (e : vc = denFn P A fn c args H K) (h : vc) : FnH P f args.toArray H K := denFn_sound hm A hf hb (e ▸ h)
def callV (P : Program) (s : SVal) (A : FuncId → List Value → List Value → Prop) : Prop :=
  match calleeX s with
  | some (k, f, c) => match goFn P k with
    | false => False
    | true => A k f c
  | none => False
theorem callV_intro {P : Program} {k : FuncId} {f c : Array Value} {A : FuncId → List Value → List Value → Prop} (hg : goFn P k = true) (h : A k f.toList c.toList) : callV P (.v (.func (.func k) f c)) A := by
  show (match goFn P k with | false => False | true => A k f.toList c.toList)
  rw [hg]; exact h
end Go.HL
