import Derived.Test.YthldclmeojkboaaGreatDoorHlSound
namespace Go.HL
set_option linter.unusedVariables false
set_option linter.unusedSimpArgs false
theorem exvs_ex : ∀ {ks : List Kind} {acc : List Value} {f : List Value → Prop}, exvs ks acc f → ∃ l, f l := by
  intro ks
  induction ks with
  | nil => intro acc f h; exact ⟨_, h⟩
  | cons k ks ih => intro acc f ⟨x, h⟩; exact ih h
theorem exT_ex {P : Program} {t : TypeId} {f : Value → Prop} (h : exT P t f) : ∃ v, f v := by
  unfold exT at h
  split at h
  · obtain ⟨l, h⟩ := exvs_ex h; exact ⟨_, h⟩
  · obtain ⟨x, h⟩ := h; exact ⟨_, h⟩
theorem intKindEq_spec {k k' : IntKind} (h : intKindEq k k' = true) : k = k' := by
  cases k <;> cases k' <;> first | rfl | (simp [intKindEq] at h; done)
theorem runR_value {P : Program} {s : Sem Value} {H : Heap} {K : Next → Prop} (h : runR P s H fun v => K (.value v)) :
    runR P (do pure (.value (← s)) : Sem Next) H K := runR_bind h
theorem runR_eqGuard_int {P : Program} {op : BinOp} {t : TypeId} {x y : Operand} {k k' : IntKind} {a b : Int} {H : Heap} {K : Unit → Prop} (h : K ()) :
    runR P (eqGuard op t x y (.int k a) (.int k' b)) H K := by
  unfold eqGuard
  cases op <;> exact h
theorem runR_eqGuard_str {P : Program} {op : BinOp} {t : TypeId} {x y : Operand} {a b : ByteArray} {H : Heap} {K : Unit → Prop} (h : K ()) :
    runR P (eqGuard op t x y (.string a) (.string b)) H K := by
  unfold eqGuard
  cases op <;> exact h
theorem runR_eqGuard_agg {P : Program} {op : BinOp} {t : TypeId} {x y : Operand} {a b : Array Value} {H : Heap} {K : Unit → Prop} (hg : P.eqGuardType P.depth t = false) (h : K ()) :
    runR P (eqGuard op t x y (.agg a) (.agg b)) H K := by
  unfold eqGuard
  cases op
  case eql => show runR P (if !P.eqGuardType P.depth t then _ else _) H K; rw [hg]; exact h
  case neq => show runR P (if !P.eqGuardType P.depth t then _ else _) H K; rw [hg]; exact h
  all_goals exact h
theorem runR_binI {P : Program} {op : BinOp} {t : TypeId} {k : IntKind} {a b : Int} {H : Heap} {K : Value → Prop} (h : binI op k a b K) : runR P (binOp op t (.int k a) (.int k b)) H K := by
  cases op <;> simp only [binI] at h <;> first | exact h.elim | skip
  case add => show runR P (if k ≠ k then _ else _) H K; rw [if_neg (by simp)]; exact h
  case sub => show runR P (if k ≠ k then _ else _) H K; rw [if_neg (by simp)]; exact h
  case mul => show runR P (if k ≠ k then _ else _) H K; rw [if_neg (by simp)]; exact h
  case quo => show runR P (if k ≠ k then _ else _) H K; rw [if_neg (by simp)]; show runR P (if b = 0 then _ else _) H K; rw [if_neg h.1]; exact h.2
  case rem => show runR P (if k ≠ k then _ else _) H K; rw [if_neg (by simp)]; show runR P (if b = 0 then _ else _) H K; rw [if_neg h.1]; exact h.2
  case eql => show runR P (if k ≠ k then _ else _) H K; rw [if_neg (by simp)]; exact h
  case neq => show runR P (if k ≠ k then _ else _) H K; rw [if_neg (by simp)]; exact h
  case lss => show runR P (if k ≠ k then _ else _) H K; rw [if_neg (by simp)]; exact h
  case leq => show runR P (if k ≠ k then _ else _) H K; rw [if_neg (by simp)]; exact h
  case gtr => show runR P (if k ≠ k then _ else _) H K; rw [if_neg (by simp)]; exact h
  case geq => show runR P (if k ≠ k then _ else _) H K; rw [if_neg (by simp)]; exact h
theorem runR_sh {P : Program} {op : BinOp} {t : TypeId} {k k' : IntKind} {a b : Int} {H : Heap} {K : Value → Prop} {f : IntKind → Int → Int → Int} (hf : shK op = some f) (h : shG (decide (b < 0)) (K (.int k (f k a b)))) : runR P (binOp op t (.int k a) (.int k' b)) H K := by
  by_cases c : b < 0
  · rw [decide_eq_true c] at h; exact h.elim
  · rw [decide_eq_false c] at h
    cases op <;> simp only [shK] at hf <;> first | cases hf | skip
    all_goals
      show runR P (if b < 0 then _ else _) H K
      rw [if_neg c]; exact h
theorem runR_binS {P : Program} {op : BinOp} {t : TypeId} {a b : ByteArray} {H : Heap} {K : Value → Prop} (h : binS op a b K) : runR P (binOp op t (.string a) (.string b)) H K := by
  cases op <;> simp only [binS] at h <;> first | exact h.elim | exact h | skip
  case add =>
    show runR P (if ((a.size + b.size : Nat) : Int) > IntKind.i64.max then _ else _) H K
    have : IntKind.i64.max = 9223372036854775807 := rfl
    rw [this, if_neg (by omega)]; exact h.2
theorem runR_asInt {P : Program} {k : IntKind} {n : Int} {H : Heap} {K : IntKind × Int → Prop} (h : K (k, n)) : runR P (asIntOf (.int k n)) H K := h
theorem runR_sliceBound {P : Program} {k : IntKind} {n : Int} {y : Nat} {c : BoundsCode} {H : Heap} {K : Nat → Prop} (h0 : 0 ≤ n) (h1 : n ≤ y) (h : K n.toNat) : runR P (Instr.sliceBound (.int k n) y c) H K := by
  refine runR_bind (runR_asInt ?_)
  show runR P (if 0 ≤ n ∧ n ≤ y then pure n.toNat else _) H K
  rw [if_pos ⟨h0, h1⟩]; exact h
theorem runR_sliceBounds {P : Program} {b : Bool} {n c : Nat} {lo hi : Option Value} {H : Heap} {K : Nat × Nat × Nat → Prop}
    (h : bounds n c lo hi fun l h => K (l.toNat, h.toNat, c)) : runR P (Instr.sliceBounds b n c lo hi none) H K := by
  unfold Instr.sliceBounds
  refine runR_bind ?_
  show runR P _ H _
  rcases lo with _ | lo <;> rcases hi with _ | hi
  · simp only [bounds] at h
    refine runR_bind ?_
    refine runR_bind ?_
    have h : K (0, n, c) := by simpa using h
    exact h
  · cases hi <;> simp only [bounds] at h <;> try exact h.elim
    rename_i k x
    refine runR_bind (runR_sliceBound h.1 h.2.1 ?_)
    refine runR_bind ?_
    exact h.2.2
  · cases lo <;> simp only [bounds] at h <;> try exact h.elim
    rename_i k x
    refine runR_bind ?_
    refine runR_bind (runR_sliceBound h.1 h.2.1 ?_)
    have h : K (x.toNat, n, c) := by simpa using h.2.2
    exact h
  · cases lo <;> simp only [bounds] at h <;> try exact h.elim
    cases hi <;> simp only [] at h <;> try exact h.elim
    rename_i k x k' x'
    obtain ⟨h1, h2, h3, h4, h5⟩ := h
    refine runR_bind (runR_sliceBound h1 h2 ?_)
    refine runR_bind (runR_sliceBound h3 (by omega) ?_)
    exact h5
theorem optV_spec {bs : List Nat} {st : St} {a : Act} (he : Env bs st.env a.tmps) {x : Option Operand} {v : Option Value} (h : optV st x = some v) : x.map a.eval = v := by
  cases x with
  | none => simp only [optV, Option.some.injEq] at h; subst h; rfl
  | some x =>
    simp only [optV] at h
    split at h
    · rename_i u hu
      simp only [Option.some.injEq] at h; subst h
      simp [get_v he hu]
    · cases h
theorem bounds_mono {n c : Int} {lo hi : Option Value} {K K' : Int → Int → Prop} (hk : ∀ l h, 0 ≤ l → l ≤ h → h ≤ max n c → 0 ≤ n → K l h → K' l h) (hn : 0 ≤ n) (h : bounds n c lo hi K) : bounds n c lo hi K' := by
  rcases lo with _ | lo <;> rcases hi with _ | hi
  · exact hk _ _ (by omega) (by omega) (by omega) hn h
  · cases hi <;> simp only [bounds] at h ⊢ <;> try exact h.elim
    exact ⟨h.1, h.2.1, hk _ _ (by omega) h.1 (by omega) hn h.2.2⟩
  · cases lo <;> simp only [bounds] at h ⊢ <;> try exact h.elim
    exact ⟨h.1, h.2.1, hk _ _ h.1 h.2.1 (by omega) hn h.2.2⟩
  · cases lo <;> simp only [bounds] at h ⊢ <;> try exact h.elim
    cases hi <;> simp only [] at h ⊢ <;> try exact h.elim
    obtain ⟨h1, h2, h3, h4, h5⟩ := h
    exact ⟨h1, h2, h3, h4, hk _ _ h3 h4 (by omega) hn h5⟩
theorem sliceElem_spec {P : Program} {t e : TypeId} (h : sliceElem P t = some e) : P.underlying t = some (.slice e) := by
  unfold sliceElem at h
  split at h
  · rename_i e' he; simp only [Option.some.injEq] at h; subst h; exact he
  · cases h
theorem fieldOff_spec {P : Program} {s : TypeId} {f k : Nat} (h : fieldOff P s f = some k) : ∃ fs x, P.underlying s = some (.struct fs) ∧ fs[f]? = some x ∧ sizeT P x.type ≠ 0 ∧ hasT P x.type = true ∧ k = x.offset := by
  unfold fieldOff at h
  split at h
  · rename_i fs hu
    split at h
    · rename_i x hx
      split at h
      · cases h
      · rename_i n hs
        split at h
        · rename_i hh
          simp only [Option.some.injEq] at h
          exact ⟨fs, x, hu, by simpa using hx, by omega, hh, h.symm⟩
        · cases h
    · cases h
  · cases h
theorem runR_fieldAt {P : Program} {s : TypeId} {f k b o : Nat} {H : Heap} {K : Value → Prop} (h : fieldOff P s f = some k) (hk : K (.pointer (some ⟨b, o + k, none⟩))) :
    runR P (Instr.fieldAt s (.pointer (some ⟨b, o, none⟩)) f) H K := by
  obtain ⟨fs, x, hu, hx, hs, hh, rfl⟩ := fieldOff_spec h
  unfold Instr.fieldAt
  refine runR_bind (runR_underlying hu ?_)
  simp only [hx]
  refine runR_bind ?_
  show runR P _ H _
  refine runR_bind ?_
  unfold fieldPlace
  refine runR_bind (runR_sizeOf hh ?_)
  rw [if_neg hs, addr_add]
  exact hk
theorem pureO_sound {P : Program} {bs : List Nat} {o : Oper} {st : St} {a : Act} {H : Heap} {K : SVal → Prop} (hn : bs.Nodup) (hd : H.disj (locH bs st.loc))
    (he : Env bs st.env a.tmps) (h : pureO P o st H K) : Yields P bs o a (H.join (locH bs st.loc)) K := by
  have plain : plainR P o st H K → Yields P bs o a (H.join (locH bs st.loc)) K := plainR_sound join_sub he
  unfold pureO at h
  split at h
  · -- move
    rename_i x ho
    exact ⟨st.get x, a.eval x, h, get_rel he x, fun R w _ => by simp only [execOp, ho]; rfl⟩
  · rename_i x ho
    exact ⟨st.get x, a.eval x, h, get_rel he x, fun R w _ => by simp only [execOp, ho]; rfl⟩
  · -- pick
    rename_i c x y ho
    split at h
    · rename_i t hc
      have hc' := get_v he hc
      split at h
      · exact ⟨st.get x, a.eval x, h, get_rel he x, fun R w _ => by simp only [execOp, ho, hc']; rfl⟩
      · exact ⟨st.get y, a.eval y, h, get_rel he y, fun R w _ => by simp only [execOp, ho, hc']; rfl⟩
    · exact h.elim
  · -- load
    rename_i T x ho
    obtain ⟨ad, h1, h2⟩ := loadO_sound hn hd (get_rel he x) h
    refine Yields.of_runR ?_
    simp only [execOp, ho, h1]
    exact runR_value (runR_mono (fun v hv => ⟨.v v, v, rfl, rfl, hv⟩) h2)
  · -- fieldAddr
    rename_i s x f ho
    split at h
    · rename_i k hk
      split at h
      · rename_i i off hx
        obtain ⟨b, hb, h1⟩ := get_loc he hx
        refine Yields.of_runR ?_
        simp only [execOp, ho, h1]
        exact runR_value (runR_fieldAt hk ⟨.loc i (off + k), _, rfl, ⟨b, hb, rfl⟩, h⟩)
      · rename_i b off hx
        have h1 := get_v he hx
        refine Yields.of_runR ?_
        simp only [execOp, ho, h1]
        exact runR_value (runR_fieldAt hk ⟨.v _, _, rfl, rfl, h⟩)
      · exact h.elim
    · exact h.elim
  · -- nilCheck
    rename_i x ho
    split at h
    · rename_i i off hx
      obtain ⟨b, hb, h1⟩ := get_loc he hx
      exact ⟨_, _, h, ⟨b, hb, rfl⟩, fun R w _ => by simp only [execOp, ho, h1]; rfl⟩
    · rename_i p hx
      have h1 := get_v he hx
      unfold ptrm at h
      split at h
      · exact ⟨_, _, h, rfl, fun R w _ => by simp only [execOp, ho, h1]; rfl⟩
      · exact h.elim
    · exact plain h
  · -- binOp
    rename_i op t x y t' ho
    split at h
    · split at h
      · rename_i k m hx
        split at h
        · rename_i k' n hy
          split at h
          · rename_i hk
            have := intKindEq_spec hk
            subst this
            refine Yields.of_runR ?_
            simp only [execOp, ho, get_v he hx, get_v he hy]
            refine runR_value (runR_bind (runR_eqGuard_int ?_))
            refine runR_mono (fun v hv => ?_) (runR_binI h)
            exact ⟨.v v, v, rfl, rfl, hv⟩
          · exact h.elim
        · exact plain h
      · rename_i m hx
        split at h
        · rename_i n hy
          refine Yields.of_runR ?_
          simp only [execOp, ho, get_v he hx, get_v he hy]
          refine runR_value (runR_bind (runR_eqGuard_str ?_))
          refine runR_mono (fun v hv => ?_) (runR_binS h)
          exact ⟨.v v, v, rfl, rfl, hv⟩
        · exact plain h
      · rename_i p n c hx
        split at h
        · rename_i n' c' hy
          split at h
          · rename_i e hu
            refine Yields.of_runR ?_
            simp only [execOp, ho, get_v he hx, get_v he hy]
            refine runR_value (runR_bind ?_)
            have eq : runR P (Op.equal t (.slice p n c) (.slice none n' c')) (H.join (locH bs st.loc)) (fun b => b = p.isNone) := by
              unfold Op.equal Op.maxDepth Op.equalIn
              refine runR_bind (runR_underlying hu ?_)
              cases p <;> rfl
            unfold eqNil at h
            split at h
            · refine runR_bind (runR_mono ?_ eq); rintro b rfl; exact ⟨.v _, _, rfl, rfl, h⟩
            · refine runR_bind (runR_mono ?_ eq); rintro b rfl; exact ⟨.v _, _, rfl, rfl, h⟩
            · exact h.elim
          · exact h.elim
        · exact plain h
      · rename_i p hx
        split at h
        · rename_i hy
          split at h
          · rename_i e hu
            refine Yields.of_runR ?_
            simp only [execOp, ho, get_v he hx, get_v he hy]
            refine runR_value (runR_bind ?_)
            have eq : runR P (Op.equal t (.pointer p) (.pointer none)) (H.join (locH bs st.loc)) (fun b => b = p.isNone) := by
              unfold Op.equal Op.maxDepth Op.equalIn
              refine runR_bind (runR_underlying hu ?_)
              cases p <;> rfl
            unfold eqNil at h
            split at h
            · refine runR_bind (runR_mono ?_ eq); rintro b rfl; exact ⟨.v _, _, rfl, rfl, h⟩
            · refine runR_bind (runR_mono ?_ eq); rintro b rfl; exact ⟨.v _, _, rfl, rfl, h⟩
            · exact h.elim
          · exact h.elim
        · exact plain h
      · rename_i p hx
        split at h
        · rename_i hy
          split at h
          · rename_i e e' hu
            refine Yields.of_runR ?_
            simp only [execOp, ho, get_v he hx, get_v he hy]
            refine runR_value (runR_bind ?_)
            have eq : runR P (Op.equal t (.map p) (.map none)) (H.join (locH bs st.loc)) (fun b => b = p.isNone) := by
              unfold Op.equal Op.maxDepth Op.equalIn
              refine runR_bind (runR_underlying hu ?_)
              cases p <;> rfl
            unfold eqNil at h
            split at h
            · refine runR_bind (runR_mono ?_ eq); rintro b rfl; exact ⟨.v _, _, rfl, rfl, h⟩
            · refine runR_bind (runR_mono ?_ eq); rintro b rfl; exact ⟨.v _, _, rfl, rfl, h⟩
            · exact h.elim
          · exact h.elim
        · exact plain h
      · rename_i p hx
        split at h
        · rename_i q hy
          split at h
          · rename_i hu
            refine Yields.of_runR ?_
            simp only [execOp, ho, get_v he hx, get_v he hy]
            refine runR_value (runR_bind ?_)
            have eq : runR P (Op.equal t (.bool p) (.bool q)) (H.join (locH bs st.loc)) (fun b => b = (p == q)) := by
              unfold Op.equal Op.maxDepth Op.equalIn
              refine runR_bind (runR_underlying hu ?_)
              rfl
            unfold eqNil at h
            split at h
            · refine runR_bind (runR_mono ?_ eq); rintro b rfl; exact ⟨.v _, _, rfl, rfl, h⟩
            · refine runR_bind (runR_mono ?_ eq); rintro b rfl; exact ⟨.v _, _, rfl, rfl, h⟩
            · exact h.elim
          · exact h.elim
        · exact plain h
      · rename_i xs hx
        split at h
        · rename_i ys hy
          split at h
          · exact h.elim
          · rename_i hg
            refine Yields.of_runR ?_
            simp only [execOp, ho, get_v he hx, get_v he hy]
            refine runR_value (runR_bind (runR_eqGuard_agg hg ?_))
            refine runR_mono ?_ (runR_sub join_sub h)
            rintro v ⟨q, rfl, hq⟩
            exact ⟨.v _, _, rfl, rfl, hq⟩
        · exact plain h
      · exact plain h
    · split at h
      · exact plain h
      · rename_i sh hsh
        split at h
        · rename_i k m hx
          split at h
          · rename_i k' n hy
            refine Yields.of_runR ?_
            simp only [execOp, ho, get_v he hx, get_v he hy]
            refine runR_value (runR_bind (runR_eqGuard_int ?_))
            refine runR_mono (fun v hv => ?_) (runR_sh (K := fun v => K (.v v)) hsh h)
            exact ⟨.v v, v, rfl, rfl, hv⟩
          · exact plain h
        · exact plain h
  · -- not
    rename_i t x ho
    split at h
    · rename_i b hx
      exact ⟨_, _, h, rfl, fun R w _ => by simp only [execOp, ho, get_v he hx]; rfl⟩
    · exact h.elim
  · -- extract
    rename_i t i ho
    split at h
    · rename_i vs hx
      split at h
      · rename_i v l hl
        refine ⟨_, v, h, rfl, fun R w _ => ?_⟩
        have : vs[i]? = some v := by
          rw [dropL_eq] at hl
          have h3 : i < vs.toList.length := by
            have : (vs.toList.drop i).length = (v :: l).length := by rw [hl]
            simp at this; simp; omega
          have h4 := List.drop_eq_getElem_cons h3
          rw [hl] at h4
          have h5 := (List.cons.inj h4).1
          simp at h3
          simp [h3, h5]
        simp only [execOp, ho, get_v he hx, Instr.extract, this]; rfl
      · exact h.elim
    · exact h.elim
  · -- indexAddr
    rename_i t x i ho
    split at h
    · rename_i e hel
      have hu := sliceElem_spec hel
      split at h
      · rename_i hh
        split at h
        · rename_i p n c hx
          split at h
          · rename_i k j hi
            obtain ⟨b, off, rfl, h0, h1, h2⟩ := h
            refine Yields.of_runR ?_
            simp only [execOp, ho, get_v he hx, get_v he hi]
            refine runR_value ?_
            unfold Instr.indexAt
            refine runR_bind (runR_asInt ?_)
            refine runR_bind (runR_bind (runR_underlying hu ?_))
            simp only []
            show runR P (do let __do_lift ← underlying t; _) _ _
            refine runR_bind (runR_underlying hu ?_)
            simp only []
            rw [if_pos ⟨h0, h1⟩]
            refine runR_bind (runR_sizeOf hh ?_)
            rw [addr_add]
            have hidx : idxO off j (sizeT P e) = off + j.toNat * sizeT P e := by
              unfold idxO
              split
              · rename_i h1; rw [h1, Nat.mul_one]
              · rfl
            rw [hidx] at h2
            exact ⟨.v _, _, rfl, rfl, h2⟩
          · exact h.elim
        · exact h.elim
      · exact h.elim
    · exact plain h
  · -- index
    rename_i t x i ho
    split at h
    · rename_i s hx
      split at h
      · rename_i hu
        split at h
        · rename_i k j hi
          obtain ⟨h0, c, h1, h2⟩ := h
          refine Yields.of_runR ?_
          simp only [execOp, ho, get_v he hx, get_v he hi]
          refine runR_value ?_
          unfold Instr.index
          refine runR_bind (runR_asInt ?_)
          refine runR_bind (runR_underlying hu ?_)
          simp only [if_pos h0, h1]
          exact ⟨.v _, _, rfl, rfl, h2⟩
        · exact h.elim
      · exact plain h
    · rename_i cs hx
      split at h
      · rename_i n e hu
        split at h
        · exact h.elim
        · rename_i hT
          split at h
          · exact h.elim
          · rename_i hag
            split at h
            · rename_i hsz
              split at h
              · rename_i k j hi
                obtain ⟨h0, h1, x, h2, h3⟩ := h
                obtain ⟨d, hd⟩ := hasT_underlying hT
                refine Yields.of_runR ?_
                simp only [execOp, ho, get_v he hx, get_v he hi]
                refine runR_value ?_
                unfold Instr.index
                refine runR_bind (runR_asInt ?_)
                refine runR_bind (runR_underlying hu ?_)
                simp only [if_pos (show 0 ≤ j ∧ j < (n : Int) from ⟨h0, h1⟩)]
                refine runR_bind (runR_sizeOf hT ?_)
                unfold part
                refine runR_bind (runR_isAgg hd ?_)
                rw [hag, hsz, Nat.mul_one, h2]
                exact ⟨.v _, _, rfl, rfl, h3⟩
              · exact h.elim
            · exact h.elim
      · exact h.elim
    · exact plain h
  · -- slice
    rename_i t x lo hi ho
    split at h
    · rename_i l h' hl hh
      split at h
      · rename_i p n c hx
        split at h
        · rename_i e hel
          have hu := sliceElem_spec hel
          split at h
          · rename_i hT
            refine Yields.of_runR ?_
            simp only [execOp, ho, get_v he hx, optV_spec he hl, optV_spec he hh]
            refine runR_value ?_
            unfold Instr.sliceAt
            refine runR_bind (runR_underlying hu ?_)
            simp only []
            unfold Instr.slice
            refine runR_bind (runR_underlying hu ?_)
            simp only []
            refine runR_bind (runR_sliceBounds (bounds_mono ?_ (by omega) h))
            intro q r hq0 hqr hrm _ hK
            refine runR_bind (runR_sizeOf hT ?_)
            refine ⟨.v _, _, rfl, rfl, ?_⟩
            unfold slP at hK
            have e1 : (if (c : Int) = q then p else p.map fun a => a.add (q.toNat * sizeT P e)) = (if c = q.toNat then p else Option.map (fun a => a.add (q.toNat * sizeT P e)) p) := by
              by_cases hc : (c : Int) = q
              · rw [if_pos hc, if_pos (by omega)]
              · rw [if_neg hc, if_neg (by omega)]
            have e2 : (r - q).toNat = r.toNat - q.toNat := by omega
            have e3 : ((c : Int) - q).toNat = c - q.toNat := by omega
            rw [e1, e2, e3] at hK
            exact hK
          · exact h.elim
        · exact h.elim
      · rename_i s hx
        split at h
        · rename_i hu
          refine Yields.of_runR ?_
          simp only [execOp, ho, get_v he hx, optV_spec he hl, optV_spec he hh]
          refine runR_value ?_
          unfold Instr.sliceAt
          refine runR_bind (runR_underlying hu ?_)
          simp only []
          unfold Instr.slice
          refine runR_bind (runR_underlying hu ?_)
          simp only []
          refine runR_bind ?_
          show runR P _ _ _
          refine runR_bind (runR_sliceBounds (bounds_mono ?_ (by omega) h))
          intro q r hq0 hqr hrm _ hK
          exact ⟨.v _, _, rfl, rfl, hK⟩
        · exact h.elim
      · exact plain h
    · exact plain h
  · -- slice, with a capacity
    rename_i t x hi mx ho
    split at h
    · rename_i k1 hh k2 m p n c hhi hmx hx
      split at h
      · rename_i e hel
        have hu := sliceElem_spec hel
        split at h
        · rename_i hT
          obtain ⟨m0, m1, h0, h1, hK⟩ := h
          refine Yields.of_runR ?_
          simp only [execOp, ho, get_v he hx, Option.map_none, Option.map_some, get_v he hhi, get_v he hmx]
          refine runR_value ?_
          unfold Instr.sliceAt
          refine runR_bind (runR_underlying hu ?_)
          simp only []
          unfold Instr.slice
          refine runR_bind (runR_underlying hu ?_)
          simp only []
          refine runR_bind ?_
          unfold Instr.sliceBounds
          refine runR_bind (runR_sliceBound m0 m1 ?_)
          refine runR_bind (runR_sliceBound h0 (by omega) ?_)
          refine runR_bind ?_
          show runR P _ _ _
          refine runR_bind (runR_sizeOf hT ?_)
          refine ⟨.v _, _, rfl, rfl, ?_⟩
          unfold slP at hK
          have e1 : (if ((m.toNat : Nat) : Int) = 0 then p else p.map fun a => a.add (Int.toNat 0 * sizeT P e)) = (if m.toNat = 0 then p else Option.map (fun a => a.add (0 * sizeT P e)) p) := by
            by_cases hc : m.toNat = 0
            · rw [if_pos hc, if_pos (by omega)]
            · rw [if_neg hc, if_neg (by omega)]; rfl
          rw [e1] at hK
          exact hK
        · exact h.elim
      · exact h.elim
    · exact plain h
  · -- len
    rename_i args tys ho
    split at h
    · rename_i x hargs
      have ha : args = #[x] := by apply Array.ext'; simpa using hargs
      subst ha
      split at h
      · rename_i p n c hx
        split at h
        · rename_i t ht
          have ht' : tys = #[t] := by apply Array.ext'; simpa using ht
          subst ht'
          split at h
          · rename_i e hel
            have hu := sliceElem_spec hel
            refine Yields.of_runR ?_
            simp only [execOp, ho]
            refine runR_bind ?_
            simp only [resolve, List.map_toArray, List.map_cons, List.map_nil, get_v he hx]
            show runR P (do pure (Next.value (← Builtin.len_ #[t] o.type #[.slice p n c]))) _ _
            refine runR_value ?_
            unfold Builtin.len_
            refine runR_bind (runR_underlying hu ?_)
            exact ⟨.v _, _, rfl, rfl, h⟩
          · exact h.elim
        · exact h.elim
      · rename_i s hx
        split at h
        · rename_i t ht
          have ht' : tys = #[t] := by apply Array.ext'; simpa using ht
          subst ht'
          split at h
          · rename_i hu
            refine Yields.of_runR ?_
            simp only [execOp, ho]
            refine runR_bind ?_
            simp only [resolve, List.map_toArray, List.map_cons, List.map_nil, get_v he hx]
            show runR P (do pure (Next.value (← Builtin.len_ #[t] o.type #[.string s]))) _ _
            refine runR_value ?_
            unfold Builtin.len_
            refine runR_bind (runR_underlying hu ?_)
            exact ⟨.v _, _, rfl, rfl, h⟩
          · exact h.elim
        · exact h.elim
      · rename_i m hx
        split at h
        · rename_i t ht
          have ht' : tys = #[t] := by apply Array.ext'; simpa using ht
          subst ht'
          split at h
          · rename_i kt et hu
            refine Yields.of_runR ?_
            simp only [execOp, ho]
            refine runR_bind ?_
            simp only [resolve, List.map_toArray, List.map_cons, List.map_nil, get_v he hx]
            show runR P (do pure (Next.value (← Builtin.len_ #[t] o.type #[.map m]))) _ _
            refine runR_value ?_
            unfold Builtin.len_
            refine runR_bind (runR_underlying hu ?_)
            unfold lenM at h
            cases m with
            | none => exact ⟨.v _, _, rfl, rfl, h⟩
            | some b =>
              obtain ⟨es, clock, h1, h2⟩ := h
              exact ⟨.map es clock, Heap.join_left h1, rfl, .v _, _, rfl, rfl, h2⟩
          · exact h.elim
        · exact h.elim
      · exact plain h
    · exact plain h
  · -- typeAssert
    rename_i x xt t ho
    split at h
    · rename_i v hx
      split at h
      · exact plain h
      · rename_i d hni hd
        obtain ⟨y, rfl, hk⟩ := exT_ex h
        refine Yields.of_runR ?_
        simp only [execOp, ho, get_v he hx]
        refine runR_value ?_
        unfold Instr.typeAssert
        refine runR_bind (runR_underlying hd ?_)
        cases d with
        | interface ms => exact absurd rfl (hni ms)
        | _ => simp only [if_true]; exact ⟨.v _, _, rfl, rfl, hk⟩
      · exact h.elim
    · exact plain h
  · exact plain h
end Go.HL
