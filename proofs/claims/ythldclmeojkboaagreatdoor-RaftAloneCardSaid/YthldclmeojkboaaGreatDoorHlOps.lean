import Derived.Test.YthldclmeojkboaaGreatDoorHlStep
namespace Go.HL
set_option linter.unusedVariables false
set_option linter.unusedSimpArgs false
theorem overL_nil (cs : List Value) (n : Nat) : overL cs n [] = cs := by cases cs <;> cases n <;> rfl
theorem foldl_over (off : Nat) : ∀ (l : List Value) (k : Nat) (arr : Array Value),
    ((l.zipIdx k).foldl (fun cs (p : Value × Nat) => cs.setIfInBounds (off + p.2) p.1) arr).toList = overL arr.toList (off + k) l := by
  intro l
  induction l with
  | nil => intro k arr; simp [overL_nil]
  | cons x l ih =>
    intro k arr
    rw [List.zipIdx_cons, List.foldl_cons, ih, overL_cons]
    simp [Nat.add_assoc]
theorem fill_eq (place : Nat → Option (Nat × Nat)) : ∀ (parts : List (Nat × Value)) (cells : Array Value) {l : List Value}, fillL place cells.toList parts = some l → Instr.fill place cells parts = some l.toArray := by
  intro parts
  induction parts with
  | nil => intro cells l h; simp only [fillL, Option.some.injEq] at h; subst h; simp [Instr.fill]
  | cons p parts ih =>
    intro cells l h
    obtain ⟨i, v⟩ := p
    simp only [fillL] at h
    split at h
    · cases h
    · rename_i off size hp
      split at h
      · rename_i h1
        split at h
        · rename_i h2
          simp only [Instr.fill, hp]
          have e1 : v.cells.size = size := by simpa using h1
          have e2 : off + v.cells.size ≤ cells.size := by simpa using Nat.le_of_ble_eq_true h2
          rw [if_neg (by simp [e1]; omega)]
          refine ih _ ?_
          have := foldl_over off v.cells.toList 0 cells
          simp only [Nat.add_zero] at this
          have e3 : (Array.foldl (fun cs (x : Value × Nat) => match x with | (c, j) => cs.setIfInBounds (off + j) c) cells v.cells.zipIdx).toList = overL cells.toList off v.cells.toList := by
            rw [← this, ← Array.foldl_toList]
            simp
          rw [e3]; exact h
        · cases h
      · cases h
theorem zerosL_get (z : List Value) (hz : 0 < z.length) : ∀ (n i : Nat), i < n * z.length → (zerosL z n)[i]? = z[i % z.length]? := by
  intro n
  induction n with
  | zero => intro i h; simp at h
  | succ n ih =>
    intro i h
    simp only [zerosL]
    by_cases e : i < z.length
    · rw [List.getElem?_append_left e, Nat.mod_eq_of_lt e]
    · rw [List.getElem?_append_right (by omega), ih _ (by rw [Nat.succ_mul] at h; omega)]
      rw [← Nat.mod_eq_sub_mod (by omega)]
theorem zerosL_length (z : List Value) (n : Nat) : (zerosL z n).length = n * z.length := by
  induction n with
  | zero => simp [zerosL]
  | succ n ih => simp [zerosL, ih, Nat.succ_mul]; omega
theorem zeros_eq (z : Array Value) (n : Nat) (hz : 0 < z.size) : ((Array.range (n * z.size)).map (fun i => z[i % z.size]!)).toList = zerosL z.toList n := by
  apply List.ext_getElem?
  intro i
  by_cases h : i < n * z.size
  · rw [zerosL_get z.toList (by simpa using hz) n i (by simpa using h)]
    have : i % z.size < z.size := Nat.mod_lt _ hz
    simp [h, this]
  · rw [List.getElem?_eq_none (by simp; omega), List.getElem?_eq_none (by rw [zerosL_length]; simpa using h)]
theorem partsV_spec {bs : List Nat} {st : St} {a : Act} (he : Env bs st.env a.tmps) : ∀ {xs : List (Nat × Operand)} {l : List (Nat × Value)}, partsV st xs = some l → xs.map (fun p => (p.1, a.eval p.2)) = l := by
  intro xs
  induction xs with
  | nil => intro l h; simp only [partsV, Option.some.injEq] at h; subst h; rfl
  | cons x xs ih =>
    intro l h
    obtain ⟨i, x⟩ := x
    simp only [partsV] at h
    split at h
    · rename_i v hv
      split at h
      · rename_i r hr
        simp only [Option.some.injEq] at h; subst h
        simp [get_v he hv, ih hr]
      · cases h
    · cases h
theorem zeroT_info {P : Program} {t : TypeId} {z : Value} (h : zeroT P t = some z) : ∃ i, P.info? t = some i ∧ i.zero = some z ∧ sizeT P t = i.size := by
  unfold zeroT at h
  unfold sizeT
  cases e : P.info? t with
  | none => rw [e] at h; cases h
  | some i => rw [e] at h; exact ⟨i, rfl, h, rfl⟩
theorem runH_zeroValue {P : Program} {t : TypeId} {z : Value} {H : Heap} {K : Value → Heap → Prop} (h : zeroT P t = some z) (k : K z H) : runH P (zeroValue t) H K := by
  obtain ⟨i, h1, h2, h3⟩ := zeroT_info h
  refine runH_bind (runH_typeInfo h1 ?_)
  rw [h2]; exact k
theorem runH_sizeOf' {P : Program} {t : TypeId} {z : Value} {H : Heap} {K : Nat → Heap → Prop} (h : zeroT P t = some z) (k : K (sizeT P t) H) : runH P (sizeOf t) H K := by
  obtain ⟨i, h1, h2, h3⟩ := zeroT_info h
  refine runH_bind (runH_typeInfo h1 ?_)
  show K i.size H
  rw [← h3]; exact k
theorem Good.pure {P : Program} {o : Oper} {st : St} {bs : List Nat} {H R : Heap} {a : Act} {w : World} {K : St → Heap → Prop} (hr : Rel st bs H R a w) (h : pureO P o st H fun x => K (st.put o.dst x) H) : Good P o st bs H R a w K := by
  obtain ⟨x, v, h1, h2, h3⟩ := pureO_sound hr.nd hr.dj hr.env h
  exact Good.of_value (h3 R w hr.fit) (hr.put _ h2) (Calm.refl _) h1 (BsExt.refl _) (fun _ => LocExt.put _ _ _)
def onVal (o : Oper) (st : St) (K : St → Heap → Prop) : Next → Heap → Prop
  | .value v, H => K (st.put o.dst (.v v)) H
  | .skip, H => K (st.put o.dst (.v undef)) H
  | _, _ => False
theorem onVal_good {P : Program} {o : Oper} {st : St} {bs : List Nat} {H R : Heap} {a : Act} {w : World} {K : St → Heap → Prop} (hr : Rel st bs H R a w)
    (h : runH P (execOp a.eval o) H (onVal o st K)) : Good P o st bs H R a w K := by
  obtain ⟨nx, H', w', h1, h2, h3, h4⟩ := runH_sound h hr.fitH
  cases nx with
  | value v => exact Good.of_value h1 ((hr.heap h2 h3).put (x := .v _) _ rfl) h3 h4 (BsExt.refl _) (fun _ => LocExt.put _ _ _)
  | skip => exact Good.of_skip h1 ((hr.heap h2 h3).put (x := .v _) _ rfl) h3 h4 (BsExt.refl _) (fun _ => LocExt.put _ _ _)
  | _ => exact h4.elim
theorem runR_callFunc {P : Program} {f : FuncId} {args : Array Value} {H : Heap} {K : Next → Prop} (h : goFn P f = true) (k : K (.enter f args)) : runR P (callFunc f args) H K := by
  unfold goFn at h
  unfold callFunc
  cases e : P.funcs[f]? with
  | none => rw [e] at h; cases h
  | some fn =>
    rw [e] at h
    simp only [] at h
    split at h
    · cases h
    · rename_i hn
      split at h
      · rename_i c hb
        show runR P (match P.funcs[f]? with | none => _ | some fn => _) H K
        rw [e]
        simp only [hn, hb]
        exact k
      · cases h
theorem findMl_spec {name : String} : ∀ {l : List Method} {f : FuncId} {pr : Bool}, findMl l name = some (f, pr) → ∃ m, l.find? (fun m => m.name == name) = some m ∧ m.path.toList = [] ∧ m.func = some (f, pr) := by
  intro l
  induction l with
  | nil => intro f pr h; cases h
  | cons m l ih =>
    intro f pr h
    simp only [findMl] at h
    split at h
    · rename_i e
      split at h
      · rename_i hp
        exact ⟨m, by simp [List.find?_cons, e], hp, h⟩
      · cases h
    · rename_i e
      obtain ⟨m', h1, h2⟩ := ih h
      exact ⟨m', by simp [List.find?_cons, e, h1], h2⟩
theorem exs_mono {H : Heap} {b off : Nat} : ∀ {ks : List Kind} {i : Nat} {acc : List Value} {f g : List Value → Prop}, (∀ l, f l → g l) → exs H b off ks i acc f → exs H b off ks i acc g := by
  intro ks
  induction ks with
  | nil => intro i acc f g hfg h; exact hfg _ h
  | cons k ks ih => intro i acc f g hfg h; obtain ⟨x, h1, h2⟩ := h; exact ⟨x, h1, ih hfg h2⟩
theorem recvO_mono {P : Program} {T : TypeId} {v : Value} {pr : Bool} {H : Heap} {K K' : Value → Prop} (hk : ∀ x, K x → K' x) (h : recvO P T v pr H K) : recvO P T v pr H K' := by
  unfold recvO at h ⊢
  split
  · rename_i E hE
    rw [hE] at h
    simp only [] at h
    split
    · exact hk _ h
    · simp only [] at h
      split
      · simp only [] at h
        unfold loadO at h ⊢
        split
        · rename_i q; rw [q] at h; exact h
        · rename_i q; rw [q] at h
          simp only [] at h ⊢
          split
          · rename_i q; rw [q] at h
            simp only [] at h
            split
            · rename_i q; rw [q] at h
              exact exs_mono (fun l => hk _) h
            · rename_i q; rw [q] at h; exact h
          · rename_i q; rw [q] at h
            obtain ⟨x, h1, h2⟩ := h
            exact ⟨x, h1, hk _ h2⟩
      · rename_i q
        split at h
        · rename_i b off; exact absurd rfl (q b off)
        · exact h
  · rename_i q
    split at h
    · rename_i E hE; exact absurd hE (q E)
    · exact h
theorem recvO_sound {P : Program} {T : TypeId} {v : Value} {pr : Bool} {H : Heap} {K : Value → Prop} {wr : String} (h : recvO P T v pr H K) : runR P (receiverAt T (.val v) pr (some wr)) H K := by
  unfold recvO at h
  split at h
  · rename_i E hE
    unfold receiverAt
    refine runR_bind (runR_underlying hE ?_)
    split at h
    · exact h
    · split at h
      · rename_i b off
        obtain ⟨ad, h1, h2⟩ := loadO_sound (bs := []) (sv := .v (.pointer (some ⟨b, off, none⟩))) (v0 := .pointer (some ⟨b, off, none⟩)) List.nodup_nil (fun x o hx => by cases hx) rfl h
        obtain rfl : ad = ⟨b, off, none⟩ := by simpa using h1.symm
        have e0 : H.join (locH [] []) = H := by funext x; unfold Heap.join; show (H x).or none = _; simp
        rw [e0] at h2
        exact h2
      · exact h.elim
  · exact h.elim
theorem runR_method {P : Program} {T : TypeId} {v : Value} {name : String} {f : FuncId} {pr : Bool} {n : Nat} {H : Heap} {K : FuncId × Value → Prop} (hm : findMeth P T name = some (f, pr)) (h : recvO P T v pr H fun x => K (f, x)) :
    runR P (method (n + 1) T v name) H K := by
  unfold findMeth at hm
  split at hm
  · rename_i i hi
    obtain ⟨m, h1, h2, h3⟩ := findMl_spec hm
    unfold method
    refine runR_bind (runR_typeInfo hi ?_)
    rw [← Array.find?_toList, h1]
    simp only []
    rw [h2]
    have h4 : m.path.isEmpty = true := by rw [← Array.isEmpty_toList, h2]; rfl
    show runR P (match m.func with | none => _ | some (f, pointerReceiver) => _) H K
    rw [h3]
    simp only [h4, if_true]
    exact runR_bind (recvO_sound h)
  · cases hm
theorem invokeO_good {P : Program} {o : Oper} {st : St} {bs : List Nat} {H R : Heap} {a : Act} {w : World} {K : St → Heap → Prop} (hr : Rel st bs H R a w) {recv : Operand} {name : String} {args : Array Operand} {tys : Array TypeId}
    (ho : o.op = .call { callee := .invoke recv name, args := args, argTypes := tys }) (h : invokeO P o recv name args.toList st H K) : Good P o st bs H R a w K := by
  unfold invokeO at h
  split at h
  · rename_i T v hv
    split at h
    · exact h.elim
    rename_i f pr hm
    split at h
    · exact h.elim
    rename_i hg
    split at h
    · exact h.elim
    rename_i l hl
    have hs : runR P (execOp a.eval o) H fun nx => ∃ x, nx = .enter f (x :: l).toArray ∧ FnH P f (x :: l).toArray H fun r H' => exR P o.type fun y => r = y ∧ K (st.put o.dst (.v y)) H' := by
      have e : args.map a.eval = l.toArray := by apply Array.ext'; simp [argsV_spec hr.env hl]
      simp only [execOp, ho, resolve, get_v hr.env hv, e]
      show runR P (invoke (.fn (.method name) #[]) (#[Value.iface T v] ++ l.toArray)) H _
      have e2 : (#[Value.iface T v] ++ l.toArray).extract 1 (#[Value.iface T v] ++ l.toArray).size = l.toArray := by
        apply Array.ext'; simp
      have e3 : (#[Value.iface T v] ++ l.toArray)[0]? = some (Value.iface T v) := by simp
      unfold invoke
      simp only [e2, e3]
      unfold callMethod
      show runR P (method (P.types.size + Made.depth) T v name >>= fun y => callFunc y.1 (#[y.2] ++ l.toArray)) H _
      refine runR_bind (runR_method (n := P.types.size + 99) hm ?_)
      refine recvO_mono (fun x hx => ?_) h
      exact runR_callFunc hg ⟨x, by simp, hx⟩
    obtain ⟨nx, ⟨x, rfl, hx⟩, h2⟩ := runR_sound hs
    refine Good.of_enter (h2 (H.join (locH bs st.loc)) R w (fun _ _ q => Heap.join_left q) hr.fit) (Calm.refl _) hr.fitH hx ?_
    intro v H2 w2 g1 g2 g3
    obtain ⟨x, rfl, hk⟩ := exR_ex g3
    exact ⟨_, _, _, (hr.heap g1 g2).put (x := .v _) _ rfl, BsExt.refl _, fun _ => LocExt.put _ _ _, hk⟩
  · exact h.elim
theorem stepO0_good {P : Program} {hid : List Nat} {o : Oper} {st : St} {bs : List Nat} {H R : Heap} {a : Act} {w : World} {K : St → Heap → Prop} (hr : Rel st bs H R a w) (h : stepO0 P hid o st H K) : Good P o st bs H R a w K := by
  have plain : plainO P o st H K → Good P o st bs H R a w K := plainO_good hr
  unfold stepO0 at h
  split at h
  · exact Good.pure hr h
  split at h
  · -- box
    rename_i T x ho
    split at h
    · rename_i v hx
      split at h
      · rename_i d hd
        have hrun : (execOp a.eval o).run P w = .ok (.value (.pointer (some ⟨w.heap.size, 0, none⟩))) { w with heap := w.heap.push (.cells v.cells T) } := by
          simp only [execOp, ho, get_v hr.env hx]; rfl
        split at h
        · have hn := hr.newLoc d T v.cells.toList
          rw [← hd] at hn
          exact Good.of_value hrun hn (Calm.new _ _) h getElem?_snoc (fun _ i y hy => by show locL (st.loc ++ [_]) i = _; rw [locL_append, if_pos (locL_lt hy)]; exact hy)
        · refine onVal_good hr ?_
          simp only [execOp, ho, get_v hr.env hx]
          refine runH_value ?_
          intro b hb
          have := h b hb
          show K (st.put o.dst _) _
          rw [hd]
          exact this
      · exact h.elim
    · exact h.elim
  · -- alloc
    rename_i T ho
    split at h
    · rename_i v hz
      split at h
      · rename_i d hd
        have hrun : (execOp a.eval o).run P w = .ok (.value (.pointer (some ⟨w.heap.size, 0, none⟩))) { w with heap := w.heap.push (.cells v.cells T) } := by
          obtain ⟨i, h1, h2, h3⟩ := zeroT_info hz
          simp only [execOp, ho, Instr.alloc, zeroValue, typeInfo, program, bind, Sem.bind, Sem.run, h1, pure, h2, newVar, newRow, newObj]
        split at h
        · have hn := hr.newLoc d T v.cells.toList
          rw [← hd] at hn
          exact Good.of_value hrun hn (Calm.new _ _) h getElem?_snoc (fun _ i y hy => by show locL (st.loc ++ [_]) i = _; rw [locL_append, if_pos (locL_lt hy)]; exact hy)
        · refine onVal_good hr ?_
          simp only [execOp, ho]
          refine runH_value ?_
          unfold Instr.alloc
          refine runH_bind (runH_zeroValue hz ?_)
          intro b hb
          have := h b hb
          show K (st.put o.dst _) _
          rw [hd]
          exact this
      · exact h.elim
    · exact h.elim
  · -- store
    rename_i T x y ho
    split at h
    · rename_i v hy
      split at h
      · exact h.elim
      rename_i hlen
      split at h
      · exact h.elim
      rename_i hT
      split at h
      · exact h.elim
      rename_i hnt
      have hlen' : v.cells.toList.length = sizeT P T := by simpa using hlen
      split at h
      · rename_i i off hx
        split at h
        · rename_i U cs hl
          split at h
          · rename_i hle
            exact storeLoc_good hr ho hy hlen' hT hnt hx hl (Nat.le_of_ble_eq_true hle) h
          · exact h.elim
        · exact h.elim
      · rename_i b off hx
        refine onVal_good hr ?_
        simp only [execOp, ho, get_v hr.env hx, get_v hr.env hy]
        refine runH_unit ?_
        unfold Instr.storeAt
        refine runH_bind ?_
        refine runH_storeVar hT hlen' ?_
        exact runH_stores _ 0 hnt h
      · exact h.elim
    · exact h.elim
  · -- buildSlice
    rename_i t n parts ho
    split at h
    · exact h.elim
    rename_i e hel
    split at h
    · exact h.elim
    rename_i z hz
    split at h
    · exact h.elim
    rename_i ps hps
    split at h
    · exact h.elim
    rename_i hzl
    split at h
    · exact h.elim
    rename_i hble
    split at h
    · exact h.elim
    rename_i hne
    split at h
    · exact h.elim
    rename_i cs hfill
    have hu := sliceElem_spec hel
    have hzl' : z.cells.size = sizeT P e := by simpa using hzl
    have hne' : sizeT P e ≠ 0 := fun q => by rw [q] at hne; cases hne
    have hle := Nat.le_of_ble_eq_true hble
    refine onVal_good hr ?_
    simp only [execOp, ho]
    refine runH_value ?_
    unfold Instr.buildSlice
    refine runH_bind (runH_underlying hu ?_)
    simp only []
    refine runH_bind (runH_sizeOf' hz ?_)
    rw [if_neg (by omega)]
    have key : ∀ zz : Array Value, (n * sizeT P e = 0 → n = 0) → (n * sizeT P e ≠ 0 → zz = z.cells) →
        Instr.fill (fun i => some (i * sizeT P e, sizeT P e)) ((Array.range (n * sizeT P e)).map fun x => zz[x % zz.size]!) (parts.map fun p => (p.1, a.eval p.2)).toList = some cs.toArray := by
      intro zz h0 h1
      refine fill_eq _ _ _ ?_
      have e1 : ((Array.range (n * sizeT P e)).map fun x => zz[x % zz.size]!).toList = zerosL z.cells.toList n := by
        by_cases hn : n * sizeT P e = 0
        · rw [hn, h0 hn]; simp [zerosL]
        · rw [h1 hn, ← hzl']
          exact zeros_eq z.cells n (by rw [hzl']; omega)
      rw [e1]
      have e2 : (parts.map fun p => (p.1, a.eval p.2)).toList = ps := by
        simp only [Array.toList_map]
        exact partsV_spec hr.env hps
      rw [e2]
      exact hfill
    have hn0 : n * sizeT P e = 0 → n = 0 := fun q => (Nat.mul_eq_zero.1 q).resolve_right hne'
    have fin : ∀ (zz : Array Value), (n * sizeT P e ≠ 0 → zz = z.cells) → runH P (do
        let some cells := Instr.fill (fun i => some (i * sizeT P e, sizeT P e)) ((Array.range (n * sizeT P e)).map fun x => zz[x % zz.size]!) (parts.map fun p => (p.1, a.eval p.2)).toList
          | stuck "buildSlice: a part of the wrong size"
        pure (.slice (some (← newRow e cells)) n n)) H (fun v H' => onVal o st K (.value v) H') := by
      intro zz h1
      rw [key zz hn0 h1]
      intro b hb
      exact h b hb
    by_cases hnn : n * sizeT P e = 0
    · rw [if_pos hnn]
      refine runH_bind ?_
      exact fin #[] (fun q => absurd hnn q)
    · rw [if_neg hnn]
      refine runH_bind ?_
      refine runH_zeroValue hz ?_
      exact fin z.cells (fun _ => rfl)
  · -- makeMap
    rename_i t ho
    refine onVal_good hr ?_
    simp only [execOp, ho]
    refine runH_value ?_
    intro b hb
    exact h b hb
  · -- mapUpdate
    rename_i t m k x ho
    split at h
    · rename_i hv
      have e := allV_spec hr.env hv
      refine semU_good hr ?_ h
      simp only [execOp, ho, e m (by simp), e k (by simp), e x (by simp)]
    · exact h.elim
  · rename_i t m k x ho
    split at h
    · rename_i hv
      have e := allV_spec hr.env hv
      refine semU_good hr ?_ h
      simp only [execOp, ho, e m (by simp), e k (by simp), e x (by simp)]
    · exact h.elim
  · -- lookup
    rename_i t x i ok ho
    split at h
    · rename_i hv
      have e := allV_spec hr.env hv
      refine semT_good hr ?_ h
      simp only [execOp, ho, e x (by simp), e i (by simp)]
    · exact h.elim
  · -- mapEntry
    rename_i t m k ho
    split at h
    · rename_i hv
      have e := allV_spec hr.env hv
      split at h
      · refine onVal_good hr ?_
        simp only [execOp, ho, e m (by simp), e k (by simp)]
        refine runH_value (runH_mono ?_ h)
        intro v H' hx
        obtain ⟨x, n, rfl, hk⟩ := exT_ex hx
        exact hk
      · exact h.elim
    · exact h.elim
  · -- entryStore
    rename_i t m s x ho
    split at h
    · rename_i hv
      have e := allV_spec hr.env hv
      refine semU_good hr ?_ h
      simp only [execOp, ho, e m (by simp), e s (by simp), e x (by simp)]
    · exact h.elim
  · -- makeSlice
    rename_i t l c ho
    split at h
    · rename_i hv
      have e := allV_spec hr.env hv
      refine semT_good hr ?_ h
      simp only [execOp, ho, e l (by simp), e c (by simp)]
    · exact h.elim
  · -- range
    rename_i t x ho
    split at h
    · rename_i hv
      have e := allV_spec hr.env hv
      refine semK_good hr ?_ (runH_mono (fun v H' hv => ?_) h)
      · simp only [execOp, ho, e x (by simp)]
      · obtain ⟨p, rfl, hk⟩ := hv; exact hk
    · exact h.elim
  · -- next
    rename_i x isS ho
    split at h
    · rename_i hv
      have e := allV_spec hr.env hv
      refine semN_good hr ?_ h
      simp only [execOp, ho, e x (by simp)]
    · exact h.elim
  · -- entry
    rename_i x ho
    split at h
    · rename_i hv
      have e := allV_spec hr.env hv
      refine semK_good hr ?_ (runH_mono (fun v H' hv => ?_) h)
      · simp only [execOp, ho, e x (by simp)]
      · obtain ⟨k, y, rfl, hk⟩ := hv; exact hk
    · exact h.elim
  · -- panic
    exact h.elim
  · -- a call
    rename_i f args tys ho
    split at h
    · rename_i k pre captured hc
      unfold calleeOf calleeX at hc
      split at hc
      · rename_i k' first cap hf
        simp only [Option.some.injEq, Prod.mk.injEq] at hc
        obtain ⟨rfl, rfl, rfl⟩ := hc
        exact callO_good hr ho (by simpa using get_v hr.env hf) h
      · cases hc
    · exact h.elim
  · -- through an interface
    rename_i recv name args tys ho
    exact invokeO_good hr ho h
  · -- append
    rename_i args tys ho
    split at h
    · rename_i l hl
      refine semT_good hr ?_ h
      have e : args.map a.eval = l.toArray := by apply Array.ext'; simp [argsV_spec hr.env hl]
      simp only [execOp, ho, resolve, e]
      rfl
    · exact h.elim
  · -- delete
    rename_i args tys ho
    split at h
    · rename_i l hl
      refine semT_good hr ?_ h
      have e : args.map a.eval = l.toArray := by apply Array.ext'; simp [argsV_spec hr.env hl]
      simp only [execOp, ho, resolve, e]
      rfl
    · exact h.elim
  · -- copy
    rename_i args tys ho
    split at h
    · rename_i l hl
      refine semT_good hr ?_ h
      have e : args.map a.eval = l.toArray := by apply Array.ext'; simp [argsV_spec hr.env hl]
      simp only [execOp, ho, resolve, e]
      rfl
    · exact h.elim
  · -- clear
    rename_i args tys ho
    split at h
    · rename_i l hl
      refine semT_good hr ?_ h
      have e : args.map a.eval = l.toArray := by apply Array.ext'; simp [argsV_spec hr.env hl]
      simp only [execOp, ho, resolve, e]
      rfl
    · exact h.elim
  · -- unsafe.SliceData
    rename_i args tys ho
    split at h
    · rename_i l hl
      refine semT_good hr ?_ h
      have e : args.map a.eval = l.toArray := by apply Array.ext'; simp [argsV_spec hr.env hl]
      simp only [execOp, ho, resolve, e]
      rfl
    · exact h.elim
  · -- unsafe.String
    rename_i args tys ho
    split at h
    · rename_i l hl
      refine semT_good hr ?_ h
      have e : args.map a.eval = l.toArray := by apply Array.ext'; simp [argsV_spec hr.env hl]
      simp only [execOp, ho, resolve, e]
      rfl
    · exact h.elim
  · exact plain h
theorem stepO_good {P : Program} {hid : List Nat} {o : Oper} {st : St} {bs : List Nat} {H R : Heap} {a : Act} {w : World} {K : St → Heap → Prop} (hr : Rel st bs H R a w) (h : stepO P hid o st H K) : Good P o st bs H R a w K := by
  unfold stepO at h
  split at h
  · refine stepO0_good (hid := hid) hr ?_
    unfold opqO at h
    split at h
    · rename_i t i ho
      unfold stepO0
      have e : isPure o.op = true := by rw [ho]; rfl
      rw [e]
      dsimp only
      unfold pureO
      rw [ho]
      dsimp only
      split at h
      · rename_i vs hv
        split at h
        · rename_i v l hl
          obtain ⟨y, rfl, hk⟩ := exT_ex h
          exact hk
        · exact h.elim
      · exact h.elim
    · exact h.elim
  · split at h
    · rename_i s hs
      unfold convX at hs
      split at hs
      · rename_i src dst x ho
        split at hs
        · rename_i p n c hx
          split at hs
          · cases hs
            refine semT_good hr ?_ h
            simp only [execOp, ho, get_v hr.env hx]
          · cases hs
        · rename_i s' hx
          split at hs
          · cases hs
            refine semT_good hr ?_ h
            simp only [execOp, ho, get_v hr.env hx]
          · cases hs
        · cases hs
      · cases hs
    · exact stepO0_good hr h
end Go.HL
