import Derived.ProofKit
import Derived.Deep.Slices
import Derived.Deep.Fields
import Derived.Test.YthldclmeojkboaaGreatDoorHlLaw
namespace Go.HL
open Go Go.RowKit Go.ChangeShapes Go.WideShapes Go.ChangeAt
def wholeH (w : World) : Heap := fun b => w.heap[b]?
theorem fit_whole (w : World) : Fit (wholeH w) Heap.emp w := ⟨fun _ _ h => h, fun _ _ h => (nomatch h), fun _ _ h => (nomatch h)⟩
theorem below_of {w w' : World} {H' : Heap} (hf : Fit H' Heap.emp w') (hc : Calm w w') (hs : HL.Sub (wholeH w) H') : Below w.heap.size w w' :=
  ⟨hc.os, hc.tape, hc.output, hc.size, fun k hk => by
    have e : w.heap[k]? = some w.heap[k] := Array.getElem?_eq_getElem hk
    rw [e]; exact hf.own _ _ (hs _ _ e)⟩
theorem cellH_whole {w : World} {a : Addr} {v : Value} (h : w.cell? a = some v) : a.spot = none ∧ cellH (wholeH w) a = some v := by
  unfold World.cell? at h
  unfold cellH wholeH
  split at h
  · rename_i c t z e
    split at h
    · cases h
    · rename_i hs
      rw [e]
      refine ⟨by simpa using hs, ?_⟩
      rw [if_neg hs]; exact h
  · cases h
theorem post_of_below {H : Type} {enc : TypeId × Value → H} {P : Program} {f : Func} {s : ChangeSpec} {apart fresh handsOn again : Bool} {W W' : World} {args : Array Value} {v : Value} {ds gs : List (DataW H)} {before pa pv : List MemPlace}
    (hW : DataW.Whole enc P f.params.toList s.vars apart W args.toList ds gs before)
    (hres : ∀ (b : Nat) (sp : Nat → Bool) (hd : Bool), DataW.TrodAll enc P W' b sp hd f.resultTypes.toList (v.resultList f.resultTypes.size) (s.fn H (ds ++ gs)).results [])
    (hargs : ∀ sp : Nat → Bool, (∀ p ∈ before, sp p.block = true) → DataW.TrodAll enc P W' 0 sp true f.params.toList args.toList (s.fn H (ds ++ gs)).args pa)
    (hvars : ∀ sp : Nat → Bool, (∀ p ∈ before, sp p.block = true) → DataW.TrodVars enc P W' sp s.vars (s.fn H (ds ++ gs)).vars pv)
    (hps : before = pa ++ pv) (hb : Below W.heap.size W W')
    (hok : ∀ (j : Nat) (t : TypeId) (r : Value), f.resultTypes[j]? = some t → (v.resultList f.resultTypes.size)[j]? = some r → Value.okWide P W' .any 0 t r) :
    s.post enc P f apart fresh handsOn again W args v W' := by
  have hold : ∀ p ∈ before, (fun b => decide (b < W.heap.size)) p.block = true := fun p hp => by simpa using hW.lt p hp
  have hlt := fun p hp => hW.lt p hp
  refine ⟨ds, gs, before, [], pa, pv, hW, hres _ _ _, hargs _ hold, hvars _ hold, World.keptBut_mono (fun p hp => ⟨hp, ?_⟩) (hb.frame _), fun _ => ?_⟩
  · rw [hps, List.mem_append] at hp
    exact Or.inr hp
  · obtain ⟨_, _, _, _, _, hz, hn⟩ := hW
    refine ⟨hok, _, _, ([] ++ pa) ++ pv, ⟨[] ++ pa, pv, trodAll_append (hargs _ (fun _ _ => rfl)) (hres _ _ _), hvars _ (fun _ _ => rfl), rfl, ?_, ?_⟩, ?_⟩
    · intro b off hp
      have hp : MemPlace.cell b off ∈ before := by rw [hps]; simpa using hp
      rw [hb.frozen (p := ⟨b, off, none⟩) (hlt _ hp)]
      exact hz b off hp
    · intro ha
      have := hn ha
      rw [hps] at this
      simpa using this
    · intro p hp _
      rw [hps]
      simpa using hp
theorem int_of_trod {H : Type} {enc : TypeId × Value → H} {P : Program} {w : World} {base : Nat} {sp : Nat → Bool} {held : Bool} {t : TypeId} {fuel : Nat} {v : Value} {x : DataW H × List MemPlace}
    (ht : P.underlying t = some (.int .i64)) (h : DataW.trod enc P w base sp held fuel t [v] = some x) : ∃ n : Int, v = .int .i64 n ∧ -9223372036854775808 ≤ n ∧ n ≤ 9223372036854775807 := by
  obtain ⟨n, e, -, hw⟩ := DataW.trod_int ht h
  have e2 : (Lit.int .i64 n).wf = (decide (-9223372036854775808 ≤ n) && decide (n ≤ 9223372036854775807)) := rfl
  rw [e2] at hw
  exact ⟨n, by simpa using e, by simpa using hw⟩
theorem elems_of_trod {H : Type} {enc : TypeId × Value → H} {P : Program} {w : World} {base : Nat} {sp : Nat → Bool} {held : Bool} {t e c : Nat} {fuel : Nat} {v : Value} {x : DataW H × List MemPlace}
    (ht : P.underlying t = some (.slice e)) (hc : P.cellsOf e = c) (hpos : 0 < c) (h : DataW.trod enc P w base sp held fuel t [v] = some x) :
    ∃ s : Sl, v = .slice s.p s.n s.c ∧ s.n ≤ s.c ∧ s.c ≤ 9223372036854775807 ∧ ∀ j, j < s.n → ∃ b o, s.p = some ⟨b, o, none⟩ ∧ ∃ cs : List Value, cs.length = c ∧
      (∀ i u, cs[i]? = some u → cellH (wholeH w) ⟨b, o + j * c + i, none⟩ = some u) ∧ ∃ n y, DataW.trod enc P w base sp held n e cs = some y := by
  rcases Go.Deep.open_slice ht h with ⟨h1, -⟩ | ⟨a, len, cap, m, n, D, Pl, h1, hb, hl, hm, hmm, hx, hel⟩
  · exact ⟨⟨none, 0, 0⟩, by simpa using h1, Nat.le_refl _, Nat.zero_le _, fun j hj => absurd hj (Nat.not_lt_zero _)⟩
  · have hm : cap ≤ 9223372036854775807 := hm
    have hlm : len ≤ m := by rw [hmm]; split <;> omega
    refine ⟨⟨some a, len, cap⟩, by simpa using h1, hl, hm, fun j hj => ?_⟩
    have hj : j < len := hj
    have cells : ∀ j, j < len → ∀ i, i < c → ∃ u, w.cell? ((a.add (j * c)).add i) = some u := fun j hj i hi => by
      obtain ⟨cs', g1, g2⟩ := hel j (by omega)
      rw [hc] at g1
      have g3 := World.cells?_some g1
      have hl : i < cs'.length := by omega
      exact ⟨cs'[i], (g3.2.2 i hi).trans (List.getElem?_eq_getElem hl)⟩
    have h0 : a.spot = none := by
      obtain ⟨u, hu⟩ := cells 0 (by omega) 0 hpos
      have := (cellH_whole hu).1
      simpa [Addr.add] using this
    have hadd : ∀ i, (a.add (j * c)).add i = ⟨a.block, a.off + j * c + i, none⟩ := fun i => by
      rcases a with ⟨ab, ao, asp⟩
      have h0 : asp = none := h0
      subst h0
      unfold Addr.add
      split
      · rename_i e1
        split
        · rename_i e2; simp [e1, e2]
        · simp [e1]
      · rename_i e1
        split
        · rename_i e2; simp [e2]
        · rfl
    obtain ⟨cs', g1, g2⟩ := hel j (by omega)
    rw [hc] at g1
    have g3 := (World.cells?_some g1)
    refine ⟨a.block, a.off, by rcases a with ⟨ab, ao, asp⟩; have h0 : asp = none := h0; subst h0; rfl, cs', g3.2.1, fun i u hu => ?_, _, _, g2⟩
    have hi : i < c := by have := (List.getElem?_eq_some_iff.1 hu).1; have := g3.2.1; omega
    have g4 := (g3.2.2 i hi).trans hu
    rw [hadd] at g4
    exact (cellH_whole g4).2
theorem str_of_trod {H : Type} {enc : TypeId × Value → H} {P : Program} {w : World} {base : Nat} {sp : Nat → Bool} {held : Bool} {t : TypeId} {fuel : Nat} {v : Value} {x : DataW H × List MemPlace}
    (ht : P.underlying t = some .string) (h : DataW.trod enc P w base sp held fuel t [v] = some x) : ∃ s : ByteArray, v = .string s ∧ s.size ≤ 9223372036854775807 := by
  obtain ⟨s, e, -, hw⟩ := DataW.trod_string ht h
  refine ⟨s, by simpa using e, ?_⟩
  exact hw
theorem trod_below {H : Type} {enc : TypeId × Value → H} {P : Program} {t : TypeId} {W W' : World} {v : Value} {d : DataW H} {ps all : List MemPlace} {sp : Nat → Bool} (hl : laidOutB P = true) (hr : P.readableRec t = true) (hrow : decide (t < P.types.size) = true)
    (h : DataW.Trod enc P W 0 (fun _ => true) true t v d ps) (hb : Below W.heap.size W W') (hin : ∀ x ∈ ps, x ∈ all) (hlt : ∀ x ∈ all, x.block < W.heap.size) (hsp : ∀ x ∈ all, sp x.block = true) : DataW.Trod enc P W' 0 sp true t v d ps :=
  Go.WideElems.Trod_stays hl hr (of_decide_eq_true hrow) h (fun x hx => hb.same (hlt x (hin x hx))) fun x hx => hsp x (hin x hx)
theorem calls_true {P : Program} {f : FuncId} {args : Array Value} {w : World} (h : FnH P f args (wholeH w) fun v H' => v = .bool true ∧ HL.Sub (wholeH w) H') :
    Calls P f args w fun e w' => e = .returned (.bool true) ∧ Below w.heap.size w w' :=
  (h Heap.emp w (fit_whole w)).mono fun _ _ ⟨v, H', h1, h2, h3, h4, h5⟩ => ⟨by rw [h1, h4], below_of h2 h3 h5⟩
theorem recs_of {α : Type} {enc : α → List Value} {c : Nat} (hk : ∀ a, (enc a).length = c) (P : α → Prop) {H : Heap} {s : Sl} (h1 : s.n ≤ s.c) (h2 : s.c ≤ 9223372036854775807)
    (h : ∀ j, j < s.n → ∃ b o, s.p = some ⟨b, o, none⟩ ∧ ∃ a, P a ∧ ∀ i u, (enc a)[i]? = some u → cellH H ⟨b, o + j * c + i, none⟩ = some u) : ∃ l : List α, Recs enc H s l ∧ ∀ a ∈ l, P a := by
  have key : ∀ n, n ≤ s.n → ∃ l : List α, l.length = n ∧ (∀ a ∈ l, P a) ∧ ∀ j a, l[j]? = some a → ∃ b o, s.p = some ⟨b, o, none⟩ ∧ ∀ i u, (enc a)[i]? = some u → cellH H ⟨b, o + j * c + i, none⟩ = some u := by
    intro n
    induction n with
    | zero => intro _; exact ⟨[], rfl, by simp, by simp⟩
    | succ n ih =>
      intro hn
      obtain ⟨l, e1, e2, e3⟩ := ih (by omega)
      obtain ⟨b, o, hp, a, ha, hc⟩ := h n (by omega)
      refine ⟨l ++ [a], by simp [e1], fun x hx => ?_, fun j x hj => ?_⟩
      · rcases List.mem_append.1 hx with y | y
        · exact e2 x y
        · simp only [List.mem_singleton] at y; rw [y]; exact ha
      · by_cases hjl : j < l.length
        · rw [List.getElem?_append_left hjl] at hj
          exact e3 j x hj
        · have hj2 := (List.getElem?_eq_some_iff.1 hj).1
          simp only [List.length_append, List.length_cons, List.length_nil] at hj2
          have : j = n := by omega
          subst this
          rw [List.getElem?_append_right (by omega)] at hj
          rw [e1, Nat.sub_self] at hj
          simp only [List.getElem?_cons_zero, Option.some.injEq] at hj
          subst hj
          exact ⟨b, o, hp, hc⟩
  obtain ⟨l, e1, e2, e3⟩ := key s.n (Nat.le_refl _)
  refine ⟨l, ⟨e1.symm, h1, by omega, fun i hi => ?_⟩, e2⟩
  rw [flat_len hk] at hi
  have hc0 : 0 < c := by
    rcases Nat.eq_zero_or_pos c with e | e
    · subst e; simp at hi
    · exact e
  have hd := Nat.div_add_mod i c
  have hjl : i / c < l.length := Nat.div_lt_of_lt_mul (by rw [Nat.mul_comm]; exact hi)
  have hm := Nat.mod_lt i hc0
  obtain ⟨b, o, hp, hcell⟩ := e3 (i / c) _ (List.getElem?_eq_getElem hjl)
  have hf : i % c < (enc l[i / c]).length := by rw [hk]; exact hm
  have g := hcell (i % c) _ (List.getElem?_eq_getElem hf)
  refine ⟨b, o, hp, ?_⟩
  have hi2 : i / c * c + i % c = i := by rw [Nat.mul_comm]; exact hd
  have e4 := flat_get hk (List.getElem?_eq_getElem hjl) (List.getElem?_eq_getElem hf)
  rw [hi2, List.getElem?_eq_getElem (by rw [flat_len hk]; exact hi)] at e4
  rw [Nat.add_assoc, hi2] at g
  rw [g, ← e4]
theorem okWide_int {P : Program} {w : World} {r : Reach} {b : Nat} {t : TypeId} {k : IntKind} {v : Value} (ht : P.underlying t = some (.int k)) (h : Value.okWide P w r b t v) : ∃ n : Int, v = .int k n := by
  simp only [Value.okWide, ht, Cell.okWide] at h
  cases v <;> simp_all [Cell.ok]
theorem int_came {H : Type} {enc : TypeId × Value → H} {P : Program} {w : World} {base : Nat} {sp : Nat → Bool} {held : Bool} {t : TypeId} {r : Reach} {b0 : Nat} {x : Value} {d : DataW H} {ps : List MemPlace} (ht : P.underlying t = some (.int .i64))
    (hv : Value.okWide P w r b0 t x) (h : DataW.Trod enc P w base sp held t x d ps) : ∃ n : Int, x = .int .i64 n ∧ -9223372036854775808 ≤ n ∧ n ≤ 9223372036854775807 := by
  obtain ⟨m, rfl⟩ := okWide_int ht hv
  obtain ⟨fuel, hf⟩ := h
  exact int_of_trod ht hf
theorem strs_came {H : Type} {enc : TypeId × Value → H} {P : Program} {w : World} {base : Nat} {sp : Nat → Bool} {held : Bool} {t e : TypeId} {r : Reach} {b0 : Nat} {x : Value} {d : DataW H} {ps : List MemPlace} (ht : P.underlying t = some (.slice e)) (he : P.underlying e = some .string) (hc : P.cellsOf e = 1)
    (hv : Value.okWide P w r b0 t x) (h : DataW.Trod enc P w base sp held t x d ps) : ∃ (s : Sl) (l : List ByteArray), x = .slice s.p s.n s.c ∧ Recs (fun s : ByteArray => [Value.string s]) (wholeH w) s l ∧ ∀ y ∈ l, y.size ≤ 9223372036854775807 := by
  obtain ⟨a, len, cap, rfl⟩ := okWide_slice ht hv
  obtain ⟨fuel, hf⟩ := h
  obtain ⟨s, e1, h1, h2, h3⟩ := elems_of_trod ht hc (by decide) hf
  obtain ⟨l, h4, h5⟩ := recs_of (enc := fun s : ByteArray => [Value.string s]) (c := 1) (fun _ => rfl) (fun y => y.size ≤ 9223372036854775807) h1 h2 fun j hj => by
    obtain ⟨b, o, e2, cs, hl, hcl, n, y, hy⟩ := h3 j hj
    match cs, hl with
    | [u], _ =>
      obtain ⟨s', rfl, hs⟩ := str_of_trod he hy
      exact ⟨b, o, e2, s', hs, hcl⟩
  exact ⟨s, l, e1, h4, h5⟩
theorem FnH.of_below {P : Program} {f : FuncId} {args : Array Value} {v : Value} (hs : ∀ w : World, Calls P f args w fun e w' => e = .returned v ∧ Below w.heap.size w w') {H : Heap} {K : Value → Heap → Prop} (k : K v H) : FnH P f args H K := by
  intro R w hf
  refine (hs w).mono ?_
  rintro e w' ⟨rfl, hb⟩
  have keep : ∀ b o, w.heap[b]? = some o → w'.heap[b]? = some o := fun b o h => by
    rw [hb.block _ (Array.getElem?_eq_some_iff.1 h).1]; exact h
  exact ⟨v, H, rfl, ⟨fun b o h => keep b o (hf.own b o h), fun b o h => keep b o (hf.rest b o h), hf.apart⟩, ⟨hb.os, hb.tape, hb.output, hb.size⟩, k⟩
end Go.HL
