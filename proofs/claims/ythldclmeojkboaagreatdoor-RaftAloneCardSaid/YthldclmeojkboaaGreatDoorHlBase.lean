import Derived.Tactics
import Derived.Deep.Quiet
namespace Go.HL
abbrev Heap := Nat → Option Obj
def Heap.upd (H : Heap) (b : Nat) (o : Obj) : Heap := fun x => if x = b then some o else H x
def Heap.del (H : Heap) (b : Nat) : Heap := fun x => if x = b then none else H x
def Heap.emp : Heap := fun _ => none
theorem Heap.upd_same (H : Heap) (b : Nat) (o : Obj) : H.upd b o b = some o := by simp [Heap.upd]
theorem Heap.upd_ne (H : Heap) {b x : Nat} (o : Obj) (h : x ≠ b) : H.upd b o x = H x := by simp [Heap.upd, h]
theorem Heap.del_ne (H : Heap) {b x : Nat} (h : x ≠ b) : H.del b x = H x := by simp [Heap.del, h]
structure Fit (H R : Heap) (w : World) : Prop where
  own : ∀ b o, H b = some o → w.heap[b]? = some o
  rest : ∀ b o, R b = some o → w.heap[b]? = some o
  apart : ∀ b o, R b = some o → H b = none
structure Calm (w w' : World) : Prop where
  os : w'.os = w.os
  tape : w'.tape = w.tape
  output : w'.output = w.output
  size : w.heap.size ≤ w'.heap.size
theorem Calm.refl (w : World) : Calm w w := ⟨rfl, rfl, rfl, Nat.le_refl _⟩
theorem Calm.trans {a b c : World} (h : Calm a b) (k : Calm b c) : Calm a c := ⟨k.os.trans h.os, k.tape.trans h.tape, k.output.trans h.output, Nat.le_trans h.size k.size⟩
theorem Calm.drawn (w : World) (n : Nat) : Calm w { w with drawn := n } := ⟨rfl, rfl, rfl, Nat.le_refl _⟩
def cellO : Option Obj → Nat → Option Value
  | some (.cells c _ _), i => c[i]?
  | _, _ => none
def cellH (H : Heap) (a : Addr) : Option Value := if a.spot.isSome then none else cellO (H a.block) a.off
def frozenO : Option Obj → Nat → Bool
  | some (.cells _ _ fz), i => fz.1 ≤ i && i < fz.2
  | _, _ => false
def frozenH (H : Heap) (a : Addr) : Bool := frozenO (H a.block) a.off
def setO (o : Obj) (i : Nat) (v : Value) : Obj :=
  match o with
  | .cells c e fz => .cells (c.setIfInBounds i v) e fz
  | o => o
def Heap.set (H : Heap) (a : Addr) (v : Value) : Heap := fun x => if x = a.block then (H x).map (fun o => setO o a.off v) else H x
def isCells : Obj → Bool
  | .cells .. => true
  | _ => false
def isTup : Value → Bool
  | .agg _ => true
  | .tuple _ => true
  | _ => false
theorem Fit.cell {H R : Heap} {w : World} (h : Fit H R w) {a : Addr} {v : Value} (hc : cellH H a = some v) : w.cell? a = some v := by
  unfold cellH at hc
  split at hc
  · cases hc
  · rename_i hs
    cases ho : H a.block with
    | none => simp [ho, cellO] at hc
    | some o =>
      have := h.own _ _ ho
      unfold World.cell?
      rw [this]
      rw [ho] at hc
      cases o <;> simp_all [cellO]
theorem Fit.frozen {H R : Heap} {w : World} (h : Fit H R w) {a : Addr} {v : Value} (hc : cellH H a = some v) (hf : frozenH H a = false) : w.frozen? a = false := by
  unfold cellH at hc
  split at hc
  · cases hc
  · cases ho : H a.block with
    | none => simp [ho, cellO] at hc
    | some o =>
      have := h.own _ _ ho
      unfold World.frozen?
      rw [this]
      unfold frozenH at hf
      rw [ho] at hf
      cases o <;> simp_all [frozenO]
theorem Fit.store {H R : Heap} {w : World} (h : Fit H R w) {a : Addr} {v x : Value} (hc : cellH H a = some v) : Fit (H.set a x) R (w.setCell a x) := by
  unfold cellH at hc
  split at hc
  · cases hc
  · rename_i hs
    cases ho : H a.block with
    | none => simp [ho, cellO] at hc
    | some o =>
      have hw := h.own _ _ ho
      refine ⟨?_, ?_, ?_⟩
      · intro b o' hb
        simp only [World.setCell, Array.getElem?_modify]
        unfold Heap.set at hb
        by_cases e : b = a.block
        · subst e
          simp only [if_true] at hb
          rw [ho] at hb
          rw [ho] at hc
          cases o <;> simp_all [cellO, setO]
        · rw [if_neg e] at hb
          rw [if_neg (fun q => e q.symm)]
          exact h.own _ _ hb
      · intro b o' hb
        have h1 := h.apart _ _ hb
        have e : b ≠ a.block := fun e => by subst e; rw [h1] at ho; cases ho
        simp only [World.setCell, Array.getElem?_modify]
        rw [if_neg (fun q => e q.symm)]
        exact h.rest _ _ hb
      · intro b o' hb
        have h1 := h.apart _ _ hb
        have e : b ≠ a.block := fun e => by subst e; rw [h1] at ho; cases ho
        unfold Heap.set
        rw [if_neg e]
        exact h1
theorem Calm.store (w : World) (a : Addr) (x : Value) : Calm w (w.setCell a x) := ⟨rfl, rfl, rfl, by simp [World.setCell]⟩
theorem Fit.lt {H R : Heap} {w : World} (h : Fit H R w) {b : Nat} {o : Obj} (hb : H b = some o) : b < w.heap.size := by
  have := h.own _ _ hb
  have := (Array.getElem?_eq_some_iff.1 this).1
  exact this
theorem Fit.fresh {H R : Heap} {w : World} (h : Fit H R w) : H w.heap.size = none := by
  cases e : H w.heap.size with
  | none => rfl
  | some o => exact absurd (h.lt e) (Nat.lt_irrefl _)
theorem Fit.new {H R : Heap} {w : World} (h : Fit H R w) (o : Obj) : Fit (H.upd w.heap.size o) R { w with heap := w.heap.push o } := by
  refine ⟨?_, ?_, ?_⟩
  · intro b o' hb
    show (w.heap.push o)[b]? = _
    rw [Array.getElem?_push]
    by_cases e : b = w.heap.size
    · subst e; rw [Heap.upd_same] at hb; simpa using hb
    · rw [Heap.upd_ne _ _ e] at hb; rw [if_neg e]; exact h.own _ _ hb
  · intro b o' hb
    have h1 := h.rest _ _ hb
    have := (Array.getElem?_eq_some_iff.1 h1).1
    show (w.heap.push o)[b]? = _
    rw [Array.getElem?_push, if_neg (by omega)]; exact h1
  · intro b o' hb
    have h1 := h.rest _ _ hb
    have := (Array.getElem?_eq_some_iff.1 h1).1
    rw [Heap.upd_ne _ _ (by omega)]
    exact h.apart _ _ hb
theorem Calm.new (w : World) (o : Obj) : Calm w { w with heap := w.heap.push o } := ⟨rfl, rfl, rfl, by simp⟩
theorem Fit.setObj {H R : Heap} {w : World} (h : Fit H R w) {b : Nat} {o o' : Obj} (hb : H b = some o') : Fit (H.upd b o) R { w with heap := w.heap.setIfInBounds b o } := by
  have hlt := h.lt hb
  refine ⟨?_, ?_, ?_⟩
  · intro x o2 hx
    show (w.heap.setIfInBounds b o)[x]? = _
    by_cases e : x = b
    · subst e; rw [Heap.upd_same] at hx; simp [hlt] ; simpa using hx
    · rw [Heap.upd_ne _ _ e] at hx
      rw [Array.getElem?_setIfInBounds_ne (fun q => e q.symm)]; exact h.own _ _ hx
  · intro x o2 hx
    have h1 := h.apart _ _ hx
    have e : x ≠ b := fun e => by subst e; rw [h1] at hb; cases hb
    show (w.heap.setIfInBounds b o)[x]? = _
    rw [Array.getElem?_setIfInBounds_ne (fun q => e q.symm)]; exact h.rest _ _ hx
  · intro x o2 hx
    have h1 := h.apart _ _ hx
    have e : x ≠ b := fun e => by subst e; rw [h1] at hb; cases hb
    rw [Heap.upd_ne _ _ e]; exact h1
theorem Calm.setObj (w : World) (b : Nat) (o : Obj) : Calm w { w with heap := w.heap.setIfInBounds b o } := ⟨rfl, rfl, rfl, by simp⟩
def Question.may (q : Question) (n : Nat) : Prop := ∃ t, n = if q.forced then 0 else q.cut t
def freezeO (o : Obj) (off n : Nat) : Obj :=
  match o with
  | .cells c e (lo, hi) => .cells c e (if lo == hi then (off, off + n) else (min lo off, max hi (off + n)))
  | o => o
def runH (P : Program) {α : Type} : Sem α → Heap → (α → Heap → Prop) → Prop
  | .pure a, H, K => K a H
  | .load _ a k, H, K => ∃ v, cellH H a = some v ∧ runH P (k v) H K
  | .store _ a v k, H, K => isTup v = false ∧ (∃ u, cellH H a = some u) ∧ frozenH H a = false ∧ runH P k (H.set a v) K
  | .new o k, H, K => ∀ b, H b = none → runH P (k b) (H.upd b o) K
  | .shape r k, H, K => ∃ c e fz, H r = some (.cells c e fz) ∧ runH P (k (some (e, c.size))) H K
  | .freeze a n k, H, K => n ≠ 0 ∧ ∃ c e fz, H a.block = some (.cells c e fz) ∧ runH P k (H.upd a.block (freezeO (.cells c e fz) a.off n)) K
  | .frozen a k, H, K => ∃ c e fz, H a.block = some (.cells c e fz) ∧ runH P (k (frozenH H a)) H K
  | .getObj r k, H, K => ∃ o, H r = some o ∧ isCells o = false ∧ runH P (k o) H K
  | .setObj r o k, H, K => (∃ o', H r = some o' ∧ isCells o' = false) ∧ runH P k (H.upd r o) K
  | .choose q k, H, K => ∀ n, Question.may q n → runH P (k n) H K
  | .sys _ _, _, _ => False
  | .program k, H, K => runH P (k P) H K
  | .mark _ k, H, K => runH P k H K
  | .halt _, _, _ => False
theorem runH_mono {P : Program} {α : Type} {s : Sem α} : ∀ {H : Heap} {K K' : α → Heap → Prop}, (∀ a H, K a H → K' a H) → runH P s H K → runH P s H K' := by
  induction s with
  | pure a => intro H K K' h; exact h _ _
  | load m a k ih => intro H K K' h ⟨v, h1, h2⟩; exact ⟨v, h1, ih v h h2⟩
  | store m a v k ih => intro H K K' h ⟨h1, h2, h3, h4⟩; exact ⟨h1, h2, h3, ih h h4⟩
  | new o k ih => intro H K K' h h1 b hb; exact ih b h (h1 b hb)
  | shape r k ih => intro H K K' h ⟨c, e, fz, h1, h2⟩; exact ⟨c, e, fz, h1, ih _ h h2⟩
  | freeze a n k ih => intro H K K' h ⟨h0, c, e, fz, h1, h2⟩; exact ⟨h0, c, e, fz, h1, ih h h2⟩
  | frozen a k ih => intro H K K' h ⟨c, e, fz, h1, h2⟩; exact ⟨c, e, fz, h1, ih _ h h2⟩
  | getObj r k ih => intro H K K' h ⟨o, h1, h2, h3⟩; exact ⟨o, h1, h2, ih o h h3⟩
  | setObj r o k ih => intro H K K' h ⟨h1, h2⟩; exact ⟨h1, ih h h2⟩
  | choose q k ih => intro H K K' h h1 n hn; exact ih n h (h1 n hn)
  | sys c k ih => intro H K K' h h1; exact h1.elim
  | program k ih => intro H K K' h h1; exact ih P h h1
  | mark m k ih => intro H K K' h h1; exact ih h h1
  | halt x => intro H K K' h h1; exact h1.elim
theorem runH_sound {P : Program} {α : Type} {s : Sem α} : ∀ {H : Heap} {K : α → Heap → Prop} {R : Heap} {w : World}, runH P s H K → Fit H R w →
    ∃ a H' w', s.run P w = .ok a w' ∧ Fit H' R w' ∧ Calm w w' ∧ K a H' := by
  induction s with
  | pure a => intro H K R w h hf; exact ⟨a, H, w, rfl, hf, Calm.refl _, h⟩
  | load m a k ih =>
    intro H K R w ⟨v, h1, h2⟩ hf
    obtain ⟨b, H', w', e, r⟩ := ih v h2 hf
    exact ⟨b, H', w', by simp only [Sem.run, hf.cell h1]; exact e, r⟩
  | store m a v k ih =>
    intro H K R w ⟨h1, ⟨u, h2⟩, h3, h4⟩ hf
    obtain ⟨b, H', w', e, r1, r2, r3⟩ := ih h4 (hf.store h2)
    refine ⟨b, H', w', ?_, r1, (Calm.store _ _ _).trans r2, r3⟩
    cases v <;> first | (simp [isTup] at h1; done) | (simp only [Sem.run, hf.cell h2, hf.frozen h2 h3]; exact e)
  | new o k ih =>
    intro H K R w h hf
    obtain ⟨b, H', w', e, r1, r2, r3⟩ := ih w.heap.size (h _ hf.fresh) (hf.new o)
    exact ⟨b, H', w', e, r1, (Calm.new _ _).trans r2, r3⟩
  | shape r k ih =>
    intro H K R w ⟨c, e, fz, h1, h2⟩ hf
    obtain ⟨b, H', w', e', r'⟩ := ih _ h2 hf
    refine ⟨b, H', w', ?_, r'⟩
    simp only [Sem.run, World.shape?, hf.own _ _ h1]; exact e'
  | freeze a n k ih =>
    intro H K R w ⟨h0, c, e, fz, h1, h2⟩ hf
    have hlt := hf.lt h1
    have hx : w.freeze a n = { w with heap := w.heap.setIfInBounds a.block (freezeO (.cells c e fz) a.off n) } := by
      unfold World.freeze
      rw [if_neg h0]
      congr 1
      apply Array.ext_getElem?
      intro i
      rw [Array.getElem?_modify]
      by_cases ei : a.block = i
      · subst ei
        have h3 := hf.own _ _ h1
        rw [if_pos rfl, h3, Array.getElem?_setIfInBounds_self_of_lt hlt]
        rfl
      · rw [if_neg ei, Array.getElem?_setIfInBounds_ne ei]
    obtain ⟨b, H', w', e', r1, r2, r3⟩ := ih h2 (hf.setObj h1)
    refine ⟨b, H', w', ?_, r1, (Calm.setObj _ _ _).trans r2, r3⟩
    simp only [Sem.run]; rw [hx]; exact e'
  | frozen a k ih =>
    intro H K R w ⟨c, e, fz, h1, h2⟩ hf
    obtain ⟨b, H', w', e', r'⟩ := ih _ h2 hf
    refine ⟨b, H', w', ?_, r'⟩
    have : w.frozen? a = frozenH H a := by
      unfold World.frozen? frozenH
      rw [hf.own _ _ h1, h1]; rfl
    simp only [Sem.run, this]; exact e'
  | getObj r k ih =>
    intro H K R w ⟨o, h1, h2, h3⟩ hf
    obtain ⟨b, H', w', e, r'⟩ := ih o h3 hf
    refine ⟨b, H', w', ?_, r'⟩
    simp only [Sem.run, hf.own _ _ h1]
    cases o <;> first | (simp [isCells] at h2; done) | exact e
  | setObj r o k ih =>
    intro H K R w ⟨⟨o', h1, h2⟩, h3⟩ hf
    obtain ⟨b, H', w', e, r1, r2, r3⟩ := ih h3 (hf.setObj h1)
    refine ⟨b, H', w', ?_, r1, (Calm.setObj _ _ _).trans r2, r3⟩
    simp only [Sem.run, hf.own _ _ h1]
    cases o' <;> first | (simp [isCells] at h2; done) | exact e
  | choose q k ih =>
    intro H K R w h hf
    simp only [Sem.run]
    by_cases hq : q.forced = true
    · obtain ⟨b, H', w', e, r⟩ := ih 0 (h 0 ⟨0, by rw [if_pos hq]⟩) hf
      exact ⟨b, H', w', by rw [if_pos hq]; exact e, r⟩
    · have hf' : Fit H R { w with drawn := w.drawn + 1 } := ⟨hf.own, hf.rest, hf.apart⟩
      obtain ⟨b, H', w', e, r1, r2, r3⟩ := ih (q.cut (w.tape w.drawn q)) (h _ ⟨w.tape w.drawn q, by rw [if_neg hq]⟩) hf'
      exact ⟨b, H', w', by rw [if_neg hq]; exact e, r1, (Calm.drawn _ _).trans r2, r3⟩
  | sys c k ih => intro H K R w h; exact h.elim
  | program k ih =>
    intro H K R w h hf
    exact ih P h hf
  | mark m k ih =>
    intro H K R w h hf
    exact ih h hf
  | halt x => intro H K R w h; exact h.elim
theorem runH_bind {P : Program} {α β : Type} {s : Sem α} {f : α → Sem β} : ∀ {H : Heap} {K : β → Heap → Prop}, runH P s H (fun a H' => runH P (f a) H' K) → runH P (s.bind f) H K := by
  induction s with
  | pure a => intro H K h; exact h
  | load m a k ih => intro H K ⟨v, h1, h2⟩; exact ⟨v, h1, ih v h2⟩
  | store m a v k ih => intro H K ⟨h1, h2, h3, h4⟩; exact ⟨h1, h2, h3, ih h4⟩
  | new o k ih => intro H K h b hb; exact ih b (h b hb)
  | shape r k ih => intro H K ⟨c, e, fz, h1, h2⟩; exact ⟨c, e, fz, h1, ih _ h2⟩
  | freeze a n k ih => intro H K ⟨h0, c, e, fz, h1, h2⟩; exact ⟨h0, c, e, fz, h1, ih h2⟩
  | frozen a k ih => intro H K ⟨c, e, fz, h1, h2⟩; exact ⟨c, e, fz, h1, ih _ h2⟩
  | getObj r k ih => intro H K ⟨o, h1, h2, h3⟩; exact ⟨o, h1, h2, ih o h3⟩
  | setObj r o k ih => intro H K ⟨h1, h2⟩; exact ⟨h1, ih h2⟩
  | choose q k ih => intro H K h n hn; exact ih n (h n hn)
  | sys c k ih => intro H K h; exact h.elim
  | program k ih => intro H K h; exact ih P h
  | mark m k ih => intro H K h; exact ih h
  | halt x => intro H K h; exact h.elim
def FnH (P : Program) (f : FuncId) (args : Array Value) (H : Heap) (K : Value → Heap → Prop) : Prop :=
  ∀ R w, Fit H R w → Calls P f args w (fun e w' => ∃ v H', e = .returned v ∧ Fit H' R w' ∧ Calm w w' ∧ K v H')
theorem FnH.mono {P : Program} {f : FuncId} {args : Array Value} {H : Heap} {K K' : Value → Heap → Prop} (h : FnH P f args H K) (hk : ∀ v H, K v H → K' v H) : FnH P f args H K' :=
  fun R w hf => (h R w hf).mono fun _ _ ⟨v, H', h1, h2, h3, h4⟩ => ⟨v, H', h1, h2, h3, hk _ _ h4⟩
def Heap.join (H R : Heap) : Heap := fun b => (H b).or (R b)
def Heap.disj (H R : Heap) : Prop := ∀ b o, R b = some o → H b = none
theorem Heap.join_left {H R : Heap} {b : Nat} {o : Obj} (h : H b = some o) : H.join R b = some o := by simp [Heap.join, h]
theorem Heap.join_right {H R : Heap} (hd : H.disj R) {b : Nat} {o : Obj} (h : R b = some o) : H.join R b = some o := by simp [Heap.join, h, hd _ _ h]
theorem Fit.split {H1 H2 R : Heap} {w : World} (hd : H1.disj H2) (h : Fit (H1.join H2) R w) : Fit H1 (R.join H2) w := by
  refine ⟨fun b o hb => h.own _ _ (Heap.join_left hb), ?_, ?_⟩
  · intro b o hb
    unfold Heap.join at hb
    cases hr : R b with
    | some x => rw [hr] at hb; simp at hb; subst hb; exact h.rest _ _ hr
    | none => rw [hr] at hb; simp at hb; exact h.own _ _ (Heap.join_right hd hb)
  · intro b o hb
    unfold Heap.join at hb
    cases hr : R b with
    | some x =>
      have := h.apart _ _ hr
      unfold Heap.join at this
      cases h1 : H1 b with
      | none => rfl
      | some y => rw [h1] at this; simp at this
    | none => rw [hr] at hb; simp at hb; exact hd _ _ hb
theorem Fit.glue {H1 H2 R : Heap} {w : World} (h : Fit H1 (R.join H2) w) (hd : ∀ b o, R b = some o → H2 b = none) : Fit (H1.join H2) R w ∧ H1.disj H2 := by
  have hR2 : ∀ b o, H2 b = some o → R b = none := fun b o hb => by
    cases hr : R b with
    | none => rfl
    | some x => rw [hd _ _ hr] at hb; cases hb
  refine ⟨⟨?_, ?_, ?_⟩, ?_⟩
  · intro b o hb
    unfold Heap.join at hb
    cases h1 : H1 b with
    | some x => rw [h1] at hb; simp at hb; subst hb; exact h.own _ _ h1
    | none => rw [h1] at hb; simp at hb; exact h.rest _ _ (by unfold Heap.join; rw [hR2 _ _ hb]; simpa using hb)
  · intro b o hb; exact h.rest _ _ (by unfold Heap.join; rw [hb]; rfl)
  · intro b o hb
    unfold Heap.join
    rw [h.apart b o (by unfold Heap.join; rw [hb]; rfl), hd _ _ hb]; rfl
  · intro b o hb; exact h.apart b o (by unfold Heap.join; rw [hR2 _ _ hb]; simpa using hb)
theorem FnH.frame {P : Program} {f : FuncId} {args : Array Value} {H1 H2 : Heap} {K : Value → Heap → Prop} (hd : H1.disj H2)
    (h : FnH P f args H1 (fun v H1' => H1'.disj H2 → K v (H1'.join H2))) : FnH P f args (H1.join H2) K := by
  intro R w hf
  refine (h (R.join H2) w (hf.split hd)).mono ?_
  rintro e w' ⟨v, H', rfl, h2, h3, h4⟩
  obtain ⟨g1, g2⟩ := h2.glue (fun b o hb => by
    have := hf.apart _ _ hb
    unfold Heap.join at this
    cases h1 : H1 b with
    | none => rw [h1] at this; simpa using this
    | some y => rw [h1] at this; simp at this)
  exact ⟨v, _, rfl, g1, h3, h4 g2⟩
end Go.HL
