/- The queue of timers as it lies in memory; what Less and Swap do. -/
import Derived.Test.YtcipmipadjenaaaV3
import Derived.Test.YtcipmipadjenaaaHlMap
namespace Go.Proofs.Ytcipmipadjenaaa
open Go.HL
set_option maxHeartbeats 400000

/-- A timer: its block; its key; when it is due. -/
structure E where
  b : Nat
  key : Int
  due : Int
instance : Inhabited E := ⟨⟨0, 0, 0⟩⟩
abbrev ptrV (b : Nat) : Value := .pointer (some ⟨b, 0, none⟩)
abbrev oneO (e : E) (i : Int) : Obj := .cells #[.int .i64 e.key, .int .i64 e.due, .int .i64 i] 54 (0, 0)
structure QIn (H : Heap) (s : Sl) (es : List E) : Prop where
  own : Own H 51 1 s (es.map fun e => ptrV e.b)
  ones : ∀ (i : Nat) (e : E), es[i]? = some e → H e.b = some (oneO e (i : Int))
theorem QIn.len {H : Heap} {s : Sl} {es : List E} (h : QIn H s es) : s.n = es.length := by
  have := h.own.1; simpa using this.symm
theorem QIn.at_ {H : Heap} {s : Sl} {es : List E} (h : QIn H s es) {j : Int} (h0 : 0 ≤ j) (h1 : j < s.n) :
    ∃ b e, s.p = some ⟨b, 0, none⟩ ∧ es[j.toNat]? = some e ∧ es[j.toNat]! = e ∧ cellH H ⟨b, 0 + j.toNat, none⟩ = some (ptrV e.b) ∧ H e.b = some (oneO e j) := by
  have hl := h.len
  have hj : j.toNat < es.length := by omega
  have he : es[j.toNat]? = some es[j.toNat] := List.getElem?_eq_getElem hj
  obtain ⟨b, o, h2, h3⟩ := h.own.cells j.toNat (by simp; exact hj)
  have ho : o = 0 := by
    rcases h.own.2.2 with ⟨q, -⟩ | ⟨b', arr, q, -⟩
    · rw [q] at h2; cases h2
    · rw [q] at h2; simp at h2; exact h2.2.symm
  subst ho
  refine ⟨b, _, h2, he, by simp [hj], ?_, ?_⟩
  · rw [h3]; simp
  · have := h.ones _ _ he
    have e : ((j.toNat : Nat) : Int) = j := by omega
    rw [e] at this; exact this
def lessE (e f : E) : Bool := if e.due = f.due then decide (e.key < f.key) else decide (e.due < f.due)
theorem one_due {H : Heap} {e : E} {i : Int} (h : H e.b = some (oneO e i)) : cellH H ⟨e.b, 0 + 1, none⟩ = some (.int .i64 e.due) := by rw [cellH_eq h]; rfl
theorem one_key {H : Heap} {e : E} {i : Int} (h : H e.b = some (oneO e i)) : cellH H ⟨e.b, 0, none⟩ = some (.int .i64 e.key) := by rw [cellH_eq h]; rfl
theorem br_t {c : Bool} {A B : Prop} (h : c = true) (k : A) : br c A B := br_intro (fun _ => k) (fun e => by rw [h] at e; cases e)
theorem br_f {c : Bool} {A B : Prop} (h : c = false) (k : B) : br c A B := br_intro (fun e => by rw [h] at e; cases e) (fun _ => k)
theorem less_spec {H : Heap} {s : Sl} {es : List E} {i j : Int} {K : Value → Heap → Prop} (h : QIn H s es) (hi : 0 ≤ i ∧ i < s.n) (hj : 0 ≤ j ∧ j < s.n) (k : K (.bool (lessE es[i.toNat]! es[j.toNat]!)) H) :
    FnH Try.prog 47 #[.slice s.p s.n s.c, .int .i64 i, .int .i64 j] H K := by
  apply timer_queue_Less_fn
  unfold timer_queue_Less_vc
  obtain ⟨b, e, a1, a2, a3, a4, a5⟩ := h.at_ hi.1 hi.2
  obtain ⟨b', f, c1, c2, c3, c4, c5⟩ := h.at_ hj.1 hj.2
  rw [a3, c3] at k
  unfold lessE at k
  refine ⟨b, 0, a1, hi.1, hi.2, _, a4, ptrm_intro rfl ⟨e.due, one_due a5, b', 0, c1, hj.1, hj.2, _, c4, ptrm_intro rfl ⟨f.due, one_due c5, br_intro (fun q => ?_) (fun q => ?_)⟩⟩⟩
  · have q : ¬ e.due = f.due := by simpa using q
    rw [if_neg q] at k
    exact ⟨b, 0, a1, hi.1, hi.2, _, a4, ptrm_intro rfl ⟨e.due, one_due a5, b', 0, c1, hj.1, hj.2, _, c4, ptrm_intro rfl ⟨f.due, one_due c5, k⟩⟩⟩
  · have q : e.due = f.due := by simpa using q
    rw [if_pos q] at k
    exact ⟨b, 0, a1, hi.1, hi.2, _, a4, ptrm_intro rfl ⟨e.key, one_key a5, b', 0, c1, hj.1, hj.2, _, c4, ptrm_intro rfl ⟨f.key, one_key c5, k⟩⟩⟩

/-- What holds neither the queue's cells nor a timer stays as it is. -/
def tagO : Obj → Nat
  | .cells _ t _ => t
  | _ => 0
def Keep (H H' : Heap) : Prop := ∀ x o, H x = some o → tagO o ≠ 51 → tagO o ≠ 54 → H' x = some o
theorem Keep.refl (H : Heap) : Keep H H := fun _ _ h _ _ => h
theorem Keep.trans {A B C : Heap} (h : Keep A B) (k : Keep B C) : Keep A C := fun x o hx h1 h2 => k x o (h x o hx h1 h2) h1 h2
theorem Keep.upd {H : Heap} {b : Nat} {o o' : Obj} (hb : H b = some o) (ht : tagO o = 51 ∨ tagO o = 54) : Keep H (H.upd b o') := fun x p hx h1 h2 => by
  by_cases e : x = b
  · subst e
    rw [hb] at hx
    simp only [Option.some.injEq] at hx
    subst hx
    rcases ht with q | q
    · exact absurd q h1
    · exact absurd q h2
  · rw [Heap.upd_ne _ _ e]; exact hx
def swapL (es : List E) (i j : Nat) : List E := (es.set i es[j]!).set j es[i]!
theorem swapL_length (es : List E) (i j : Nat) : (swapL es i j).length = es.length := by simp [swapL]
theorem swapL_get {es : List E} {i j : Nat} (hi : i < es.length) (hj : j < es.length) (k : Nat) : (swapL es i j)[k]? = if k = j then some es[i]! else if k = i then some es[j]! else es[k]? := by
  unfold swapL
  rw [List.getElem?_set, List.getElem?_set]
  by_cases e1 : j = k
  · subst e1; simp [hj]
  · rw [if_neg e1, if_neg (Ne.symm e1)]
    by_cases e2 : i = k
    · subst e2; simp [hi]
    · rw [if_neg e2, if_neg (Ne.symm e2)]
theorem getB {es : List E} {i : Nat} (hi : i < es.length) : es[i]? = some es[i]! := by simp [hi]
theorem set_same {arr : Array Value} {i : Nat} {v : Value} (h : i < arr.size) : (arr.setIfInBounds i v)[i]? = some v := by simp [Array.getElem?_setIfInBounds, h]
theorem set_ne {arr : Array Value} {i k : Nat} {v : Value} (h : k ≠ i) : (arr.setIfInBounds i v)[k]? = arr[k]? := by rw [Array.getElem?_setIfInBounds, if_neg (Ne.symm h)]
theorem swap_spec {H : Heap} {s : Sl} {es : List E} {i j : Int} {K : Value → Heap → Prop} (h : QIn H s es) (hi : 0 ≤ i ∧ i < s.n) (hj : 0 ≤ j ∧ j < s.n)
    (k : ∀ H', QIn H' s (swapL es i.toNat j.toNat) → Keep H H' → K (.tuple #[]) H') : FnH Try.prog 48 #[.slice s.p s.n s.c, .int .i64 i, .int .i64 j] H K := by
  apply timer_queue_Swap_fn
  unfold timer_queue_Swap_vc
  have hl := h.len
  obtain ⟨b, e, a1, a2, a3, a4, a5⟩ := h.at_ hi.1 hi.2
  obtain ⟨b', f, c1, c2, c3, c4, c5⟩ := h.at_ hj.1 hj.2
  have eb : b' = b := by rw [a1] at c1; simpa using c1.symm
  subst eb
  obtain ⟨o1, o2, o3⟩ := h.own
  rcases o3 with ⟨q, -⟩ | ⟨b2, arr, q, hq, hsz, harr⟩
  · rw [q] at a1; cases a1
  have eb : b2 = b' := by rw [q] at a1; simpa using a1
  subst eb
  have li : i.toNat < es.length := by omega
  have lj : j.toNat < es.length := by omega
  have hnc : s.n ≤ s.c := o2
  have ne : e.b ≠ b2 := fun x => by rw [x, hq] at a5; simp at a5
  have nf : f.b ≠ b2 := fun x => by rw [x, hq] at c5; simp at c5
  refine ⟨b2, 0, a1, hj.1, hj.2, _, c4, b2, 0, a1, hi.1, hi.2, _, a4, b2, 0, a1, hi.1, hi.2, ⟨_, a4⟩, frozenH_eq hq, letH_intro fun H1 g1 => ?_⟩
  rw [Heap.set_block hq] at g1
  have hq1 : H1 b2 = some (.cells (arr.setIfInBounds (0 + i.toNat) (ptrV f.b)) 51 (0, 0)) := by rw [g1]; exact Heap.upd_same _ _ _
  refine ⟨b2, 0, a1, hj.1, hj.2, ⟨(arr.setIfInBounds (0 + i.toNat) (ptrV f.b))[0 + j.toNat]'(by simp; omega), by rw [cellH_eq hq1]; exact Array.getElem?_eq_getElem _⟩, frozenH_eq hq1, letH_intro fun H2 g2 => ?_⟩
  rw [Heap.set_block hq1, g1, Heap.upd_upd] at g2
  have hq2 : H2 b2 = some (.cells ((arr.setIfInBounds (0 + i.toNat) (ptrV f.b)).setIfInBounds (0 + j.toNat) (ptrV e.b)) 51 (0, 0)) := by rw [g2]; exact Heap.upd_same _ _ _
  have hsi : 0 + i.toNat < arr.size := by omega
  have hsj : 0 + j.toNat < arr.size := by omega
  have r1 : ∃ g : E, ((arr.setIfInBounds (0 + i.toNat) (ptrV f.b)).setIfInBounds (0 + j.toNat) (ptrV e.b))[0 + i.toNat]? = some (ptrV g.b) ∧ H g.b = some (oneO g j) ∧ g = f := by
    by_cases q : i = j
    · subst q
      have : f = e := by rw [a2] at c2; simpa using c2.symm
      subst this
      exact ⟨f, set_same (by simpa using hsj), c5, rfl⟩
    · exact ⟨f, by rw [set_ne (by omega), set_same hsi], c5, rfl⟩
  obtain ⟨g, r1, r2, rfl⟩ := r1
  have h2f : H2 g.b = some (oneO g j) := by rw [g2, Heap.upd_ne _ _ nf]; exact c5
  refine ⟨b2, 0, a1, hi.1, hi.2, _, by rw [cellH_eq hq2]; exact r1, b2, 0, a1, hj.1, hj.2, some ⟨e.b, 0, none⟩, by rw [cellH_eq hq2]; exact set_same (by simpa using hsj), ptrm_intro rfl ⟨⟨_, by rw [cellH_eq h2f]; rfl⟩, frozenH_eq h2f, letH_intro fun H3 g3 => ?_⟩⟩
  rw [Heap.set_block h2f] at g3
  have g3 : H3 = H2.upd g.b (oneO g i) := g3
  have h3e : ∃ x : Int, H3 e.b = some (oneO e x) := by
    by_cases q : e.b = g.b
    · have hh : oneO e i = oneO g j := by have := a5; rw [q, c5] at this; simpa using this.symm
      simp only [Obj.cells.injEq, Array.mk.injEq, List.cons.injEq, Value.int.injEq, true_and, and_true] at hh
      rw [g3, q, Heap.upd_same]
      exact ⟨i, by simp [oneO, hh]⟩
    · exact ⟨i, by rw [g3, Heap.upd_ne _ _ q, g2, Heap.upd_ne _ _ ne]; exact a5⟩
  obtain ⟨x, h3e⟩ := h3e
  refine ptrm_intro rfl ⟨⟨_, by rw [cellH_eq h3e]; rfl⟩, frozenH_eq h3e, letH_intro fun H4 g4 => ?_⟩
  rw [Heap.set_block h3e] at g4
  have g4 : H4 = H3.upd e.b (oneO e j) := g4
  have eq1 : es[i.toNat]! = e := a3
  have eq2 : es[j.toNat]! = g := c3
  refine k H4 ⟨⟨by simp [swapL_length, hl], hnc, .inr ⟨b2, (arr.setIfInBounds (0 + i.toNat) (ptrV g.b)).setIfInBounds (0 + j.toNat) (ptrV e.b), q, ?_, by simpa using hsz, ?_⟩⟩, ?_⟩ ?_
  · rw [g4, Heap.upd_ne _ _ (Ne.symm ne), g3, Heap.upd_ne _ _ (Ne.symm nf)]; exact hq2
  · intro n hn
    simp [swapL_length] at hn
    have hs := swapL_get li lj n
    have hn2 : n < (swapL es i.toNat j.toNat).length := by rw [swapL_length]; exact hn
    have hv : ((swapL es i.toNat j.toNat).map fun e => ptrV e.b)[n]'(by simp [swapL_length, hn]) = ptrV ((swapL es i.toNat j.toNat)[n]'hn2).b := by simp
    have harrn := harr n (by simp; exact hn)
    rw [hv]
    have hs2 : (swapL es i.toNat j.toNat)[n]? = some ((swapL es i.toNat j.toNat)[n]'hn2) := List.getElem?_eq_getElem hn2
    rw [hs2] at hs
    by_cases e1 : n = j.toNat
    · subst e1
      rw [if_pos rfl, eq1] at hs
      simp only [Option.some.injEq] at hs
      simp only [Nat.zero_add]; rw [hs, set_same (by simp; omega)]
    · rw [if_neg e1] at hs
      rw [set_ne (by omega)]
      by_cases e2 : n = i.toNat
      · subst e2
        rw [if_pos rfl, eq2] at hs
        simp only [Option.some.injEq] at hs
        simp only [Nat.zero_add]; rw [hs, set_same (by omega)]
      · rw [if_neg e2] at hs
        rw [set_ne (by omega), harrn]
        simp only [List.getElem_map]
        have : es[n]? = some es[n] := List.getElem?_eq_getElem hn
        rw [this] at hs
        simp only [Option.some.injEq] at hs
        rw [hs]
  · intro n d hd
    rw [swapL_get li lj n] at hd
    by_cases e1 : n = j.toNat
    · rw [if_pos e1, eq1] at hd
      simp only [Option.some.injEq] at hd
      subst hd
      rw [g4, Heap.upd_same]
      have : (n : Int) = j := by omega
      rw [this]
    · rw [if_neg e1] at hd
      by_cases e2 : n = i.toNat
      · rw [if_pos e2, eq2] at hd
        simp only [Option.some.injEq] at hd
        subst hd
        have nij : i ≠ j := by omega
        have neg : g.b ≠ e.b := fun x => by
          have hh := a5; rw [← x, c5] at hh
          simp at hh
          omega
        rw [g4, Heap.upd_ne _ _ neg, g3, Heap.upd_same]
        have : (n : Int) = i := by omega
        rw [this]
      · rw [if_neg e2] at hd
        have hd' := h.ones n d hd
        have n1 : d.b ≠ e.b := fun x => by
          have hh := a5; rw [← x, hd'] at hh
          simp at hh
          omega
        have n2 : d.b ≠ g.b := fun x => by
          have hh := c5; rw [← x, hd'] at hh
          simp at hh
          omega
        have n3 : d.b ≠ b2 := fun x => by rw [x, hq] at hd'; simp at hd'
        rw [g4, Heap.upd_ne _ _ n1, g3, Heap.upd_ne _ _ n2, g2, Heap.upd_ne _ _ n3]
        exact hd'
  · rw [g4, g3, g2]
    exact ((Keep.upd hq (.inl rfl)).trans (Keep.upd (by rw [← g2]; exact h2f) (.inr rfl))).trans (Keep.upd (by rw [← g2, ← g3]; exact h3e) (.inr rfl))
end Go.Proofs.Ytcipmipadjenaaa
