/- Chapter 8: the plain law of the last notes, and of the answer. -/
import Derived.Test.YtkabaoigablphaaSb
namespace Go.Proofs.Ytkabaoigablphaa
open Go.HL
set_option maxHeartbeats 800000
set_option maxRecDepth 10000

abbrev lastN (l : List Nt) : Nt := l.getD (l.length - 1) nt0
theorem lastN_cons {x : Nt} {q : List Nt} (h : q ≠ []) : lastN (x :: q) = lastN q := by
  have hl : 0 < q.length := List.length_pos_iff.2 h
  obtain ⟨n, hn⟩ : ∃ n, q.length = n + 1 := ⟨q.length - 1, by omega⟩
  show (x :: q).getD (q.length + 1 - 1) nt0 = q.getD (q.length - 1) nt0
  rw [hn]; rfl
theorem lastN_mem {q : List Nt} (h : q ≠ []) : lastN q ∈ q := by
  have hl : 0 < q.length := List.length_pos_iff.2 h
  have h2 : q.length - 1 < q.length := by omega
  have : lastN q = q[q.length - 1] := by show q.getD _ _ = _; rw [List.getD, List.getElem?_eq_getElem h2]; rfl
  rw [this]; exact List.getElem_mem h2
theorem lastN_append {a b : List Nt} (h : b ≠ []) : lastN (a ++ b) = lastN b := by
  induction a with
  | nil => rfl
  | cons x a ih => rw [List.cons_append, lastN_cons (by simp [h]), ih]
theorem latK_cons {x : Nt} {q : List Nt} {m : Nat} (h : q ≠ []) : ∀ i, latK (x :: q) m (i + 1) = if latK q m i = 0 then (if q.length < m ∧ x.1 = (lastN q).1 then 0 else 1) else latK q m i + 1 := by
  have hl := lastN_cons (x := x) h
  intro i
  induction i with
  | zero =>
    show (if (x :: q).length - (0 + 1) < m ∧ ((x :: q).getD 0 nt0).1 = (lastN (x :: q)).1 then latK (x :: q) m 0 else 0 + 1) = _
    rw [hl]
    show (if q.length < m ∧ x.1 = (lastN q).1 then 0 else 1) = if (0 : Nat) = 0 then _ else _
    rw [if_pos rfl]
  | succ i ih =>
    have e1 : latK (x :: q) m (i + 1 + 1) = if (x :: q).length - (i + 1 + 1) < m ∧ ((x :: q).getD (i + 1) nt0).1 = (lastN (x :: q)).1 then latK (x :: q) m (i + 1) else i + 1 + 1 := rfl
    have e2 : latK q m (i + 1) = if q.length - (i + 1) < m ∧ (q.getD i nt0).1 = (lastN q).1 then latK q m i else i + 1 := rfl
    have e3 : (x :: q).length - (i + 1 + 1) = q.length - (i + 1) := by simp only [List.length_cons]; omega
    have e4 : (x :: q).getD (i + 1) nt0 = q.getD i nt0 := rfl
    rw [e1, e2, e3, e4, hl]
    by_cases c : q.length - (i + 1) < m ∧ (q.getD i nt0).1 = (lastN q).1
    · rw [if_pos c, if_pos c, ih]
    · rw [if_neg c, if_neg c, if_neg (by omega)]
theorem lat_nil (m : Nat) : latestM [] m = [] := rfl
theorem lat_one {x : Nt} {m : Nat} (h : 0 < m) : latestM [x] m = [x] := by
  have : latK [x] m 1 = 0 := by
    show (if [x].length - (0 + 1) < m ∧ ([x].getD 0 nt0).1 = ([x].getD ([x].length - 1) nt0).1 then latK [x] m 0 else 0 + 1) = 0
    rw [if_pos ⟨by show 1 - 1 < m; omega, rfl⟩]; rfl
  show [x].drop (latK [x] m 1) = [x]
  rw [this]; rfl
theorem lat_cons {x : Nt} {q : List Nt} {m : Nat} (h : q ≠ []) : latestM (x :: q) m = if latestM q m = q ∧ q.length < m ∧ x.1 = (lastN q).1 then x :: q else latestM q m := by
  have e : latestM (x :: q) m = (x :: q).drop (latK (x :: q) m (q.length + 1)) := rfl
  have e0 : latestM q m = q.drop (latK q m q.length) := rfl
  have hl : 0 < q.length := List.length_pos_iff.2 h
  rw [e, latK_cons h]
  by_cases c : latK q m q.length = 0
  · have e1 : latestM q m = q := by rw [e0, c]; rfl
    rw [if_pos c]
    by_cases c2 : q.length < m ∧ x.1 = (lastN q).1
    · rw [if_pos c2, if_pos ⟨e1, c2⟩]; rfl
    · rw [if_neg c2, if_neg (fun z => c2 z.2), e1]; rfl
  · rw [if_neg c, if_neg (fun z => c ?_), e0]
    · rfl
    · have := congrArg List.length z.1
      rw [e0, List.length_drop] at this
      omega
theorem lat_ne {l : List Nt} {m : Nat} (hm : 0 < m) (h : l ≠ []) : latestM l m ≠ [] := by
  induction l with
  | nil => exact absurd rfl h
  | cons x q ih =>
    by_cases hq : q = []
    · subst hq; rw [lat_one hm]; simp
    · rw [lat_cons hq]
      split
      · simp
      · exact ih hq
theorem lat_last {l : List Nt} {m : Nat} (hm : 0 < m) : lastN (latestM l m) = lastN l := by
  induction l with
  | nil => rfl
  | cons x q ih =>
    by_cases hq : q = []
    · subst hq; rw [lat_one hm]
    · rw [lat_cons hq]
      split
      · rfl
      · rw [ih, lastN_cons hq]
theorem lat_epoch {l : List Nt} {m : Nat} (hm : 0 < m) : ∀ y ∈ latestM l m, y.1 = (lastN l).1 := by
  induction l with
  | nil => intro y hy; simp [lat_nil] at hy
  | cons x q ih =>
    by_cases hq : q = []
    · subst hq; rw [lat_one hm]; intro y hy; simp at hy; subst hy; rfl
    · rw [lat_cons hq, lastN_cons hq]
      split
      · rename_i c
        intro y hy
        rcases List.mem_cons.1 hy with e | e
        · rw [e]; exact c.2.2
        · rw [← c.1] at e; exact ih y e
      · exact ih
theorem lat_all {l : List Nt} {m : Nat} (hm : 0 < m) (hl : l.length ≤ m) (he : ∀ y ∈ l, y.1 = (lastN l).1) : latestM l m = l := by
  induction l with
  | nil => rfl
  | cons x q ih =>
    by_cases hq : q = []
    · subst hq; exact lat_one hm
    · simp only [List.length_cons] at hl
      rw [lastN_cons hq] at he
      rw [lat_cons hq, if_pos ⟨ih (by omega) fun y hy => he y (List.mem_cons_of_mem _ hy), by omega, he x List.mem_cons_self⟩]
/-- Epochs do not fall. -/
def Mon (l : List Nt) : Prop := l.Pairwise fun x y => x.1 ≤ y.1
theorem Mon.last {l : List Nt} (h : Mon l) {x : Nt} (hx : x ∈ l) : x.1 ≤ (lastN l).1 := by
  induction l with
  | nil => simp at hx
  | cons a q ih =>
    obtain ⟨h1, h2⟩ := List.pairwise_cons.1 h
    by_cases hq : q = []
    · subst hq; simp at hx; subst hx; exact Int.le_refl _
    · rw [lastN_cons hq]
      rcases List.mem_cons.1 hx with e | e
      · subst e; exact h1 _ (lastN_mem hq)
      · exact ih h2 e
/-- What lies ahead may be dropped. -/
def Safe (D S : List Nt) : Prop := D = [] ∨ 5 ≤ S.length ∨ ∃ x ∈ S, ∀ d ∈ D, d.1 < x.1
theorem Safe.more {D S : List Nt} (h : Safe D S) (B : List Nt) : Safe D (S ++ B) := by
  rcases h with h | h | ⟨x, h1, h2⟩
  · exact .inl h
  · exact .inr (.inl (by rw [List.length_append]; omega))
  · exact .inr (.inr ⟨x, List.mem_append_left _ h1, h2⟩)
theorem Safe.lat {D S : List Nt} (h : Safe D S) (hm : Mon S) : latestM (D ++ S) 5 = latestM S 5 := by
  rcases h with h | h | ⟨x, h1, h2⟩
  · subst h; rfl
  · induction D with
    | nil => rfl
    | cons d D ih =>
      have : D ++ S ≠ [] := fun e => by rw [(List.append_eq_nil_iff.1 e).2] at h; simp at h
      rw [List.cons_append, lat_cons this, if_neg (fun c => by have := c.2.1; rw [List.length_append] at this; omega), ih]
  · induction D with
    | nil => rfl
    | cons d D ih =>
      have hS : S ≠ [] := fun e => by rw [e] at h1; simp at h1
      have : D ++ S ≠ [] := fun e => hS (List.append_eq_nil_iff.1 e).2
      rw [List.cons_append, lat_cons this, if_neg (fun c => ?_), ih fun y hy => h2 y (List.mem_cons_of_mem _ hy)]
      have e := c.2.2
      rw [lastN_append hS] at e
      have := hm.last h1
      have := h2 d List.mem_cons_self
      omega
theorem lat_split {A : List Nt} (hm : Mon A) : ∃ A0, A = A0 ++ latestM A 5 ∧ (A0 = [] ∨ 5 ≤ (latestM A 5).length ∨ ∃ z ∈ latestM A 5, ∀ y ∈ A0, y.1 < z.1) := by
  induction A with
  | nil => exact ⟨[], rfl, .inl rfl⟩
  | cons x q ih =>
    by_cases hq : q = []
    · subst hq; exact ⟨[], by rw [lat_one (by decide)]; rfl, .inl rfl⟩
    obtain ⟨h1, h2⟩ := List.pairwise_cons.1 hm
    obtain ⟨q0, e, hc⟩ := ih h2
    rw [lat_cons hq]
    split
    · exact ⟨[], rfl, .inl rfl⟩
    · rename_i c
      refine ⟨x :: q0, by rw [List.cons_append, ← e], ?_⟩
      by_cases h0 : q0 = []
      · subst h0
        have e : q = latestM q 5 := e
        rw [← e] at c ⊢
        refine .inr ?_
        by_cases c1 : q.length < 5
        · refine .inr ⟨lastN q, lastN_mem hq, fun y hy => ?_⟩
          simp only [List.mem_singleton] at hy
          subst hy
          have := h1 _ (lastN_mem hq)
          have : ¬ y.1 = (lastN q).1 := fun z => c ⟨rfl, c1, z⟩
          omega
        · exact .inl (by omega)
      · rcases hc with hc | hc | ⟨z, hz, hy⟩
        · exact absurd hc h0
        · exact .inr (.inl hc)
        · refine .inr (.inr ⟨z, hz, fun y hy' => ?_⟩)
          rcases List.mem_cons.1 hy' with e2 | e2
          · obtain ⟨w, hw⟩ := List.exists_mem_of_ne_nil _ h0
            have := h1 w (by rw [e]; exact List.mem_append_left _ hw)
            have := hy w hw
            rw [e2]; omega
          · exact hy y e2
theorem Safe.del {D A : List Nt} (h : Safe D A) (hm : Mon (D ++ A)) : ∃ A0, A = A0 ++ latestM A 5 ∧ Safe (D ++ A0) (latestM A 5) := by
  obtain ⟨-, hA, hDA⟩ := List.pairwise_append.1 hm
  obtain ⟨A0, e, hc⟩ := lat_split hA
  refine ⟨A0, e, ?_⟩
  by_cases h0 : A0 = []
  · subst h0
    have e : A = latestM A 5 := e
    rw [← e, List.append_nil]; exact h
  · rcases hc with hc | hc | ⟨z, hz, hy⟩
    · exact absurd hc h0
    · exact .inr (.inl hc)
    · refine .inr (.inr ⟨z, hz, fun d hd => ?_⟩)
      rcases List.mem_append.1 hd with e2 | e2
      · obtain ⟨w, hw⟩ := List.exists_mem_of_ne_nil _ h0
        have := hDA d e2 w (by rw [e]; exact List.mem_append_left _ hw)
        have := hy w hw
        omega
      · exact hy d e2
/-- A batch as a note. -/
abbrev ntOf (b : Bt) : Nt := (b.epoch, b.seq, (b.n : Int), b.base)
abbrev logN (p : Int) (l : List Bt) : List Nt := (l.filter fun x => decide (x.pid = p)).map ntOf
theorem ansF_filter (b : Bt) (l : List Bt) : ansF b l = ansF b (l.filter fun x => decide (x.pid = b.pid)) := by
  induction l with
  | nil => rfl
  | cons x l ih =>
    have e : ansF b (x :: l) = ansStep b (ansF b l) x := rfl
    rw [e]
    by_cases c : x.pid = b.pid
    · rw [List.filter_cons_of_pos (by simpa using c), ih]; rfl
    · rw [List.filter_cons_of_neg (by simpa using c), ← ih]
      unfold ansStep
      rw [if_pos c]
def fndN (b : Bt) (l : List Nt) : Int := match l.find? (isN b.epoch b.seq b.n) with | some y => y.2.2.2 | none => -1
theorem ans_state {b : Bt} : ∀ {L : List Bt}, (∀ x ∈ L, x.pid = b.pid ∧ 0 ≤ x.epoch) → Mon (L.map ntOf) → L ≠ [] →
    ∃ ct : Int, ansF b L = ⟨(lastN (L.map ntOf)).1, (lastN (L.map ntOf)).2.1 + (lastN (L.map ntOf)).2.2.1, ct, fndN b (latestM (L.map ntOf) 5)⟩ ∧ ((∀ x ∈ L.map ntOf, x.1 = (lastN (L.map ntOf)).1) → ct = L.length) := by
  intro L
  induction L with
  | nil => intro _ _ h; exact absurd rfl h
  | cons x Q ih =>
    intro hp hm _
    have hx := hp x List.mem_cons_self
    have hm : Mon (ntOf x :: Q.map ntOf) := hm
    obtain ⟨h1, h2⟩ := List.pairwise_cons.1 hm
    have e : ansF b (x :: Q) = ansStep b (ansF b Q) x := rfl
    by_cases hQ : Q = []
    · subst hQ
      refine ⟨1, ?_, fun _ => rfl⟩
      rw [e, List.map_cons, List.map_nil, lat_one (by decide)]
      show ansStep b ⟨-1, 0, 0, -1⟩ x = ⟨x.epoch, x.seq + x.n, 1, fndN b [ntOf x]⟩
      unfold ansStep fndN
      rw [if_neg (fun z => z hx.1)]
      dsimp only
      simp only [if_pos (show (-1 : Int) < 0 by decide), if_true]
      congr 1
      by_cases c : isN b.epoch b.seq b.n (ntOf x) = true
      · rw [List.find?_cons_of_pos c]
        have c' : x.epoch = b.epoch ∧ x.seq = b.seq ∧ (x.n : Int) = b.n := of_decide_eq_true c
        rw [if_pos ⟨c'.1, c'.2.1, by omega, c'.1, by decide⟩]
      · rw [List.find?_cons_of_neg c]
        have c' : ¬ (x.epoch = b.epoch ∧ x.seq = b.seq ∧ (x.n : Int) = b.n) := fun z => c (decide_eq_true z)
        rw [if_neg (fun z => c' ⟨z.1, z.2.1, by omega⟩)]
        rfl
    · have hN : Q.map ntOf ≠ [] := by simpa using hQ
      obtain ⟨ct, e1, e2⟩ := ih (fun y hy => hp y (List.mem_cons_of_mem _ hy)) h2 hQ
      have hle : ∀ y ∈ Q.map ntOf, y.1 ≤ (lastN (Q.map ntOf)).1 := fun y hy => Mon.last h2 hy
      have hx1 : x.epoch ≤ (lastN (Q.map ntOf)).1 := h1 _ (lastN_mem hN)
      have hl0 : ¬ (lastN (Q.map ntOf)).1 < 0 := by omega
      rw [List.map_cons, lastN_cons hN, e, e1]
      have elast : lastN (ntOf x :: Q.map ntOf) = lastN (Q.map ntOf) := lastN_cons hN
      unfold ansStep
      rw [if_neg (fun z => z hx.1)]
      dsimp only
      rw [if_neg hl0, if_neg hl0]
      refine ⟨if x.epoch = (lastN (Q.map ntOf)).1 then ct + 1 else ct, ?_, fun hall => ?_⟩
      · congr 1
        rw [lat_cons hN]
        have hlen : (Q.map ntOf).length = Q.length := List.length_map ..
        by_cases c : x.epoch = b.epoch ∧ x.seq = b.seq ∧ x.n = b.n
        · have cN : isN b.epoch b.seq b.n (ntOf x) = true := decide_eq_true ⟨c.1, c.2.1, by show (x.n : Int) = b.n; rw [c.2.2]⟩
          by_cases c2 : (lastN (Q.map ntOf)).1 = b.epoch
          · have hallQ : ∀ y ∈ Q.map ntOf, y.1 = (lastN (Q.map ntOf)).1 := fun y hy => by
              have := hle y hy
              have : x.epoch ≤ y.1 := h1 y hy
              omega
            have ect := e2 hallQ
            rw [if_pos (c.1.trans c2.symm), ect]
            by_cases c3 : (Q.length : Int) + 1 ≤ 5
            · rw [if_pos ⟨c.1, c.2.1, c.2.2, c2, c3⟩]
              rw [if_pos ⟨lat_all (by decide) (by omega) hallQ, by omega, c.1.trans c2.symm⟩]
              unfold fndN
              rw [List.find?_cons_of_pos cN]
            · rw [if_neg (fun z => c3 z.2.2.2.2), if_neg (fun z => c3 (by have := z.2.1; omega))]
          · rw [if_neg (fun z => c2 z.2.2.2.1), if_neg (fun z => c2 (z.2.2.symm.trans c.1))]
        · have cN : ¬ isN b.epoch b.seq b.n (ntOf x) = true := fun z => c (by
            have z : x.epoch = b.epoch ∧ x.seq = b.seq ∧ (x.n : Int) = b.n := of_decide_eq_true z
            exact ⟨z.1, z.2.1, by omega⟩)
          rw [if_neg (fun z => c ⟨z.1, z.2.1, z.2.2.1⟩)]
          split
          · rename_i c4
            unfold fndN
            rw [List.find?_cons_of_neg cN, c4.1]
          · rfl
      · have hall' : ∀ y ∈ ntOf x :: Q.map ntOf, y.1 = (lastN (Q.map ntOf)).1 := hall
        have e3 : x.epoch = (lastN (Q.map ntOf)).1 := hall' (ntOf x) List.mem_cons_self
        rw [if_pos e3, e2 fun y hy => hall' y (List.mem_cons_of_mem _ hy)]
        simp
end Go.Proofs.Ytkabaoigablphaa
