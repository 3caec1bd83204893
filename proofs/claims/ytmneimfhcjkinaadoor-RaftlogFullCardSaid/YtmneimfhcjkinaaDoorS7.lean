/- Chapter 9: Put. -/
import Derived.Test.YtmneimfhcjkinaaDoorSa
import Derived.Test.YtmneimfhcjkinaaDoorVp
namespace Go.Proofs.YtmneimfhcjkinaaDoor
open Go Go.HL
set_option maxHeartbeats 3200000
set_option maxRecDepth 10000

def stripB (st : RS) (x : En) : Bool := decide (x.2.1 ≤ st.index) || (match atX st x.2.1 with | some y => decide (y.1 = x.1) | none => false)
def aheadX (st : RS) (k : Nat) : Int := if k = 0 then st.snapped else match st.l[k - 1]? with | some y => y.1 | none => 0
/-- Put on a disk with so much room: what it answers; the log. -/
def putX (room : Int) (st : RS) (after : Int) (l2 : List En) : Int × RS :=
  if after < 0 ∨ after > (lastX st).1 then (10, st) else if rightX after 0 none l2 ≠ 0 then (rightX after 0 none l2, st)
  else match l2.dropWhile (stripB st) with
    | [] => (0, st)
    | x :: r => if x.1 < aheadX st (x.2.1 - st.index - 1).toNat then (1, st)
      else if ((strN ((x :: r).flatMap entN)).size : Int) > room + (strN ((st.l.drop (x.2.1 - st.index - 1).toNat).flatMap entN)).size then (7, st)
      else (0, { st with l := st.l.take (x.2.1 - st.index - 1).toNat ++ x :: r })
theorem dropWhile_at {α : Type} {p : α → Bool} : ∀ {l : List α} {x : α} {r : List α}, l.dropWhile p = x :: r → p x = false ∧ ∃ m, l.drop m = x :: r ∧ ∀ j y, j < m → l[j]? = some y → p y = true
  | [], _, _, h => by cases h
  | a :: l, x, r, h => by
    cases e : p a with
    | false =>
      rw [List.dropWhile_cons, if_neg (by rw [e]; decide)] at h
      cases h
      exact ⟨e, 0, rfl, fun j y hj => absurd hj (by omega)⟩
    | true =>
      rw [List.dropWhile_cons, if_pos e] at h
      obtain ⟨h1, m, h2, h3⟩ := dropWhile_at h
      refine ⟨h1, m + 1, h2, fun j y hj hy => ?_⟩
      cases j with
      | zero => cases hy; exact e
      | succ j => exact h3 j y (by omega) hy
/-- What `right` lets in. -/
theorem right_ok {after : Int} : ∀ {l : List En} {i : Nat} {p : Option En}, rightX after i p l = 0 → (∀ j x, l[j]? = some x → x.2.1 = after + 1 + ((i + j : Nat) : Int) ∧ x.2.1 ≤ 1000000000 ∧ (1 ≤ x.1 ∧ x.1 ≤ 1000000000) ∧ x.2.2.size ≤ 2048) ∧ (∀ j x y, l[j]? = some x → l[j + 1]? = some y → x.1 ≤ y.1) ∧ (∀ x y, p = some y → l[0]? = some x → y.1 ≤ x.1)
  | [], _, _, _ => ⟨fun j x h => by simp at h, fun j x y h => by simp at h, fun x y _ h => by simp at h⟩
  | a :: l, i, p, h => by
    have h : (if enC after i p a ≠ 0 then enC after i p a else rightX after (i + 1) (some a) l) = 0 := h
    by_cases e : enC after i p a ≠ 0
    · rw [if_pos e] at h; exact absurd h e
    rw [if_neg e] at h
    obtain ⟨h1, h2, h3⟩ := right_ok h
    have e : enC after i p a = 0 := Decidable.byContradiction e
    unfold enC at e
    split at e
    · cases e
    rename_i e1
    split at e
    · cases e
    rename_i e2
    have a1 : a.2.1 = after + 1 + i := Decidable.byContradiction fun z => e1 (.inl z)
    have a2 : ¬ a.2.1 > 1000000000 := fun z => e1 (.inr (.inl z))
    have a3 : 1 ≤ a.1 ∧ a.1 ≤ 1000000000 := Decidable.byContradiction fun z => e1 (.inr (.inr (.inl z)))
    have a4 : ∀ y, p = some y → ¬ a.1 < y.1 := fun y hy z => e1 (.inr (.inr (.inr ⟨y, hy, z⟩)))
    refine ⟨fun j x hx => ?_, fun j x y hx hy => ?_, fun x y hp hx => ?_⟩
    · cases j with
      | zero =>
        simp only [List.getElem?_cons_zero, Option.some.injEq] at hx
        subst hx
        exact ⟨a1, by omega, a3, by omega⟩
      | succ j =>
        obtain ⟨z1, z2⟩ := h1 j x hx
        exact ⟨by rw [z1]; congr 2; omega, z2⟩
    · cases j with
      | zero =>
        simp only [List.getElem?_cons_zero, Option.some.injEq] at hx
        subst hx
        exact h3 y a rfl hy
      | succ j => exact h2 j x y hx hy
    · simp only [List.getElem?_cons_zero, Option.some.injEq] at hx
      subst hx
      have := a4 y hp
      omega
theorem GoodL.last {st : RS} (h : GoodL st.index st.l) : (lastX st).1 = st.index + st.l.length := by
  unfold lastX
  cases e : st.l.getLast? with
  | none => rw [List.getLast?_eq_none_iff] at e; rw [e]; simp
  | some x =>
    have hx : st.l[st.l.length - 1]? = some x := by rw [← List.getLast?_eq_getElem?]; exact e
    have hpos : 0 < st.l.length := by
      have := (List.getElem?_eq_some_iff.1 hx).1; omega
    have := h.idx _ _ hx
    show x.2.1 = _
    omega
theorem StOk.last_le {st : RS} (h : StOk st) : (lastX st).1 ≤ 1000000000 := by
  unfold lastX
  cases e : st.l.getLast? with
  | none => exact h.index.2
  | some x => exact (h.good.ok x (List.mem_of_getLast? e)).2.1.2
/-- What Put puts, and where. -/
structure PutAt (st : RS) (after : Int) (l2 : List En) (x : En) (r : List En) : Prop where
  gt : st.index < x.2.1
  le : (x.2.1 - st.index - 1).toNat ≤ st.l.length
  idx : ∀ (j : Nat) y, (x :: r)[j]? = some y → y.2.1 = x.2.1 + j
  ok : ∀ y ∈ x :: r, EnOk y
  up : ∀ (j : Nat) y z, (x :: r)[j]? = some y → (x :: r)[j + 1]? = some z → y.1 ≤ z.1
  len : (x :: r).length ≤ l2.length
theorem putAt {st : RS} (hG : StOk st) {after : Int} {l2 r : List En} {x : En} (h0 : ¬ (after < 0 ∨ after > (lastX st).1)) (hr : rightX after 0 none l2 = 0) (h : l2.dropWhile (stripB st) = x :: r) : PutAt st after l2 x r := by
  obtain ⟨h1, m, h2, h3⟩ := dropWhile_at h
  obtain ⟨g1, g2, -⟩ := right_ok hr
  have hl := hG.good.last
  have at_ : ∀ j, (x :: r)[j]? = l2[m + j]? := fun j => by rw [← h2, List.getElem?_drop]
  have hx := g1 m x (by have := at_ 0; rw [Nat.add_zero] at this; exact this.symm)
  have hgt : ¬ x.2.1 ≤ st.index := fun z => by unfold stripB at h1; rw [decide_eq_true z] at h1; cases h1
  refine ⟨by omega, ?_, fun j y hy => ?_, fun y hy => ?_, fun j y z hy hz => ?_, ?_⟩
  · cases m with
    | zero => omega
    | succ m =>
      obtain ⟨y, hy⟩ : ∃ y, l2[m]? = some y := by
        have : l2[m + 1]? = some x := by have := at_ 0; rw [Nat.add_zero] at this; exact this.symm
        have := (List.getElem?_eq_some_iff.1 this).1
        exact ⟨l2[m], List.getElem?_eq_getElem (by omega)⟩
      have hs := h3 m y (by omega) hy
      have hy2 := g1 m y hy
      by_cases e : y.2.1 ≤ st.index
      · omega
      · unfold stripB at hs
        rw [decide_eq_false e, Bool.false_or] at hs
        have ha : atX st y.2.1 ≠ none := fun z => by rw [z] at hs; cases hs
        unfold atX at ha
        rw [if_neg e] at ha
        have : (y.2.1 - st.index - 1).toNat < st.l.length := Decidable.byContradiction fun z => ha (List.getElem?_eq_none (by omega))
        omega
  · rw [at_] at hy
    have := g1 _ _ hy
    omega
  · obtain ⟨j, hj⟩ := List.getElem?_of_mem hy
    rw [at_] at hj
    obtain ⟨z1, z2, z3, z4⟩ := g1 _ _ hj
    exact ⟨z3, ⟨by omega, z2⟩, z4⟩
  · rw [at_] at hy hz
    exact g2 _ _ _ hy hz
  · rw [← h2, List.length_drop]; omega
theorem PutAt.good {st : RS} {after : Int} {l2 r : List En} {x : En} (p : PutAt st after l2 x r) (hG : GoodL st.index st.l) (ha : ¬ x.1 < aheadX st (x.2.1 - st.index - 1).toNat) : GoodL st.index (st.l.take (x.2.1 - st.index - 1).toNat ++ x :: r) := by
  have hgt := p.gt
  have hle := p.le
  have hlen : (st.l.take (x.2.1 - st.index - 1).toNat).length = (x.2.1 - st.index - 1).toNat := by rw [List.length_take]; omega
  refine ⟨fun y hy => ?_, fun j y hy => ?_, fun j y z hy hz => ?_⟩
  · rcases List.mem_append.1 hy with h | h
    · exact hG.ok y (List.mem_of_mem_take h)
    · exact p.ok y h
  · rw [List.getElem?_append] at hy
    split at hy
    · rw [List.getElem?_take] at hy
      split at hy
      · exact hG.idx _ _ hy
      · cases hy
    · have := p.idx _ _ hy
      omega
  · rw [List.getElem?_append] at hy hz
    rw [hlen] at hy hz
    split at hy
    · rename_i h1
      rw [List.getElem?_take, if_pos h1] at hy
      split at hz
      · rename_i h2
        rw [List.getElem?_take, if_pos h2] at hz
        exact hG.up _ _ _ hy hz
      · have e : j + 1 - (x.2.1 - st.index - 1).toNat = 0 := by omega
        rw [e] at hz
        simp only [List.getElem?_cons_zero, Option.some.injEq] at hz
        subst hz
        unfold aheadX at ha
        rw [if_neg (by omega)] at ha
        have e2 : (x.2.1 - st.index - 1).toNat - 1 = j := by omega
        rw [e2, hy] at ha
        dsimp only at ha
        omega
    · rename_i h1
      rw [if_neg (by omega)] at hz
      have e : j + 1 - (x.2.1 - st.index - 1).toNat = j - (x.2.1 - st.index - 1).toNat + 1 := by omega
      rw [e] at hz
      exact p.up _ _ _ hy hz
theorem slP_zero (p : Option Addr) (c : Nat) (sz : Nat) : slP p c 0 sz = p := by
  unfold slP
  split
  · rfl
  · cases p with
    | none => rfl
    | some a => simp [Addr.add]
/-- append to a slice that has no room: the result lies in new memory. -/
theorem appendNew {P : Program} {t e sz : Nat} (hE : ElemOK P t e sz) {t2 e2 ty : Nat} (ht2 : P.underlying t2 = some (.slice e2)) {cs : List Chunk} {H : Heap} (h : HL.Holds cs H) {p : Option Addr} {n : Nat} {vs : List Value} (hs : CellsAt H p vs) (hsl : vs.length = n * sz)
    {q : Option Addr} {m c2 : Nat} {xs : List Value} (hx : CellsAt H q xs) (hxl : xs.length = m * sz) (hm : 0 < m) (hb : n + m ≤ 268435456) {K : Value → Heap → Prop}
    (k : ∀ (r : Sl) H', HL.Sub H H' → HL.Holds (HL.own e sz r (vs ++ xs) :: cs) H' → r.n = n + m → K (.slice r.p r.n r.c) H') : runH P (Builtin.append_ #[t, t2] ty #[.slice p n n, .slice q m c2]) H K := by
  refine runH_append hE ht2 hs hsl hx hxl hb (fun z => by omega) ?_
  intro _ cap hcap b hbn rest hrest
  refine k ⟨some ⟨b, 0, none⟩, n + m, cap⟩ _ (HL.Sub.new hbn _) ((h.add hbn _).head fun A hA => ?_) rfl
  refine ⟨?_, hcap, .inr ⟨b, _, rfl, hA, ?_, ?_⟩⟩
  · simp [hsl, hxl, Nat.add_mul]
  · simp [hsl, hxl, hrest, ← Nat.add_mul]; congr 1; omega
  · intro i hi
    rw [List.getElem?_toArray, List.getElem?_append_left hi]
    simp
theorem strN_ext {A B : List Nat} (hA : ∀ b ∈ A, b < 256) (hB : ∀ b ∈ B, b < 256) : (strN (A ++ B)).extract 0 A.length = strN A := ext_mid (p := []) (X := A) (r := B) (by simp) hA hB rfl (by simp)
theorem strip_none {st : RS} {x : En} (h : atX st x.2.1 = none) : stripB st x = decide (x.2.1 ≤ st.index) := by unfold stripB; rw [h, Bool.or_false]
theorem strip_some {st : RS} {x y : En} (h : atX st x.2.1 = some y) : stripB st x = decide (y.1 = x.1) ∧ ¬ x.2.1 ≤ st.index := by
  have n : ¬ x.2.1 ≤ st.index := fun z => by unfold atX at h; rw [if_pos z] at h; cases h
  exact ⟨by unfold stripB; rw [h, decide_eq_false n, Bool.false_or], n⟩
theorem StOk.bounds {st : RS} (h : StOk st) : ∀ x ∈ st.l, i64B x.1 ∧ i64B x.2.1 ∧ x.2.2.size ≤ 2048 := fun x hx => by
  obtain ⟨⟨a, b⟩, ⟨c, d⟩, e⟩ := h.good.ok x hx
  exact ⟨⟨by omega, by omega⟩, ⟨by omega, by omega⟩, e⟩
section
variable {cs : List Chunk} {H : Heap} {K : Value → Heap → Prop}
theorem put9_spec {c d i : Nat} {size : Int} {F : Fs} {st : RS} {after : Int} {s : Sl} {l2 : List En} {c0 : Chunk} (h : HL.Holds (lgc c d st :: dsk d size F :: cs) H) (g : Gives c0 fun A => Recs eE A s l2) (ei : cs[i]? = some c0) (hS : StR F st) (hG : StOk st) (hlen : l2.length ≤ 1000)
    (k : ∀ F' H', StR F' (putX (size - useF F) st after l2).2 → HL.Holds (lgc c d (putX (size - useF F) st after l2).2 :: dsk d size F' :: cs) H' → K (.int .i64 (putX (size - useF F) st after l2).1) H') : FnH Tryd.prog 12 #[.pointer (some ⟨c, 0, none⟩), .int .i64 after, .slice s.p s.n s.c] H K := by
  apply raftlog_Log_Put_fn
  unfold raftlog_Log_Put_vc
  have hl := hG.len
  have hbd := hG.bounds
  have hlast := hG.last_le
  obtain ⟨i0, i1⟩ := hG.index
  unfold putX at k
  refine last9_spec (i := 0) h rfl hl ⟨_, _, rfl, br_intro (fun q => ?_) (fun q => br_intro (fun q2 => ?_) (fun q2 => ?_))⟩
  · rw [if_pos (.inl (of_decide_eq_true q))] at k; exact k F H hS h
  · rw [if_pos (.inr (of_decide_eq_true q2))] at k; exact k F H hS h
  have q := of_decide_eq_false q
  have q2 := of_decide_eq_false q2
  have hr0 : ¬ (after < 0 ∨ after > (lastX st).1) := fun z => by rcases z with z | z <;> omega
  rw [if_neg hr0] at k
  have hR0 := g.at_ h (i + 2) ei
  refine right9_spec hR0 (by omega) (by omega) (by omega) ⟨_, rfl, br_intro (fun q3 => ?_) (fun q3 => ?_)⟩
  · have q3 : rightX after 0 none l2 ≠ 0 := by simpa using q3
    rw [if_pos q3] at k; exact k F H hS h
  have q3 : rightX after 0 none l2 = 0 := by simpa using q3
  rw [if_neg (fun z => z q3)] at k
  obtain ⟨D, hD⟩ : ∃ D, l2.dropWhile (stripB st) = D := ⟨_, rfl⟩
  rw [hD] at k
  have hidx : ∀ x ∈ l2, x.2.1 ≤ 1000000000 := fun x hx => by
    obtain ⟨j, hj⟩ := List.getElem?_of_mem hx
    exact ((right_ok q3).1 j x hj).2.1
  refine ⟨fun l H' => H' = H ∧ ∃ j : Nat, (∀ A, Recs eE A s l2 → Recs eE A l (l2.drop j)) ∧ l2.drop j = D, ⟨fun l H' => H' = H ∧ ∃ j : Nat, (∀ A, Recs eE A s l2 → Recs eE A l (l2.drop j)) ∧ (l2.drop j).dropWhile (stripB st) = D, fun l _ => l.n, ⟨rfl, 0, fun A hA => hA, hD⟩, ?_⟩, ?_⟩
  · rintro l H3 ⟨rfl, j, hR, hd⟩
    have hR1 := hR _ hR0
    have hn := hR1.len
    refine br_intro (fun w => ?_) (fun w => ⟨rfl, rfl, j, hR, ?_⟩)
    · have w := of_decide_eq_true w
      obtain ⟨q5, o, x, x1, x2, x3⟩ := hR1.at_ eElen (by decide) (j := 0) (Int.le_refl _) w
      have x2 : (l2.drop j)[0]? = some x := x2
      obtain ⟨hx1, hx2⟩ := List.getElem?_eq_some_iff.1 x2
      have hxm : x ∈ l2 := List.mem_of_mem_drop (List.mem_of_getElem? x2)
      have hxi := hidx x hxm
      have hcons : l2.drop j = x :: l2.drop (j + 1) := by
        have := List.drop_eq_getElem_cons hx1
        rw [List.drop_zero, hx2, List.drop_drop] at this
        rw [this]
      obtain ⟨sl, hc⟩ := lgc_open.1 h
      have c2 := hc.cell 0 rfl (o := 0 + 2) rfl
      have stepB : ∀ {p q : Prop}, p → q → ∀ (b : Bool) (H5 : Heap), (H5 = H3 ∧ b = !stripB st x) → br b (p ∧ (H5 = H3 ∧ ∃ j : Nat, (∀ A, Recs eE A s l2 → Recs eE A l (l2.drop j)) ∧ l2.drop j = D)) (0 ≤ (1 : Int) ∧ (1 : Int) ≤ (l.n : Nat) ∧ q ∧ (H5 = H3 ∧ ∃ j : Nat, (∀ A, Recs eE A s l2 → Recs eE A (l.from_ 1 3) (l2.drop j)) ∧ (l2.drop j).dropWhile (stripB st) = D) ∧ (l.from_ 1 3).n < l.n) := by
        rintro p q hp hq b H5 ⟨rfl, hb⟩
        refine br_intro (fun u => ⟨hp, rfl, j, hR, ?_⟩) (fun u => ⟨by decide, by omega, hq, ⟨rfl, j + 1, fun A hA => ?_, ?_⟩, ?_⟩)
        · rw [u] at hb
          have hs : stripB st x = false := by simpa using hb
          rw [hcons, List.dropWhile_cons, if_neg (by rw [hs]; decide)] at hd
          rw [hcons]; exact hd
        · have := (hR A hA).from_ eElen (j := 1) (by decide) (by omega)
          rw [List.drop_drop] at this
          exact this
        · rw [u] at hb
          have hs : stripB st x = true := by simpa using hb
          rw [hcons, List.dropWhile_cons, if_pos hs] at hd
          exact hd
        · show Int.toNat ((l.n : Int) - 1) < l.n
          omega
      refine ⟨q5, o, x1, by decide, w, _, x3 0 _ rfl, _, x3 1 _ rfl, _, x3 2 _ rfl, ?_, HL.Sub.refl _, ?_⟩
      · refine at9_spec (i := 0) h rfl hl i0 i1 (by omega) (fun e => ⟨_, _, _, _, rfl, HL.Sub.refl _, HL.Sub.refl _, fun b H' => H' = H3 ∧ b = !stripB st x, ⟨_, c2, br_intro (fun u => br_t rfl ⟨rfl, rfl, ?_⟩) (fun u => ⟨rfl, rfl, ?_⟩)⟩, stepB rfl rfl⟩) fun y he => ⟨_, _, _, _, rfl, HL.Sub.refl _, HL.Sub.refl _, fun b H' => H' = H3 ∧ b = !stripB st x, ⟨_, c2, br_intro (fun u => br_f rfl ⟨rfl, rfl, ?_⟩) (fun u => ⟨rfl, rfl, ?_⟩)⟩, stepB rfl rfl⟩
        · have u := of_decide_eq_true u
          rw [strip_none e, decide_eq_false (by omega)]; rfl
        · have u := of_decide_eq_false u
          rw [strip_none e, decide_eq_true (by omega)]; rfl
        · rw [(strip_some he).1]
          by_cases z : y.1 = x.1 <;> simp [z]
        · have u := of_decide_eq_false u
          exact absurd (by omega) (strip_some he).2
      · refine at9_spec (i := 0) h rfl hl i0 i1 (by omega) (fun e => ⟨_, _, _, _, rfl, HL.Sub.refl _, fun b H' => H' = H3 ∧ b = !stripB st x, ⟨_, c2, br_intro (fun u => br_t rfl ⟨rfl, rfl, ?_⟩) (fun u => ⟨rfl, rfl, ?_⟩)⟩, stepB rfl rfl⟩) fun y he => ⟨_, _, _, _, rfl, HL.Sub.refl _, fun b H' => H' = H3 ∧ b = !stripB st x, ⟨_, c2, br_intro (fun u => br_f rfl ⟨rfl, rfl, ?_⟩) (fun u => ⟨rfl, rfl, ?_⟩)⟩, stepB rfl rfl⟩
        · have u := of_decide_eq_true u
          rw [strip_none e, decide_eq_false (by omega)]; rfl
        · have u := of_decide_eq_false u
          rw [strip_none e, decide_eq_true (by omega)]; rfl
        · rw [(strip_some he).1]
          by_cases z : y.1 = x.1 <;> simp [z]
        · have u := of_decide_eq_false u
          exact absurd (by omega) (strip_some he).2
    · have w := of_decide_eq_false w
      have e : l2.drop j = [] := List.eq_nil_of_length_eq_zero (by omega)
      rw [e] at hd ⊢
      exact hd
  rintro l H8 ⟨rfl, j, hR, hd⟩
  rw [hd] at hR
  have hR1 := hR _ hR0
  have hn := hR1.len
  cases D with
  | nil =>
    have e0 : l.n = 0 := hn
    exact br_t (by rw [e0]; rfl) (k F H8 hS h)
  | cons x r =>
  dsimp only at k
  have hp := putAt hG hr0 q3 hD
  have en : l.n = r.length + 1 := hn
  refine br_f (by rw [en]; simp; omega) ?_
  obtain ⟨q5, o, x', x1, x2, x3⟩ := hR1.at_ eElen (by decide) (j := 0) (Int.le_refl _) (by omega)
  have x2 : some x = some x' := x2
  cases x2
  obtain ⟨sl, hc⟩ := lgc_open.1 h
  have hxm : x ∈ l2 := by
    have : x ∈ l2.drop j := by rw [hd]; simp
    exact List.mem_of_mem_drop this
  have hxi := hidx x hxm
  have hgt := hp.gt
  have hle := hp.le
  have hplen := hp.len
  refine ⟨q5, o, x1, by decide, by omega, _, x3 1 _ rfl, _, hc.cell 0 rfl rfl, _, hc.cell 0 rfl rfl, ?_⟩
  rw [wrap64_id (n := x.2.1 - st.index) (by omega) (by omega), wrap64_id (n := x.2.1 - st.index - 1) (by omega) (by omega)]
  obtain ⟨kk, hkk⟩ : ∃ kk : Nat, x.2.1 - st.index - 1 = (kk : Int) := ⟨(x.2.1 - st.index - 1).toNat, by omega⟩
  rw [hkk, Int.toNat_natCast] at k hle
  rw [hkk, Int.toNat_natCast]
  have hRl : Recs eE H8 sl st.l := Own.recs eElen (by decide) (hc.own 1 rfl) (by omega)
  have hnl := hRl.len
  have c5 : cellH H8 ⟨c, 0 + 5, none⟩ = some (.slice sl.p sl.n sl.c) := hc.cell 0 rfl rfl
  refine ⟨fun a H' => H' = H8 ∧ a = aheadX st kk, br_intro (fun u => ?_) (fun u => ⟨rfl, rfl, ?_⟩), ?_⟩
  · have u := of_decide_eq_true u
    rw [wrap64_id (n := (kk : Int) - 1) (by omega) (by omega)]
    obtain ⟨q6, o6, y, y1, y2, y3⟩ := hRl.at_ eElen (by decide) (j := (kk : Int) - 1) (by omega) (by omega)
    refine ⟨sl, c5, q6, o6, y1, by omega, by omega, _, y3 0 _ rfl, rfl, rfl, ?_⟩
    unfold aheadX
    have e : ((kk : Int) - 1).toNat = kk - 1 := by omega
    rw [if_neg (by omega), ← e, y2]
  · have u := of_decide_eq_false u
    unfold aheadX
    rw [if_pos (by omega)]
  rintro _ H9 ⟨rfl, rfl⟩
  refine ⟨q5, o, x1, by decide, by omega, _, x3 0 _ rfl, br_intro (fun u => ?_) (fun u => ?_)⟩
  · rw [if_pos (of_decide_eq_true u)] at k; exact k F H9 hS h
  have u := of_decide_eq_false u
  rw [if_neg u] at k
  have el : (⟨#[114]⟩ : ByteArray) ++ (⟨#[46, 108, 111, 103]⟩ : ByteArray) = nLog := by decide +kernel
  have hbx : ∀ y ∈ x :: r, i64B y.1 ∧ i64B y.2.1 ∧ y.2.2.size ≤ 2048 := fun y hy => by
    obtain ⟨⟨a1, a2⟩, ⟨a3, a4⟩, a5⟩ := hp.ok y hy
    exact ⟨⟨by omega, by omega⟩, ⟨by omega, by omega⟩, a5⟩
  have hRf : Recs eE H9 (sl.from_ kk 3) (st.l.drop kk) := by
    have := hRl.from_ eElen (j := (kk : Int)) (by omega) (by omega)
    rw [Int.toNat_natCast] at this
    exact this
  have hlx := ents_len (l := x :: r) fun y hy => (hbx y hy).2.2
  have hld := ents_len (l := st.l.drop kk) fun y hy => (hbd y (List.mem_of_mem_drop hy)).2.2
  have hlt := ents_len (l := st.l.take kk) fun y hy => (hbd y (List.mem_of_mem_take hy)).2.2
  rw [List.length_drop] at hld
  rw [List.length_take] at hlt
  have zx := strN_size (ents_bytes (x :: r))
  have zd := strN_size (ents_bytes (st.l.drop kk))
  have zt := strN_size (ents_bytes (st.l.take kk))
  have hspl : st.l.flatMap entN = (st.l.take kk).flatMap entN ++ (st.l.drop kk).flatMap entN := by rw [← List.flatMap_append, List.take_append_drop]
  have hun := useF_nonneg F
  obtain ⟨hsz0, hsz1⟩ : 0 ≤ size - useF F ∧ size ≤ 16777216 := by
    obtain ⟨mb, fs, ⟨hB, -⟩, -⟩ := dsk_open.1 (h.pull 1 rfl)
    exact ⟨by have := hB.use; omega, hB.s1⟩
  refine ⟨_, hc.cell 0 rfl rfl, by decide, sl, c5, by omega, by omega, bytes9_spec (s := l) (l := x :: r) hR1 hbx (by omega) fun H10 s10 => ⟨_, rfl, s10, bytes9_spec (s := sl.from_ kk 3) (l := st.l.drop kk) (Recs.mono _ _ s10 hRf) (fun y hy => hbd y (List.mem_of_mem_drop hy)) (by rw [List.length_drop]; omega) fun H11 s11 => ⟨_, rfl, s10.trans s11, _, (hc.up (s10.trans s11)).cell 0 rfl rfl, ?_⟩⟩⟩
  have h11 := h.up (s10.trans s11)
  have hR11 := Recs.mono _ _ (s10.trans s11) hR1
  rw [el]
  refine free_spec (i := 1) h11 rfl ⟨_, rfl, ?_⟩
  rw [wrap64_id (n := size - useF F + ((strN ((st.l.drop kk).flatMap entN)).size : Nat)) (by omega) (by omega)]
  refine br_intro (fun u2 => ?_) (fun u2 => ?_)
  · rw [if_pos (of_decide_eq_true u2)] at k; exact k F H11 hS h11
  have u2 := of_decide_eq_false u2
  rw [if_neg u2] at k
  obtain ⟨a, b, c', rfl, ha, hb, hc'⟩ := hS
  have huse := use_mk a b c'
  have hsa : sz a = ((strN ((st.l.take kk).flatMap entN)).size : Int) + (strN ((st.l.drop kk).flatMap entN)).size := by
    rcases ha with ⟨rfl, e⟩ | rfl
    · rw [e]; simp; rfl
    · show ((strN (st.l.flatMap entN)).size : Int) = _
      rw [strN_size (ents_bytes _), hspl, List.length_append, zt, zd]; omega
  refine ⟨fun H' => ∃ a1, sz a1 = ((strN ((st.l.take kk).flatMap entN)).size : Int) ∧ a1.getD ⟨#[]⟩ = strN ((st.l.take kk).flatMap entN) ∧ HL.Holds (lgc c d st :: dsk d size (mkF a1 b c') :: cs) H', br_intro (fun u3 => ?_) (fun u3 => ⟨rfl, a, ?_, ?_, h11⟩), ?_⟩
  · have u3 := of_decide_eq_true u3
    have ha2 : a = some (strN (st.l.flatMap entN)) := by
      rcases ha with ⟨rfl, e⟩ | rfl
      · rw [e] at u3; simp at u3; exact absurd u3 (by decide)
      · rfl
    have hc11 := hc.up (s10.trans s11)
    refine ⟨_, hc11.cell 0 rfl rfl, _, hc11.cell 0 rfl rfl, size_spec (i := 1) h11 rfl ⟨_, rfl, HL.Sub.refl _, ?_⟩⟩
    rw [get_log, hsa]
    have e : IntKind.wrap .i64 (((strN ((st.l.take kk).flatMap entN)).size : Int) + (strN ((st.l.drop kk).flatMap entN)).size - ((strN ((st.l.drop kk).flatMap entN)).size : Nat)) = ((strN ((st.l.take kk).flatMap entN)).size : Nat) := by
      rw [wrap64_id (by omega) (by omega)]; omega
    rw [e]
    refine cut_spec (h11.pull 1 rfl) fun H12 h12 => ⟨_, rfl, rfl, ?_⟩
    have hcut := (cut_log (a := a) (b := b) (c := c') (m := ((strN ((st.l.take kk).flatMap entN)).size : Nat)) ha2 (by omega) (by have := strN_size (ents_bytes st.l); rw [hspl] at this ⊢; rw [List.length_append] at this; omega)).2
    rw [hcut, Int.toNat_natCast, zt, hspl, strN_ext (ents_bytes _) (ents_bytes _)] at h12
    exact ⟨_, rfl, rfl, h12.down 1⟩
  · have u3 := of_decide_eq_false u3
    omega
  · have u3 := of_decide_eq_false u3
    have e : (st.l.drop kk).flatMap entN = [] := List.eq_nil_of_length_eq_zero (by omega)
    rw [e, List.append_nil] at hspl
    rcases ha with ⟨rfl, e⟩ | rfl
    · rw [e]; simp; rfl
    · rw [← hspl]; rfl
  rintro H15 ⟨a1, w1, w2, h15⟩
  obtain ⟨sl2, hc15⟩ := lgc_open.1 h15
  have happ := app_log (size := size) (a := a1) (b := b) (c := c') (s := strN ((x :: r).flatMap entN)) (by omega)
  refine ⟨_, hc15.cell 0 rfl rfl, append_spec (h15.pull 1 rfl) (by omega) fun H16 h16 => ⟨_, rfl, ?_⟩⟩
  rw [happ.1]
  have h16b := h16.down 1
  obtain ⟨sl3, hc16⟩ := lgc_open.1 h16b
  refine br_f rfl ⟨_, hc16.cell 0 rfl rfl, sync_spec h16 fun H17 h17 => ⟨_, rfl, ?_⟩⟩
  rw [happ.2, w2, strN_app, ← List.flatMap_append] at h17
  have h17b := h17.down 1
  obtain ⟨sl4, hc17⟩ := lgc_open.1 h17b
  have hR17 := hR _ (g.at_ h17b (i + 2) ei)
  have hRl17 : Recs eE H17 sl4 st.l := Own.recs eElen (by decide) (hc17.own 1 rfl) (by omega)
  have hcap17 := hRl17.cap
  have hn17 := hRl17.len
  have hup := hRl17.upto eElen (j := (kk : Int)) (by omega) (by omega)
  rw [Int.toNat_natCast] at hup
  have hcells : CellsAt H17 (slP sl4.p ((kk : Int).toNat) (0 : Int) 3) ((st.l.take kk).flatMap eE) := by
    have : CellsAt H17 (slP sl4.p sl4.c 0 3) ((st.l.take kk).flatMap eE) := hup.cells
    rw [slP_zero] at this
    rw [slP_zero]; exact this
  rw [Int.toNat_natCast] at hcells
  refine ⟨sl4, hc17.cell 0 rfl rfl, by omega, by omega, by omega, by omega, ?_⟩
  refine appendNew okEn okEn.under hc17 hcells (by rw [flat_len eElen, List.length_take]; congr 1; omega) hR17.cells (by rw [flat_len eElen, hR17.len]) (by omega) (by omega) fun r' H18 s18 h18 n18 => ⟨r', rfl, ?_⟩
  refine h18.store 1 rfl (by simp) fun H19 h19 => k _ H19 ⟨_, _, _, rfl, .inr rfl, hb, hc'⟩ (lgc_open.2 ⟨r', ?_⟩)
  rw [← List.flatMap_append] at h19
  have h20 : HL.Holds (ownE r' (st.l.take kk ++ x :: r) :: blk c (.cells #[.int .i64 st.term, .int .i64 st.vote, .int .i64 st.index, .int .i64 st.snapped, .string st.data, .slice r'.p r'.n r'.c, .pointer (some ⟨d, 0, none⟩), .string ⟨#[114]⟩] 40 (0, 0)) :: ownE sl4 st.l :: dsk d size (mkF (some (strN ((st.l.take kk ++ x :: r).flatMap entN))) b c') :: cs) H19 := h19
  exact ((h20.pull 2 rfl).tail).swap
end
end Go.Proofs.YtmneimfhcjkinaaDoor
