/- Chapter 8: lists of notes: latest, ahead, clone, concat. -/
import Derived.Test.YtkabaoigablphaaS2
namespace Go.Proofs.Ytkabaoigablphaa
open Go.HL
set_option maxHeartbeats 800000
set_option maxRecDepth 10000

/-- A note: epoch, sequence, how many, offset. -/
abbrev Nt := Int × Int × Int × Int
abbrev eN : Nt → List Value := fun x => [.int .i64 x.1, .int .i64 x.2.1, .int .i64 x.2.2.1, .int .i64 x.2.2.2]
theorem eNlen : ∀ x, (eN x).length = 4 := fun _ => rfl
theorem ok56 : ElemOK Try.prog 56 62 4 := ElemOK.of (by kernel_rfl)
theorem u3 : Try.prog.underlying 3 = some (.int .i64) := by kernel_rfl
theorem z62 : zeroT Try.prog 62 = some (.agg #[.int .i64 0, .int .i64 0, .int .i64 0, .int .i64 0]) := by kernel_rfl
def nt0 : Nt := (0, 0, 0, 0)
abbrev ownN (s : Sl) (l : List Nt) : Chunk := own 62 4 s (l.flatMap eN)
theorem noTups_notes (l : List Nt) : noTups (l.flatMap eN) = true := by
  induction l with
  | nil => rfl
  | cons a l ih => exact ih
/-- The last epoch's notes, at most so many. -/
def latK (l : List Nt) (most : Nat) : Nat → Nat
  | 0 => 0
  | i + 1 => if l.length - (i + 1) < most ∧ (l.getD i nt0).1 = (l.getD (l.length - 1) nt0).1 then latK l most i else i + 1
theorem latK_le (l : List Nt) (most : Nat) : ∀ i, latK l most i ≤ i := by
  intro i
  induction i with
  | zero => exact Nat.le_refl _
  | succ i ih =>
    unfold latK
    split
    · omega
    · exact Nat.le_refl _
def latestM (l : List Nt) (most : Nat) : List Nt := l.drop (latK l most l.length)
theorem Recs.getN {H : Heap} {s : Sl} {l : List Nt} (h : Recs eN H s l) {j : Int} (h0 : 0 ≤ j) (h1 : j < s.n) : ∃ q o, s.p = some ⟨q, o, none⟩ ∧ ∀ f v, (eN (l.getD j.toNat nt0))[f]? = some v → cellH H ⟨q, o + j.toNat * 4 + f, none⟩ = some v := by
  obtain ⟨q, o, a, e1, e2, e3⟩ := h.at_ eNlen (by decide) h0 h1
  refine ⟨q, o, e1, ?_⟩
  have : l.getD j.toNat nt0 = a := by rw [List.getD, e2]; rfl
  rw [this]; exact e3
theorem latest_spec {H : Heap} {s : Sl} {l : List Nt} {most : Nat} {K : Value → Heap → Prop} (h : Recs eN H s l) (k : ∀ r : Sl, Recs eN H r (latestM l most) → K (.slice r.p r.n r.c) H) : FnH Try.prog 31 #[.slice s.p s.n s.c, .int .i64 most] H K := by
  apply dedup_latest_fn
  unfold dedup_latest_vc
  have hl := h.len
  have hb := h.big
  refine ⟨fun i H1 => H1 = H ∧ 0 ≤ i ∧ i ≤ s.n ∧ latK l most i.toNat = latK l most l.length, fun i _ => i.toNat, ⟨rfl, by omega, by omega, by rw [hl]; rfl⟩, ?_⟩
  rintro i H1 ⟨rfl, i0, i1, hk⟩
  have out : latK l most i.toNat = i.toNat → 0 ≤ i ∧ i ≤ (s.n : Nat) ∧ K (.slice (slP s.p s.c i 4) (Int.toNat ((s.n : Nat) - i)) (Int.toNat ((s.c : Nat) - i))) H1 := fun e => by
    refine ⟨i0, i1, k (s.from_ i 4) ?_⟩
    have := h.from_ eNlen i0 i1
    rw [← e, hk] at this
    exact this
  refine br_intro (fun q => ?_) (fun q => out ?_)
  · have q := of_decide_eq_true q
    obtain ⟨j, ej⟩ : ∃ j : Nat, i = (j : Int) + 1 := ⟨i.toNat - 1, by omega⟩
    subst ej
    have e1 : ((j : Int) + 1).toNat = j + 1 := by omega
    rw [wrap64_id (n := (s.n : Int) - ((j : Int) + 1)) (by omega) (by omega), wrap64_id (n := (j : Int) + 1 - 1) (by omega) (by omega), wrap64_id (n := (s.n : Int) - 1) (by omega) (by omega)]
    have ej : (j : Int) + 1 - 1 = j := by omega
    rw [ej]
    have unf : latK l most (j + 1) = if l.length - (j + 1) < most ∧ (l.getD j nt0).1 = (l.getD (l.length - 1) nt0).1 then latK l most j else j + 1 := rfl
    refine br_intro (fun v => ?_) (fun v => out ?_)
    · have v := of_decide_eq_true v
      obtain ⟨q1, o1, p1, p2⟩ := Recs.getN h (j := j) (by omega) (by omega)
      obtain ⟨q2, o2, r1, r2⟩ := Recs.getN h (j := (s.n : Int) - 1) (by omega) (by omega)
      have eL : ((s.n : Int) - 1).toNat = l.length - 1 := by omega
      refine ⟨q1, o1, p1, by omega, by omega, (l.getD j nt0).1, p2 0 _ rfl, q2, o2, r1, by omega, by omega, (l.getD (l.length - 1) nt0).1, by have := r2 0 _ rfl; rw [eL] at this ⊢; exact this, br_intro (fun w => ⟨rfl, ⟨rfl, by omega, by omega, ?_⟩, by dsimp only; omega⟩) (fun w => out ?_)⟩
      · have w : (l.getD j nt0).1 = (l.getD (l.length - 1) nt0).1 := by simpa using w
        rw [← hk, e1, unf, if_pos ⟨by omega, w⟩]; rfl
      · have w : ¬ (l.getD j nt0).1 = (l.getD (l.length - 1) nt0).1 := by simpa using w
        rw [e1, unf, if_neg (fun z => w z.2)]
    · have v := of_decide_eq_false v
      rw [e1, unf, if_neg (fun z => by omega)]
  · have q := of_decide_eq_false q
    have : i.toNat = 0 := by omega
    rw [this]; rfl
/-- How many notes stand ahead of an offset. -/
def aheadM (l : List Nt) (off : Int) : Nat := (l.takeWhile fun x => decide (x.2.2.2 < off)).length
theorem aheadM_le (l : List Nt) (off : Int) : aheadM l off ≤ l.length := (List.takeWhile_sublist _).length_le
theorem pred_spec {x : Nt} {q : Nat} {off : Int} {H : Heap} {T : Nat} {K : Value → Heap → Prop} (hq : H q = some (.cells #[.int .i64 off] T (0, 0))) (k : K (.bool (decide (x.2.2.2 ≥ off))) H) :
    FnH Try.prog 49 #[.agg #[.int .i64 x.1, .int .i64 x.2.1, .int .i64 x.2.2.1, .int .i64 x.2.2.2], .pointer (some ⟨q, 0, none⟩)] H K := by
  apply dedup_ahead_1_fn
  exact ⟨off, by rw [cellH_eq hq]; rfl, k⟩
theorem takeWhile_at {l : List Nt} {off : Int} {n : Nat} (hn : n ≤ aheadM l off) (h : n < l.length) : (n < aheadM l off ↔ (l.getD n nt0).2.2.2 < off) := by
  unfold aheadM at *
  induction l generalizing n with
  | nil => simp at h
  | cons a l ih =>
    rw [List.takeWhile_cons] at hn ⊢
    by_cases q : a.2.2.2 < off
    · rw [if_pos (decide_eq_true q)] at hn ⊢
      cases n with
      | zero => simp [q]
      | succ n =>
        simp only [List.length_cons, Nat.add_le_add_iff_right, Nat.add_lt_add_iff_right] at hn h ⊢
        rw [ih hn h]; simp
    · rw [if_neg (by simpa using q)] at hn ⊢
      have : n = 0 := by simpa using hn
      subst this
      simp [q]
theorem ahead_spec {H : Heap} {s : Sl} {l : List Nt} {off : Int} {K : Value → Heap → Prop} (h : Recs eN H s l) (k : ∀ H', HL.Sub H H' → K (.int .i64 (aheadM l off)) H') : FnH Try.prog 28 #[.slice s.p s.n s.c, .int .i64 off] H K := by
  apply dedup_ahead_fn
  unfold dedup_ahead_vc
  intro q hq
  refine letH_intro fun H1 g1 => ?_
  have s1 : HL.Sub H H1 := by rw [g1]; exact Sub.new hq _
  have hb : H1 q = some (.cells #[.int .i64 off] 3 (0, 0)) := by rw [g1]; exact Heap.upd_same _ _ _
  have h1 : Recs eN H1 s l := Recs.mono _ _ s1 h
  have hl := h.len
  have hbg := h.big
  have hle := aheadM_le l off
  apply IndexFunc_ahead_fn
  unfold IndexFunc_ahead_vc
  refine ⟨fun n H2 => H2 = H1 ∧ 0 ≤ n ∧ n ≤ aheadM l off, fun n _ => (s.n - n).toNat, ⟨rfl, Int.le_refl _, by omega⟩, ?_⟩
  rintro n H2 ⟨rfl, n0, n1⟩
  refine br_intro (fun v => ?_) (fun v => ?_)
  · have v := of_decide_eq_true v
    obtain ⟨b, o, p1, p2⟩ := Recs.getN h1 n0 v
    have hw := takeWhile_at (l := l) (off := off) (n := n.toNat) (by omega) (by omega)
    refine ⟨b, o, p1, n0, v, _, p2 0 _ rfl, _, p2 1 _ rfl, _, p2 2 _ rfl, _, p2 3 _ rfl, pred_spec (x := l.getD n.toNat nt0) hb ⟨_, rfl, br_intro (fun w => ?_) (fun w => ?_)⟩⟩
    · have w := of_decide_eq_true w
      have : n = aheadM l off := by omega
      refine ⟨n, rfl, br_f (decide_eq_false (by omega)) ?_⟩
      rw [this]; exact k _ s1
    · have w := of_decide_eq_false w
      rw [wrap64_id (n := n + 1) (by omega) (by omega)]
      exact ⟨rfl, ⟨rfl, by omega, by omega⟩, by dsimp only; omega⟩
  · have v := of_decide_eq_false v
    have : (aheadM l off : Int) = s.n := by omega
    refine ⟨-1, rfl, br_t rfl ?_⟩
    rw [← this]; exact k _ s1
theorem clone_spec {cs : List Chunk} {H : Heap} {s : Sl} {l : List Nt} {K : Value → Heap → Prop} (h : Holds cs H) (hl : Recs eN H s l) (hb : l.length ≤ 1000000) (k : ∀ (r : Sl) H', Holds (ownN r l :: cs) H' → r.n = l.length → K (.slice r.p r.n r.c) H') :
    FnH Try.prog 29 #[.slice s.p s.n s.c] H K := by
  apply slices_Clone_Ldedup_note_dedup_note_fn
  unfold slices_Clone_Ldedup_note_dedup_note_vc
  have hn := hl.len
  refine br_intro (fun q => ?_) (fun q => ?_)
  · have e : l = [] := by
      cases l with
      | nil => rfl
      | cons a l =>
        obtain ⟨b, o, h1, -⟩ := Recs.getN hl (j := 0) (Int.le_refl _) (by rw [hn]; simp)
        rw [h1] at q; cases q
    subst e
    exact k ⟨none, 0, 0⟩ H (h.own_nil _ _) rfl
  · refine h.newS fun q1 H1 s1 h1 => ?_
    have h2 : Holds (own 62 4 ⟨some ⟨q1, 0, none⟩, 0, 0⟩ [] :: cs) H1 := h1.head fun A hA => ⟨rfl, Nat.le_refl _, .inr ⟨q1, #[], rfl, hA, rfl, fun i hi => by simp at hi⟩⟩
    refine Holds.append (s := ⟨some ⟨q1, 0, none⟩, 0, 0⟩) ok56 ok56.under h2 (hl.cells.sub s1) (by rw [flat_len eNlen, hn]) (noTups_notes l) (by rw [hn]; show 0 + l.length ≤ _; omega) fun r H' h' n' => ⟨r, rfl, k r H' h' ?_⟩
    rw [n', hn]; show 0 + l.length = _; omega
/-- Room for so many, of nothing. -/
theorem grow_spec {cs : List Chunk} {H : Heap} {n : Nat} {K : Value → Heap → Prop} (h : Holds cs H) (hb : n ≤ 1000000) (k : ∀ (r : Sl) H', Holds (ownN r [] :: cs) H' → r.n = 0 → K (.slice r.p r.n r.c) H') : FnH Try.prog 50 #[.slice none 0 0, .int .i64 n] H K := by
  apply slices_Grow_Ldedup_note_dedup_note_fn (s := ⟨none, 0, 0⟩)
  unfold slices_Grow_Ldedup_note_dedup_note_vc
  have e0 : IntKind.wrap .i64 (((0 : Nat) : Int) - ((0 : Nat) : Int)) = 0 := by rw [wrap64_id (by omega) (by omega)]; rfl
  have e1 : IntKind.wrap .i64 ((n : Int) - 0) = n := by rw [wrap64_id (by omega) (by omega)]; omega
  refine br_f (decide_eq_false (by omega)) ?_
  dsimp only
  rw [e0, e1]
  refine br_intro (fun q => ⟨by omega, by omega, ?_⟩) (fun q => k ⟨none, 0, 0⟩ H (h.own_nil _ _) rfl)
  have h2 : Holds (own 62 4 ⟨slP none 0 (0 : Int) 4, Int.toNat (((0 : Nat) : Int) - 0), Int.toNat (((0 : Nat) : Int) - 0)⟩ [] :: cs) H := h.own_nil _ _
  refine Holds.appendZ (s := ⟨slP none 0 (0 : Int) 4, Int.toNat (((0 : Nat) : Int) - 0), Int.toNat (((0 : Nat) : Int) - 0)⟩) ok56 u3 z62 (fun m => ?_) h2 (by show 0 + n ≤ _; omega) fun r H' h' n' => ⟨r, rfl, by omega, by omega, ?_⟩
  · induction m with
    | zero => rfl
    | succ m ih => exact ih
  · refine k (r.upto 0 4) H' (h'.head fun A hA => ?_) (by show Int.toNat (0 - 0) = 0; rfl)
    have := hA.shorten (i := 0) (Int.le_refl _) (by omega)
    have t2 : Own A 62 4 (r.upto 0 4) [] := by simpa using this
    exact t2
theorem w01 : IntKind.wrap .i64 ((0 : Int) + 1) = 1 := by rw [wrap64_id (by omega) (by omega)]; rfl
theorem w12 : IntKind.wrap .i64 ((1 : Int) + 1) = 2 := by rw [wrap64_id (by omega) (by omega)]; rfl
/-- Two lists, one behind the other. -/
theorem concat_spec {cs : List Chunk} {H : Heap} {q : Nat} {a b : Sl} {la lb : List Nt} {c0 : Chunk} {i : Nat} {K : Value → Heap → Prop} (h : Holds (blk q (.cells #[.slice a.p a.n a.c, .slice b.p b.n b.c] 56 (0, 0)) :: cs) H) (ga : Gives c0 fun A => Recs eN A a la) (gb : Gives c0 fun A => Recs eN A b lb) (hi : cs[i]? = some c0)
    (hla : la.length ≤ 100000) (hlb : lb.length ≤ 100000) (k : ∀ (r : Sl) H', Holds (ownN r (la ++ lb) :: cs) H' → r.n = (la ++ lb).length → K (.slice r.p r.n r.c) H') : FnH Try.prog 30 #[.slice (some ⟨q, 0, none⟩) 2 2] H K := by
  apply slices_Concat_Ldedup_note_dedup_note_fn (slices := ⟨some ⟨q, 0, none⟩, 2, 2⟩)
  unfold slices_Concat_Ldedup_note_dedup_note_vc
  have na := (ga.at_ h (i + 1) (by simpa using hi)).len
  have nb := (gb.at_ h (i + 1) (by simpa using hi)).len
  refine ⟨fun z n H1 => H1 = H ∧ (n = 0 ∧ z = 0 ∨ n = 1 ∧ z = (a.n : Int) ∨ n = 2 ∧ z = ((a.n + b.n : Nat) : Int)), fun _ n _ => (2 - n).toNat, ⟨rfl, .inl ⟨rfl, rfl⟩⟩, ?_⟩
  rintro z n H1 ⟨rfl, hz⟩
  refine br_intro (fun v => ?_) (fun v => ?_)
  · have v : n < 2 := of_decide_eq_true v
    rcases hz with ⟨rfl, rfl⟩ | ⟨rfl, rfl⟩ | ⟨rfl, rfl⟩
    · refine ⟨q, 0, rfl, by omega, by omega, a, h.cell 0 rfl rfl, ?_⟩
      rw [wrap64_id (n := (0 : Int) + (a.n : Int)) (by omega) (by omega), w01]
      exact br_f (decide_eq_false (by omega)) ⟨rfl, ⟨rfl, .inr (.inl ⟨rfl, by omega⟩)⟩, by dsimp only; omega⟩
    · refine ⟨q, 0, rfl, by omega, by omega, b, h.cell 0 rfl rfl, ?_⟩
      rw [wrap64_id (n := (a.n : Int) + (b.n : Int)) (by omega) (by omega), w12]
      exact br_f (decide_eq_false (by omega)) ⟨rfl, ⟨rfl, .inr (.inr ⟨rfl, by omega⟩)⟩, by dsimp only; omega⟩
    · omega
  · have v : ¬ n < 2 := of_decide_eq_false v
    have hz2 : z = ((a.n + b.n : Nat) : Int) := by omega
    subst hz2
    refine grow_spec h (by omega) fun r H2 h2 n2 => ⟨r, rfl, ?_⟩
    refine ⟨fun r n H => 0 ≤ n ∧ n ≤ 2 ∧ Holds (ownN r (([la, lb].take n.toNat).flatten) :: blk q (.cells #[.slice a.p a.n a.c, .slice b.p b.n b.c] 56 (0, 0)) :: cs) H, fun _ n _ => (2 - n).toNat, ⟨Int.le_refl _, by decide, h2⟩, ?_⟩
    rintro r2 m H3 ⟨m0, m1, h3⟩
    have hr := (h3.own 0 rfl).1
    rw [flat_len eNlen] at hr
    refine br_intro (fun w => ?_) (fun w => ?_)
    · have w : m < 2 := of_decide_eq_true w
      have hm : m = 0 ∨ m = 1 := by omega
      rcases hm with rfl | rfl
      · have hr0 : r2.n = 0 := by simp at hr; omega
        have hA := ga.at_ h3 (i + 2) (by simpa using hi)
        refine ⟨q, 0, rfl, by omega, by omega, a, h3.cell 1 rfl rfl, ?_⟩
        rw [w01]
        refine Holds.append ok56 ok56.under h3 hA.cells (by rw [flat_len eNlen, na]) (noTups_notes la) (by omega) fun r3 H4 h4 n4 => ⟨r3, rfl, rfl, ⟨by decide, by decide, ?_⟩, by dsimp only; omega⟩
        simpa using h4
      · have hr0 : r2.n = la.length := by
          have : ([la, lb].take (1 : Int).toNat).flatten.length = la.length := by simp
          omega
        have hB := gb.at_ h3 (i + 2) (by simpa using hi)
        refine ⟨q, 0, rfl, by omega, by omega, b, h3.cell 1 rfl rfl, ?_⟩
        rw [w12]
        refine Holds.append ok56 ok56.under h3 hB.cells (by rw [flat_len eNlen, nb]) (noTups_notes lb) (by omega) fun r3 H4 h4 n4 => ⟨r3, rfl, rfl, ⟨by decide, by decide, ?_⟩, by dsimp only; omega⟩
        have e2 : ([la, lb].take (2 : Int).toNat).flatten = la ++ lb := by simp
        have e3 : (la ++ lb).flatMap eN = la.flatMap eN ++ lb.flatMap eN := List.flatMap_append
        rw [e2]
        show Holds (own 62 4 r3 ((la ++ lb).flatMap eN) :: _) H4
        rw [e3]
        simpa using h4
    · have w : ¬ m < 2 := of_decide_eq_false w
      have : m = 2 := by omega
      subst this
      have e : ([la, lb].take (2 : Int).toNat).flatten = la ++ lb := by simp
      rw [e] at h3 hr
      have h5 : Holds (ownN r2 (la ++ lb) :: cs) H3 := h3.swap.tail
      exact k r2 H3 h5 (by omega)
end Go.Proofs.Ytkabaoigablphaa
