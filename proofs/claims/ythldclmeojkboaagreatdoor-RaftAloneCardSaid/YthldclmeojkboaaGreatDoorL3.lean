import Derived.Test.YthldclmeojkboaaGreatDoorL1
import Derived.Test.YthldclmeojkboaaGreatDoorP4
import Derived.Test.YthldclmeojkboaaGreatDoorV6
namespace Go.Proofs.YthldclmeojkboaaGreatDoor
open Go Go.HL
set_option maxHeartbeats 1600000
set_option maxRecDepth 100000
theorem okS : ElemOK Tryz.prog 46 9 1 := ElemOK.of (by kernel_rfl)
theorem first_tick {size now : Int} {n : Nd} (hr : n.role = 0) (hd : n.deadline = -1) (hw : n.wait = 10) (h0 : 0 ≤ now) (h1 : now ≤ 1000) : n.tick size now 0 = { n with draw := 0, deadline := now + 10 } := by
  have e1 : ({ n with draw := dist 0 } : Nd) = { n with draw := 0 } := rfl
  have e2 : (({ n with draw := 0 } : Nd)).anew now = { n with draw := 0, deadline := now + 10 } := by
    show ({ n with draw := 0, deadline := W (W (now + n.wait) + Int.tmod 0 n.wait) } : Nd) = _
    have ew : W (W (now + 10) + Int.tmod 0 10) = now + 10 := by
      show IntKind.i64.wrap (IntKind.i64.wrap (now + 10) + 0) = _
      rw [wrap64_id (n := now + 10) (by omega) (by omega), Int.add_zero, wrap64_id (by omega) (by omega)]
    rw [hw, ew]
  unfold Nd.tick
  rw [e1]
  unfold Nd.tick1
  rw [if_neg (by show ¬ n.role = 2; rw [hr]; decide)]
  show (if now ≥ (if n.deadline = -1 then (({ n with draw := 0 } : Nd)).anew now else ({ n with draw := 0 } : Nd)).deadline then _ else (if n.deadline = -1 then (({ n with draw := 0 } : Nd)).anew now else ({ n with draw := 0 } : Nd))) = _
  rw [if_pos hd, e2, if_neg (by show ¬ now ≥ now + 10; omega)]
theorem second_tick {size now : Int} {n : Nd} (hr : n.role = 0) (hd : ¬ n.deadline = -1) (hn : now ≥ n.deadline) : n.tick size now 0 = ({ n with draw := 0 } : Nd).stand size now := by
  have e1 : ({ n with draw := dist 0 } : Nd) = { n with draw := 0 } := rfl
  unfold Nd.tick
  rw [e1]
  unfold Nd.tick1
  rw [if_neg (by show ¬ n.role = 2; rw [hr]; decide)]
  show (if now ≥ (if n.deadline = -1 then (({ n with draw := 0 } : Nd)).anew now else ({ n with draw := 0 } : Nd)).deadline then (if n.deadline = -1 then (({ n with draw := 0 } : Nd)).anew now else ({ n with draw := 0 } : Nd)).stand size now else _) = _
  rw [if_neg hd, if_pos hn]
structure AS (n : Nd) (ws : List ByteArray) : Prop where
  out : n.out = []
  ps : n.ps = []
  role : n.role = 2
  index : n.st.index = 0
  low : LowT n.st
  term : 1 ≤ n.st.term
  taken : n.taken = 0
  commit : n.commit = n.fin
  len : ws.length + 1 ≤ n.st.l.length
  ent : ∀ (i : Nat) (d : ByteArray), ws[i]? = some d → ∃ t : Int, n.st.l[i + 1]? = some (t, (i : Int) + 2, d)
theorem start_alone {st : RS} {ws : List ByteArray} (hL : Lg st) (hi : st.index = 0) (hlow : LowT st) (ht : st.term ≤ 1000) (hl : st.l.length ≤ 100) {t0 t1 : Int} (h0 : 0 ≤ t0) (h1 : t1 = t0 + 10) (h2 : t1 ≤ 100) (hw : ws.length ≤ st.l.length) (he : ∀ (i : Nat) (d : ByteArray), ws[i]? = some d → ∃ t : Int, st.l[i + 1]? = some (t, (i : Int) + 2, d)) :
    AS (((newN 3 [3] 10 st).tick 1000000 t0 0).said.tick 1000000 t1 0).said ws ∧ (((newN 3 [3] 10 st).tick 1000000 t0 0).said.tick 1000000 t1 0).said.st = more { st with term := st.term + 1, vote := 3 } ⟨#[]⟩ := by
  have hf := hL.ok.good.last
  have hf2 : (newN 3 [3] 10 st).fin = (lastX st).1 := rfl
  have h4 := hL.ok.term.1
  have e1 := first_tick (size := 1000000) (n := newN 3 [3] 10 st) rfl rfl rfl h0 (by omega : t0 ≤ 1000)
  rw [e1]
  have e2 : ({ newN 3 [3] 10 st with draw := 0, deadline := t0 + 10 } : Nd).said = { newN 3 [3] 10 st with draw := 0, deadline := t0 + 10 } := rfl
  rw [e2]
  have e3 := second_tick (size := 1000000) (now := t1) (n := ({ newN 3 [3] 10 st with draw := 0, deadline := t0 + 10 } : Nd)) rfl (by show ¬ t0 + 10 = -1; omega) (by show t1 ≥ t0 + 10; omega)
  rw [e3]
  have e4 := stand_alone (size := 1000000) (now := t1) (n := ({ newN 3 [3] 10 st with draw := 0, deadline := t0 + 10 } : Nd)) rfl hL hi hlow (by show 0 ≤ (3 : Int) ∧ (3 : Int) ≤ _; decide) (by show st.term + 1 ≤ _; omega) (by show (lastX st).1 + 1 ≤ _; omega) (by show 2086 * (st.l.length : Int) + 5000 ≤ _; omega) (by show st.index ≤ (lastX st).1; omega)
  have e5 : ({ ({ newN 3 [3] 10 st with draw := 0, deadline := t0 + 10 } : Nd) with draw := 0 } : Nd) = { newN 3 [3] 10 st with draw := 0, deadline := t0 + 10 } := rfl
  rw [e5, e4]
  have el : lastX ({ st with term := st.term + 1, vote := 3 } : RS) = lastX st := rfl
  refine ⟨⟨rfl, rfl, rfl, hi, ?_, by show 1 ≤ st.term + 1; omega, rfl, ?_, ?_, fun i d hd => ?_⟩, rfl⟩
  · exact more_low (st := { st with term := st.term + 1, vote := 3 }) ⟨by have := hlow.1; show st.snapped ≤ st.term + 1; omega, fun x hx => by have := hlow.2 x hx; show x.1 ≤ st.term + 1; omega⟩ _
  · show (lastX st).1 + 1 = (lastX (more { st with term := st.term + 1, vote := 3 } ⟨#[]⟩)).1
    rw [more_last]; rfl
  · show ws.length + 1 ≤ (st.l ++ [_]).length
    rw [List.length_append]; exact Nat.succ_le_succ hw
  · obtain ⟨t, h⟩ := he i d hd
    refine ⟨t, ?_⟩
    show (st.l ++ [_])[i + 1]? = _
    rw [List.getElem?_append_left (List.getElem?_eq_some_iff.1 h).1]; exact h
theorem alone_next {n : Nd} {ws : List ByteArray} (h : AS n ws) (hL : Lg n.st) (hl : n.st.l.length = ws.length + 1) (d : ByteArray) : AS (({ n with st := more n.st d, commit := n.fin + 1 } : Nd)).said (ws ++ [d]) ∧ (more n.st d).l.length = (ws ++ [d]).length + 1 := by
  have hf := hL.ok.good.last
  have hi := h.index
  refine ⟨⟨rfl, h.ps, h.role, h.index, more_low h.low d, h.term, h.taken, ?_, ?_, fun i x hx => ?_⟩, ?_⟩
  · show n.fin + 1 = (lastX (more n.st d)).1
    rw [more_last]
  · show (ws ++ [d]).length + 1 ≤ (n.st.l ++ [_]).length
    rw [List.length_append, List.length_append, hl]; exact Nat.le_refl _
  · show ∃ t : Int, (n.st.l ++ [(n.st.term, (lastX n.st).1 + 1, d)])[i + 1]? = _
    by_cases e : i < ws.length
    · rw [List.getElem?_append_left e] at hx
      obtain ⟨t, g⟩ := h.ent i x hx
      exact ⟨t, by rw [List.getElem?_append_left (List.getElem?_eq_some_iff.1 g).1]; exact g⟩
    · have hi2 : i < (ws ++ [d]).length := (List.getElem?_eq_some_iff.1 hx).1
      rw [List.length_append] at hi2
      have h1 : ([d] : List ByteArray).length = 1 := rfl
      have e2 : i = ws.length := by omega
      rw [e2, List.getElem?_append_right (Nat.le_refl _), Nat.sub_self] at hx
      have hx : d = x := by simpa using hx
      refine ⟨n.st.term, ?_⟩
      rw [e2, ← hl, List.getElem?_append_right (Nat.le_refl _), Nat.sub_self, ← hx]
      show some _ = some _
      congr 3
      omega
  · show (n.st.l ++ [_]).length = _
    rw [List.length_append, List.length_append, hl]; rfl
theorem take_alone {n : Nd} {ws : List ByteArray} (h : AS n ws) (hL : Lg n.st) : n.takeL = n.st.l := by
  have hf := hL.ok.good.last
  have hi := h.index
  have hc : n.commit = (lastX n.st).1 := h.commit
  have hlen := h.len
  unfold Nd.takeL
  rw [h.taken, if_neg (by omega), if_neg (by omega)]
  show [] ++ (if (0 : Int) < n.commit then fromX n.st (0 + 1) (n.commit - 0) else []) = _
  rw [if_pos (by omega), List.nil_append]
  unfold fromX
  have e : ((0 : Int) + 1 - n.st.index - 1).toNat = 0 := by omega
  rw [if_neg, e]
  · rw [List.drop_zero, List.take_of_length_le (by omega)]
  · rintro (z | z)
    · unfold atX at z
      rw [if_neg (by omega), e, List.getElem?_eq_none_iff] at z
      omega
    · omega
section
variable {K : Value → Heap → Prop}
theorem three1_store {cs : List Chunk} {H A : Heap} {f : Nat → Heap → Prop} (h : HL.Holds (ro A :: cs) H) (k : ∀ b A' H', HL.Sub A A' → Ints A' ⟨some ⟨b, 0, none⟩, 1, 1⟩ [3] → HL.Holds (ro A' :: cs) H' → f b H') :
    ∀ q, H q = none → letH (H.upd q (.cells #[.int .i64 3] 3 (0, 0))) (f q) := lit_store (l := [3]) h (by decide) k
theorem good_alone : goodN 3 [3] 10 := ⟨by decide, by decide, by decide, by decide, fun i v h => by
  match i, h with
  | 0, h => cases h; exact ⟨by decide, fun u h0 => absurd h0 (by decide)⟩
  | i + 1, h => simp at h⟩
theorem low0 : LowT st0 := ⟨Int.le_refl _, fun x hx => by cases hx⟩
theorem raftAlone_walk {H : Heap} {sd : Sl} {ds : List ByteArray} {cut : Int} (hs : Recs eS H sd ds) (wc : i64B cut) (k : ∀ H', HL.Sub H H' → K (.bool true) H') : FnH Tryz.prog 4 #[.slice sd.p sd.n sd.c, .int .i64 cut] H K := by
  refine logboomlaw10_RaftAlone_fn sd cut ?_
  unfold logboomlaw10_RaftAlone_vc
  have hsb := hs.big
  refine shown10_spec (cs := []) (Holds.whole H) fun A1 H1 s1 h1 => ⟨_, rfl, three1_store h1 fun b1 A2 H2 s2 i2 h2 => ?_⟩
  refine node10_spec (sv := ⟨some ⟨b1, 0, none⟩, 1, 1⟩) h2 i2 good_alone fun q c d s bs H3 h3 => ⟨_, _, rfl, br_f rfl (br_f rfl ?_)⟩
  have o0 : NdOk (newN 3 [3] 10 st0) := new_ok (by decide) (by decide) (by decide) lg0
  refine tick10_spec h3 o0 ⟨by decide, by decide⟩ (by decide) (by decide) fun A3 l1 m1 H4 s4 e4 x4 h4 => ⟨l1, rfl, ?_⟩
  have h5 := h4.tail
  have o1 := tick_said o0 (draw := 0) ⟨by decide, by decide⟩ lg0 (nodB_lg (i := 0) h5 rfl)
  have k1 := tick_p 1000000 (newN 3 [3] 10 st0) 0 0
  refine tick10_spec h5 o1 ⟨by decide, by decide⟩ (said_len _) (by have := k1.len; show (Nd.tick _ _ _ _).st.l.length ≤ _; have z : (newN 3 [3] 10 st0).st.l.length = 0 := rfl; omega) fun A4 l2 m2 H5 s5 e5 x5 h6 => ⟨l2, rfl, ?_⟩
  have h7 := h6.tail
  have o2 := tick_said o1 (draw := 0) ⟨by decide, by decide⟩ (nodB_lg (i := 0) h5 rfl) (nodB_lg (i := 0) h7 rfl)
  obtain ⟨as0, es0⟩ := start_alone (ws := []) (t0 := 0) (t1 := 10) lg0 rfl low0 (by decide) (by decide) (by decide) rfl (by decide) (Nat.zero_le _) fun i x hx => by simp at hx
  revert h7 o2 as0 es0
  generalize (((newN 3 [3] 10 st0).tick 1000000 0 0).said.tick 1000000 10 0).said = n0
  intro h7 o2 as0 es0
  refine ⟨fun want H' => ∃ (n : Nd) (ws : List ByteArray) (A : Heap), NdOk n ∧ AS n ws ∧ n.st.l.length = ws.length + 1 ∧ n.st.term = 1 ∧ ws.length ≤ 30 ∧ HL.Sub H A ∧ HL.Holds (own 9 1 want (ws.flatMap eS) :: nodB A q c d 1000000 s bs n :: ro A :: []) H', ?_, ?_⟩
  · refine ⟨fun want i H' => 0 ≤ i ∧ i ≤ 30 ∧ ∃ (n : Nd) (ws : List ByteArray) (A : Heap), NdOk n ∧ AS n ws ∧ n.st.l.length = ws.length + 1 ∧ n.st.term = 1 ∧ ws.length ≤ i.toNat ∧ HL.Sub H A ∧ HL.Holds (own 9 1 want (ws.flatMap eS) :: nodB A q c d 1000000 s bs n :: ro A :: []) H', fun _ i _ => (30 - i).toNat,
      ⟨Int.le_refl _, by decide, n0, [], A4, o2, as0, by rw [es0]; rfl, by rw [es0]; rfl, Nat.zero_le _, s1.trans (s2.trans (s4.trans s5)), h7.own_nil 9 1⟩, ?_⟩
    clear h1 h2 h3 h4 h5 h6 h7 o0 o1 o2 as0 es0 i2 n0 k1
    rintro want i H6 ⟨i0, i1, n, ws, A, hn, ha, hl, ht, hw, sA, h⟩
    refine br_intro (fun w => br_intro (fun w2 => ?_) (fun _ => ⟨rfl, n, ws, A, hn, ha, hl, ht, by omega, sA, h⟩)) (fun _ => ⟨rfl, n, ws, A, hn, ha, hl, ht, by omega, sA, h⟩)
    have w := of_decide_eq_true w
    have w2 := of_decide_eq_true w2
    obtain ⟨b, o, dd, e1, e2, e3⟩ := hs.at_ eSlen (by decide) i0 w
    have f0 : ∀ {H' : Heap}, HL.Sub H H' → cellH H' ⟨b, o + i.toNat, none⟩ = some (.string dd) := fun s => by
      have := s.cell (e3 0 _ rfl)
      rw [Nat.mul_one] at this; exact this
    have h' : HL.Holds (nodB A q c d 1000000 s bs n :: ro A :: own 9 1 want (ws.flatMap eS) :: []) H6 := h.down 2
    have hL := nodB_lg (i := 0) h' rfl
    have hf := hL.ok.good.last
    have hff : n.fin = (lastX n.st).1 := rfl
    have hix := ha.index
    have wn : want.n = ws.length := by
      have := (h.own 0 rfl).1
      rw [flat_len eSlen, Nat.mul_one, Nat.mul_one] at this
      exact this.symm
    rw [wrap64_id (n := i + 1) (by omega) (by omega)]
    refine ⟨b, o, e1, i0, w, dd, f0 (sA.trans (h.sub 2 rfl)), ?_⟩
    refine propose10_spec h' hn ha.out (by omega) fun A' l ms H7 s7 e7 m7 h8 => ⟨_, l, _, rfl, b, o, e1, i0, w, dd, f0 (sA.trans (s7.trans (h8.sub 2 rfl))), br_intro (fun y => ?_) (fun y => ?_)⟩
    · have y : dd.size > 2048 := by have := of_decide_eq_true y; omega
      have ep := propose_long (size := 1000000) ha.role hL y ha.term (by omega)
      rw [ep] at h8 ⊢
      have h9 : HL.Holds (own 9 1 want (ws.flatMap eS) :: nodB A' q c d 1000000 s bs n :: ro A' :: []) H7 := by
        have x := h8.tail
        have en : n.said = n := said_nil ha.out
        rw [en] at x
        exact x.pull 2 rfl
      exact br_f rfl ⟨rfl, ⟨by omega, by omega, n, ws, A', hn, ha, hl, ht, by omega, sA.trans s7, h9⟩, by dsimp only; omega⟩
    · have y : dd.size ≤ 2048 := by have := of_decide_eq_false y; omega
      have ep := propose_alone (size := 1000000) ha.ps ha.role hL hix ha.low y ha.term (by omega) (by omega) (by have := ha.commit; omega)
      have hn' := propose_said hn (nodB_lg (i := 1) h8 rfl)
      rw [ep] at h8 e7 hn' ⊢
      obtain ⟨ha', hl'⟩ := alone_next ha hL hl dd
      have ol := ms_len (A := A') h8 e7
      have ol : l.n = 0 := by rw [ol]; show n.out.length = 0; rw [ha.out]; rfl
      refine br_f rfl (br_f ?_ (br_f (by rw [ol]; rfl) (commit10_spec (i := 1) h8 rfl ⟨_, rfl, br_f (by show (n.fin + 1 != n.fin + 1) = false; simp) ⟨b, o, e1, i0, w, dd, f0 (sA.trans (s7.trans (h8.sub 2 rfl))), ?_⟩⟩)))
      · rw [wrap64_id (n := (want.n : Int) + 2) (by omega) (by omega)]
        show (n.fin + 1 != _) = false
        rw [bne_eq_false_iff_eq]; omega
      · have h9 : HL.Holds (own 9 1 want (ws.flatMap eS) :: nodB A' q c d 1000000 s bs ({ n with st := more n.st dd, commit := n.fin + 1 } : Nd).said :: ro A' :: []) H7 := h8.tail.pull 2 rfl
        refine Holds.push okS h9 (xs := eS dd) (m := 1) rfl rfl (by omega) fun r H10 h10 n10 => ⟨r, rfl, rfl, ⟨by omega, by omega, _, ws ++ [dd], A', hn', ha', hl', ht, by rw [List.length_append]; show ws.length + 1 ≤ _; omega, sA.trans s7, ?_⟩, by dsimp only; omega⟩
        have ef : ws.flatMap eS ++ eS dd = (ws ++ [dd]).flatMap eS := by simp
        rw [ef] at h10
        exact h10
  clear h1 h2 h3 h4 h5 h6 h7 o0 o1 o2 as0 es0 i2 n0 k1 s1 s2 s4 s5
  rintro want H11 ⟨n, ws, A, hn, ha, hl, ht, hw, sA, h⟩
  have h' : HL.Holds (nodB A q c d 1000000 s bs n :: ro A :: own 9 1 want (ws.flatMap eS) :: []) H11 := h.down 2
  have hL := nodB_lg (i := 0) h' rfl
  refine ⟨fun p H' => ∃ (q c : Nat) (s : Sl) (bs : List Nat) (n : Nd) (A : Heap), p = some ⟨q, 0, none⟩ ∧ NdOk n ∧ AS n ws ∧ HL.Sub H A ∧ HL.Holds (nodB A q c d 1000000 s bs n :: ro A :: own 9 1 want (ws.flatMap eS) :: []) H', ?_, ?_⟩
  · refine pick10_spec (by decide) ⟨_, rfl, br_intro (fun _ => ?_) (fun _ => ⟨rfl, q, c, s, bs, n, A, rfl, hn, ha, sA, h'⟩)⟩
    have gn : Gives (ro A) fun B => Ints B ⟨none, 0, 0⟩ [] := ⟨ro_mono A, fun _ _ => Ints.nil _⟩
    refine crash10_spec (keep := ⟨none, 0, 0⟩) (L := []) (i := 0) (nodB_disk h') gn rfl (fun x hx => (by cases hx)) fun H8 h8 => ⟨rfl, three1_store h8.swap fun b3 A3 H9 s9 i9 h9 => ?_⟩
    refine again10_spec (sv := ⟨some ⟨b3, 0, none⟩, 1, 1⟩) h9.swap i9 good_alone fun q' c' s' bs' H10 h11 => ⟨_, rfl, br_f rfl ?_⟩
    have o0 : NdOk (newN 3 [3] 10 n.st) := new_ok (by decide) (by decide) (by decide) hL
    have k1 := tick_p 1000000 (newN 3 [3] 10 n.st) 20 0
    refine tick10_spec h11 o0 ⟨by decide, by decide⟩ (by show (0 : Nat) ≤ _; decide) (by show n.st.l.length ≤ _; omega) fun A4 l1 m1 H12 s12 e12 x12 h12 => ⟨l1, rfl, ?_⟩
    have h13 := h12.tail
    have o1 := tick_said o0 (draw := 0) ⟨by decide, by decide⟩ hL (nodB_lg (i := 0) h13 rfl)
    refine tick10_spec h13 o1 ⟨by decide, by decide⟩ (said_len _) (by have := k1.len; show (Nd.tick _ _ _ _).st.l.length ≤ _; have z : (newN 3 [3] 10 n.st).st.l.length = n.st.l.length := rfl; omega) fun A5 l2 m2 H14 s14 e14 x14 h14 => ⟨l2, rfl, ?_⟩
    have h15 := h14.tail
    have o2 := tick_said o1 (draw := 0) ⟨by decide, by decide⟩ (nodB_lg (i := 0) h13 rfl) (nodB_lg (i := 0) h15 rfl)
    obtain ⟨as0, -⟩ := start_alone (ws := ws) (t0 := 20) (t1 := 30) hL ha.index ha.low (by omega) (by omega) (by decide) rfl (by decide) (by have := ha.len; omega) ha.ent
    exact ⟨rfl, q', c', s', bs', _, A5, rfl, o2, as0, sA.trans (s9.trans (s12.trans s14)), h15⟩
  clear h h' hL hn ha hl ht n sA A q c s bs
  rintro p H18 ⟨q, c, s, bs, n, A, rfl, hn, ha, sA, h⟩
  have hL := nodB_lg (i := 0) h rfl
  have et := take_alone ha hL
  have hix := ha.index
  have wn : want.n = ws.length := by
    have := (h.own 2 rfl).1
    rw [flat_len eSlen, Nat.mul_one, Nat.mul_one] at this
    exact this.symm
  refine take10_spec h hn (by rw [ha.taken]; decide) fun r H19 h19 => ⟨r, _, rfl, br_f (decide_eq_false (by rw [ha.taken]; omega)) (leads10_spec (i := 1) h19 rfl ⟨_, rfl, br_f (by show (!(n.role == 2)) = false; rw [ha.role]; rfl) ?_⟩)⟩
  rw [et] at h19
  have hR : Recs eE H19 r n.st.l := Own.recs eElen (by decide) (h19.own 0 rfl) (by have := hL.ok.len; omega)
  have hW : Recs eS H19 want ws := Own.recs eSlen (by decide) (h19.own 3 rfl) (by omega)
  have rn := hR.len
  have hlen := ha.len
  rw [wrap64_id (n := (want.n : Int) + 1) (by omega) (by omega)]
  refine br_f (decide_eq_false (by omega)) ⟨fun i H' => H' = H19 ∧ 0 ≤ i ∧ i ≤ want.n, fun i _ => (want.n - i).toNat, ⟨rfl, Int.le_refl _, by omega⟩, ?_⟩
  rintro i H20 ⟨rfl, i0, i1⟩
  refine br_intro (fun w => ?_) (fun _ => k H20 (sA.trans (h19.sub 2 rfl)))
  have w := of_decide_eq_true w
  obtain ⟨b1, o1, dd, a1, a2, a3⟩ := hW.at_ eSlen (by decide) i0 w
  obtain ⟨t, ge⟩ := ha.ent i.toNat dd a2
  rw [wrap64_id (n := i + 1) (by omega) (by omega), wrap64_id (n := i + 2) (by omega) (by omega)]
  obtain ⟨b2, o2, x, c1, c2, c3⟩ := hR.at_ eElen (by decide) (j := i + 1) (by omega) (by omega)
  have e2 : (i + 1).toNat = i.toNat + 1 := by omega
  rw [e2, ge] at c2
  cases c2
  have f0 := a3 0 _ rfl
  rw [Nat.mul_one] at f0
  refine ⟨b2, o2, c1, by omega, by omega, dd, c3 2 _ rfl, b1, o1, a1, i0, w, dd, f0, br_f (by rw [str_eq, decide_eq_true rfl]; rfl) ⟨b2, o2, c1, by omega, by omega, _, c3 1 _ rfl, br_f ?_ ⟨rfl, ⟨rfl, by omega, by omega⟩, by dsimp only; omega⟩⟩⟩
  show (((i.toNat : Nat) : Int) + 2 != i + 2) = false
  rw [bne_eq_false_iff_eq]; omega
end
end Go.Proofs.YthldclmeojkboaaGreatDoor
