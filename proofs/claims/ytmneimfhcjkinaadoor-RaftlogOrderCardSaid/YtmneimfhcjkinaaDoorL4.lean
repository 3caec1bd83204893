/- Chapter 9: RaftlogOrder: the walk. -/
import Derived.Test.YtmneimfhcjkinaaDoorL2
import Derived.Test.YtmneimfhcjkinaaDoorHlCell
namespace Go.Proofs.YtmneimfhcjkinaaDoor
open Go Go.HL
set_option maxHeartbeats 3200000
set_option maxRecDepth 10000

/-- The term ahead of an entry. -/
def termAt (st : RS) (k : Nat) : Int := if k = 0 then st.snapped else match st.l[k - 1]? with | some x => x.1 | none => 0
theorem termAt_le {st : RS} (hG : StOk st) (hU : UpS st) {k : Nat} {x : En} (h : st.l[k]? = some x) : termAt st k ≤ x.1 := by
  unfold termAt
  split
  · rename_i e; subst e; exact hU x h
  · have hlt := (List.getElem?_eq_some_iff.1 h).1
    obtain ⟨y, hy⟩ : ∃ y, st.l[k - 1]? = some y := ⟨st.l[k - 1], List.getElem?_eq_getElem (by omega)⟩
    rw [hy]
    exact hG.good.up (k - 1) y x hy (by rw [show k - 1 + 1 = k by omega]; exact h)
theorem termAt_last {st : RS} : (lastX st).2 = termAt st st.l.length := by
  unfold lastX termAt
  cases e : st.l.getLast? with
  | none => rw [List.getLast?_eq_none_iff] at e; rw [e]; rfl
  | some x =>
    have hx : st.l[st.l.length - 1]? = some x := by rw [← List.getLast?_eq_getElem?]; exact e
    have := (List.getElem?_eq_some_iff.1 hx).1
    rw [if_neg (by omega), hx]
section
variable {K : Value → Heap → Prop}
theorem order9 {H0 : Heap} {script : Sl} {ops : List Op9} (hs : Recs eOp9 H0 script ops) (ho : ∀ o ∈ ops, Op9Ok H0 o) (k : ∀ H', HL.Sub H0 H' → K (.bool true) H') : FnH Tryd.prog 3 #[.slice script.p script.n script.c] H0 K := by
  apply logboomlaw9_RaftlogOrder_fn
  unfold logboomlaw9_RaftlogOrder_vc
  have hsl := hs.len
  have hsb := hs.big
  refine shown9_spec (Holds.whole H0) fun H1 h1 => ⟨_, rfl, dnew_spec h1 (fun q => by omega) fun _ _ d H2 h2 => ⟨_, _, rfl, br_f rfl (br_f rfl (br_f rfl (LogAt.open h2 fun c H3 h3 => ⟨_, _, rfl, br_f rfl (br_f rfl ?_)⟩)))⟩⟩
  refine ⟨fun i H' => 0 ≤ i ∧ i ≤ 60 ∧ ∃ st, st.l.length ≤ 20 * i.toNat ∧ LogAt [ro H0] H' c d 1000000 st, fun i _ => (60 - i).toNat, ⟨Int.le_refl _, by decide, st0, by decide, h3⟩, ?_⟩
  clear h1 h2 h3
  rintro i H4 ⟨i0, i1, st, hlen, h4⟩
  obtain ⟨F4, f4, g4⟩ := h4.at_
  refine br_intro (fun q => br_intro (fun q2 => ?_) (fun _ => k H4 (g4.sub 2 rfl))) (fun _ => k H4 (g4.sub 2 rfl))
  have q := of_decide_eq_true q
  have q2 := of_decide_eq_true q2
  obtain ⟨b, o, op, p1, p2, p3⟩ := (Recs.mono _ _ (g4.sub 2 rfl) hs).at_ eOp9len (by decide) i0 q
  have hop := ho op (List.mem_of_getElem? p2)
  rw [wrap64_id (n := i + 1) (by omega) (by omega)]
  have skip : 0 ≤ i + 1 ∧ i + 1 ≤ 60 ∧ ∃ st, st.l.length ≤ 20 * (i + 1).toNat ∧ LogAt [ro H0] H4 c d 1000000 st := ⟨by omega, by omega, st, by omega, h4⟩
  have ms : (60 - (i + 1)).toNat < (60 - i).toNat := by omega
  refine ⟨b, o, p1, i0, q, _, p3 0 _ rfl, _, p3 1 _ rfl, _, p3 2 _ rfl, _, p3 3 _ rfl, op.sl, p3 4 _ rfl, _, p3 5 _ rfl, op.ks, p3 6 _ rfl, br_intro (fun _ => ⟨rfl, skip, ms⟩) (fun w => br_intro (fun _ => ⟨rfl, skip, ms⟩) (fun _ => ?_))⟩
  have w := of_decide_eq_false w
  have hol := hop.recs.len
  have hl0 := last_nn h4.ok
  have hl1 := h4.ok.last_le
  refine ⟨fun _ _ _ _ s _ _ H' => ∃ (lst : List En) (cs : List Chunk) (j : Nat) (ch : Chunk), lst.length ≤ 20 ∧ cs[j]? = some ch ∧ (Gives ch fun A => Recs eE A s lst) ∧ LogAt cs H' c d 1000000 st ∧ ∀ H st, LogAt cs H c d 1000000 st → LogAt [ro H0] H c d 1000000 st, br_intro (fun _ => ?_) (fun _ => ?_), ?_⟩
  · refine last9_spec (i := 0) g4 rfl h4.ok.len ⟨_, _, rfl, ?_⟩
    rw [wrap64_id (n := (lastX st).1 + 1) (by omega) (by omega)]
    refine pick9_spec (by omega) ⟨_, rfl, ?_⟩
    have hW := g4
    intro q1 hq1
    refine letH_intro fun H7 g7 => ?_
    have s7 : HL.Sub H4 H7 := by rw [g7]; exact HL.Sub.new hq1 _
    have h7 : HL.Holds (blk q1 (.cells #[] 43 (0, 0)) :: lgc c d st :: dsk d 1000000 F4 :: [ro H0]) H7 := by rw [g7]; exact hW.add hq1 _
    have h7b : HL.Holds (own 43 3 ⟨some ⟨q1, 0, none⟩, 0, 0⟩ [] :: lgc c d st :: dsk d 1000000 F4 :: [ro H0]) H7 := h7.head fun A hA => ⟨by simp, Nat.le_refl _, .inr ⟨q1, #[], rfl, hA, by simp, fun i hi => by simp at hi⟩⟩
    have hRo : Recs eE H7 op.sl op.l := Recs.mono _ _ (h7.sub 3 rfl) hop.recs
    refine Holds.append (s := ⟨some ⟨q1, 0, none⟩, 0, 0⟩) okEn okEn.under h7b hRo.cells (by rw [flat_len eElen, hol]) (noTups_eE _) (by show 0 + op.sl.n ≤ _; omega) fun l3 H8 h8 n8 => ⟨l3, rfl, ?_⟩
    have n8 : l3.n = 0 + op.sl.n := n8
    have h8 : HL.Holds (ownE l3 op.l :: lgc c d st :: dsk d 1000000 F4 :: [ro H0]) H8 := h8
    refine ⟨fun m H' => 0 ≤ m ∧ m ≤ l3.n ∧ ∃ lst, lst.length = op.l.length ∧ HL.Holds (ownE l3 lst :: lgc c d st :: dsk d 1000000 F4 :: [ro H0]) H', fun m _ => ((l3.n : Int) - m).toNat, ⟨Int.le_refl _, by omega, op.l, rfl, h8⟩, ?_⟩
    rintro m H9 ⟨m0, m1, lst, hll, h9⟩
    refine br_intro (fun w2 => ?_) (fun w2 => ⟨rfl, lst, _, 0, _, by omega, rfl, gE l3 lst (by omega), ⟨⟨F4, f4, h9.down 2⟩, h4.ok, h4.up⟩, fun H st h => h.less⟩)
    have w2 := of_decide_eq_true w2
    have hR9 : Recs eE H9 l3 lst := Own.recs eElen (by decide) (h9.own 0 rfl) (by omega)
    obtain ⟨q5, o5, x, x1, x2, x3⟩ := hR9.at_ eElen (by decide) m0 w2
    have hx := (List.getElem?_eq_some_iff.1 x2).1
    rw [wrap64_id (n := m + 1) (by omega) (by omega)]
    refine ⟨q5, o5, x1, m0, w2, ?_⟩
    have e : o5 + m.toNat * 3 + 1 = o5 + (m.toNat * 3 + 1) := by omega
    rw [e]
    refine Holds.setCell h9 x1 (j := m.toNat * 3 + 1) (by rw [flat_len eElen]; omega) fun H10 h10 => ⟨rfl, ⟨by omega, by omega, lst.set m.toNat (x.1, IntKind.wrap .i64 (IntKind.wrap .i64 (pickI op.n ((lastX st).1 + 1) + 1) + m), x.2.2), ?_, ?_⟩, by dsimp only; omega⟩
    · rw [List.length_set]; exact hll
    · rw [flat_set eElen (a' := (x.1, IntKind.wrap .i64 (IntKind.wrap .i64 (pickI op.n ((lastX st).1 + 1) + 1) + m), x.2.2)) x2 (by decide) rfl] at h10
      exact h10
  · exact ⟨rfl, op.l, _, 0, _, by omega, rfl, ⟨ro_mono H0, fun A hA => Recs.mono _ _ hA hop.recs⟩, h4, fun H st h => h⟩
  rintro kd on om otx s _ _ H11 ⟨lst, cs, j, ch, hll, ej, hg, h11, hback⟩
  refine ⟨fun H' => ∃ st', st'.l.length ≤ 20 * i.toNat + 20 ∧ LogAt [ro H0] H' c d 1000000 st', pick9_spec (by decide) ⟨_, rfl, br_intro (fun _ => ?_) (fun _ => ?_)⟩, ?_⟩
  · exact h11.snap fun _ st' H6 _ _ h6 a1 _ _ => ⟨_, rfl, rfl, st', by omega, hback _ _ h6⟩
  · exact h11.put (i := j) hg ej (by omega) (by omega) fun _ st' H6 _ _ _ h6 a1 _ _ => ⟨_, rfl, rfl, st', by omega, hback _ _ h6⟩
  clear h11 hback hg ej g4 f4 h4 skip hl0 hl1 hlen
  rintro H15 ⟨st', hlen, h15⟩
  obtain ⟨F15, f15, g15⟩ := h15.at_
  have hG := h15.ok
  have hU := h15.up
  have hx := hG.index
  have hlast := hG.good.last
  have hfa := from_all (st := st') (by omega)
  refine snapshot9_spec (i := 0) g15 rfl ⟨_, _, _, rfl, first9_spec (i := 0) g15 rfl hx ⟨_, rfl, HL.Sub.refl _, from9_spec (i := 0) (m := 1000000) g15 rfl hG.len hx.1 hx.2 (by have := hx.2; omega) fun l6 H18 s18 h18 => ⟨l6, rfl, s18, ?_⟩⟩⟩
  rw [hfa] at h18
  have hR : Recs eE H18 l6 st'.l := Own.recs eElen (by decide) (h18.own 0 rfl) (by omega)
  have hn := hR.len
  obtain ⟨x0, x1⟩ := hx
  rw [wrap64_id (n := st'.index + 1) (by omega) (by omega)]
  refine first9_spec (i := 1) h18 rfl ⟨x0, x1⟩ ⟨_, rfl, br_f (by simp) ?_⟩
  have hle := hG.last_le
  refine ⟨fun t m H' => H' = H18 ∧ 0 ≤ m ∧ m ≤ l6.n ∧ t = termAt st' m.toNat, fun _ m _ => ((l6.n : Int) - m).toNat, ⟨rfl, Int.le_refl _, by omega, rfl⟩, ?_⟩
  rintro t m H20 ⟨rfl, m0, m1, ht⟩
  refine br_intro (fun w2 => ?_) (fun w2 => ?_)
  · have w2 := of_decide_eq_true w2
    obtain ⟨q5, o5, x, y1, y2, y3⟩ := hR.at_ eElen (by decide) m0 w2
    have hidx := hG.good.idx _ _ y2
    have htm := termAt_le hG hU y2
    have hat : atX st' x.2.1 = some x := by
      unfold atX
      rw [if_neg (by omega), show (x.2.1 - st'.index - 1).toNat = m.toNat by omega]
      exact y2
    have ha1 : termAt st' (m.toNat + 1) = x.1 := by
      unfold termAt
      rw [if_neg (by omega), Nat.add_sub_cancel, y2]
    have hm1 : (m + 1).toNat = m.toNat + 1 := by omega
    have hb := (List.getElem?_eq_some_iff.1 y2).1
    rw [wrap64_id (n := st'.index + 1 + m) (by omega) (by omega), wrap64_id (n := m + 1) (by omega) (by omega)]
    have hbn : (x.2.1 != st'.index + 1 + m) = false := by rw [hidx]; simp; omega
    have hle2 := hG.good.ok x (List.mem_of_getElem? y2)
    refine ⟨q5, o5, y1, m0, w2, _, y3 1 _ rfl, ?_, HL.Sub.refl _, ?_⟩
    · refine at9_spec (i := 1) h18 rfl hG.len x0 x1 (by omega) (fun e => by rw [hat] at e; cases e) fun e he => ?_
      rw [hat] at he
      cases he
      exact ⟨_, _, _, _, rfl, HL.Sub.refl _, HL.Sub.refl _, fun H' => H' = H20, ⟨q5, o5, y1, m0, w2, _, y3 1 _ rfl, br_f hbn ⟨q5, o5, y1, m0, w2, _, y3 0 _ rfl, br_f (decide_eq_false (by omega)) (br_f rfl ⟨q5, o5, y1, m0, w2, _, y3 0 _ rfl, _, y3 1 _ rfl, _, y3 2 _ rfl, entry_ne ⟨_, rfl, br_f (by simp) ⟨rfl, rfl⟩⟩⟩)⟩⟩,
        fun H22 e => by
          subst e
          exact ⟨q5, o5, y1, m0, w2, _, y3 0 _ rfl, rfl, ⟨rfl, by omega, by omega, by rw [hm1, ha1]⟩, by dsimp only; omega⟩⟩
    · refine at9_spec (i := 1) h18 rfl hG.len x0 x1 (by omega) (fun e => by rw [hat] at e; cases e) fun e he => ?_
      rw [hat] at he
      cases he
      exact ⟨_, _, _, _, rfl, HL.Sub.refl _, fun H' => H' = H20, ⟨q5, o5, y1, m0, w2, _, y3 1 _ rfl, br_f hbn ⟨q5, o5, y1, m0, w2, _, y3 0 _ rfl, br_f (decide_eq_false (by omega)) (br_f rfl ⟨q5, o5, y1, m0, w2, _, y3 0 _ rfl, _, y3 1 _ rfl, _, y3 2 _ rfl, entry_ne ⟨_, rfl, br_f (by simp) ⟨rfl, rfl⟩⟩⟩)⟩⟩,
        fun H22 e => by
          subst e
          exact ⟨q5, o5, y1, m0, w2, _, y3 0 _ rfl, rfl, ⟨rfl, by omega, by omega, by rw [hm1, ha1]⟩, by dsimp only; omega⟩⟩
  · have w2 := of_decide_eq_false w2
    rw [wrap64_id (n := st'.index + (l6.n : Nat)) (by omega) (by omega)]
    have em : m.toNat = st'.l.length := by omega
    rw [em, ← termAt_last] at ht
    refine last9_spec (i := 1) h18 rfl hG.len ⟨_, _, rfl, br_f (by rw [hlast, hn]; simp) (br_f (by rw [ht]; simp) ⟨rfl, ⟨by omega, by omega, st', by omega, ⟨F15, f15, h18.tail⟩, hG, hU⟩, ms⟩)⟩
end
end Go.Proofs.YtmneimfhcjkinaaDoor
