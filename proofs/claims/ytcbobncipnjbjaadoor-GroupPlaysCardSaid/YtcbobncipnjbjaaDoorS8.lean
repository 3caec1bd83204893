/- Chapter 15: the document's groups: what is read of them. -/
import Derived.Test.YtcbobncipnjbjaaDoorLAssigns
import Derived.Test.YtcbobncipnjbjaaDoorV8
import Derived.Test.YtcbobncipnjbjaaDoorHlAssoc
import Derived.Sort.Walk0
namespace Go.Proofs.YtcbobncipnjbjaaDoor
open Go Go.HL
set_option maxHeartbeats 800000
set_option maxRecDepth 10000

/-- Go's '<' on strings. -/
def ltB (x y : ByteArray) : Bool := Op.bytesLess x.toList y.toList
theorem ltB_iff {x y : ByteArray} : ltB x y = true ↔ x.data.toList < y.data.toList := by
  unfold ltB
  rw [Go.Proofs.bytesLess_eq, ByteArray.toList_eq, ByteArray.toList_eq, decide_eq_true_eq]
theorem ltB_ok : LtOK ltB where
  irr a := by
    cases e : ltB a a with
    | false => rfl
    | true => exact absurd (ltB_iff.1 e) (List.lt_irrefl _)
  trans a b c h1 h2 := ltB_iff.2 (List.lt_trans (ltB_iff.1 h1) (ltB_iff.1 h2))
  tri a b h := by
    by_cases q : ltB a b = true
    · exact .inl q
    · right
      refine ltB_iff.2 ?_
      have h1 : ¬ a.data.toList < b.data.toList := fun z => q (ltB_iff.2 z)
      have h2 : b.data.toList ≤ a.data.toList := List.not_lt.1 h1
      rcases List.le_iff_lt_or_eq.1 h2 with z | z
      · exact z
      · exact absurd (Go.WideShapes.bytes_inj z).symm h
theorem ok65 : ElemOK Tryd.prog 65 70 2 := ElemOK.of (by kernel_rfl)
theorem ok44 : ElemOK Tryd.prog 44 63 1 := ElemOK.of (by kernel_rfl)
abbrev eK : Int × Int → List Value := fun p => [.int .i64 p.1, .int .i64 p.2]
theorem eKlen : ∀ a, (eK a).length = 2 := fun _ => rfl
abbrev eP : Held → List Value := fun p => [ptrV p.2.1]
theorem ePlen : ∀ a, (eP a).length = 1 := fun _ => rfl
/-- The first pair's number; -1: none. -/
def offD : List (Int × Int) → Int → Int
  | [], _ => -1
  | a :: l, p => if a.1 = p then a.2 else offD l p
/-- The last pair's number; -1: none. -/
def numD (l : List (Int × Int)) (p : Int) : Int := l.foldl (fun n a => if a.1 = p then a.2 else n) (-1)
theorem offD_filter (l : List (Int × Int)) (c d p : Int) : offD (l.filter (fun a => decide (a.1 ≠ c)) ++ [(c, d)]) p = if p = c then d else offD l p := by
  induction l with
  | nil =>
    show offD [(c, d)] p = _
    by_cases q : p = c
    · subst q; simp [offD]
    · rw [if_neg q]; simp only [offD]; rw [if_neg (fun e : c = p => q e.symm)]
  | cons a l ih =>
    by_cases q : a.1 = c
    · rw [List.filter_cons_of_neg (by simp [q]), ih]
      by_cases q2 : p = c
      · rw [if_pos q2, if_pos q2]
      · rw [if_neg q2, if_neg q2, offD, if_neg (fun e => q2 (by rw [← e, q]))]
    · rw [List.filter_cons_of_pos (by simp [q]), List.cons_append, offD, ih]
      by_cases q2 : p = c
      · subst q2
        rw [if_neg q, if_pos rfl, if_pos rfl]
      · rw [if_neg q2, if_neg q2, offD]
theorem numD_app (l : List (Int × Int)) (c d p : Int) : numD (l ++ [(c, d)]) p = if c = p then d else numD l p := by
  unfold numD
  rw [List.foldl_append]; rfl
/-- What ties a group's pairs to the program's. -/
structure RgOk (x : Grp) (fo fn : List (Int × Int)) (N : Nat) : Prop where
  off : ∀ p, offD fo p = offM x p
  num : ∀ a, numD fn a = (lookL x.num a).getD (-1)
  offN : fo.length ≤ N
  numN : fn.length ≤ N
def rgrp (b : Nat) (n : ByteArray) (x : Grp) (N : Nat) : Chunk := fun H => ∃ q : (Sl × Sl) × (Sl × Sl) × List (Int × Int) × List (Int × Int), RgOk x q.2.2.1 q.2.2.2 N ∧
  HL.Holds [blk b (.cells #[.string n, .int .i64 x.gen, .int .i64 x.ever, .slice q.1.1.p q.1.1.n q.1.1.c, .slice q.1.2.p q.1.2.n q.1.2.c, .slice q.2.1.1.p q.2.1.1.n q.2.1.1.c, .slice q.2.1.2.p q.2.1.2.n q.2.1.2.c] 67 (0, 0)),
    own 3 1 q.1.1 (iv x.mem), own 3 1 q.1.2 (iv x.prt), own 70 2 q.2.1.1 (q.2.2.1.flatMap eK), own 70 2 q.2.1.2 (q.2.2.2.flatMap eK)] H
theorem rgrp_mono {b : Nat} {n : ByteArray} {x : Grp} {N : Nat} : Mono (rgrp b n x N) := fun _ _ hs ⟨q, e, h⟩ => ⟨q, e, h.up hs⟩
theorem rgrp_open {cs : List Chunk} {H : Heap} {b : Nat} {n : ByteArray} {x : Grp} {N : Nat} : HL.Holds (rgrp b n x N :: cs) H ↔ ∃ sm sp so sn off num, RgOk x off num N ∧
    HL.Holds (blk b (.cells #[.string n, .int .i64 x.gen, .int .i64 x.ever, .slice sm.p sm.n sm.c, .slice sp.p sp.n sp.c, .slice so.p so.n so.c, .slice sn.p sn.n sn.c] 67 (0, 0)) :: own 3 1 sm (iv x.mem) :: own 3 1 sp (iv x.prt) :: own 70 2 so (off.flatMap eK) :: own 70 2 sn (num.flatMap eK) :: cs) H := by
  unfold rgrp
  rw [Holds.ex]
  constructor
  · rintro ⟨⟨⟨sm, sp⟩, ⟨so, sn⟩, off, num⟩, h⟩
    obtain ⟨e, h⟩ := Holds.pure.1 h
    exact ⟨sm, sp, so, sn, off, num, e, Holds.flat.1 h⟩
  · rintro ⟨sm, sp, so, sn, off, num, e, h⟩
    exact ⟨⟨⟨sm, sp⟩, ⟨so, sn⟩, off, num⟩, Holds.pure.2 ⟨e, Holds.flat.2 h⟩⟩
structure RgIn (H : Heap) (b : Nat) (n : ByteArray) (x : Grp) (N : Nat) (sm sp so sn : Sl) (fo fn : List (Int × Int)) : Prop where
  blk : H b = some (.cells #[.string n, .int .i64 x.gen, .int .i64 x.ever, .slice sm.p sm.n sm.c, .slice sp.p sp.n sp.c, .slice so.p so.n so.c, .slice sn.p sn.n sn.c] 67 (0, 0))
  mem : Ints H sm x.mem
  prt : Ints H sp x.prt
  off : Recs eK H so fo
  num : Recs eK H sn fn
  ok : RgOk x fo fn N
theorem rgrp_in {H : Heap} {b : Nat} {n : ByteArray} {x : Grp} {N : Nat} (hs : Small x) (hN : N ≤ 100000) (h : rgrp b n x N H) : ∃ sm sp so sn off num, RgIn H b n x N sm sp so sn off num := by
  obtain ⟨⟨⟨sm, sp⟩, ⟨so, sn⟩, off, num⟩, e, h⟩ := h
  have := hs.mem; have := hs.prt; have := e.offN; have := e.numN
  have o1 : off.length ≤ N := e.offN
  have o2 : num.length ≤ N := e.numN
  exact ⟨sm, sp, so, sn, off, num, h.get 0 rfl, own_ints (h.own 1 rfl) (by omega), own_ints (h.own 2 rfl) (by omega), Own.recs eKlen (by decide) (h.own 3 rfl) (by omega), Own.recs eKlen (by decide) (h.own 4 rfl) (by omega), e⟩
theorem RgIn.cell {H : Heap} {b : Nat} {n : ByteArray} {x : Grp} {N : Nat} {sm sp so sn : Sl} {off num : List (Int × Int)} (h : RgIn H b n x N sm sp so sn off num) {o : Nat} {v : Value}
    (e : (#[.string n, .int .i64 x.gen, .int .i64 x.ever, .slice sm.p sm.n sm.c, .slice sp.p sp.n sp.c, .slice so.p so.n so.c, .slice sn.p sn.n sn.c] : Array Value)[o]? = some v) : cellH H ⟨b, o, none⟩ = some v := by rw [cellH_eq h.blk]; exact e
section
variable {H : Heap} {b : Nat} {n : ByteArray} {x : Grp} {N : Nat} {K : Value → Heap → Prop}
theorem has_spec {s : Sl} {l : List Int} {v : Int} (h : Ints H s l) (k : K (.bool (decide (v ∈ l))) H) : FnH Tryd.prog 37 #[.slice s.p s.n s.c, .int .i64 v] H K := by
  apply logboomref15_has_fn
  unfold logboomref15_has_vc
  have hl := h.len
  have hb := h.big
  refine ⟨fun n H1 => H1 = H ∧ 0 ≤ n ∧ n ≤ s.n ∧ v ∉ l.take n.toNat, fun n _ => (s.n - n).toNat, ⟨rfl, Int.le_refl _, by omega, by simp⟩, ?_⟩
  rintro n H1 ⟨rfl, n0, n1, hn⟩
  refine br_intro (fun q => ?_) (fun q => ?_)
  · have q := of_decide_eq_true q
    obtain ⟨b, o, g1, g2, g3, g4⟩ := h.at_ n0 q
    refine ⟨b, o, g1, g2, g3, _, g4, br_intro (fun q2 => ?_) (fun q2 => ?_)⟩
    · have q2 : l.getD n.toNat 0 = v := by simpa using q2
      have hm : v ∈ l := by rw [← q2]; exact getD_mem n0 (by omega)
      rw [decide_eq_true hm] at k; exact k
    · have q2 : ¬ l.getD n.toNat 0 = v := by simpa using q2
      rw [wrap64_id (by omega) (by omega)]
      refine ⟨rfl, ⟨rfl, by omega, by omega, ?_⟩, by dsimp only; omega⟩
      rw [take_next (d := 0) n0 (by omega)]
      simp only [List.mem_append, List.mem_singleton, not_or]
      exact ⟨hn, fun e => q2 e.symm⟩
  · have q := of_decide_eq_false q
    rw [take_all (by omega)] at hn
    rw [decide_eq_false hn] at k; exact k
theorem roffset_spec {p : Int} (hs : Small x) (hN : N ≤ 100000) (h : rgrp b n x N H) (k : K (.int .i64 (offM x p)) H) : FnH Tryd.prog 36 #[ptrV b, .int .i64 p] H K := by
  apply logboomref15_Group_Offset_fn
  unfold logboomref15_Group_Offset_vc
  obtain ⟨sm, sp, so, sn, off, num, g⟩ := rgrp_in hs hN h
  have hR := g.off
  have hl := hR.len
  have hb := hR.big
  rw [← g.ok.off] at k
  have hok := g.ok.off
  refine ⟨fun m H1 => H1 = H ∧ 0 ≤ m ∧ m ≤ so.n ∧ offD (off.drop m.toNat) p = offD off p, fun m _ => (so.n - m).toNat, ⟨rfl, Int.le_refl _, by omega, rfl⟩, ?_⟩
  rintro m H1 ⟨rfl, m0, m1, hd⟩
  refine ⟨so, g.cell rfl, br_intro (fun q => ?_) (fun q => ?_)⟩
  · have q := of_decide_eq_true q
    obtain ⟨q1, o1, a, e1, e2, e3⟩ := hR.at_ eKlen (by decide) m0 q
    obtain ⟨f1, f2⟩ := List.getElem?_eq_some_iff.1 e2
    rw [List.drop_eq_getElem_cons f1, f2, offD] at hd
    refine ⟨so, g.cell rfl, q1, o1, e1, m0, q, a.1, e3 0 _ rfl, br_intro (fun w => ?_) (fun w => ?_)⟩
    · have w : a.1 = p := by simpa using w
      rw [if_pos w] at hd
      refine ⟨so, g.cell rfl, q1, o1, e1, m0, q, a.2, e3 1 _ rfl, ?_⟩
      rw [hd]; exact k
    · have w : ¬ a.1 = p := by simpa using w
      rw [if_neg w] at hd
      rw [wrap64_id (n := m + 1) (by omega) (by omega)]
      exact ⟨rfl, ⟨rfl, by omega, by omega, by rw [show (m + 1).toNat = m.toNat + 1 by omega]; exact hd⟩, by dsimp only; omega⟩
  · have q := of_decide_eq_false q
    rw [List.drop_eq_nil_of_le (by omega)] at hd
    rw [← hd] at k; exact k
theorem rnumber_spec {a : Int} (hs : Small x) (hN : N ≤ 100000) (h : rgrp b n x N H) (k : K (.int .i64 ((lookL x.num a).getD (-1))) H) : FnH Tryd.prog 39 #[ptrV b, .int .i64 a] H K := by
  apply logboomref15_Group_number_fn
  unfold logboomref15_Group_number_vc
  obtain ⟨sm, sp, so, sn, off, num, g⟩ := rgrp_in hs hN h
  have hR := g.num
  have hl := hR.len
  have hb := hR.big
  rw [← g.ok.num] at k
  refine ⟨fun v m H1 => H1 = H ∧ 0 ≤ m ∧ m ≤ sn.n ∧ v = numD (num.take m.toNat) a, fun _ m _ => (sn.n - m).toNat, ⟨rfl, Int.le_refl _, by omega, rfl⟩, ?_⟩
  rintro v m H1 ⟨rfl, m0, m1, hd⟩
  refine ⟨sn, g.cell rfl, br_intro (fun q => ?_) (fun q => ?_)⟩
  · have q := of_decide_eq_true q
    obtain ⟨q1, o1, c, e1, e2, e3⟩ := hR.at_ eKlen (by decide) m0 q
    have hst : numD (num.take (m + 1).toNat) a = if c.1 = a then c.2 else v := by rw [take_step m0 e2, numD_app, hd]
    rw [wrap64_id (n := m + 1) (by omega) (by omega)]
    refine ⟨sn, g.cell rfl, q1, o1, e1, m0, q, c.1, e3 0 _ rfl, br_intro (fun w => ?_) (fun w => ?_)⟩
    · have w : c.1 = a := by simpa using w
      rw [if_pos w] at hst
      exact ⟨sn, g.cell rfl, q1, o1, e1, m0, q, c.2, e3 1 _ rfl, rfl, ⟨rfl, by omega, by omega, hst.symm⟩, by dsimp only; omega⟩
    · have w : ¬ c.1 = a := by simpa using w
      rw [if_neg w] at hst
      exact ⟨rfl, ⟨rfl, by omega, by omega, hst.symm⟩, by dsimp only; omega⟩
  · have q := of_decide_eq_false q
    rw [List.take_of_length_le (by omega)] at hd
    rw [hd]; exact k
/-- A member's share; of somebody else: none. -/
def shareD (x : Grp) (a : Int) : List Int := if a ∈ x.mem then ofM x a else []
theorem rparts_spec {cs : List Chunk} {a : Int} (hs : Small x) (hN : N ≤ 100000) (hcs : HL.Holds cs H) (h : rgrp b n x N H) (k : ∀ (r : Sl) H', HL.Sub H H' → HL.Holds (ints r (shareD x a) :: cs) H' → K (.slice r.p r.n r.c) H') : FnH Tryd.prog 38 #[ptrV b, .int .i64 a] H K := by
  apply logboomref15_Group_parts_fn
  unfold logboomref15_Group_parts_vc
  obtain ⟨sm, sp, so, sn, off, num, g⟩ := rgrp_in hs hN h
  have hm := g.mem
  have hl := hm.len
  have hb := hm.big
  have h1 := hs.mem
  have h2 := hs.prt
  refine ⟨sm, g.cell rfl, sp, g.cell rfl, refAssign_spec (Holds.whole H) (c0 := ro H) (i := 0) ⟨ro_mono H, fun A hA => g.prt.sub hA⟩ rfl (by omega) (by omega) fun r H1 h1 => ⟨r, rfl, h1.sub 1 rfl, ?_⟩⟩
  have s1 : HL.Sub H H1 := h1.sub 1 rfl
  have hh : HL.Holds (lists r (assignM sm.n x.prt) :: cs) H1 := by
    have := (h1.swap.head (d := HL.Holds cs) fun A hA => hcs.up hA).swap
    have := (Holds.flat.1 this.swap)
    exact (this.perm (List.perm_append_comm)).perm (by simp)
  have hal := assignM_len sm.n x.prt
  refine ⟨fun m H2 => H2 = H1 ∧ 0 ≤ m ∧ m ≤ sm.n ∧ a ∉ x.mem.take m.toNat, fun m _ => (sm.n - m).toNat, ⟨rfl, Int.le_refl _, by omega, by simp⟩, ?_⟩
  rintro m H2 ⟨rfl, m0, m1, hn⟩
  have c3 : cellH H2 ⟨b, 0 + 3, none⟩ = some (.slice sm.p sm.n sm.c) := cellH_sub s1 (g.cell rfl)
  refine ⟨sm, c3, br_intro (fun q => ?_) (fun q => ?_)⟩
  · have q := of_decide_eq_true q
    obtain ⟨b1, o1, g1, g2, g3, g4⟩ := (hm.sub s1).at_ m0 q
    refine ⟨sm, c3, b1, o1, g1, g2, g3, _, g4, br_intro (fun w => ?_) (fun w => ?_)⟩
    · have w : x.mem.getD m.toNat 0 = a := by simpa using w
      have hml : m.toNat < x.mem.length := by omega
      have hmem : a ∈ x.mem := by rw [← w]; exact getD_mem m0 (by omega)
      have ei : idxI x.mem a = m := by
        have ex := List.take_append_drop m.toNat x.mem
        rw [List.drop_eq_getElem_cons hml] at ex
        have eg : x.mem.getD m.toNat 0 = x.mem[m.toNat] := by simp [List.getD, hml]
        rw [← ex, ← eg, w, idxI_at hn]
        simp; omega
      obtain ⟨q2, o2, s2, f1, f2, f3, f4, f5⟩ := lists_one hh m0 (by rw [hal]; exact q)
      refine ⟨q2, o2, f1, f2, f3, s2, f4, k s2 H2 s1 ?_⟩
      unfold shareD
      rw [if_pos hmem]
      unfold ofM
      rw [ei, ← hl]; exact f5
    · have w : ¬ x.mem.getD m.toNat 0 = a := by simpa using w
      rw [wrap64_id (by omega) (by omega)]
      refine ⟨rfl, ⟨rfl, by omega, by omega, ?_⟩, by dsimp only; omega⟩
      rw [take_next (d := 0) m0 (by omega)]
      simp only [List.mem_append, List.mem_singleton, not_or]
      exact ⟨hn, fun e => w e.symm⟩
  · have q := of_decide_eq_false q
    rw [take_all (by omega)] at hn
    refine k ⟨none, 0, 0⟩ H2 s1 ?_
    unfold shareD
    rw [if_neg hn]
    exact Holds.intsNil (hcs.up s1)
theorem rowner_spec {p : Int} (hs : Small x) (hN : N ≤ 100000) (hnod : x.mem.Nodup) (h : rgrp b n x N H) (k : ∀ H', HL.Sub H H' → K (.int .i64 (ownerM x p)) H') : FnH Tryd.prog 40 #[ptrV b, .int .i64 p] H K := by
  apply logboomref15_Group_Owner_fn
  unfold logboomref15_Group_Owner_vc
  obtain ⟨sm, sp, so, sn, off, num, g⟩ := rgrp_in hs hN h
  have hm := g.mem
  have hl := hm.len
  have hb := hm.big
  have hal := assignM_len x.mem.length x.prt
  refine ⟨fun m H1 => HL.Sub H H1 ∧ 0 ≤ m ∧ m ≤ sm.n ∧ ∀ j, j < m.toNat → p ∉ (assignM x.mem.length x.prt).getD j [], fun m _ => (sm.n - m).toNat, ⟨HL.Sub.refl _, Int.le_refl _, by omega, fun j hj => absurd hj (Nat.not_lt_zero _)⟩, ?_⟩
  rintro m H1 ⟨s1, m0, m1, hj⟩
  have c3 : ∀ H2, HL.Sub H H2 → cellH H2 ⟨b, 0 + 3, none⟩ = some (.slice sm.p sm.n sm.c) := fun H2 s => cellH_sub s (g.cell rfl)
  refine ⟨sm, c3 H1 s1, br_intro (fun q => ?_) (fun q => ?_)⟩
  · have q := of_decide_eq_true q
    obtain ⟨b1, o1, g1, g2, g3, g4⟩ := (hm.sub s1).at_ m0 q
    have hml : m.toNat < x.mem.length := by omega
    refine ⟨sm, c3 H1 s1, b1, o1, g1, g2, g3, _, g4, rparts_spec hs hN (cs := []) trivial (rgrp_mono _ _ s1 h) fun r H2 s2 h2 => ⟨r, rfl, ?_⟩⟩
    have hof : shareD x (x.mem.getD m.toNat 0) = (assignM x.mem.length x.prt).getD m.toNat [] := by
      unfold shareD
      rw [if_pos (getD_mem m0 (by omega)), of_at hnod hml]
    rw [hof] at h2
    refine has_spec (h2.read 0 rfl Ints.mono) ⟨_, rfl, br_intro (fun w => ?_) (fun w => ?_)⟩
    · have w := of_decide_eq_true w
      obtain ⟨b2, o2, f1, f2, f3, f4⟩ := (hm.sub (s1.trans s2)).at_ m0 q
      refine ⟨sm, c3 H2 (s1.trans s2), b2, o2, f1, f2, f3, _, f4, ?_⟩
      have ho : ownerM x p = x.mem.getD m.toNat 0 := by
        unfold ownerM
        have hk2 : m.toNat < (assignM x.mem.length x.prt).length := by rw [hal]; exact hml
        rw [ownerIn_drop (i := m.toNat) hal.symm hj, List.drop_eq_getElem_cons hml, List.drop_eq_getElem_cons hk2]
        have e : (assignM x.mem.length x.prt).getD m.toNat [] = (assignM x.mem.length x.prt)[m.toNat] := by rw [List.getD, List.getElem?_eq_getElem hk2]; rfl
        rw [e] at w
        simp only [ownerIn]
        rw [if_pos w, List.getD, List.getElem?_eq_getElem hml]; rfl
      have := k H2 (s1.trans s2)
      rw [ho] at this; exact this
    · have w := of_decide_eq_false w
      rw [wrap64_id (by omega) (by omega)]
      refine ⟨rfl, ⟨s1.trans s2, by omega, by omega, fun j hj2 => ?_⟩, by dsimp only; omega⟩
      by_cases z : j < m.toNat
      · exact hj j z
      · have : j = m.toNat := by omega
        rw [this]; exact w
  · have q := of_decide_eq_false q
    have ho : ownerM x p = 0 := by
      unfold ownerM
      rw [ownerIn_drop (i := m.toNat) hal.symm hj, List.drop_eq_nil_of_le (by omega)]
      rfl
    have := k H1 s1
    rw [ho] at this; exact this
end
/-- A pointer to a group of the list; none: it is not there. -/
def ptrO (ps : List Held) (n : ByteArray) : Option Addr := (idxL ps n).map fun q => ⟨q.2.1, 0, none⟩
theorem idx_firstH {ps : List Held} {n : ByteArray} {m : Nat} {p : Held} (h1 : ∀ x ∈ ps.take m, ¬ x.1 = n) (h2 : ps[m]? = some p) (h3 : p.1 = n) : idxL ps n = some (m, p.2) := by
  induction ps generalizing m with
  | nil => simp at h2
  | cons a F ih =>
    unfold idxL
    cases m with
    | zero =>
      simp at h2; subst h2
      rw [if_pos h3.symm]
    | succ m =>
      have ha : ¬ a.1 = n := h1 a (by simp)
      rw [if_neg (fun e => ha e.symm), ih (m := m) (fun x hx => h1 x (by rw [List.take_succ_cons]; exact List.mem_cons_of_mem _ hx)) (by simpa using h2)]
      rfl
theorem idx_noneH {ps : List Held} {n : ByteArray} (h : ∀ x ∈ ps, ¬ x.1 = n) : idxL ps n = none := by
  induction ps with
  | nil => rfl
  | cons a F ih =>
    unfold idxL
    rw [if_neg (fun e => h a (by simp) e.symm), ih fun x hx => h x (List.mem_cons_of_mem _ hx)]; rfl
theorem find_spec {H : Heap} {r : Nat} {s : Sl} {ps : List Held} {ep : Int} {n : ByteArray} {N : Nat} {K : Value → Heap → Prop} (hb : H r = some (.cells #[.slice s.p s.n s.c, .int .i64 ep] 46 (0, 0))) (hR : Recs eP H s ps) (hg : ∀ p ∈ ps, rgrp p.2.1 p.1 p.2.2 N H)
    (k : K (.pointer (ptrO ps n)) H) : FnH Tryd.prog 35 #[ptrV r, .string n] H K := by
  apply logboomref15_Groups_Find_fn
  unfold logboomref15_Groups_Find_vc
  have hl := hR.len
  have hbg := hR.big
  have c0 : cellH H ⟨r, 0, none⟩ = some (.slice s.p s.n s.c) := by rw [cellH_eq hb]; rfl
  refine ⟨fun m H1 => H1 = H ∧ 0 ≤ m ∧ m ≤ s.n ∧ ∀ x ∈ ps.take m.toNat, ¬ x.1 = n, fun m _ => (s.n - m).toNat, ⟨rfl, Int.le_refl _, by omega, by simp⟩, ?_⟩
  rintro m H1 ⟨rfl, m0, m1, hx⟩
  refine ⟨s, c0, br_intro (fun q => ?_) (fun q => ?_)⟩
  · have q := of_decide_eq_true q
    obtain ⟨q1, o1, p, e1, e2, e3⟩ := hR.at_ ePlen (by decide) m0 q
    obtain ⟨qq, -, hgp⟩ := hg p (List.mem_of_getElem? e2)
    have c1 : cellH H1 ⟨q1, o1 + m.toNat, none⟩ = some (ptrV p.2.1) := by
      have := e3 0 _ rfl
      simpa using this
    refine ⟨s, c0, q1, o1, e1, m0, q, _, c1, ptrm_intro rfl ⟨p.1, hgp.cell 0 rfl rfl, ?_⟩⟩
    rw [str_eq, wrap64_id (n := m + 1) (by omega) (by omega)]
    refine br_intro (fun c => ?_) (fun c => ⟨rfl, ⟨rfl, by omega, by omega, fun x hx2 => ?_⟩, by dsimp only; omega⟩)
    · have c := of_decide_eq_true c
      have := idx_firstH hx e2 c
      unfold ptrO at k
      rw [this] at k
      exact ⟨s, c0, q1, o1, e1, m0, q, _, c1, k⟩
    · have c := of_decide_eq_false c
      rw [take_step m0 e2] at hx2
      rcases List.mem_append.1 hx2 with y | y
      · exact hx x y
      · simp only [List.mem_singleton] at y; rw [y]; exact c
  · have q := of_decide_eq_false q
    rw [List.take_of_length_le (by omega)] at hx
    unfold ptrO at k
    rw [idx_noneH hx] at k; exact k
end Go.Proofs.YtcbobncipnjbjaaDoor
