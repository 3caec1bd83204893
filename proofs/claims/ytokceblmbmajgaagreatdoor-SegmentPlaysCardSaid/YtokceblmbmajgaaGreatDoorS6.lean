/- Chapter 5: the segment's Read. -/
import Derived.Test.YtokceblmbmajgaaGreatDoorS5
namespace Go.Proofs.YtokceblmbmajgaaGreatDoor
open Go Go.HL
set_option maxHeartbeats 3200000
set_option maxRecDepth 10000

abbrev eBt : Ba × Sl → List Value := fun p => [.int .i64 p.1.base, .int .i64 p.1.epoch, .int .i64 p.1.pid, .int .i64 p.1.pe, .int .i64 p.1.seq, .slice p.2.p p.2.n p.2.c]
theorem eBtlen : ∀ a, (eBt a).length = 6 := fun _ => rfl
theorem okBt : ElemOK Tryz.prog 52 40 6 := ElemOK.of (by kernel_rfl)
/-- Batches in memory, each with records of its own. -/
def btl (s : Sl) (bs : List Ba) : Chunk := fun H => ∃ ps : List (Ba × Sl), ps.map Prod.fst = bs ∧ HL.Holds [own 40 6 s (ps.flatMap eBt), HL.Holds (ps.map fun p => ownR p.2 p.1.recs)] H
theorem btl_mono {s : Sl} {bs : List Ba} : Mono (btl s bs) := fun _ _ hs ⟨ps, e, h⟩ => ⟨ps, e, h.up hs⟩
theorem btl_open {cs : List Chunk} {H : Heap} {s : Sl} {bs : List Ba} : HL.Holds (btl s bs :: cs) H ↔ ∃ ps : List (Ba × Sl), ps.map Prod.fst = bs ∧ HL.Holds (own 40 6 s (ps.flatMap eBt) :: HL.Holds (ps.map fun p => ownR p.2 p.1.recs) :: cs) H := by
  unfold btl
  rw [Holds.ex]
  constructor
  · rintro ⟨ps, h⟩
    obtain ⟨e, h⟩ := Holds.pure.1 h
    exact ⟨ps, e, Holds.flat.1 h⟩
  · rintro ⟨ps, e, h⟩
    exact ⟨ps, Holds.pure.2 ⟨e, Holds.flat.2 h⟩⟩
/-- Batches that may be read. -/
def Bts (H : Heap) (s : Sl) (bs : List Ba) : Prop := ∃ ps : List (Ba × Sl), ps.map Prod.fst = bs ∧ Recs eBt H s ps ∧ ∀ p ∈ ps, Recs eR H p.2 p.1.recs
theorem Bts.mono {s : Sl} {bs : List Ba} : Mono (fun H => Bts H s bs) := fun _ _ hs ⟨ps, e, h, g⟩ => ⟨ps, e, Recs.mono _ _ hs h, fun p hp => Recs.mono _ _ hs (g p hp)⟩
theorem Bts.len {H : Heap} {s : Sl} {bs : List Ba} (h : Bts H s bs) : s.n = bs.length := by
  obtain ⟨ps, e, h, -⟩ := h
  rw [h.len, ← e, List.length_map]
theorem Bts.upto {H : Heap} {s : Sl} {bs : List Ba} (h : Bts H s bs) {j : Int} (h0 : 0 ≤ j) (h1 : j ≤ s.n) : Bts H (s.upto j 6) (bs.take j.toNat) := by
  obtain ⟨ps, e, h, g⟩ := h
  exact ⟨ps.take j.toNat, by rw [List.map_take, e], h.upto eBtlen h0 h1, fun p hp => g p (List.mem_of_mem_take hp)⟩
theorem Bts.at_ {H : Heap} {s : Sl} {bs : List Ba} (h : Bts H s bs) {j : Int} (h0 : 0 ≤ j) (h1 : j < s.n) : ∃ (q o : Nat) (b : Ba) (sl : Sl), s.p = some ⟨q, o, none⟩ ∧ bs[j.toNat]? = some b ∧ Recs eR H sl b.recs ∧ ∀ (f : Nat) (v : Value), (eBt (b, sl))[f]? = some v → cellH H ⟨q, o + j.toNat * 6 + f, none⟩ = some v := by
  obtain ⟨ps, e, h, g⟩ := h
  obtain ⟨q, o, x, e1, e2, e3⟩ := h.at_ eBtlen (by decide) h0 h1
  exact ⟨q, o, x.1, x.2, e1, by rw [← e, List.getElem?_map, e2]; rfl, g x (List.mem_of_getElem? e2), e3⟩
def FewB (bs : List Ba) : Prop := ∀ b ∈ bs, b.recs.length ≤ 1000
theorem btl_bts {H : Heap} {s : Sl} {bs : List Ba} (h : btl s bs H) (hf : FewB bs) (hl : bs.length ≤ 1000000) : Bts H s bs := by
  obtain ⟨ps, e, h⟩ := h
  have hpl : ps.length = bs.length := by rw [← e, List.length_map]
  refine ⟨ps, e, Own.recs eBtlen (by decide) (h.own 0 rfl) (by omega), fun p hp => ?_⟩
  have h2 : HL.Holds (ps.map fun p => ownR p.2 p.1.recs) H := h.read 1 rfl (Holds.mono _)
  obtain ⟨i, hi⟩ := List.getElem?_of_mem hp
  have hb := hf p.1 (by rw [← e]; exact List.mem_map_of_mem hp)
  exact Own.recs eRlen (by decide) (h2.own (e := 86) (sz := 3) (s := p.2) (vs := p.1.recs.flatMap eR) i (by rw [List.getElem?_map, hi]; rfl)) (by omega)
theorem btl_gives {s : Sl} {bs : List Ba} (hf : FewB bs) (hl : bs.length ≤ 1000000) : Gives (btl s bs) fun A => Bts A s bs := ⟨btl_mono, fun _ h => btl_bts h hf hl⟩
section
variable {cs : List Chunk} {H : Heap} {K : Value → Heap → Prop}
theorem btl_nil (h : HL.Holds cs H) : HL.Holds (btl ⟨none, 0, 0⟩ [] :: cs) H := h.cons_emp ⟨[], rfl, ((Holds.nil Heap.emp).cons_emp (c := HL.Holds (([] : List (Ba × Sl)).map fun p => ownR p.2 p.1.recs)) (Holds.nil _)).own_nil 40 6⟩
theorem btl_push {s sl : Sl} {bs : List Ba} {b : Ba} (h : HL.Holds (btl s bs :: ownR sl b.recs :: cs) H) (hl : bs.length ≤ 100000) (k : ∀ (r : Sl) H', HL.Holds (btl r (bs ++ [b]) :: cs) H' → K (.slice r.p r.n r.c) H') :
    ∀ q, H q = none → letH (H.upd q (.cells #[.int .i64 b.base, .int .i64 b.epoch, .int .i64 b.pid, .int .i64 b.pe, .int .i64 b.seq, .slice sl.p sl.n sl.c] 40 (0, 0))) fun H1 => runH Tryz.prog (Builtin.append_ #[52, 52] 52 #[.slice s.p s.n s.c, .slice (some ⟨q, 0, none⟩) 1 1]) H1 K := by
  obtain ⟨ps, e, h1⟩ := btl_open.1 h
  have hpl : ps.length = bs.length := by rw [← e, List.length_map]
  have hn : s.n = ps.length := (Own.recs eBtlen (by decide) (h1.own 0 rfl) (by omega)).len
  refine Holds.push okBt h1 (xs := eBt (b, sl)) (m := 1) rfl rfl (by omega) fun r H2 h2 n2 => k r H2 (btl_open.2 ⟨ps ++ [(b, sl)], by rw [List.map_append, e]; rfl, ?_⟩)
  rw [List.flatMap_append]
  have h3 : HL.Holds (ownR sl b.recs :: HL.Holds (ps.map fun p => ownR p.2 p.1.recs) :: own 40 6 r (ps.flatMap eBt ++ eBt (b, sl)) :: cs) H2 := (h2.swap).pull 2 rfl
  have h4 := Holds.more (f := fun p : Ba × Sl => ownR p.2 p.1.recs) (a := (b, sl)) h3
  exact h4.swap
/-- The index's entries that begin no later than an offset. -/
def ixP (off : Int) (bs : List Ba) (j : Nat) : Bool := match (idxI (froms 0 bs))[j]? with | some m => decide ((ixE1 bs m).2.1 ≤ off) | none => false
theorem ixP_some {off : Int} {bs : List Ba} {j m : Nat} {b : Ba} (h : (idxI (froms 0 bs))[j]? = some m) (hb : bs[m]? = some b) : ixP off bs j = decide (b.base ≤ off) := by
  simp only [ixP, h, ixE1, hb]
theorem idx_mono {l s : List Nat} (h : IdxOk l s) : ∀ {d i a b : Nat}, s[i]? = some a → s[i + d]? = some b → a ≤ b
  | 0, i, a, b, ha, hb => by rw [Nat.add_zero, ha] at hb; cases hb; exact Nat.le_refl _
  | d + 1, i, a, b, ha, hb => by
    have hlt := (List.getElem?_eq_some_iff.1 hb).1
    obtain ⟨x, hx⟩ : ∃ x, s[i + d]? = some x := ⟨_, List.getElem?_eq_getElem (by omega)⟩
    have h1 := idx_mono h ha hx
    have h2 := (h.up _ _ _ hx hb).1
    omega
theorem base_mono {base : Int} {bs : List Ba} (h : Chain okR base bs) {i j : Nat} {b c : Ba} (hb : bs[i]? = some b) (hc : bs[j]? = some c) (hij : i ≤ j) : b.base ≤ c.base := by
  by_cases e : i = j
  · subst e; rw [hb] at hc; cases hc; exact Int.le_refl _
  · have h1 := h.lt hb hc (by omega)
    unfold endB at h1
    omega
theorem ixP_rise {base off : Int} {bs : List Ba} (h : Chain okR base bs) {j : Nat} (h0 : cntN (ixP off bs) (idxI (froms 0 bs)).length ≤ j) (h1 : j < (idxI (froms 0 bs)).length) : ixP off bs j = false := by
  have hlt : cntN (ixP off bs) (idxI (froms 0 bs)).length < (idxI (froms 0 bs)).length := by omega
  have h2 := cnt_at hlt
  have hok := idxI_ok (froms 0 bs)
  obtain ⟨m, hm⟩ : ∃ m, (idxI (froms 0 bs))[cntN (ixP off bs) (idxI (froms 0 bs)).length]? = some m := ⟨_, List.getElem?_eq_getElem hlt⟩
  obtain ⟨m', hm'⟩ : ∃ m', (idxI (froms 0 bs))[j]? = some m' := ⟨_, List.getElem?_eq_getElem h1⟩
  have hml := idxI_lt _ m (List.mem_of_getElem? hm)
  have hml' := idxI_lt _ m' (List.mem_of_getElem? hm')
  rw [froms_len] at hml hml'
  obtain ⟨b, hb⟩ : ∃ b, bs[m]? = some b := ⟨_, List.getElem?_eq_getElem hml⟩
  obtain ⟨b', hb'⟩ : ∃ b', bs[m']? = some b' := ⟨_, List.getElem?_eq_getElem hml'⟩
  rw [ixP_some hm hb] at h2
  rw [ixP_some hm' hb']
  have h2 := of_decide_eq_false h2
  obtain ⟨dd, hd⟩ : ∃ dd, j = cntN (ixP off bs) (idxI (froms 0 bs)).length + dd := ⟨j - cntN (ixP off bs) (idxI (froms 0 bs)).length, by omega⟩
  rw [hd] at hm'
  have hmm := idx_mono hok hm hm'
  have := base_mono h hb hb' hmm
  exact decide_eq_false (by omega)
theorem extract_one {bs : List Ba} {j : Nat} {b : Ba} (h : bs[j]? = some b) : (fB bs).extract (lenB (bs.take j)) (lenB (bs.take j) + flen b) = strN (frameB b ++ []) := by
  obtain ⟨h1, h2⟩ := List.getElem?_eq_some_iff.1 h
  have hs : bs.flatMap frameB = (bs.take j).flatMap frameB ++ (frameB b ++ (bs.drop (j + 1)).flatMap frameB) := by
    have e : bs = bs.take j ++ (b :: bs.drop (j + 1)) := by rw [← h2, ← List.drop_eq_getElem_cons h1, List.take_append_drop]
    have e2 := congrArg (fun z => List.flatMap frameB z) e
    simp only [List.flatMap_append, List.flatMap_cons] at e2
    exact e2
  rw [List.append_nil]
  show (strN (bs.flatMap frameB)).extract _ _ = _
  rw [hs]
  exact ext_mid (frames_b _) (frameB_b _) (frames_b _) rfl rfl
theorem rest_same {base off : Int} {bs : List Ba} (h : Chain okR base bs) {j : Nat} {b : Ba} (hb : bs[j]? = some b) (he : endB b > off) : (bs.drop (j + 1)).dropWhile (fun b => decide (endB b ≤ off)) = bs.drop (j + 1) := by
  cases e : bs.drop (j + 1) with
  | nil => rfl
  | cons c r =>
    have hc : bs[j + 1]? = some c := by
      have := congrArg (fun l => l[0]?) e
      simpa [List.getElem?_drop] using this
    have := cut_rise h hb hc (by omega) he
    rw [List.dropWhile_cons, if_neg (by simp; omega)]
theorem takeB_go {most sum : Int} {has : Bool} {b : Ba} {l : List Ba} (h : ¬ (has = true ∧ sum + (flen b : Nat) > most)) : takeB most sum has (b :: l) = b :: takeB most (sum + (flen b : Nat)) true l := if_neg h
theorem takeB_stop {most sum : Int} {has : Bool} {b : Ba} {l : List Ba} (h : has = true ∧ sum + (flen b : Nat) > most) : takeB most sum has (b :: l) = [] := if_pos h
theorem read5_spec {q d i j : Nat} {size base z off most : Int} {bs : List Ba} (h : HL.Holds cs H) (ei : cs[i]? = some (sgc q d base bs)) (ej : cs[j]? = some (dsk d size (F1 (fB bs) z))) (hs : SegOk base bs) (hm : most ≤ 9223372036854775807)
    (k : ∀ (r : Sl) H', HL.Sub H H' → HL.Holds (btl r (readB base off most bs) :: cs) H' → K (.slice r.p r.n r.c) H') : FnH Tryz.prog 19 #[.pointer (some ⟨q, 0, none⟩), .int .i64 off, .int .i64 most] H K := by
  apply segment_Segment_Read_fn
  unfold segment_Segment_Read_vc
  obtain ⟨p, hp⟩ := seg_in h ei hs.len
  have hzl := hs.lenB
  have hsl := hs.len
  refine (Holds.whole H).new fun q1 H1 h1 => h1.new fun q2 H2 h2 => ?_
  have s2 := h2.sub 2 rfl
  have hp2 := hp.up s2
  have nil : readB base off most bs = [] → ∀ H', HL.Sub H H' → K (.slice none 0 0) H' := fun e H' s => by
    rw [e] at k
    exact k ⟨none, 0, 0⟩ H' s (btl_nil (h.up s))
  refine ⟨_, h2.cell 0 rfl rfl, _, h2.cell 1 rfl rfl, ptrm_intro rfl ⟨_, hp2.cell rfl, br_intro (fun w => nil ?_ H2 s2) (fun w => ?_)⟩⟩
  · unfold readB; rw [if_pos (of_decide_eq_true w)]
  have w := of_decide_eq_false w
  unfold readB at k nil
  rw [if_neg w] at k nil
  refine ⟨_, h2.cell 1 rfl rfl, ptrm_intro rfl ⟨_, hp2.cell rfl, _, h2.cell 1 rfl rfl, ptrm_intro rfl ⟨_, hp2.cell rfl, read_spec (h.up s2) ej ⟨_, _, rfl, HL.Sub.refl _, ?_⟩⟩⟩⟩
  rw [get1]
  dsimp only
  have hin := hp2.some_.len
  rw [List.length_map] at hin
  have hil := ixV_len bs
  rw [List.length_map] at hil
  obtain ⟨r, hr⟩ : ∃ r, cntN (ixP off bs) (idxI (froms 0 bs)).length = r := ⟨_, rfl⟩
  have hrl : r ≤ p.2.n := by rw [← hr, hin]; exact cnt_le _ _
  have hpl := hp2.len
  have hok := idxI_ok (froms 0 bs)
  refine ⟨_, h2.cell 1 rfl rfl, ptrm_intro rfl ⟨p.2, hp2.cell rfl, search_Read (r := r) (fun j => !ixP off bs j) (fun j K j0 j1 k => ?_) (by omega) hrl (fun j hj => ?_) (fun j hj hj2 => ?_) ⟨_, rfl, ?_⟩⟩⟩
  · apply segment_Segment_Read_1_fn
    unfold segment_Segment_Read_1_vc
    obtain ⟨c, o, g1, g2, g3, g4⟩ := hp2.some_.at_ j0 j1
    obtain ⟨m, hm⟩ : ∃ m, (idxI (froms 0 bs))[j.toNat]? = some m := ⟨_, List.getElem?_eq_getElem (by omega)⟩
    have hml := idxI_lt _ m (List.mem_of_getElem? hm)
    rw [froms_len] at hml
    have hgd : (ixV bs).getD j.toNat 0 = (m : Int) := by rw [List.getD, List.getElem?_map, hm]; rfl
    rw [hgd] at g4
    obtain ⟨c2, o2, b, e1, e2, e3⟩ := hp2.one (j := (m : Int)) (by omega) (by omega)
    have e2 : bs[m]? = some b := e2
    refine ⟨_, h2.cell 1 rfl rfl, ptrm_intro rfl ⟨p.1, hp2.cell rfl, _, h2.cell 1 rfl rfl, ptrm_intro rfl ⟨p.2, hp2.cell rfl, c, o, g1, g2, g3, _, g4, c2, o2, e1, by omega, by omega, _, e3 0 _ rfl, _, h2.cell 0 rfl rfl, ?_⟩⟩⟩
    rw [ixP_some hm e2] at k
    have e : (!decide (b.base ≤ off)) = decide (b.base > off) := by
      by_cases hh : b.base ≤ off
      · rw [decide_eq_true hh, decide_eq_false (by omega)]; rfl
      · rw [decide_eq_false hh, decide_eq_true (by omega)]; rfl
    rw [e] at k
    exact k
  · have := cnt_lt (p := ixP off bs) (n := (idxI (froms 0 bs)).length) (j := j) (by omega)
    show (!ixP off bs j) = false
    rw [this]; rfl
  · have := ixP_rise (off := off) hs.chain (j := j) (by omega) (by omega)
    show (!ixP off bs j) = true
    rw [this]; rfl
  rw [wrap64_id (n := ((r : Nat) : Int) - 1) (by omega) (by omega)]
  refine br_intro (fun w2 => nil ?_ H2 s2) (fun w2 => ?_)
  · have w2 := of_decide_eq_true w2
    have hr0 : r = 0 := by omega
    have hbs : bs = [] := by
      cases bs with
      | nil => rfl
      | cons b l =>
        exfalso
        have hne := hok.some_ (by simp [froms])
        obtain ⟨m, hm⟩ : ∃ m, (idxI (froms 0 (b :: l)))[0]? = some m := ⟨_, List.getElem?_eq_getElem (List.length_pos_iff.2 hne)⟩
        have hm0 := hok.zero m hm
        subst hm0
        have hat := cnt_at (p := ixP off (b :: l)) (n := (idxI (froms 0 (b :: l))).length) (by rw [hr, hr0]; exact List.length_pos_iff.2 hne)
        rw [hr, hr0, ixP_some hm rfl] at hat
        have hat := of_decide_eq_false hat
        have := hs.chain.1
        omega
    rw [hbs]; rfl
  have w2 := of_decide_eq_false w2
  obtain ⟨kk, hkk⟩ : ∃ kk, (idxI (froms 0 bs))[r - 1]? = some kk := ⟨_, List.getElem?_eq_getElem (by omega)⟩
  have hkl := idxI_lt _ kk (List.mem_of_getElem? hkk)
  rw [froms_len] at hkl
  obtain ⟨bk, hbk⟩ : ∃ bk, bs[kk]? = some bk := ⟨_, List.getElem?_eq_getElem hkl⟩
  have hbase : bk.base ≤ off := by
    have := cnt_lt (p := ixP off bs) (n := (idxI (froms 0 bs)).length) (j := r - 1) (by omega)
    rw [ixP_some hkk hbk] at this
    exact of_decide_eq_true this
  have hskip : (bs.dropWhile fun b => decide (endB b ≤ off)) = (bs.drop kk).dropWhile fun b => decide (endB b ≤ off) := dropWhile_skip fun j x hj hx => decide_eq_true (by
    have := hs.chain.lt hx hbk hj
    omega)
  rw [hskip] at k
  obtain ⟨c, o, g1, g2, g3, g4⟩ := hp2.some_.at_ (j := ((r : Nat) : Int) - 1) (by omega) (by omega)
  have er : (((r : Nat) : Int) - 1).toNat = r - 1 := by omega
  have hgd : (ixV bs).getD (((r : Nat) : Int) - 1).toNat 0 = (kk : Int) := by rw [er, List.getD, List.getElem?_map, hkk]; rfl
  rw [hgd] at g4
  refine ⟨_, h2.cell 1 rfl rfl, ptrm_intro rfl ⟨p.1, hp2.cell rfl, _, h2.cell 1 rfl rfl, ptrm_intro rfl ⟨p.2, hp2.cell rfl, c, o, g1, g2, g3, _, g4, by omega, by omega, ?_⟩⟩⟩
  have hfr := hp.all.from_ eOlen (j := (kk : Int)) (by omega) (by omega)
  rw [Int.toNat_natCast] at hfr
  have hctx : HL.Holds (btl ⟨none, 0, 0⟩ [] :: blk q2 (.cells #[.int .i64 off] 3 (0, 0)) :: blk q1 (.cells #[.pointer (some ⟨q, 0, none⟩)] 32 (0, 0)) :: [ro H]) H2 := btl_nil h2
  refine ⟨fun l sum n H' => 0 ≤ n ∧ kk + n ≤ bs.length ∧ 0 ≤ sum ∧ sum ≤ (lenB (bs.take (kk + n.toNat)) : Nat) ∧ ∃ acc : List Ba, acc.length ≤ n.toNat ∧ (∀ b ∈ acc, b ∈ bs) ∧ takeB most 0 false ((bs.drop kk).dropWhile fun b => decide (endB b ≤ off)) = acc ++ takeB most sum (decide (acc ≠ [])) ((bs.drop (kk + n.toNat)).dropWhile fun b => decide (endB b ≤ off)) ∧
    HL.Holds (btl l acc :: blk q2 (.cells #[.int .i64 off] 3 (0, 0)) :: blk q1 (.cells #[.pointer (some ⟨q, 0, none⟩)] 32 (0, 0)) :: [ro H]) H', fun _ _ n _ => (bs.length - (kk + n)).toNat, ⟨Int.le_refl _, by omega, Int.le_refl _, by omega, [], by simp, by simp, by simp, hctx⟩, ?_⟩
  rintro l sum n H5 ⟨n0, n1, m0, m1, acc, hal, hain, hres, h5⟩
  have hfew : FewB acc := fun b hb => by
    have := (right_facts (hs.chain.all b (hain b hb))).few
    omega
  have hBt : Bts H5 l acc := btl_bts (h5.read 0 rfl btl_mono) hfew (by omega)
  have hln := hBt.len
  have done : takeB most 0 false ((bs.drop kk).dropWhile fun b => decide (endB b ≤ off)) = acc → K (.slice l.p l.n l.c) H5 := fun e => by
    rw [e] at k
    have h6 : HL.Holds [btl l acc, ro H] H5 := ((h5.pull 1 rfl).tail.pull 1 rfl).tail
    exact k l H5 (h5.sub 3 rfl) (ro_open h h6)
  have efr : (((p.1.n : Nat) : Int) - kk).toNat = bs.length - kk := by omega
  refine br_intro (fun u => ?_) (fun u => ?_)
  · have u := of_decide_eq_true u
    have hnk : kk + n.toNat < bs.length := by omega
    have s5 := h5.sub 3 rfl
    obtain ⟨c2, o2, x, e1, e2, e3⟩ := (Recs.mono _ _ s5 hfr).at_ eOlen (by decide) (j := n) n0 u
    obtain ⟨b, hb⟩ : ∃ b, bs[kk + n.toNat]? = some b := ⟨_, List.getElem?_eq_getElem hnk⟩
    rw [List.getElem?_drop, onesB_at hb, Nat.zero_add] at e2
    cases e2
    have hts := take_succ_len hb
    have hok1 := hs.chain.all b (List.mem_of_getElem? hb)
    have hfl := (right_facts hok1).flen
    have hle := lenB_take_mono bs (i := kk + n.toNat + 1) (j := bs.length) (by omega)
    rw [List.take_length, hts] at hle
    have hdrop : bs.drop (kk + n.toNat) = b :: bs.drop (kk + n.toNat + 1) := by
      rw [List.drop_eq_getElem_cons hnk]
      have := List.getElem?_eq_getElem hnk
      rw [hb] at this
      rw [Option.some.inj this]
    have hn1 : (n + 1).toNat = n.toNat + 1 := by omega
    have hkn : kk + (n.toNat + 1) = kk + n.toNat + 1 := by omega
    rw [wrap64_id (n := n + 1) (by omega) (by omega)]
    refine ⟨c2, o2, e1, n0, u, _, e3 0 _ rfl, _, e3 1 _ rfl, _, e3 2 _ rfl, _, e3 3 _ rfl, _, h5.cell 1 rfl rfl, br_intro (fun v => ?_) (fun v => ?_)⟩
    · have v : endB b ≤ off := of_decide_eq_true v
      refine ⟨rfl, ⟨by omega, by omega, m0, by rw [hn1, hkn, hts]; omega, acc, by omega, hain, ?_, h5⟩, by dsimp only; omega⟩
      rw [hres, hdrop, List.dropWhile_cons, if_pos (decide_eq_true v), hn1, hkn]
    · have v : ¬ endB b ≤ off := of_decide_eq_false v
      have hdw : (bs.drop (kk + n.toNat)).dropWhile (fun b => decide (endB b ≤ off)) = b :: bs.drop (kk + n.toNat + 1) := by
        rw [hdrop, List.dropWhile_cons, if_neg (by rw [decide_eq_false v]; decide)]
      have hrs := rest_same (off := off) hs.chain hb (by omega)
      have ew : IntKind.wrap .i64 (sum + IntKind.wrap .i64 (((lenB (bs.take (kk + n.toNat)) + flen b : Nat) : Int) - (lenB (bs.take (kk + n.toNat)) : Nat))) = sum + (flen b : Nat) := by
        rw [wrap64_id (n := ((lenB (bs.take (kk + n.toNat)) + flen b : Nat) : Int) - (lenB (bs.take (kk + n.toNat)) : Nat)) (by omega) (by omega), wrap64_id (by omega) (by omega)]
        omega
      dsimp only
      rw [ew]
      -- the batch is read and laid behind
      have go : ¬ (decide (acc ≠ []) = true ∧ sum + (flen b : Nat) > most) → ∀ {Z : Sl → Heap → Prop}, (∀ l5 H8, 0 ≤ n + 1 ∧ kk + (n + 1) ≤ bs.length ∧ 0 ≤ sum + (flen b : Nat) ∧ sum + (flen b : Nat) ≤ (lenB (bs.take (kk + (n + 1).toNat)) : Nat) ∧ (∃ acc : List Ba, acc.length ≤ (n + 1).toNat ∧ (∀ b ∈ acc, b ∈ bs) ∧ takeB most 0 false ((bs.drop kk).dropWhile fun b => decide (endB b ≤ off)) = acc ++ takeB most (sum + (flen b : Nat)) (decide (acc ≠ [])) ((bs.drop (kk + (n + 1).toNat)).dropWhile fun b => decide (endB b ≤ off)) ∧
          HL.Holds (btl l5 acc :: blk q2 (.cells #[.int .i64 off] 3 (0, 0)) :: blk q1 (.cells #[.pointer (some ⟨q, 0, none⟩)] 32 (0, 0)) :: [ro H]) H8) → Z l5 H8) →
          0 ≤ (((lenB (bs.take (kk + n.toNat)) + flen b : Nat) : Int)) ∧ (((lenB (bs.take (kk + n.toNat)) + flen b : Nat) : Int)) ≤ ((fB bs).size : Nat) ∧ 0 ≤ ((lenB (bs.take (kk + n.toNat)) : Nat) : Int) ∧ ((lenB (bs.take (kk + n.toNat)) : Nat) : Int) ≤ ((lenB (bs.take (kk + n.toNat)) + flen b : Nat) : Int) ∧
          FnH Tryz.prog 39 #[.string ((fB bs).extract (Int.toNat ((lenB (bs.take (kk + n.toNat)) : Nat) : Int)) (Int.toNat ((lenB (bs.take (kk + n.toNat)) + flen b : Nat) : Int)))] H5 fun r3 H6 => ∃ n11 : Int, ∃ n12 : Int, ∃ n13 : Int, ∃ n14 : Int, ∃ n15 : Int, ∃ l4 : Sl, ∃ n16 : Int, ∃ n17 : Int,
            r3 = .tuple #[.agg #[.int .i64 n11, .int .i64 n12, .int .i64 n13, .int .i64 n14, .int .i64 n15, .slice l4.p l4.n l4.c], .int .i64 n16, .int .i64 n17] ∧ ∀ q11 : Nat, H6 q11 = none → letH (Heap.upd H6 q11 (.cells #[.int .i64 n11, .int .i64 n12, .int .i64 n13, .int .i64 n14, .int .i64 n15, .slice l4.p l4.n l4.c] 40 (0, 0))) fun H7 =>
              runH Tryz.prog (Builtin.append_ #[52, 52] 52 #[.slice l.p l.n l.c, .slice (some ⟨q11, 0, none⟩) 1 1]) H7 fun r4 H8 => ∃ l5 : Sl, r4 = .slice l5.p l5.n l5.c ∧ Z l5 H8 := fun hgo {Z} hZ => by
        rw [fB_size]
        refine ⟨by omega, by omega, by omega, by omega, ?_⟩
        rw [Int.toNat_natCast, Int.toNat_natCast, extract_one hb]
        have h5w := (Holds.whole H5)
        refine readBatch_ok h5w hok1 (by simp) (by simp) fun sl H6 h6 => ⟨_, _, _, _, _, sl, _, _, rfl, ?_⟩
        have s56 := h6.sub 1 rfl
        have h7 := (ro_open h5 h6).swap
        refine btl_push h7 (by omega) fun l5 H8 h8 => ⟨l5, rfl, hZ l5 H8 ⟨by omega, by omega, by omega, by rw [hn1, hkn, hts]; omega, acc ++ [b], by rw [List.length_append, List.length_singleton]; omega, ?_, ?_, h8⟩⟩
        · intro x hx
          rcases List.mem_append.1 hx with hx | hx
          · exact hain x hx
          · rw [List.mem_singleton.1 hx]; exact List.mem_of_getElem? hb
        · rw [hres, hdw, hn1, hkn, hrs]
          have : decide (acc ++ [b] ≠ []) = true := by simp
          rw [this]
          rw [takeB_go hgo]
          simp
      have hacc : ((l.n : Nat) : Int) > 0 ↔ acc ≠ [] := by
        rw [hln]
        cases acc with
        | nil => simp
        | cons a l => simp
      have ms : (bs.length - (kk + (n + 1))).toNat < (bs.length - (kk + n)).toNat := by omega
      refine br_intro (fun y => ?_) (fun y => go (fun z => of_decide_eq_false y (hacc.2 (of_decide_eq_true z.1))) fun l5 H8 h => ⟨rfl, h, ms⟩)
      have y := hacc.1 (of_decide_eq_true y)
      refine br_intro (fun y2 => done ?_) (fun y2 => go (fun z => of_decide_eq_false y2 z.2) fun l5 H8 h => ⟨rfl, h, ms⟩)
      rw [hres, hdw]
      rw [takeB_stop ⟨decide_eq_true y, of_decide_eq_true y2⟩, List.append_nil]
  · have u := of_decide_eq_false u
    have e : bs.drop (kk + n.toNat) = [] := List.drop_eq_nil_of_le (by omega)
    rw [e] at hres
    exact done (by rw [hres]; simp [takeB])
end
end Go.Proofs.YtokceblmbmajgaaGreatDoor
