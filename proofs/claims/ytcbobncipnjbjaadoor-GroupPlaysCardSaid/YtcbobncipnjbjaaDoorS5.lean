/- Chapter 15: what join does. -/
import Derived.Test.YtcbobncipnjbjaaDoorS4
namespace Go.Proofs.YtcbobncipnjbjaaDoor
open Go.HL
set_option maxHeartbeats 800000
set_option maxRecDepth 10000

def newGrp : Grp := ⟨0, 0, [], [], [], []⟩
/-- The group of a name, or a new one. -/
def theX (G : List (ByteArray × Grp)) (n : ByteArray) : Grp := (lookL G n).getD newGrp
def hasIn (G : List (ByteArray × Grp)) (n : ByteArray) (a : Int) : Bool := match lookL G n with | some x => decide (a ∈ x.mem) | none => false
def fullIn (G : List (ByteArray × Grp)) (n : ByteArray) (a : Int) : Bool := match lookL G n with | some x => decide (a = 0) && (decide (x.mem.length ≥ 16) || decide (x.ever ≥ 1000000)) | none => decide (G.length ≥ 8)
/-- Why a join is refused; 0: it is not. -/
def joinC (G : List (ByteArray × Grp)) (m : Rec) (L : List Int) : Int :=
  if rightB m L = false then 1
  else if m.a > 0 ∧ (lookL G m.name).isNone = true then 8
  else if m.a > 0 ∧ hasIn G m.name m.a = false then 17
  else if fullIn G m.name m.a = true then 3 else 0
def joinA (x : Grp) (a : Int) : Int := if a = 0 then x.ever + 1 else a
def addX (x : Grp) (a : Int) : Grp := if a = 0 then { x with ever := x.ever + 1, mem := x.mem ++ [x.ever + 1] } else x
def joinX (x : Grp) (a : Int) (L : List Int) : Grp := { addX x a with prt := L, gen := x.gen + 1 }
def joinG (G : List (ByteArray × Grp)) (m : Rec) (L : List Int) : List (ByteArray × Grp) := if joinC G m L = 0 then putL G m.name (joinX (theX G m.name) m.a L) else G
def joinT (G : List (ByteArray × Grp)) (m : Rec) (L : List Int) : Told :=
  if joinC G m L = 0 then ⟨0, joinA (theX G m.name) m.a, (theX G m.name).gen + 1, 0, ofM (joinX (theX G m.name) m.a L) (joinA (theX G m.name) m.a)⟩ else errT (joinC G m L)
/-- What is in bounds, of all. -/
def Fine (G : List (ByteArray × Grp)) (N : Int) : Prop := ∀ p ∈ G, p.2.mem.length ≤ 16 ∧ p.2.prt.length ≤ 16 ∧ 0 ≤ p.2.gen ∧ p.2.gen ≤ N ∧ 0 ≤ p.2.ever ∧ p.2.ever ≤ 1000000
theorem Fine.small {G : List (ByteArray × Grp)} {N : Int} (h : Fine G N) : AllSmall G := fun p hp => ⟨by have := (h p hp).1; omega, by have := (h p hp).2.1; omega⟩
theorem Fine.look {G : List (ByteArray × Grp)} {N : Int} (h : Fine G N) (h0 : 0 ≤ N) (n : ByteArray) : (theX G n).mem.length ≤ 16 ∧ (theX G n).prt.length ≤ 16 ∧ 0 ≤ (theX G n).gen ∧ (theX G n).gen ≤ N ∧ 0 ≤ (theX G n).ever ∧ (theX G n).ever ≤ 1000000 := by
  unfold theX
  cases e : lookL G n with
  | none => simp [newGrp, h0]
  | some x =>
    obtain ⟨i, hi⟩ := lookL_idx e
    exact h (n, x) (List.mem_of_getElem? (idxL_get hi))
/-- A group in its place among all. -/
def Hole (g : Nat) (ep : Int) (cs : List Chunk) (n : ByteArray) (b : Nat) (x : Grp) (G : List (ByteArray × Grp)) (H : Heap) : Prop :=
  ∃ mb ps i y, ps[i]? = some (n, b, y) ∧ (∀ z, hmod (ps.set i (n, b, z)) = putL G n z) ∧ Holds (grp b x :: Holds ((ps.eraseIdx i).map hgrp) :: blk g (.cells #[.map (some mb), .int .i64 ep] 55 (0, 0)) :: mp mb encS (hptr ps) :: cs) H
theorem Hole.close {g : Nat} {ep : Int} {cs : List Chunk} {n : ByteArray} {b : Nat} {x : Grp} {G : List (ByteArray × Grp)} {H : Heap} (h : Hole g ep cs n b x G H) : Holds (grs g (putL G n x) ep :: cs) H := by
  obtain ⟨mb, ps, i, y, e, hz, h⟩ := h
  have h2 := Holds.back (f := hgrp) (ps := ps) (i := i) (a := (n, b, x)) h (List.getElem?_eq_some_iff.1 e).1
  refine grs_open.2 ⟨mb, ps.set i (n, b, x), hz x, ?_⟩
  have e2 : hptr (ps.set i (n, b, x)) = hptr ps := by
    unfold hptr
    rw [List.map_set]
    refine List.ext_getElem? fun j => ?_
    rw [List.getElem?_set]
    split
    · rename_i q; subst q
      simp only [List.length_map, (List.getElem?_eq_some_iff.1 e).1, if_true, List.getElem?_map, e, Option.map_some]
    · rfl
  rw [e2]
  exact h2.down 2
theorem Hole.turn {g : Nat} {ep : Int} {cs : List Chunk} {n : ByteArray} {b : Nat} {x : Grp} {G : List (ByteArray × Grp)} {H : Heap} (h : Hole g ep cs n b x G H) :
    ∃ ds, Holds (grp b x :: ds) H ∧ (∀ x' H', Holds (grp b x' :: ds) H' → Hole g ep cs n b x' G H') ∧ (∀ i c, cs[i]? = some c → ds[i + 3]? = some c) := by
  obtain ⟨mb, ps, i, y, e, hz, h⟩ := h
  exact ⟨_, h, fun x' H' h' => ⟨mb, ps, i, y, e, hz, h'⟩, fun i c hc => by simpa using hc⟩
theorem join_spec {cs : List Chunk} {H : Heap} {g : Nat} {G : List (ByteArray × Grp)} {ep : Int} {m : Rec} {ml : Sl} {L : List Int} {c0 : Chunk} {i0 : Nat} {K : Value → Heap → Prop} (hF : Fine G 1000000) (h : Holds (grs g G ep :: cs) H) (g0 : Gives c0 (ints ml L)) (hi : cs[i0]? = some c0)
    (hn : m.name.size ≤ 9223372036854775807) (k : ∀ (s : Sl) H', Holds (ints s (joinT G m L).parts :: grs g (joinG G m L) ep :: cs) H' → K (toldV (joinT G m L) s) H') : FnH Tryd.prog 25 #[ptrV g, recV m ml] H K := by
  apply groups_Groups_join_fn
  unfold groups_Groups_join_vc
  have hS := hF.small
  have hL := g0.at_ h (i0 + 1) (by simpa using hi)
  have bad : ∀ e : Int, joinC G m L = e → e ≠ 0 → ∀ H', Holds (grs g G ep :: cs) H' → FnH Tryd.prog 26 #[.int .i64 e] H' fun r1 H1 => ∃ n1 n2 n3 n4 : Int, ∃ l1 : Sl, r1 = .agg #[.int .i64 n1, .int .i64 n2, .int .i64 n3, .int .i64 n4, .slice l1.p l1.n l1.c] ∧ K (.agg #[.int .i64 n1, .int .i64 n2, .int .i64 n3, .int .i64 n4, .slice l1.p l1.n l1.c]) H1 := fun e he hne H' h' => by
    refine refuse_spec ⟨e, 0, 0, 0, ⟨none, 0, 0⟩, rfl, ?_⟩
    unfold joinG joinT at k
    rw [he, if_neg hne, if_neg hne] at k
    exact k ⟨none, 0, 0⟩ H' (Holds.intsNil h')
  obtain ⟨mb, ps, eG, h1⟩ := grs_open.1 h
  have c1 : cellH H ⟨g, 0, none⟩ = some (.map (some mb)) := h1.cell 0 rfl rfl
  have hm : MapR H mb encS (hptr ps) := h1.map 1 rfl
  have hlen : ps.length = G.length := by rw [← eG]; simp
  refine ⟨some mb, c1, runH_lookup1 u53 kstr z56 hm (k := m.name) ?_⟩
  -- the group, or none
  obtain ⟨xp, exp, hx⟩ : ∃ xp : Option Addr, (lookL (hptr ps) m.name).getD (.pointer none) = .pointer xp ∧ ((xp = none ∧ lookL G m.name = none ∧ idxL ps m.name = none) ∨ ∃ b x j, xp = some ⟨b, 0, none⟩ ∧ lookL G m.name = some x ∧ idxL ps m.name = some (j, b, x) ∧ grp b x H) := by
    unfold lookL
    rw [← eG, idx_ptr, idx_mod]
    cases e : idxL ps m.name with
    | none => exact ⟨none, rfl, .inl ⟨rfl, rfl, rfl⟩⟩
    | some q =>
      obtain ⟨j, b, x⟩ := q
      exact ⟨_, rfl, .inr ⟨b, x, j, rfl, rfl, rfl, Holds.one (f := hgrp) (fun _ => grp_mono) (h1.read 2 rfl (Holds.mono _)) (idxL_get e)⟩⟩
  refine ⟨xp, by simpa using exp, HL.Sub.refl _, fun x_1 n20 n21 n22 n23 l8 H' => joinC G m L = 0 ∧ ∃ b, x_1 = some ⟨b, 0, none⟩ ∧ Hole g ep cs m.name b (theX G m.name) G H', right_spec hL hn ⟨_, rfl, ?_⟩, ?_⟩
  · have enone : (lookL G m.name).isNone = xp.isNone := by
      rcases hx with ⟨e1, e2, e3⟩ | ⟨b, x, j, e1, e2, e3, hg⟩
      · rw [e1, e2]; rfl
      · rw [e1, e2]; rfl
    refine br_intro (fun q => bad 1 (by unfold joinC; rw [if_pos (by simpa using q)]) (by decide) H h) (fun q => ?_)
    have hr : ¬ rightB m L = false := by simpa using q
    refine ⟨fun bb H' => H' = H ∧ (bb = true ↔ (m.a > 0 ∧ (lookL G m.name).isNone = true)), br_intro (fun q2 => ⟨rfl, rfl, ?_⟩) (fun q2 => ⟨rfl, rfl, ?_⟩), ?_⟩
    · rw [enone]; exact ⟨fun x => ⟨of_decide_eq_true q2, x⟩, fun x => x.2⟩
    · exact ⟨fun x => (by cases x), fun x => absurd x.1 (of_decide_eq_false q2)⟩
    rintro bb H' ⟨rfl, hbb⟩
    refine br_intro (fun q2 => bad 8 (by unfold joinC; rw [if_neg hr, if_pos (hbb.1 q2)]) (by decide) H' h) (fun q2 => ?_)
    have h8 : ¬ (m.a > 0 ∧ (lookL G m.name).isNone = true) := fun x => by rw [hbb.2 x] at q2; cases q2
    refine ⟨fun bb H2 => H2 = H' ∧ (bb = true ↔ (m.a > 0 ∧ hasIn G m.name m.a = false)), br_intro (fun q3 => ?_) (fun q3 => ⟨rfl, rfl, ?_⟩), ?_⟩
    · have q3 := of_decide_eq_true q3
      rcases hx with ⟨e1, e2, e3⟩ | ⟨b, x, j, e1, e2, e3, hg⟩
      · exact absurd ⟨q3, by rw [e2]; rfl⟩ h8
      · obtain ⟨sm, sp, mo, mn, gi⟩ := grp_in (look_small hS e2) hg
        refine ptrm_intro e1 ⟨sm, gi.cell rfl, contains_spec gi.mem ⟨_, rfl, HL.Sub.refl _, rfl, rfl, ?_⟩⟩
        unfold hasIn
        rw [e2]
        simp [q3]
    · exact ⟨fun x => (by cases x), fun x => absurd x.1 (of_decide_eq_false q3)⟩
    rintro bb2 H2 ⟨rfl, hbb2⟩
    refine br_intro (fun q3 => bad 17 (by unfold joinC; rw [if_neg hr, if_neg h8, if_pos (hbb2.1 q3)]) (by decide) H2 h) (fun q3 => ?_)
    have h17 : ¬ (m.a > 0 ∧ hasIn G m.name m.a = false) := fun x => by rw [hbb2.2 x] at q3; cases q3
    have ha0 : m.a ≥ 0 := by
      have : rightB m L = true := by simpa using hr
      unfold rightB at this
      simp only [Bool.and_eq_true, decide_eq_true_eq] at this
      exact this.2
    refine ⟨fun bb H3 => H3 = H2 ∧ (bb = true ↔ fullIn G m.name m.a = true), ?_, ?_⟩
    · rcases hx with ⟨e1, e2, e3⟩ | ⟨b, x, j, e1, e2, e3, hg⟩
      · rw [e1]
        have hz : ¬ m.a > 0 := fun x => h8 ⟨x, by rw [e2]; rfl⟩
        have ef : fullIn G m.name m.a = decide (G.length ≥ 8) := by unfold fullIn; rw [e2]
        obtain ⟨_, hm1, es, clock, rfl, hm2, -⟩ := hm
        have hes : es.size = G.length := by
          have := congrArg List.length hm2
          simp only [kvs, encs, List.length_map, Array.length_toList] at this
          omega
        refine br_t rfl ⟨some mb, c1, es, clock, hm1, br_intro (fun q4 => ⟨rfl, rfl, ?_⟩) (fun q4 => ?_)⟩
        · rw [ef]; have := of_decide_eq_true q4; simp; omega
        · have q4 := of_decide_eq_false q4
          refine br_intro (fun q5 => br_f rfl ⟨rfl, rfl, ?_⟩) (fun q5 => ⟨rfl, rfl, ?_⟩)
          · rw [ef]; simp; omega
          · rw [ef]; simp; omega
      · rw [e1]
        obtain ⟨sm, sp, mo, mn, gi⟩ := grp_in (look_small hS e2) hg
        have hml := gi.mem.len
        have ef : fullIn G m.name m.a = (decide (m.a = 0) && (decide (x.mem.length ≥ 16) || decide (x.ever ≥ 1000000))) := by unfold fullIn; rw [e2]
        refine br_f rfl (br_intro (fun q5 => br_t rfl (ptrm_intro rfl ⟨sm, gi.cell rfl, br_intro (fun q6 => ⟨rfl, rfl, ?_⟩) (fun q6 => ptrm_intro rfl ⟨x.ever, gi.cell rfl, rfl, rfl, ?_⟩)⟩)) (fun q5 => ⟨rfl, rfl, ?_⟩))
        · have q5 : m.a = 0 := by simpa using q5
          have := of_decide_eq_true q6
          rw [ef]; simp [q5]; left; omega
        · have q5 : m.a = 0 := by simpa using q5
          have := of_decide_eq_false q6
          rw [ef]; simp [q5]; omega
        · have q5 : ¬ m.a = 0 := by simpa using q5
          rw [ef]; simp [q5]
    rintro bb3 H3 ⟨rfl, hbb3⟩
    refine br_intro (fun q4 => bad 3 (by unfold joinC; rw [if_neg hr, if_neg h8, if_neg h17, if_pos (hbb3.1 q4)]) (by decide) H3 h) (fun q4 => ?_)
    have h3 : ¬ fullIn G m.name m.a = true := fun x => by rw [hbb3.2 x] at q4; cases q4
    have hc : joinC G m L = 0 := by unfold joinC; rw [if_neg hr, if_neg h8, if_neg h17, if_neg h3]
    rcases hx with ⟨e1, e2, e3⟩ | ⟨b, x, j, e1, e2, e3, hg⟩
    · rw [e1]
      refine br_t rfl ?_
      have eX : theX G m.name = newGrp := by unfold theX; rw [e2]; rfl
      subst eG
      refine h1.newMap encI fun q6 H4 h4 => h4.newMap encI fun q7 H5 h5 => h5.new fun q8 H6 h6 => ⟨some mb, h6.cell 3 rfl rfl, h6.update 4 rfl u53 kstr (k := m.name) fun H7 h7 => ⟨rfl, hc, q8, rfl, ?_⟩⟩
      have h7 : Holds (blk q8 (.cells #[.int .i64 0, .int .i64 0, .slice none 0 0, .slice none 0 0, .map (some q6), .map (some q7)] 61 (0, 0)) :: mp q7 encI [] :: mp q6 encI [] :: blk g (.cells #[.map (some mb), .int .i64 ep] 55 (0, 0)) ::
          mp mb encS (putL (hptr ps) m.name (ptrV q8)) :: Holds (ps.map hgrp) :: cs) H7 := h7
      have hnone : idxL (hmod ps) m.name = none := by unfold lookL at e2; simpa using e2
      have hnq : idxL (hptr ps) m.name = none := by rw [idx_ptr, e3]; rfl
      rw [putL_none hnq] at h7
      rw [eX]
      have h8' := (h7.pull 2 rfl).own_nil 3 1
      have h9 := h8'.own_nil 3 1
      have h9 : Holds (own 3 1 ⟨none, 0, 0⟩ [] :: own 3 1 ⟨none, 0, 0⟩ [] :: mp q6 encI [] :: blk q8 (.cells #[.int .i64 0, .int .i64 0, .slice none 0 0, .slice none 0 0, .map (some q6), .map (some q7)] 61 (0, 0)) :: mp q7 encI [] ::
          blk g (.cells #[.map (some mb), .int .i64 ep] 55 (0, 0)) :: mp mb encS (hptr ps ++ [(m.name, ptrV q8)]) :: Holds (ps.map hgrp) :: cs) H7 := h9
      have h10 := grp_open.2 ⟨⟨⟨none, 0, 0⟩, ⟨none, 0, 0⟩, q6, q7⟩, (show Holds (blk q8 (.cells #[.int .i64 newGrp.gen, .int .i64 newGrp.ever, .slice none 0 0, .slice none 0 0, .map (some q6), .map (some q7)] 61 (0, 0)) :: own 3 1 ⟨none, 0, 0⟩ (iv newGrp.mem) ::
          own 3 1 ⟨none, 0, 0⟩ (iv newGrp.prt) :: mp q6 encI (ivs newGrp.off) :: mp q7 encI (ivs newGrp.num) :: _) H7 from h9.pull 3 rfl)⟩
      refine ⟨mb, ps ++ [(m.name, q8, newGrp)], ps.length, newGrp, by simp, fun z => ?_, ?_⟩
      · have : (ps ++ [(m.name, q8, newGrp)]).set ps.length (m.name, q8, z) = ps ++ [(m.name, q8, z)] := by simp
        rw [this, putL_none hnone]
        simp [hmod]
      · have e4 : (ps ++ [(m.name, q8, newGrp)]).eraseIdx ps.length = ps := by
          rw [List.eraseIdx_append_of_length_le (Nat.le_refl _)]; simp
        have e5 : hptr (ps ++ [(m.name, q8, newGrp)]) = hptr ps ++ [(m.name, ptrV q8)] := by simp [hptr]
        rw [e4, e5]
        have h11 : Holds (grp q8 newGrp :: blk g (.cells #[.map (some mb), .int .i64 ep] 55 (0, 0)) :: mp mb encS (hptr ps ++ [(m.name, ptrV q8)]) :: Holds (ps.map hgrp) :: cs) H7 := h10
        exact (h11.pull 3 rfl).swap
    · rw [e1]
      refine br_f rfl ⟨rfl, hc, b, rfl, ?_⟩
      have eX : theX G m.name = x := by unfold theX; rw [e2]; rfl
      subst eG
      rw [eX]
      refine ⟨mb, ps, j, x, idxL_get e3, fun z => ?_, ?_⟩
      · have : idxL (hmod ps) m.name = some (j, x) := by rw [idx_mod, e3]; rfl
        rw [putL_set this]
        simp [hmod, List.map_set]
      · have h2 : Holds (Holds (ps.map hgrp) :: blk g (.cells #[.map (some mb), .int .i64 ep] 55 (0, 0)) :: mp mb encS (hptr ps) :: cs) H3 := h1.rot
        exact Holds.pick (f := hgrp) h2 (idxL_get e3)
  rintro x_1 n20 n21 n22 n23 l8 H14 ⟨hc, b, rfl, hole⟩
  obtain ⟨f1, f2, f3, f4, f5, f6⟩ := hF.look (by decide) m.name
  generalize hX : theX G m.name = x at *
  have hro : rightB m L = true := by
    unfold joinC at hc
    by_cases q : rightB m L = false
    · rw [if_pos q] at hc; cases hc
    · simpa using q
  have hL16 : L.length ≤ 16 := by
    unfold rightB at hro
    simp only [Bool.and_eq_true] at hro
    rcases rising_len hro.1.2 with q | q
    · omega
    · rw [q]; simp
  have ha15 : m.a = 0 → x.mem.length ≤ 15 ∧ x.ever ≤ 999999 := fun ha => by
    have hfull : ¬ fullIn G m.name m.a = true := by
      intro q
      unfold joinC at hc
      rw [if_neg (by rw [hro]; simp), if_neg (by omega), if_neg (by omega), if_pos q] at hc
      cases hc
    unfold theX at hX
    unfold fullIn at hfull
    cases e : lookL G m.name with
    | none => rw [e] at hX; rw [← hX]; simp [newGrp]
    | some y =>
      rw [e] at hX hfull
      simp only [Option.getD_some] at hX
      subst hX
      simp [ha] at hfull
      omega
  have hmem : joinA x m.a ∈ (addX x m.a).mem := by
    unfold joinA addX
    by_cases ha : m.a = 0
    · rw [if_pos ha, if_pos ha]; simp
    · rw [if_neg ha, if_neg ha]
      have hin : ¬ (m.a > 0 ∧ hasIn G m.name m.a = false) := by
        intro q
        unfold joinC at hc
        rw [if_neg (by rw [hro]; simp)] at hc
        split at hc
        · cases hc
        · omega
      have ha0 : m.a > 0 := by
        unfold rightB at hro
        simp only [Bool.and_eq_true, decide_eq_true_eq] at hro
        omega
      have hh : hasIn G m.name m.a = true := by
        cases e : hasIn G m.name m.a with
        | true => rfl
        | false => exact absurd ⟨ha0, e⟩ hin
      unfold hasIn at hh
      unfold theX at hX
      cases e : lookL G m.name with
      | none => rw [e] at hh; cases hh
      | some y =>
        rw [e] at hX hh
        simp only [Option.getD_some] at hX
        subst hX
        exact of_decide_eq_true hh
  obtain ⟨ds, hd, hback, hcs⟩ := hole.turn
  have hci := hcs _ _ hi
  refine ⟨fun _ a' _ _ _ _ _ l H' => a' = joinA x m.a ∧ l = ml ∧ Holds (grp b (addX x m.a) :: ds) H', br_intro (fun q => ?_) (fun q => ⟨rfl, ?_⟩), ?_⟩
  · have q : m.a = 0 := by simpa using q
    obtain ⟨⟨sm, sp, mo, mn⟩, h2⟩ := grp_open.1 hd
    refine ptrm_intro rfl ⟨x.ever, h2.cell 0 rfl rfl, ptrm_intro rfl (h2.store 0 rfl (by simp) fun H15 h3 => ptrm_intro rfl ⟨x.ever + 1, h3.cell 0 rfl ?_, ptrm_intro rfl ⟨sm, h3.cell 0 rfl rfl, ?_⟩⟩)⟩
    · show some (Value.int .i64 (IntKind.wrap .i64 (x.ever + 1))) = _
      rw [wrap64_id (by omega) (by omega)]
    have e : IntKind.wrap .i64 (x.ever + 1) = x.ever + 1 := wrap64_id (by omega) (by omega)
    have h3 : Holds (blk b (.cells #[.int .i64 x.gen, .int .i64 (IntKind.wrap .i64 (x.ever + 1)), .slice sm.p sm.n sm.c, .slice sp.p sp.n sp.c, .map (some mo), .map (some mn)] 61 (0, 0)) :: own 3 1 sm (iv x.mem) :: own 3 1 sp (iv x.prt) :: mp mo encI (ivs x.off) :: mp mn encI (ivs x.num) :: ds) H15 := h3
    rw [e] at h3
    have hsl := (h3.own 1 rfl).1
    simp only [List.length_map, Nat.mul_one] at hsl
    refine h3.newS fun q13 H16 s16 h4 => ⟨s16, ?_⟩
    have hx : CellsAt H16 (some ⟨q13, 0, none⟩) [Value.int .i64 (x.ever + 1)] := CellsAt.block (h4.get 0 rfl) fun i hi => by simp at hi; subst hi; rfl
    refine Holds.append ok22 ok22.under (h4.pull 2 rfl) hx rfl rfl (by omega) fun r H17 h5 n5 => ⟨r, rfl, ptrm_intro rfl ?_⟩
    have h5 : Holds (own 3 1 r (iv x.mem ++ [.int .i64 (x.ever + 1)]) :: blk q13 (.cells #[.int .i64 (x.ever + 1)] 3 (0, 0)) :: blk b (.cells #[.int .i64 x.gen, .int .i64 (x.ever + 1), .slice sm.p sm.n sm.c, .slice sp.p sp.n sp.c, .map (some mo), .map (some mn)] 61 (0, 0)) ::
        own 3 1 sp (iv x.prt) :: mp mo encI (ivs x.off) :: mp mn encI (ivs x.num) :: ds) H17 := h5
    refine h5.store 2 rfl (by simp) fun H18 h6 => ⟨rfl, ?_, rfl, ?_⟩
    · unfold joinA; rw [if_pos q]
    · have h6 : Holds (own 3 1 r (iv x.mem ++ [.int .i64 (x.ever + 1)]) :: blk q13 (.cells #[.int .i64 (x.ever + 1)] 3 (0, 0)) :: blk b (.cells #[.int .i64 x.gen, .int .i64 (x.ever + 1), .slice r.p r.n r.c, .slice sp.p sp.n sp.c, .map (some mo), .map (some mn)] 61 (0, 0)) ::
        own 3 1 sp (iv x.prt) :: mp mo encI (ivs x.off) :: mp mn encI (ivs x.num) :: ds) H18 := h6
      have eA : addX x m.a = { x with ever := x.ever + 1, mem := x.mem ++ [x.ever + 1] } := by unfold addX; rw [if_pos q]
      rw [eA]
      refine grp_open.2 ⟨⟨r, sp, mo, mn⟩, ?_⟩
      have e2 : iv (x.mem ++ [x.ever + 1]) = iv x.mem ++ [.int .i64 (x.ever + 1)] := by simp [iv]
      show Holds (blk b _ :: own 3 1 r (iv (x.mem ++ [x.ever + 1])) :: _) H18
      rw [e2]
      exact h6.swap.tail.swap
  · have q : ¬ m.a = 0 := by simpa using q
    refine ⟨?_, rfl, ?_⟩
    · unfold joinA; rw [if_neg q]
    · unfold addX; rw [if_neg q]; exact hd
  rintro _ a' _ _ _ _ _ l H19 ⟨rfl, rfl, h19⟩
  have hL19 := g0.at_ h19 (i0 + 4) (by simpa using hci)
  refine clone_spec h19 hL19 (by omega) fun r H20 h20 n20 => ⟨r, rfl, ptrm_intro rfl ?_⟩
  obtain ⟨⟨sm, sp, mo, mn⟩, h21⟩ := grp_open.1 h20.swap
  have eg : (addX x m.a).gen = x.gen := by unfold addX; split <;> rfl
  refine h21.store 0 rfl (by simp) fun H21 h22 => ptrm_intro rfl ⟨x.gen, h22.cell 0 rfl (by show some (Value.int .i64 (addX x m.a).gen) = _; rw [eg]), ptrm_intro rfl (h22.store 0 rfl (by simp) fun H22 h23 => ?_)⟩
  have e : IntKind.wrap .i64 (x.gen + 1) = x.gen + 1 := wrap64_id (by omega) (by omega)
  have h23 : Holds (blk b (.cells #[.int .i64 (IntKind.wrap .i64 (x.gen + 1)), .int .i64 (addX x m.a).ever, .slice sm.p sm.n sm.c, .slice r.p r.n r.c, .map (some mo), .map (some mn)] 61 (0, 0)) :: own 3 1 sm (iv (addX x m.a).mem) ::
      own 3 1 sp (iv (addX x m.a).prt) :: mp mo encI (ivs (addX x m.a).off) :: mp mn encI (ivs (addX x m.a).num) :: own 3 1 r (iv L) :: ds) H22 := h23
  rw [e] at h23
  have h24 : Holds (grp b (joinX x m.a L) :: ds) H22 := grp_open.2 ⟨⟨sm, r, mo, mn⟩, by
    have h25 := (h23.pull 5 rfl).down 3
    exact ((h25.pull 2 rfl).tail)⟩
  have hs2 : Small (joinX x m.a L) := ⟨by
    show (addX x m.a).mem.length ≤ 1000
    unfold addX
    split
    · show (x.mem ++ [x.ever + 1]).length ≤ 1000; simp; omega
    · omega, by show L.length ≤ 1000; omega⟩
  have fin : ∀ (r : Sl) H', Holds (ints r (ofM (joinX x m.a L) (joinA x m.a)) :: grp b (joinX x m.a L) :: ds) H' → K (.agg #[.int .i64 0, .int .i64 (joinA x m.a), .int .i64 (joinX x m.a L).gen, .int .i64 0, .slice r.p r.n r.c]) H' := fun r H' h' => by
    unfold joinG joinT at k
    rw [hc, if_pos rfl, if_pos rfl, hX] at k
    refine k r H' ?_
    -- the share beside all groups
    obtain ⟨A, B, eAB, dAB, pA, pB⟩ := h'
    exact ⟨A, B, eAB, dAB, pA, (hback _ _ pB).close⟩
  refine ptrm_intro rfl ?_
  simp only [sub_self, true_and, and_self]
  have A := shareA hs2 hmem h24 (f := fun n l H => K (.agg #[.int .i64 0, .int .i64 (joinA x m.a), .int .i64 n, .int .i64 0, .slice l.p l.n l.c]) H) fin
  have B := shareB hs2 hmem h24 (f := fun n l H => K (.agg #[.int .i64 0, .int .i64 (joinA x m.a), .int .i64 n, .int .i64 0, .slice l.p l.n l.c]) H) fin
  exact ⟨A, B⟩
end Go.Proofs.YtcbobncipnjbjaaDoor
