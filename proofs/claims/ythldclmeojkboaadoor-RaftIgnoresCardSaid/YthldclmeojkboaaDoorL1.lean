import Derived.Test.YthldclmeojkboaaDoorBM
import Derived.Test.YthldclmeojkboaaDoorV5
namespace Go.Proofs.YthldclmeojkboaaDoor
open Go Go.HL
set_option maxHeartbeats 1600000
set_option maxRecDepth 100000
structure One3 (n : Nd) : Prop where
  ok : NdOk n
  out : n.out = []
  id : n.id = 1
  ids : n.ps.map (·.id) = [2, 3]
theorem tells_id : ∀ (f : Nd → Pr → Mg) (l : List Pr) (m : Nd), (l.foldl (fun m p => m.tell (f m p)) m).id = m.id
  | _, [], _ => rfl
  | f, p :: l, m => tells_id f l (m.tell (f m p))
theorem lead_id (size : Int) (n : Nd) (now : Int) : (n.lead size now).id = n.id ∧ (n.lead size now).ps.map (·.id) = n.ps.map (·.id) ∧ (n.lead size now).st.l.length ≤ n.st.l.length + 1 := by
  have e0 : n.lead1.ps.map (·.id) = n.ps.map (·.id) := by show (n.ps.map _).map _ = _; rw [List.map_map]; rfl
  have hl : ∀ (st : RS) (a : Int) (x : En), (putS size st a [x]).2.l.length ≤ st.l.length + 1 := fun st a x => by
    unfold putS putX
    split
    · exact Nat.le_add_right _ _
    · split
      · exact Nat.le_add_right _ _
      · split
        · exact Nat.le_add_right _ _
        · rename_i y r e
          split
          · exact Nat.le_add_right _ _
          · split
            · exact Nat.le_add_right _ _
            · have h1 : (y :: r).length ≤ [x].length := by rw [← e]; exact (List.dropWhile_sublist _).length_le
              have h1 : (y :: r).length ≤ 1 := h1
              show (st.l.take _ ++ y :: r).length ≤ _
              rw [List.length_append, List.length_take]
              omega
  refine ⟨?_, ?_, by rw [lead_st]; exact hl _ _ _⟩
  · unfold Nd.lead
    split
    · rfl
    · show ((n.lead1.put size ⟨#[]⟩).2.2.advance.all).id = _
      exact (tells_id sendM (n.lead1.put size ⟨#[]⟩).2.2.advance.ps (n.lead1.put size ⟨#[]⟩).2.2.advance).trans (adv_same _ _ _).2.2.2.2.2.2.1
  · unfold Nd.lead
    split
    · exact e0
    · have h1 : ((n.lead1.put size ⟨#[]⟩).2.2.advance.all).ps = (n.lead1.put size ⟨#[]⟩).2.2.advance.ps := (sends_ps _ _).1
      have h2 : (n.lead1.put size ⟨#[]⟩).2.2.advance.ps = n.lead1.ps := (adv_same _ _ _).1
      show ((n.lead1.put size ⟨#[]⟩).2.2.advance.all).ps.map _ = _
      rw [h1, h2]; exact e0
theorem tick_id (size : Int) (n : Nd) (now draw : Int) : (n.tick size now draw).id = n.id ∧ (n.tick size now draw).ps.map (·.id) = n.ps.map (·.id) ∧ (n.tick size now draw).st.l.length ≤ n.st.l.length + 1 := by
  have h0 : ({ n with draw := dist draw } : Nd).id = n.id ∧ ({ n with draw := dist draw } : Nd).ps = n.ps ∧ ({ n with draw := dist draw } : Nd).st = n.st := ⟨rfl, rfl, rfl⟩
  unfold Nd.tick
  revert h0
  generalize ({ n with draw := dist draw } : Nd) = m
  rintro ⟨e1, e2, e3⟩
  rw [← e1, ← e2, ← e3]
  unfold Nd.tick1
  split
  · split
    · refine ⟨tells_id sendM _ _, ?_, ?_⟩
      · have h1 : m.all.ps = m.ps := (sends_ps _ _).1
        show m.all.ps.map _ = _
        rw [h1]
      · show m.all.st.l.length ≤ _
        have h1 : m.all.st = m.st := (sends_ps _ _).2.1
        rw [h1]; exact Nat.le_add_right _ _
    · exact ⟨rfl, rfl, Nat.le_add_right _ _⟩
  · dsimp only
    have h2 : (if m.deadline = -1 then m.anew now else m).id = m.id ∧ (if m.deadline = -1 then m.anew now else m).ps = m.ps ∧ (if m.deadline = -1 then m.anew now else m).st = m.st := by split <;> exact ⟨rfl, rfl, rfl⟩
    revert h2
    generalize (if m.deadline = -1 then m.anew now else m) = x
    rintro ⟨e4, e5, e6⟩
    rw [← e4, ← e5, ← e6]
    split
    · rw [stand_eq]
      have es : (x.stood size now).2.st.l = x.st.l := (turnS_same size x.st (x.st.term + 1) x.id).1
      have ec : (x.stood size now).2.cand.ps.map (·.id) = x.ps.map (·.id) := by show (List.map _ _).map _ = _; rw [List.map_map]; rfl
      split
      · exact ⟨rfl, rfl, by rw [es]; exact Nat.le_add_right _ _⟩
      · split
        · obtain ⟨a, b, c⟩ := lead_id size (x.stood size now).2.cand now
          refine ⟨a, b.trans ec, ?_⟩
          have : (x.stood size now).2.cand.st.l = x.st.l := es
          rw [this] at c; exact c
        · obtain ⟨a1, a2, -, -, -, -⟩ := tells_ps (x.stood size now).2.cand (fun _ p => askM (x.stood size now).2.cand p) (x.stood size now).2.cand.ps (x.stood size now).2.cand
          have a1 : (x.stood size now).2.cand.asks.ps = (x.stood size now).2.cand.ps := a1
          have a2 : (x.stood size now).2.cand.asks.st = (x.stood size now).2.cand.st := a2
          refine ⟨tells_id (fun _ p => askM (x.stood size now).2.cand p) _ _, by rw [a1]; exact ec, ?_⟩
          rw [a2]
          have : (x.stood size now).2.cand.st.l = x.st.l := es
          rw [this]; exact Nat.le_add_right _ _
    · exact ⟨rfl, rfl, Nat.le_add_right _ _⟩
theorem three_store {cs : List Chunk} {H A : Heap} {f : Nat → Heap → Prop} (h : HL.Holds (ro A :: cs) H) (k : ∀ b A' H', HL.Sub A A' → Ints A' ⟨some ⟨b, 0, none⟩, 3, 3⟩ [1, 2, 3] → HL.Holds (ro A' :: cs) H' → f b H') :
    ∀ q, H q = none → letH (H.upd q (.cells #[.int .i64 1, .int .i64 2, .int .i64 3] 3 (0, 0))) (f q) := lit_store (l := [1, 2, 3]) h (by decide) k
theorem ignored {n : Nd} (h : One3 n) {size now : Int} {m : Mg} (hm : ¬ (m.to = 1 ∧ (2 ≤ m.frm ∧ m.frm ≤ 3) ∧ 1 ≤ m.kind ∧ m.kind ≤ 6)) : n.step size now m = n ∧ (m.kind = 3 → m.to = n.id → n.place m.frm ≠ none → False) := by
  have hp : ∀ k, n.place m.frm = some k → m.frm = 2 ∨ m.frm = 3 := fun k hk => by
    obtain ⟨p, hp, e⟩ := place_some hk
    have : p.id ∈ n.ps.map (·.id) := List.mem_map_of_mem (List.mem_of_getElem? hp)
    rw [h.ids] at this
    simp at this
    omega
  constructor
  · unfold Nd.step
    split
    · rfl
    · rename_i k ek
      have := hp k ek
      rw [if_pos]
      rw [h.id]
      by_cases e : m.to = 1
      · by_cases e2 : m.kind < 1
        · exact .inr (.inl e2)
        · refine .inr (.inr (.inl (Int.not_le.1 fun z => hm ⟨e, by omega, by omega, z⟩)))
      · exact .inl e
  · intro e1 e2 e3
    rw [h.id] at e2
    cases hk : n.place m.frm with
    | none => exact e3 hk
    | some k =>
      have := hp k hk
      exact hm ⟨e2, by omega, by omega, by omega⟩
section
variable {K : Value → Heap → Prop}
theorem raftIgnores_walk {H : Heap} {m : Mw} {l : List En} {ticks : Int} (hm : MwOk m) (hx : Recs eE H m.ent l) (ht : i64B ticks) (k : ∀ H', HL.Sub H H' → K (.bool true) H') : FnH Tryd.prog 3 #[m.val, .int .i64 ticks] H K := by
  refine logboomlaw10_RaftIgnores_fn m.kind m.frm m.to m.id m.part m.epoch m.offset m.last m.start m.high m.term m.index m.pid m.pep m.seq m.err m.name m.text m.bat m.ent m.ints ticks ?_
  unfold logboomlaw10_RaftIgnores_vc
  refine shown10_spec (cs := []) (Holds.whole H) fun A1 H1 s1 h1 => ⟨_, rfl, dnew10_spec (by decide) h1 fun d H2 h2 => ⟨_, _, rfl, br_f rfl (br_f rfl (br_f rfl ?_))⟩⟩
  refine open10_spec h2 fun c0 H3 h3 => ⟨_, _, rfl, ?_⟩
  refine three_store (lgu_lgd h3).swap fun b A2 H4 s4 i4 h4 => ?_
  refine again10_spec (sv := ⟨some ⟨b, 0, none⟩, 3, 3⟩) h4.swap i4 (good3 (by decide)) fun q c s bs H5 h5 => ⟨_, rfl, br_f rfl (br_f rfl (br_f rfl ?_))⟩
  refine ⟨fun i H' => 0 ≤ i ∧ i ≤ 25 ∧ ∃ (n : Nd) (A : Heap), One3 n ∧ n.st.l.length ≤ i.toNat ∧ HL.Sub H A ∧ HL.Holds (nodB A q c d 100000 s bs n :: ro A :: []) H', fun i _ => (25 - i).toNat, ⟨Int.le_refl _, by decide, newN 1 [1, 2, 3] 10 st0, A2, ⟨new_ok (by decide) (by decide) (by decide) lg0, rfl, rfl, rfl⟩, Nat.zero_le _, s1.trans s4, h5⟩, ?_⟩
  clear h1 h2 h3 h4 h5 i4 s1 s4 A1 A2
  rintro i H6 ⟨i0, i1, n, A, hn, hl, sA, h⟩
  obtain ⟨d0, d1⟩ := pickI_in (c := ticks) (n := 25) (by decide) ht.1 ht.2
  have hL := nodB_lg (i := 0) h rfl
  refine pick10_spec (by decide) ⟨_, rfl, br_intro (fun w => ?_) (fun w => ?_)⟩
  · have w := of_decide_eq_true w
    rw [wrap64_id (n := i + 1) (by omega) (by omega)]
    obtain ⟨a1, a2, a3⟩ := tick_id 100000 n i 0
    refine tick10_spec h hn.ok ⟨by decide, by decide⟩ (by rw [hn.out]; decide) (by omega) fun A' o ms H8 s8 e8 m8 h8 => ⟨o, rfl, rfl, ⟨by omega, by omega, _, A', ⟨tick_said hn.ok ⟨by decide, by decide⟩ hL (nodB_lg (i := 1) h8 rfl), rfl, a1.trans hn.id, a2.trans hn.ids⟩, ?_, sA.trans s8, h8.tail⟩, by dsimp only; omega⟩
    show (Nd.tick _ _ _ _).st.l.length ≤ _
    omega
  have tail : ∀ mw : Mw, MwOk mw → mw.ent = m.ent → ¬ (mw.to = 1 ∧ (2 ≤ mw.frm ∧ mw.frm ≤ 3) ∧ 1 ≤ mw.kind ∧ mw.kind ≤ 6) →
      FnH Tryd.prog 10 #[.pointer (some ⟨q, 0, none⟩)] H6 fun r7 H9 => ∃ n4 : Int, r7 = .int .i64 n4 ∧ FnH Tryd.prog 11 #[.pointer (some ⟨q, 0, none⟩)] H9 fun r8 H10 => ∃ b2 : Bool, r8 = .bool b2 ∧ FnH Tryd.prog 12 #[.pointer (some ⟨q, 0, none⟩)] H10 fun r9 H11 => ∃ n5 : Int, r9 = .int .i64 n5 ∧
        FnH Tryd.prog 13 #[.pointer (some ⟨q, 0, none⟩), .int .i64 30, mw.val] H11 fun r10 H12 => ∃ l2 : Sl, r10 = .slice l2.p l2.n l2.c ∧ br (((l2.n : Nat) : Int) == 0) (FnH Tryd.prog 10 #[.pointer (some ⟨q, 0, none⟩)] H12 fun r11 H13 => ∃ n6 : Int, r11 = .int .i64 n6 ∧ br ((n6 : Int) == n4) (FnH Tryd.prog 11 #[.pointer (some ⟨q, 0, none⟩)] H13 fun r12 H14 => ∃ b3 : Bool, r12 = .bool b3 ∧
          br ((b3 == b2)) (FnH Tryd.prog 12 #[.pointer (some ⟨q, 0, none⟩)] H14 fun r13 H15 => ∃ n7 : Int, r13 = .int .i64 n7 ∧ K (.bool ((n7 : Int) == n5)) H15) (K (.bool false) H14)) (K (.bool false) H13)) (K (.bool false) H12) := fun mw hmw em hig => by
    obtain ⟨es, en⟩ := ignored hn (size := 100000) (now := 30) (m := mw.mg l) hig
    refine termN10_spec (i := 0) h rfl ⟨_, rfl, leads10_spec (i := 0) h rfl ⟨_, rfl, commit10_spec (i := 0) h rfl ⟨_, rfl, ?_⟩⟩⟩
    refine step10_spec (l := l) h hmw (by rw [em]; exact Recs.mono _ _ sA hx) (fun e1 e2 e3 => absurd e3 fun z => en e1 e2 z) hn.ok hn.out (by omega) fun A' o ms H12 s12 e12 m12 h12 => ⟨o, rfl, ?_⟩
    rw [es] at e12 h12
    rw [hn.out] at e12
    have ol := ms_len (A := A') h12 e12
    rw [said_nil hn.out] at h12
    refine br_t (by rw [ol]; rfl) (termN10_spec (i := 1) h12 rfl ⟨_, rfl, br_t (by simp) (leads10_spec (i := 1) h12 rfl ⟨_, rfl, br_t (by simp) (commit10_spec (i := 1) h12 rfl ⟨_, rfl, ?_⟩)⟩)⟩)
    have e : (n.commit == n.commit) = true := by simp
    rw [e]
    exact k H12 (sA.trans (s12.trans (h12.sub 2 rfl)))
  have kw := hm.kind
  refine br_intro (fun y1 => br_intro (fun y2 => br_intro (fun y3 => br_intro (fun y4 => br_intro (fun y5 => ?_) (fun y5 => ?_)) (fun y4 => ?_)) (fun y3 => ?_)) (fun y2 => ?_)) (fun y1 => ?_)
  · exact tail { m with frm := 4 } ⟨hm.kind, ⟨by show _ ≤ (4 : Int); decide, by show (4 : Int) ≤ _; decide⟩, hm.last, hm.high, hm.term, hm.index, hm.err⟩ rfl fun z => by
      have : (4 : Int) ≤ 3 := z.2.1.2
      omega
  · exact tail m hm rfl fun z => of_decide_eq_false y5 z.2.2.2
  · exact tail m hm rfl fun z => of_decide_eq_false y4 z.2.2.1
  · exact tail m hm rfl fun z => of_decide_eq_false y3 z.2.1.2
  · exact tail m hm rfl fun z => of_decide_eq_false y2 z.2.1.1
  · exact tail m hm rfl fun z => beq_eq_false_iff_ne.1 y1 z.1
end
end Go.Proofs.YthldclmeojkboaaDoor
