import Derived.Test.YthldclmeojkboaaGreatDoorL1
namespace Go.Proofs.YthldclmeojkboaaGreatDoor
open Go Go.HL
set_option maxHeartbeats 3200000
set_option maxRecDepth 100000
structure One3 (n : Nd) : Prop where
  ok : NdOk n
  out : n.out = []
  id : n.id = 1
  ids : n.ps.map (·.id) = [2, 3]
theorem One3.ne {n : Nd} (h : One3 n) : ∀ p ∈ n.ps, p.id ≠ 0 := fun p hp => by
  have : p.id ∈ n.ps.map (·.id) := List.mem_map_of_mem hp
  rw [h.ids] at this
  simp at this
  omega
theorem One3.len {n : Nd} (h : One3 n) : n.ps.length = 2 := by
  have := congrArg List.length h.ids
  rw [List.length_map] at this; exact this
theorem One3.new {st : RS} (h : Lg st) : One3 (newN 1 [1, 2, 3] 10 st) := ⟨new_ok (by decide) (by decide) (by decide) h, rfl, rfl, rfl⟩
theorem One3.said {n n' : Nd} {L : Nat} (h : One3 n) (k : Kp n n' L) (ok : NdOk n'.said) : One3 n'.said := ⟨ok, rfl, k.id.trans h.id, k.ids.trans h.ids⟩
theorem three_store {cs : List Chunk} {H A : Heap} {f : Nat → Heap → Prop} (h : HL.Holds (ro A :: cs) H) (k : ∀ b A' H', HL.Sub A A' → Ints A' ⟨some ⟨b, 0, none⟩, 3, 3⟩ [1, 2, 3] → HL.Holds (ro A' :: cs) H' → f b H') :
    ∀ q, H q = none → letH (H.upd q (.cells #[.int .i64 1, .int .i64 2, .int .i64 3] 3 (0, 0))) (f q) := lit_store (l := [1, 2, 3]) h (by decide) k
theorem prom_all {ms : List Mo} {n n' : Nd} {L : Nat} (h : One3 n) (k : Kp n n' L) (e : ms.map Prod.fst = n'.out) : ∀ x ∈ ms, Prom 1 n'.said.st x.1 := fun x hx => by
  have : x.1 ∈ n'.out := by rw [← e]; exact List.mem_map_of_mem hx
  rcases k.out h.ne x.1 this with y | y
  · rw [h.out] at y; cases y
  · rw [h.id] at y; exact y
section
variable {K : Value → Heap → Prop}
theorem raftVotes_walk {H : Heap} {script : Sl} {ops : List Op} (hs : Recs eOp H script ops) (ho : ∀ o ∈ ops, OpOk H o) (k : ∀ H', HL.Sub H H' → K (.bool true) H') : FnH Tryz.prog 3 #[.slice script.p script.n script.c] H K := by
  refine logboomlaw10_RaftVotes_fn script ?_
  unfold logboomlaw10_RaftVotes_vc
  have hsb := hs.big
  refine shown10_spec (cs := []) (Holds.whole H) fun A1 H1 s1 h1 => ⟨_, rfl, three_store h1 fun b1 A2 H2 s2 i2 h2 => ?_⟩
  refine node10_spec (sv := ⟨some ⟨b1, 0, none⟩, 3, 3⟩) h2 i2 (good3 (by decide)) fun q c d s bs H3 h3 => ⟨_, _, rfl, br_f rfl (br_f rfl ?_)⟩
  refine ⟨fun p given term now i H' => 0 ≤ i ∧ i ≤ 100 ∧ ∃ (q c : Nat) (s : Sl) (bs : List Nat) (n : Nd) (g : List En) (A : Heap), p = some ⟨q, 0, none⟩ ∧ term = n.st.term ∧ One3 n ∧ n.st.l.length ≤ 80 * i.toNat ∧ Given g n.st ∧ g.length ≤ 100 * i.toNat ∧ HL.Sub H A ∧ HL.Holds (ownE given g :: nodB A q c d 1000000 s bs n :: ro A :: []) H',
    fun _ _ _ _ i _ => (100 - i).toNat, ⟨Int.le_refl _, by decide, q, c, s, bs, newN 1 [1, 2, 3] 10 st0, [], A2, rfl, rfl, One3.new lg0, Nat.zero_le _, fun x hx => (by cases hx), Nat.zero_le _, s1.trans s2, h3.own_nil 51 3⟩, ?_⟩
  clear h1 h2 h3 i2 s1 s2 A1 A2 q c s bs
  rintro p given term now i H4 ⟨i0, i1, q, c, s, bs, n, g, A, rfl, rfl, hn, hlen, hg, hgl, sA, h⟩
  have done : K (.bool true) H4 := k H4 (sA.trans (h.sub 2 rfl))
  refine br_intro (fun w => br_intro (fun w2 => ?_) (fun _ => done)) (fun _ => done)
  clear done
  have w := of_decide_eq_true w
  have w2 := of_decide_eq_true w2
  obtain ⟨b, of, o, e1, e2, e3⟩ := (Recs.mono _ _ (sA.trans (h.sub 2 rfl)) hs).at_ eOplen (by decide) i0 w
  have hop := ho o (List.mem_of_getElem? e2)
  have hm := hop.m
  have f := fun fld v hv => e3 fld v hv
  rw [wrap64_id (n := i + 1) (by omega) (by omega)]
  refine ⟨b, of, e1, i0, w, _, f 0 _ rfl, _, f 1 _ rfl, _, f 2 _ rfl, _, f 3 _ rfl, _, f 4 _ rfl, _, f 5 _ rfl, _, f 6 _ rfl, _, f 7 _ rfl, _, f 8 _ rfl, _, f 9 _ rfl, _, f 10 _ rfl, _, f 11 _ rfl, _, f 12 _ rfl, _, f 13 _ rfl, _, f 14 _ rfl, _, f 15 _ rfl, _, f 16 _ rfl, _, f 17 _ rfl, _, f 18 _ rfl, _, f 19 _ rfl, _, f 20 _ rfl, o.m.bat, f 21 _ rfl, o.m.ent, f 22 _ rfl, o.m.ints, f 23 _ rfl, _, f 24 _ rfl, _, f 25 _ rfl, ?_⟩
  have skip : (0 ≤ i + 1 ∧ i + 1 ≤ 100 ∧ ∃ (q' c : Nat) (s : Sl) (bs : List Nat) (n' : Nd) (g : List En) (A : Heap), some (⟨q, 0, none⟩ : Addr) = some ⟨q', 0, none⟩ ∧ n.st.term = n'.st.term ∧ One3 n' ∧ n'.st.l.length ≤ 80 * (i + 1).toNat ∧ Given g n'.st ∧ g.length ≤ 100 * (i + 1).toNat ∧ HL.Sub H A ∧ HL.Holds (ownE given g :: nodB A q' c d 1000000 s bs n' :: ro A :: []) H4) := ⟨by omega, by omega, q, c, s, bs, n, g, A, rfl, rfl, hn, by omega, hg, by omega, sA, h⟩
  refine br_intro (fun _ => ⟨rfl, skip, by dsimp only; omega⟩) (fun y1 => br_intro (fun _ => ⟨rfl, skip, by dsimp only; omega⟩) (fun _ => ?_))
  clear skip
  have y1 := of_decide_eq_false y1
  have hel : o.l.length ≤ 70 := by have := hop.ents.len; omega
  have hx : Recs eE A o.m.ent o.l := Recs.mono _ _ sA hop.ents
  have h' : HL.Holds (nodB A q c d 1000000 s bs n :: ro A :: ownE given g :: []) H4 := h.down 2
  have hL := nodB_lg (i := 0) h' rfl
  have hps := hn.len
  refine ⟨fun p' _ l H' => ∃ (q' c' : Nat) (s' : Sl) (bs' : List Nat) (n' : Nd) (A' : Heap) (ms : List Mo), p' = some ⟨q', 0, none⟩ ∧ One3 n' ∧ Voted n.st n'.st ∧ n'.st.l.length ≤ 80 * i.toNat + 80 ∧ (∀ x ∈ ms, Prom 1 n'.st x.1) ∧ ms.length ≤ 100 ∧ HL.Sub A A' ∧ HL.Holds (own 33 21 l (ms.flatMap eM) :: ownE given g :: nodB A' q' c' d 1000000 s' bs' n' :: ro A' :: []) H', ?_, ?_⟩
  · obtain ⟨d0, d1⟩ := pickI_in (c := o.kind) (n := 4) (by decide) hop.kind.1 hop.kind.2
    have step : ∀ (m : Mw) (nw : Int), MwOk m → m.ent = o.m.ent → FnH Tryz.prog 15 #[.pointer (some ⟨q, 0, none⟩), .int .i64 nw, m.val] H4 fun r H14 => ∃ l5 : Sl, r = .slice l5.p l5.n l5.c ∧ ∃ (q' c' : Nat) (s' : Sl) (bs' : List Nat) (n' : Nd) (A' : Heap) (ms : List Mo), (some ⟨q, 0, none⟩ : Option Addr) = some ⟨q', 0, none⟩ ∧ One3 n' ∧ Voted n.st n'.st ∧ n'.st.l.length ≤ 80 * i.toNat + 80 ∧ (∀ x ∈ ms, Prom 1 n'.st x.1) ∧ ms.length ≤ 100 ∧ HL.Sub A A' ∧ HL.Holds (own 33 21 l5 (ms.flatMap eM) :: ownE given g :: nodB A' q' c' d 1000000 s' bs' n' :: ro A' :: []) H14 := fun m nw hmw em => by
      have kp := step_p 1000000 n nw (m.mg o.l) hn.ne
      have cn := cnt_step 1000000 n nw (m.mg o.l)
      have el : (m.mg o.l).ents.length = o.l.length := rfl
      rw [hn.out, hps] at cn
      refine step10_spec (l := o.l) h' hmw (by rw [em]; exact hx) (fun _ => ⟨by omega, by omega⟩) hn.ok hn.out (by omega) fun A' l ms H14 s14 e14 m14 h14 => ⟨l, rfl, q, c, s, bs, _, A', ms, rfl, hn.said kp (step_said hn.ok hL hmw.index (fun _ => by rw [el]; omega) (nodB_lg (i := 1) h14 rfl)), kp.voted, ?_, prom_all hn kp e14, ?_, s14, (h14.pull 3 rfl).swap⟩
      · have := kp.len
        show (Nd.step _ _ _ _).st.l.length ≤ _
        omega
      · have := congrArg List.length e14
        rw [List.length_map] at this
        have z : (0 : Nat) = ([] : List Mg).length := rfl
        simp only [List.length_nil] at cn
        omega
    refine pick10_spec (by decide) ⟨_, rfl, br_intro (fun _ => ?_) (fun _ => br_intro (fun _ => ?_) (fun _ => br_intro (fun _ => ?_) (fun _ => ?_)))⟩
    · refine pick10_spec (by decide) ⟨_, rfl, ?_⟩
      have kp := tick_p 1000000 n (IntKind.wrap .i64 (now + pickI o.now 9)) o.n
      have cn := cnt_tick 1000000 n (IntKind.wrap .i64 (now + pickI o.now 9)) o.n
      rw [hn.out, hps] at cn
      refine tick10_spec h' hn.ok hop.n (by rw [hn.out]; decide) (by omega) fun A' l ms H14 s14 e14 m14 h14 => ⟨l, rfl, rfl, q, c, s, bs, _, A', ms, rfl, hn.said kp (tick_said hn.ok hop.n hL (nodB_lg (i := 1) h14 rfl)), kp.voted, ?_, prom_all hn kp e14, ?_, s14, (h14.pull 3 rfl).swap⟩
      · have := kp.len
        show (Nd.tick _ _ _ _).st.l.length ≤ _
        omega
      · have := congrArg List.length e14
        rw [List.length_map] at this
        simp only [List.length_nil] at cn
        omega
    · have gn : Gives (ro A) fun B => Ints B ⟨none, 0, 0⟩ [] := ⟨ro_mono A, fun _ _ => Ints.nil _⟩
      refine crash10_spec (keep := ⟨none, 0, 0⟩) (L := []) (i := 0) (nodB_disk h') gn rfl (fun x hx => (by cases hx)) fun H8 h8 => ⟨rfl, three_store h8.swap fun b3 A3 H9 s9 i9 h9 => ?_⟩
      have h10 : HL.Holds (lgd d 1000000 n.st :: ro A3 :: ownE given g :: []) H9 := h9.swap
      refine again10_spec (sv := ⟨some ⟨b3, 0, none⟩, 3, 3⟩) h10 i9 (good3 (by decide)) fun q' c' s' bs' H10 h11 => ⟨_, rfl, br_f rfl ⟨rfl, q', c', s', bs', _, A3, [], rfl, One3.new hL, Voted.refl _, by show n.st.l.length ≤ _; omega, fun x hx => (by cases hx), by decide, s9, ?_⟩⟩
      have h12 : HL.Holds (ownE given g :: nodB A3 q' c' d 1000000 s' bs' (newN 1 [1, 2, 3] 10 n.st) :: ro A3 :: []) H10 := h11.pull 2 rfl
      exact h12.own_nil 33 21
    · obtain ⟨g0, g1⟩ := pickI_in (c := o.n) (n := 2) (by decide) hop.n.1 hop.n.2
      obtain ⟨t0, t1⟩ := pickI_in (c := o.m.term) (n := 2) (by decide) hm.term.1 hm.term.2
      have ht := hL.ok.term
      refine pick10_spec (by decide) ⟨_, rfl, termN10_spec (i := 1) h rfl ⟨_, rfl, HL.Sub.refl _, pick10_spec (by decide) ⟨_, rfl, HL.Sub.refl _, ?_⟩⟩⟩
      rw [wrap64_id (n := 2 + pickI o.n 2) (by omega) (by omega), wrap64_id (n := n.st.term + pickI o.m.term 2) (by have := ht.1; omega) (by have := ht.2; omega)]
      refine FnH.mono (step { o.m with frm := 2 + pickI o.n 2, to := 1, term := n.st.term + pickI o.m.term 2 } now ⟨hm.kind, ⟨by show _ ≤ 2 + pickI o.n 2; omega, by show 2 + pickI o.n 2 ≤ _; omega⟩, hm.last, hm.high, ⟨by have := ht.1; show _ ≤ n.st.term + pickI o.m.term 2; omega, by have := ht.2; show n.st.term + pickI o.m.term 2 ≤ _; omega⟩, hm.index, hm.err⟩ rfl) ?_
      rintro r H14 ⟨l5, e5, x⟩
      exact ⟨l5, e5, rfl, x⟩
    · refine FnH.mono (step o.m now hm rfl) ?_
      rintro r H14 ⟨l5, e5, x⟩
      exact ⟨l5, e5, rfl, x⟩
  clear h h' hL
  rintro p' nw l H16 ⟨q', c', s', bs', n', A', ms, rfl, hn', hv, hl', hp, hml, sA', h⟩
  have hv1 := hv.1
  refine termN10_spec (i := 2) h rfl ⟨_, rfl, br_f (decide_eq_false (by omega)) (termN10_spec (i := 2) h rfl ⟨_, rfl, ?_⟩)⟩
  have hgv := hg.voted hv
  refine promised10_spec (st := n'.st) h.swap hp (fun x hx e => ((hgv x hx).2 e).1) (by omega) (by omega) fun g' r H19 hg' hgl' h19 => ⟨r, _, rfl, br_f rfl ⟨rfl, ⟨by omega, by omega, q', c', s', bs', n', g', A', rfl, rfl, hn', by omega, fun x hx => ?_, by omega, sA.trans sA', h19.swap.tail⟩, by dsimp only; omega⟩⟩
  rcases hg' x hx with y | y
  · exact hgv x y
  · exact ⟨by omega, fun _ => ⟨y.2.1, y.2.2⟩⟩
end
end Go.Proofs.YthldclmeojkboaaGreatDoor
