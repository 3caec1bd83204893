import Derived.Test.YthldclmeojkboaaGreatDoorBM
import Derived.Test.YthldclmeojkboaaGreatDoorV5
namespace Go.Proofs.YthldclmeojkboaaGreatDoor
open Go Go.HL
set_option maxHeartbeats 3200000
set_option maxRecDepth 100000
theorem cnt_all (n : Nd) : n.all.out.length = n.out.length + n.ps.length := (sends_ps n.ps n).2.2.2.2.2
theorem cnt_lead (size : Int) (n : Nd) (now : Int) : (n.lead size now).out.length ≤ n.out.length + n.ps.length := by
  unfold Nd.lead
  split
  · exact Nat.le_add_right _ _
  · show ((n.lead1.put size ⟨#[]⟩).2.2.advance.all).out.length ≤ _
    rw [cnt_all]
    have e1 : (n.lead1.put size ⟨#[]⟩).2.2.advance.out = n.out := (adv_same _ _ _).2.2.2.2.1
    have e2 : (n.lead1.put size ⟨#[]⟩).2.2.advance.ps = n.lead1.ps := (adv_same _ _ _).1
    rw [e1, e2]
    show _ + (n.ps.map _).length ≤ _
    rw [List.length_map]; exact Nat.le_refl _
theorem cnt_stand (size : Int) (n : Nd) (now : Int) : (n.stand size now).out.length ≤ n.out.length + n.ps.length := by
  have hl : (n.stood size now).2.cand.ps.length = n.ps.length := by show (n.ps.map _).length = _; rw [List.length_map]
  rw [stand_eq]
  split
  · exact Nat.le_add_right _ _
  · split
    · have := cnt_lead size (n.stood size now).2.cand now
      rw [hl] at this; exact this
    · obtain ⟨-, -, -, -, -, a6⟩ := tells_ps (n.stood size now).2.cand (fun _ p => askM (n.stood size now).2.cand p) (n.stood size now).2.cand.ps (n.stood size now).2.cand
      have e : ((n.stood size now).2.cand.asks).out.length = _ := a6
      rw [e, hl]; exact Nat.le_refl _
theorem cnt_tick (size : Int) (n : Nd) (now draw : Int) : (n.tick size now draw).out.length ≤ n.out.length + n.ps.length := by
  have h0 : ({ n with draw := dist draw } : Nd).out = n.out ∧ ({ n with draw := dist draw } : Nd).ps = n.ps := ⟨rfl, rfl⟩
  unfold Nd.tick
  revert h0
  generalize ({ n with draw := dist draw } : Nd) = m
  rintro ⟨e1, e2⟩
  rw [← e1, ← e2]
  unfold Nd.tick1
  split
  · split
    · exact Nat.le_of_eq (cnt_all _)
    · exact Nat.le_add_right _ _
  · dsimp only
    have h2 : (if m.deadline = -1 then m.anew now else m).out = m.out ∧ (if m.deadline = -1 then m.anew now else m).ps = m.ps := by split <;> exact ⟨rfl, rfl⟩
    revert h2
    generalize (if m.deadline = -1 then m.anew now else m) = x
    rintro ⟨e3, e4⟩
    rw [← e3, ← e4]
    split
    · exact cnt_stand size _ now
    · exact Nat.le_add_right _ _
theorem cnt_tell (n : Nd) (x : Mg) : (n.tell x).out.length = n.out.length + 1 := by unfold Nd.tell; simp
theorem cnt_step2 (size : Int) (n : Nd) (now : Int) (k : Nat) (m : Mg) : (n.step2 size now k m).out.length ≤ n.out.length + n.ps.length + 1 := by
  unfold Nd.step2
  split
  · unfold Nd.voteAsk
    split
    · rw [cnt_tell]; omega
    · dsimp only
      split
      · rw [cnt_tell]; show n.out.length + 1 ≤ _; omega
      · show ((n.turn size n.st.term m.frm).2.tell _).out.length ≤ _
        rw [cnt_tell]; show n.out.length + 1 ≤ _; omega
  · split
    · unfold Nd.voteTell
      split
      · omega
      · dsimp only
        split
        · have := cnt_lead size (n.setP k fun p => { p with vote := true }) now
          rw [setP_len] at this
          have this : _ ≤ n.out.length + n.ps.length := this
          omega
        · show n.out.length ≤ _; omega
    · split
      · unfold Nd.appendAsk
        split
        · omega
        · dsimp only
          split
          · rw [cnt_tell]; show n.out.length + 1 ≤ _; omega
          · split
            · rw [cnt_tell]; show n.out.length + 1 ≤ _; omega
            · rw [cnt_tell]; show n.out.length + 1 ≤ _; omega
      · split
        · unfold Nd.snapAsk
          split
          · omega
          · dsimp only
            split
            · split
              · rw [cnt_tell]; show n.out.length + 1 ≤ _; omega
              · rw [cnt_tell]; show n.out.length + 1 ≤ _; omega
            · rw [cnt_tell]; show n.out.length + 1 ≤ _; omega
        · unfold Nd.matched
          split
          · omega
          · split
            · dsimp only
              have e1 : (n.setP k (gotP n.fin m.index)).advance.out = n.out := (adv_same _ _ _).2.2.2.2.1
              split
              · split
                · unfold Nd.send; rw [cnt_tell, e1]; omega
                · rw [e1]; omega
              · rw [e1]; omega
            · split
              · unfold Nd.sendTo
                split
                · unfold Nd.send; rw [cnt_tell]; show n.out.length + 1 ≤ _; omega
                · show n.out.length ≤ _; omega
              · omega
theorem cnt_step (size : Int) (n : Nd) (now : Int) (m : Mg) : (n.step size now m).out.length ≤ n.out.length + n.ps.length + 1 := by
  have h1 : ∀ (x : Nd) k, (x.step1 size now k m).out.length ≤ x.out.length + x.ps.length + 1 := fun x k => by
    unfold Nd.step1
    split
    · split
      · rw [cnt_tell]; omega
      · omega
    · exact cnt_step2 size x now k m
  unfold Nd.step
  split
  · omega
  · split
    · omega
    · split
      · dsimp only
        split
        · show n.out.length ≤ _; omega
        · exact h1 _ _
      · exact h1 _ _
structure Op where
  kind : Int
  n : Int
  now : Int
  m : Mw
  l : List En
  fits : Bool
  text : ByteArray
abbrev eOp : Op → List Value := fun o => [.int .i64 o.kind, .int .i64 o.n, .int .i64 o.now, .int .i64 o.m.kind, .int .i64 o.m.frm, .int .i64 o.m.to, .int .i64 o.m.id, .int .i64 o.m.part, .int .i64 o.m.epoch, .int .i64 o.m.offset, .int .i64 o.m.last, .int .i64 o.m.start, .int .i64 o.m.high, .int .i64 o.m.term, .int .i64 o.m.index, .int .i64 o.m.pid, .int .i64 o.m.pep, .int .i64 o.m.seq, .int .i64 o.m.err, .string o.m.name, .string o.m.text, .slice o.m.bat.p o.m.bat.n o.m.bat.c, .slice o.m.ent.p o.m.ent.n o.m.ent.c, .slice o.m.ints.p o.m.ints.n o.m.ints.c, .bool o.fits, .string o.text]
theorem eOplen : ∀ a, (eOp a).length = 26 := fun _ => rfl
structure OpOk (H : Heap) (o : Op) : Prop where
  kind : i64B o.kind
  n : i64B o.n
  now : i64B o.now
  m : MwOk o.m
  ents : Recs eE H o.m.ent o.l
def Given (g : List En) (st : RS) : Prop := ∀ x ∈ g, x.1 ≤ st.term ∧ (x.1 = st.term → x.2.1 = st.vote ∧ st.vote ≠ 0)
theorem Given.voted {g : List En} {a b : RS} (h : Given g a) (v : Voted a b) : Given g b := fun x hx => by
  obtain ⟨h1, h2⟩ := h x hx
  have v1 := v.1
  refine ⟨by omega, fun e => ?_⟩
  have e1 : x.1 = a.term := by omega
  obtain ⟨h3, h4⟩ := h2 e1
  have := v.2 (by omega) h4
  rw [this]; exact ⟨h3, h4⟩
section
variable {cs : List Chunk} {H A : Heap} {K : Value → Heap → Prop} {q c d : Nat} {size : Int} {s : Sl} {bs : List Nat} {n : Nd}
theorem nodB_disk (h : HL.Holds (nodB A q c d size s bs n :: cs) H) : HL.Holds (lgd d size n.st :: cs) H := by
  obtain ⟨o, ms, e, h1⟩ := nodB_open.1 h
  have h2 : HL.Holds (lgu c d size n.st :: blk q (.cells (nArr c s n o) 96 (0, 0)) :: ((own 33 21 o (ms.flatMap eM) :: own 107 1 s (bs.flatMap ePt) :: peersL bs n.ps) ++ cs)) H := HL.Holds.swap h1
  have h3 : HL.Holds (lgu c d size n.st :: ((blk q (.cells (nArr c s n o) 96 (0, 0)) :: own 33 21 o (ms.flatMap eM) :: own 107 1 s (bs.flatMap ePt) :: peersL bs n.ps) ++ cs)) H := h2
  have h4 : HL.Holds ((lgu c d size n.st :: cs) ++ (blk q (.cells (nArr c s n o) 96 (0, 0)) :: own 33 21 o (ms.flatMap eM) :: own 107 1 s (bs.flatMap ePt) :: peersL bs n.ps)) H := h3.perm (List.Perm.cons _ List.perm_append_comm)
  obtain ⟨B, C, e, dd, p, -⟩ := Holds.app.1 h4
  subst e
  exact lgu_lgd (p.up HL.Sub.left)
theorem promised10_spec {given l : Sl} {g : List En} {ms : List Mo} {st : RS} (h : HL.Holds (ownE given g :: own 33 21 l (ms.flatMap eM) :: cs) H) (hp : ∀ x ∈ ms, Prom 1 st x.1) (hg : ∀ x ∈ g, x.1 = st.term → x.2.1 = st.vote) (hgl : g.length ≤ 100000) (hml : ms.length ≤ 100000)
    (k : ∀ (g' : List En) (r : Sl) H', (∀ x ∈ g', x ∈ g ∨ (x.1 = st.term ∧ x.2.1 = st.vote ∧ st.vote ≠ 0)) → g'.length ≤ g.length + ms.length → HL.Holds (ownE r g' :: own 33 21 l (ms.flatMap eM) :: cs) H' → K (.tuple #[.slice r.p r.n r.c, .bool true]) H') :
    FnH Tryz.prog 16 #[.slice given.p given.n given.c, .slice l.p l.n l.c] H K := by
  refine logboomlaw10_promised_fn given l ?_
  unfold logboomlaw10_promised_vc
  have hl : l.n = ms.length := by
    have := (h.own 1 rfl).1
    rw [flat_len eMlen] at this
    exact (Nat.eq_of_mul_eq_mul_right (by decide) this).symm
  refine ⟨fun given i H' => 0 ≤ i ∧ i ≤ l.n ∧ ∃ g' : List En, (∀ x ∈ g', x ∈ g ∨ (x.1 = st.term ∧ x.2.1 = st.vote ∧ st.vote ≠ 0)) ∧ g'.length ≤ g.length + i.toNat ∧ HL.Holds (ownE given g' :: own 33 21 l (ms.flatMap eM) :: cs) H', fun _ i _ => (l.n - i).toNat, ⟨Int.le_refl _, by omega, g, fun x hx => .inl hx, Nat.le_add_right _ _, h⟩, ?_⟩
  clear h
  rintro given i H1 ⟨i0, i1, g', hg', hgl', h⟩
  have hG : Recs eE H1 given g' := Own.recs eElen (by decide) (h.own 0 rfl) (by omega)
  have hM : Recs eM H1 l ms := Own.recs eMlen (by decide) (h.own 1 rfl) (by omega)
  have hgn := hG.len
  have same : ∀ x ∈ g', x.1 = st.term → x.2.1 = st.vote := fun x hx e => by
    rcases hg' x hx with y | y
    · exact hg x y e
    · exact y.2.1
  refine br_intro (fun w => ?_) (fun w => ?_)
  · have w := of_decide_eq_true w
    obtain ⟨b, o, x, e1, e2, e3⟩ := hM.at_ eMlen (by decide) i0 w
    have hx := hp x (List.mem_of_getElem? e2)
    have f := fun fld v hv => e3 fld v hv
    rw [wrap64_id (n := i + 1) (by omega) (by omega)]
    refine ⟨b, o, e1, i0, w, _, f 10 _ rfl, b, o, e1, i0, w, _, f 2 _ rfl, HL.Sub.refl _, b, o, e1, i0, w, _, f 0 _ rfl, br_intro (fun y => ?_) (fun y => ⟨b, o, e1, i0, w, _, f 0 _ rfl, br_intro (fun z => ⟨rfl, ⟨by omega, by omega, g', hg', by omega, h⟩, by dsimp only; omega⟩) (fun z => ⟨b, o, e1, i0, w, _, f 15 _ rfl, br_intro (fun z2 => ⟨rfl, ⟨by omega, by omega, g', hg', by omega, h⟩, by dsimp only; omega⟩) (fun z2 => ?_)⟩)⟩)⟩
    · obtain ⟨t1, t2⟩ := hx.1 (beq_iff_eq.1 y)
      refine ⟨fun k H' => H' = H1 ∧ 0 ≤ k ∧ k ≤ given.n, fun k _ => (given.n - k).toNat, ⟨rfl, Int.le_refl _, by omega⟩, ?_⟩
      rintro j H2 ⟨rfl, j0, j1⟩
      refine br_intro (fun v => ?_) (fun v => ?_)
      · have v := of_decide_eq_true v
        obtain ⟨b', o', x', u1, u2, u3⟩ := hG.at_ eElen (by decide) j0 v
        rw [wrap64_id (n := j + 1) (by omega) (by omega)]
        refine ⟨b', o', u1, j0, v, _, u3 0 _ rfl, br_intro (fun a => ⟨b', o', u1, j0, v, _, u3 1 _ rfl, br_f ?_ ⟨rfl, ⟨rfl, by omega, by omega⟩, by dsimp only; omega⟩⟩) (fun a => ⟨rfl, ⟨rfl, by omega, by omega⟩, by dsimp only; omega⟩)⟩
        have := same x' (List.mem_of_getElem? u2) (by rw [beq_iff_eq.1 a, t1])
        rw [this, t2]; rfl
      · refine Holds.push okEn h (xs := eE (x.1.term, 1, ⟨#[]⟩)) (m := 1) rfl rfl (by omega) fun r H4 h4 n4 => ⟨r, rfl, rfl, ⟨by omega, by omega, g' ++ [(x.1.term, 1, ⟨#[]⟩)], fun y hy => ?_, ?_, ?_⟩, by dsimp only; omega⟩
        · rcases List.mem_append.1 hy with z | z
          · exact hg' y z
          · rw [List.mem_singleton.1 z]; exact .inr ⟨t1, t2.symm, by rw [t2]; decide⟩
        · rw [List.length_append]; show g'.length + 1 ≤ _; omega
        · have ef : ∀ e : En, g'.flatMap eE ++ eE e = (g' ++ [e]).flatMap eE := fun e => by simp
          rw [ef] at h4
          exact h4
    · obtain ⟨t1, t2, t3⟩ := hx.2 (bne_eq_false_iff_eq.1 z) (bne_eq_false_iff_eq.1 z2)
      refine ⟨fun k H' => H' = H1 ∧ 0 ≤ k ∧ k ≤ given.n, fun k _ => (given.n - k).toNat, ⟨rfl, Int.le_refl _, by omega⟩, ?_⟩
      rintro j H2 ⟨rfl, j0, j1⟩
      refine br_intro (fun v => ?_) (fun v => ?_)
      · have v := of_decide_eq_true v
        obtain ⟨b', o', x', u1, u2, u3⟩ := hG.at_ eElen (by decide) j0 v
        rw [wrap64_id (n := j + 1) (by omega) (by omega)]
        refine ⟨b', o', u1, j0, v, _, u3 0 _ rfl, br_intro (fun a => ⟨b', o', u1, j0, v, _, u3 1 _ rfl, br_f ?_ ⟨rfl, ⟨rfl, by omega, by omega⟩, by dsimp only; omega⟩⟩) (fun a => ⟨rfl, ⟨rfl, by omega, by omega⟩, by dsimp only; omega⟩)⟩
        have := same x' (List.mem_of_getElem? u2) (by rw [beq_iff_eq.1 a, t1])
        rw [this, t2]; simp
      · refine Holds.push okEn h (xs := eE (x.1.term, x.1.to, ⟨#[]⟩)) (m := 1) rfl rfl (by omega) fun r H4 h4 n4 => ⟨r, rfl, rfl, ⟨by omega, by omega, g' ++ [(x.1.term, x.1.to, ⟨#[]⟩)], fun y hy => ?_, ?_, ?_⟩, by dsimp only; omega⟩
        · rcases List.mem_append.1 hy with z | z
          · exact hg' y z
          · rw [List.mem_singleton.1 z]; exact .inr ⟨t1, t2, by rw [← t2]; exact t3⟩
        · rw [List.length_append]; show g'.length + 1 ≤ _; omega
        · have ef : ∀ e : En, g'.flatMap eE ++ eE e = (g' ++ [e]).flatMap eE := fun e => by simp
          rw [ef] at h4
          exact h4
  · have w := of_decide_eq_false w
    exact k g' given H1 hg' (by omega) h
end
end Go.Proofs.YthldclmeojkboaaGreatDoor
