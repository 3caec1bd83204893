/- Chapter 8: the law DedupOnce, walked. -/
import Derived.Test.YtkabaoigablphaaP3
namespace Go.Proofs.Ytkabaoigablphaa
open Go.HL
set_option maxHeartbeats 800000
set_option maxRecDepth 10000

theorem ok26 : ElemOK Try.prog 26 33 6 := ElemOK.of (by kernel_rfl)
abbrev ownB (s : Sl) (l : List Bs) : Chunk := own 33 6 s (l.flatMap eBs)
abbrev eOp : Op → List Value := fun o => [.int .i64 o.kind, .int .i64 o.pid, .int .i64 o.epoch, .int .i64 o.seq, .int .i64 o.n, .int .i64 o.off]
theorem eOplen : ∀ o, (eOp o).length = 6 := fun _ => rfl
theorem OkB.btB {b : Bt} (h : OkB b) : BtB b := ⟨h.seq0, by have := h.seq1; omega, by have := h.n1; omega⟩
theorem ownB_recs {cs : List Chunk} {H : Heap} {s : Sl} {l : List Bs} (h : Holds (ownB s l :: cs) H) (hl : l.length ≤ 200) : Recs eBs H s l := Own.recs eBslen (by decide) (h.own 0 rfl) (by omega)
theorem small_ok {o : Op} (hb : OpB o) (next : Int) (h0 : 0 ≤ next) : OkB ⟨next, (smallM o).pid, (smallM o).epoch, (smallM o).seq, (smallM o).n.toNat⟩ ∧ ((smallM o).n.toNat : Int) = (smallM o).n := by
  obtain ⟨p0, p1⟩ := pickI_in (c := o.pid) (n := 3) (by decide) hb.pid.1 hb.pid.2
  obtain ⟨n0, n1⟩ := pickI_in (c := o.n) (n := 3) (by decide) hb.n.1 hb.n.2
  obtain ⟨e0, e1⟩ := pickI_in (c := o.epoch) (n := 3) (by decide) hb.epoch.1 hb.epoch.2
  obtain ⟨s0, s1⟩ := pickI_in (c := o.seq) (n := 12) (by decide) hb.seq.1 hb.seq.2
  unfold smallM
  refine ⟨⟨?_, ?_, ?_, ?_, ?_, ?_, ?_, ?_, ?_⟩, ?_⟩ <;> dsimp only <;> omega
theorem once_spec {H0 : Heap} {s : Sl} {ops : List Op} {K : Value → Heap → Prop} (hr : Recs eOp H0 s ops) (hb : ∀ o ∈ ops, OpB o) (k : ∀ H', HL.Sub H0 H' → K (.bool true) H') : FnH Try.prog 3 #[.slice s.p s.n s.c] H0 K := by
  apply logboomlaw8_DedupOnce_fn
  unfold logboomlaw8_DedupOnce_vc
  have hbig := hr.big
  refine shown_spec (Holds.whole H0) fun H1 h1 => ⟨true, rfl, new_spec h1 fun t H2 h2 => ⟨_, rfl, br_f rfl (br_f rfl ?_)⟩⟩
  refine ⟨fun log start next i H => ∃ (l : List Bs) (T : Tb), Holds [ownB log l, tab t T, ro H0] H ∧ DI (l.map Prod.fst) T start next i ∧ ∀ x ∈ l, x.2.n = x.1.n, fun _ _ _ i _ => (200 - i).toNat, ⟨[], [], h2.own_nil _ _, DI.init, by simp⟩, ?_⟩
  rintro log start next i H3 ⟨l, T, h3, hI, hnn⟩
  have hi0 := hI.i0
  have hst0 := hI.st0
  have hst1 := hI.st1
  have hnx := hI.nx
  have hlen := hI.len
  rw [List.length_map] at hlen
  have stop : K (.bool true) H3 := k H3 (h3.sub 2 rfl)
  refine br_intro (fun q1 => br_intro (fun q2 => ?_) (fun q2 => stop)) (fun q1 => stop)
  have q1 := of_decide_eq_true q1
  have q2 := of_decide_eq_true q2
  have hrec := ownB_recs h3 (by omega)
  have hn := hrec.len
  obtain ⟨b, o, a, e1, e2, e3⟩ := (Recs.mono _ _ (h3.sub 2 rfl) hr).at_ eOplen (by decide) hi0 q1
  have ha := hb a (List.mem_of_getElem? e2)
  rw [wrap64_id (n := i + 1) (by omega) (by omega)]
  refine ⟨b, o, e1, hi0, q1, _, e3 0 _ rfl, _, e3 1 _ rfl, _, e3 2 _ rfl, _, e3 3 _ rfl, _, e3 4 _ rfl, _, e3 5 _ rfl, small_spec ha ⟨_, _, _, _, _, _, rfl, ?_⟩⟩
  have hT := hI.low (by omega)
  refine br_intro (fun w => ?_) (fun w => br_intro (fun w2 => ?_) (fun w2 => ?_))
  · rw [wrap64_id (n := (log.n : Int) + 1) (by omega) (by omega)]
    obtain ⟨k0, k1⟩ := pickI_in (c := a.off) (n := (log.n : Int) + 1) (by omega) ha.off.1 ha.off.2
    refine pick_spec (by omega) ⟨_, rfl, ?_⟩
    show ∃ J, _
    have eoff : (smallM a).off = a.off := rfl
    rw [eoff]
    generalize pickI a.off ((log.n : Int) + 1) = kk at *
    refine ⟨fun b1 H => H = H3 ∧ (b1 = true → ∃ hk : kk.toNat < l.length, start ≤ l[kk.toNat].1.base), br_intro (fun v => ?_) (fun v => ⟨rfl, rfl, fun z => by cases z⟩), ?_⟩
    · have v := of_decide_eq_true v
      obtain ⟨b2, o2, x, f1, f2, f3⟩ := hrec.at_ eBslen (by decide) k0 v
      refine ⟨b2, o2, f1, k0, v, _, f3 0 _ rfl, rfl, rfl, fun z => ?_⟩
      obtain ⟨hk, ek⟩ := List.getElem?_eq_some_iff.1 f2
      refine ⟨hk, ?_⟩
      rw [ek]; exact of_decide_eq_true z
    rintro b1 H4 ⟨rfl, hb1⟩
    refine br_intro (fun v => ?_) (fun v => ?_)
    · obtain ⟨hk, hs⟩ := hb1 v
      obtain ⟨b2, o2, x, f1, f2, f3⟩ := hrec.at_ eBslen (by decide) k0 (by omega)
      have ex : x = l[kk.toNat] := by rw [List.getElem?_eq_getElem hk] at f2; exact (Option.some.inj f2).symm
      have hcap := hrec.cap
      refine ⟨b2, o2, f1, k0, by omega, _, f3 0 _ rfl, k0, by omega, ?_⟩
      refine cut_spec (h3.pull 1 rfl) hT fun H5 h5 => ⟨rfl, rfl, ⟨l.take kk.toNat, cutM T x.1.base, ?_, ?_, fun y hy => hnn y (List.mem_of_mem_take hy)⟩, by dsimp only; omega⟩
      · refine (h5.pull 1 rfl).head fun A hA => ?_
        have := hA.shorten k0 (by omega)
        show Own A 33 6 _ ((l.take kk.toNat).flatMap eBs)
        rw [flat_take eBslen]; exact this
      · have hc := hI.cut (k := kk.toNat) (by rw [List.length_map]; exact hk) (by rw [List.getElem_map]; exact hs)
        rw [List.getElem_map, ← ex] at hc
        rw [List.map_take]; exact hc
    · exact ⟨rfl, ⟨l, T, h3, hI.step, hnn⟩, by dsimp only; omega⟩
  · rw [wrap64_id (n := next - start) (by omega) (by omega), wrap64_id (n := next - start + 1) (by omega) (by omega)]
    obtain ⟨k0, k1⟩ := pickI_in (c := a.off) (n := next - start + 1) (by omega) ha.off.1 ha.off.2
    refine pick_spec (by omega) ⟨_, rfl, ?_⟩
    have eoff : (smallM a).off = a.off := rfl
    rw [eoff]
    rw [wrap64_id (n := start + pickI a.off (next - start + 1)) (by omega) (by omega)]
    generalize pickI a.off (next - start + 1) = kk at *
    refine delete_spec (h3.pull 1 rfl) hT fun H5 h5 => ⟨rfl, rfl, ⟨l, delM T (start + kk), h5.pull 1 rfl, hI.del (by omega) (by omega), hnn⟩, by dsimp only; omega⟩
  · obtain ⟨hB, hnI⟩ := small_ok ha next (by omega)
    generalize eB : (⟨next, (smallM a).pid, (smallM a).epoch, (smallM a).seq, (smallM a).n.toNat⟩ : Bt) = B at *
    have b1 : (smallM a).pid = B.pid := by rw [← eB]
    have b2 : (smallM a).epoch = B.epoch := by rw [← eB]
    have b3 : (smallM a).seq = B.seq := by rw [← eB]
    have b4 : (smallM a).n = (B.n : Int) := by rw [← hnI, ← eB]
    have b5 : next = B.base := by rw [← eB]
    have eBB : B = ⟨next, B.pid, B.epoch, B.seq, B.n⟩ := by rw [b5]
    rw [b1, b2, b3, b4]
    have hn1 := hB.n1
    refine batch_spec h3 (by omega) fun q H4 h4 => ⟨_, _, _, _, _, ⟨some ⟨q, 0, none⟩, B.n, B.n⟩, rfl, ?_⟩
    refine ask_spec (h4.read 2 rfl tab_mono) hT ?_
    rw [hI.ask hB]
    refine ⟨_, _, rfl, ?_⟩
    have hans := hI.answer hB
    have hbefore := hI.after hB
    generalize (askN (logN B.pid (l.map Prod.fst)) B.epoch B.seq B.n).1 = av at *
    generalize (askN (logN B.pid (l.map Prod.fst)) B.epoch B.seq B.n).2 = ev at *
    have hr4 : Recs eBs H4 log l := Own.recs eBslen (by decide) (h4.own 1 rfl) (by omega)
    have hall : ∀ x ∈ l, BtB x.1 ∧ x.2.n = x.1.n := fun x hx => ⟨(hI.ok x.1 (List.mem_map.2 ⟨x, hx, rfl⟩)).btB, hnn x hx⟩
    have hno : ev = 0 → av < 0 → ∀ x ∈ l, overM x.1 ⟨next, B.pid, B.epoch, B.seq, B.n⟩ = false := fun z1 z2 x hx => by
      unfold overM
      dsimp only
      by_cases c1 : x.1.pid = B.pid
      · by_cases c2 : x.1.epoch = B.epoch
        · have := hbefore z1 z2 (ntOf x.1) (List.mem_map.2 ⟨x.1, List.mem_filter.2 ⟨List.mem_map.2 ⟨x, hx, rfl⟩, by simpa using c1⟩, rfl⟩)
          dsimp only [ntOf] at this
          rw [decide_eq_false (p := B.seq < x.1.seq + (x.1.n : Int)) (by omega)]; simp
        · rw [decide_eq_false c2]; simp
      · rw [decide_eq_false c1]; simp
    refine answered_spec (b := ⟨next, B.pid, B.epoch, B.seq, B.n⟩) (sb := ⟨some ⟨q, 0, none⟩, B.n, B.n⟩) hr4 hall (by rw [← eBB]; exact hB.btB) rfl hno ⟨_, rfl, ?_⟩
    rw [← eBB, hans]
    refine br_f rfl ⟨fun b1 H => H = H4 ∧ b1 = (decide (ev = 0) && decide (av < 0)), br_intro (fun z => ⟨rfl, rfl, by rw [decide_eq_true (eq_of_beq z)]; rfl⟩) (fun z => ⟨rfl, rfl, by rw [decide_eq_false (p := ev = 0) (by simpa using z)]; rfl⟩), ?_⟩
    rintro b1 H5 ⟨rfl, eb1⟩
    refine br_intro (fun z => ?_) (fun z => ?_)
    · rw [z] at eb1
      have eb1 := eb1.symm
      simp only [Bool.and_eq_true, decide_eq_true_eq] at eb1
      have hp := hI.push (by omega) hB b5.symm (hbefore eb1.1 eb1.2)
      rw [wrap64_id (n := next + (B.n : Int)) (by omega) (by omega)]
      refine Holds.push (s := log) (vs := l.flatMap eBs) ok26 (h4.pull 1 rfl) (xs := eBs (B, ⟨some ⟨q, 0, none⟩, B.n, B.n⟩)) (m := 1) (by rfl) (by rfl) (by omega) fun r H6 h6 n6 => ⟨r, rfl, ?_⟩
      have b0 := hB.base0
      have hb2 : B.base ≤ 100000 := by omega
      have p0 := hB.pid0; have p1 := hB.pid1; have p2 := hB.ep0; have p3 := hB.ep1; have p4 := hB.seq0; have p5 := hB.seq1; have p6 := hB.n0
      refine note_zero (b := B) ((h6.pull 1 rfl).pull 2 rfl) hT b0 hb2 (by omega) (by omega) (by omega) (by omega) (by omega) (by omega) (by omega) (by omega) fun H7 h7 => ⟨rfl, rfl, ⟨l ++ [(B, ⟨some ⟨q, 0, none⟩, B.n, B.n⟩)], noteM T B.base B.pid B.epoch B.seq B.n, ?_, ?_, fun x hx => ?_⟩, by dsimp only; omega⟩
      · have e : (l ++ [(B, (⟨some ⟨q, 0, none⟩, B.n, B.n⟩ : Sl))]).flatMap eBs = l.flatMap eBs ++ eBs (B, ⟨some ⟨q, 0, none⟩, B.n, B.n⟩) := by simp
        show Holds [own 33 6 r _, _, _] H7
        rw [e]; exact h7.pull 1 rfl
      · rw [List.map_append]; exact hp
      · rcases List.mem_append.1 hx with y | y
        · exact hnn x y
        · simp only [List.mem_singleton] at y; rw [y]
    · exact ⟨rfl, ⟨l, T, h4.tail, hI.step, hnn⟩, by dsimp only; omega⟩
end Go.Proofs.Ytkabaoigablphaa
