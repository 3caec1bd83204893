/- Chapter 8: the law DedupDeletes, walked. -/
import Derived.Test.YtkabaoigablphaaP4
import Derived.Test.YtkabaoigablphaaLOnce
namespace Go.Proofs.Ytkabaoigablphaa
open Go Go.HL
set_option maxHeartbeats 1600000
set_option maxRecDepth 10000

/-- A table that is kept may be loaded, and is the same. -/
theorem keepN_nb (S : Tb) : nb (strN (keepN S)) = keepN S := nb_str (keepN_bytes S)
theorem keepN_size (S : Tb) : (strN (keepN S)).size = 4 + (encL (bodyI S)).length := by
  rw [← nb_len, keepN_nb]; unfold keepN; rw [List.length_append]; rfl
theorem keepN_drop (S : Tb) : (keepN S).drop 4 = encL (bodyI S) := rfl
theorem keepN_take (S : Tb) : (keepN S).take 4 = sumN (encL (bodyI S)) := rfl
section
variable {cs : List Chunk} {H : Heap} {K : Value → Heap → Prop}
theorem load_kept {S : Tb} (h : Holds cs H) (hk : KeysOk 0 S) (h1 : (encL (bodyI S)).length ≤ 10000000) (h2 : S.length ≤ 100000000) (h3 : ∀ p ∈ S, p.2.length ≤ 100000000)
    (k : ∀ t H', Holds (tab t S :: cs) H' → K (.tuple #[.pointer (some ⟨t, 0, none⟩), .int .i64 0]) H') : FnH Try.prog 19 #[.string (strN (keepN S))] H K := by
  have hsz := keepN_size S
  have hM : loadM ((nb (strN (keepN S))).drop 4) = some S := by rw [keepN_nb, keepN_drop]; exact loadM_enc hk h3 h2
  refine load_spec h (by omega) (fun q => by omega) (fun _ q => absurd ?_ q) (fun _ _ q => by rw [hM] at q; cases q) fun T _ _ q t H' h' => k t H' ?_
  · rw [keepN_nb, keepN_drop, keepN_take]
  · rw [hM] at q
    obtain rfl := Option.some.inj q
    exact h'
end
theorem deletes_spec {H0 : Heap} {s : Sl} {ops : List Op} {K : Value → Heap → Prop} (hr : Recs eOp H0 s ops) (hb : ∀ o ∈ ops, OpB o) (k : ∀ H', HL.Sub H0 H' → K (.bool true) H') : FnH Try.prog 6 #[.slice s.p s.n s.c] H0 K := by
  apply logboomlaw8_DedupDeletes_fn
  unfold logboomlaw8_DedupDeletes_vc
  have hbig := hr.big
  refine shown_spec (Holds.whole H0) fun H1 h1 => ⟨true, rfl, new_spec h1 fun t H2 h2 => ⟨_, rfl, new_spec h2 fun u H3 h3 => ⟨_, rfl, br_f rfl (br_f rfl (br_f rfl ?_))⟩⟩⟩
  refine ⟨fun start next i H => ∃ (l : List Bt) (Ta Tb' : Tb), Holds [tab t Ta, tab u Tb', ro H0] H ∧ DI l Ta start next i ∧ DI l Tb' 0 next i ∧ NE Ta ∧ NE Tb' ∧ i ≤ 200, fun _ _ i _ => (200 - i).toNat, ⟨[], [], [], h3.swap, DI.init, DI.init, NE.nil, NE.nil, by decide⟩, ?_⟩
  rintro start next i H4 ⟨l, Ta, Tb', h4, hA, hB, na, nb', hi⟩
  have hi0 := hA.i0
  have hst0 := hA.st0
  have hst1 := hA.st1
  have hnx := hA.nx
  have stop : FnH Try.prog 21 #[.pointer (some ⟨t, 0, none⟩)] H4 fun v H18 => ∃ s1 : ByteArray, v = .string s1 ∧ FnH Try.prog 19 #[.string s1] H18 fun v H19 => ∃ p3 : Option Addr, ∃ n29 : Int, v = .tuple #[.pointer p3, .int .i64 n29] ∧ br (!(Option.isNone p3)) (br (n29 == 0) (FnH Try.prog 21 #[.pointer p3] H19 fun v H20 => ∃ s2 : ByteArray, v = .string s2 ∧ FnH Try.prog 21 #[.pointer (some ⟨t, 0, none⟩)] H20 fun v H21 => ∃ s3 : ByteArray, v = .string s3 ∧
      br (s2.toList == s3.toList) (FnH Try.prog 21 #[.pointer (some ⟨t, 0, none⟩)] H21 fun v H22 => ∃ s4 : ByteArray, v = .string s4 ∧ FnH Try.prog 21 #[.pointer (some ⟨u, 0, none⟩)] H22 fun v H23 => ∃ s5 : ByteArray, v = .string s5 ∧ K (.bool (decide ((s4.size : Int) ≤ (s5.size : Int)))) H23) (K (.bool false) H21)) (K (.bool false) H19)) (K (.bool false) H19) := by
    obtain ⟨a1, a2, a3⟩ := hA.body hi na
    obtain ⟨b1, b2, b3⟩ := hB.body hi nb'
    have ka := hA.keysOk hi na
    have wa := hA.wf hi na
    have wb := hB.wf hi nb'
    have hsh := hA.shorter hB na nb'
    have eS := sortT_id ka
    refine keep_spec h4 wa (by omega) fun H5 h5 => ⟨_, rfl, load_kept h5 ka (by omega) (by omega) (fun p hp => by have := a3 p hp; omega) fun v H6 h6 => ⟨_, _, rfl, br_t rfl (br_t rfl ?_)⟩⟩
    refine keep_spec h6 (KeysOk.wf (Int.le_refl _) ka) (by rw [eS]; omega) fun H7 h7 => ⟨_, rfl, keep_spec h7.tail wa (by omega) fun H8 h8 => ⟨_, rfl, br_t (by rw [eS]; simp) ?_⟩⟩
    refine keep_spec h8 wa (by omega) fun H9 h9 => ⟨_, rfl, keep_spec h9.swap wb (by omega) fun H10 h10 => ⟨_, rfl, ?_⟩⟩
    rw [decide_eq_true (by rw [← nb_len, ← nb_len, keepN_nb, keepN_nb]; omega)]
    exact k H10 (h10.sub 2 rfl)
  refine br_intro (fun q1 => br_intro (fun q2 => ?_) (fun q2 => stop)) (fun q1 => stop)
  clear stop
  have q1 := of_decide_eq_true q1
  have q2 := of_decide_eq_true q2
  obtain ⟨b, o, a, e1, e2, e3⟩ := (Recs.mono _ _ (h4.sub 2 rfl) hr).at_ eOplen (by decide) hi0 q1
  have ha := hb a (List.mem_of_getElem? e2)
  rw [wrap64_id (n := i + 1) (by omega) (by omega)]
  refine ⟨b, o, e1, hi0, q1, _, e3 0 _ rfl, _, e3 1 _ rfl, _, e3 2 _ rfl, _, e3 3 _ rfl, _, e3 4 _ rfl, _, e3 5 _ rfl, small_spec ha ⟨_, _, _, _, _, _, rfl, ?_⟩⟩
  have hTa := hA.low (by omega)
  have hTb := hB.low (by omega)
  have eoff : (smallM a).off = a.off := rfl
  refine br_intro (fun w => ?_) (fun w => br_intro (fun w2 => ?_) (fun w2 => ?_))
  · rw [wrap64_id (n := next - start) (by omega) (by omega), wrap64_id (n := next - start + 1) (by omega) (by omega)]
    obtain ⟨k0, k1⟩ := pickI_in (c := a.off) (n := next - start + 1) (by omega) ha.off.1 ha.off.2
    refine pick_spec (by omega) ⟨_, rfl, ?_⟩
    rw [eoff]
    rw [wrap64_id (n := start + pickI a.off (next - start + 1)) (by omega) (by omega)]
    generalize pickI a.off (next - start + 1) = kk at *
    refine cut_spec h4 hTa fun H5 h5 => ⟨rfl, cut_spec h5.swap hTb fun H6 h6 => ⟨rfl, rfl, ⟨_, _, _, h6.swap, hA.cutAt (by omega) (by omega), hB.cutAt (by omega) (by omega), na.cut hA.keys _, nb'.cut hB.keys _, by omega⟩, by dsimp only; omega⟩⟩
  · rw [wrap64_id (n := next - start) (by omega) (by omega), wrap64_id (n := next - start + 1) (by omega) (by omega)]
    obtain ⟨k0, k1⟩ := pickI_in (c := a.off) (n := next - start + 1) (by omega) ha.off.1 ha.off.2
    refine pick_spec (by omega) ⟨_, rfl, ?_⟩
    rw [eoff]
    rw [wrap64_id (n := start + pickI a.off (next - start + 1)) (by omega) (by omega)]
    generalize pickI a.off (next - start + 1) = kk at *
    exact delete_spec h4 hTa fun H5 h5 => ⟨rfl, rfl, ⟨l, _, Tb', h5, hA.del (by omega) (by omega), hB.step, na.del hA.keys _, nb', by omega⟩, by dsimp only; omega⟩
  · obtain ⟨hO, hnI⟩ := small_ok ha next (by omega)
    generalize eB : (⟨next, (smallM a).pid, (smallM a).epoch, (smallM a).seq, (smallM a).n.toNat⟩ : Bt) = B at *
    have b1 : (smallM a).pid = B.pid := by rw [← eB]
    have b2 : (smallM a).epoch = B.epoch := by rw [← eB]
    have b3 : (smallM a).seq = B.seq := by rw [← eB]
    have b4 : (smallM a).n = (B.n : Int) := by rw [← hnI, ← eB]
    have b5 : next = B.base := by rw [← eB]
    rw [b1, b2, b3, b4]
    have hn1 := hO.n1
    refine ask_spec (h4.read 0 rfl tab_mono) hTa ?_
    rw [hA.ask hO]
    refine ⟨_, _, rfl, ask_spec (h4.read 1 rfl tab_mono) hTb ?_⟩
    rw [hB.ask hO]
    refine ⟨_, _, rfl, br_f (by simp) (br_f (by simp) ?_)⟩
    have hbefore := hA.after hO
    generalize (askN (logN B.pid l) B.epoch B.seq B.n).1 = av at *
    generalize (askN (logN B.pid l) B.epoch B.seq B.n).2 = ev at *
    refine ⟨fun b1 H => H = H4 ∧ b1 = (decide (ev = 0) && decide (av < 0)), br_intro (fun z => ⟨rfl, rfl, by rw [decide_eq_true (eq_of_beq z)]; rfl⟩) (fun z => ⟨rfl, rfl, by rw [decide_eq_false (p := ev = 0) (by simpa using z)]; rfl⟩), ?_⟩
    rintro b1 H5 ⟨rfl, eb1⟩
    refine br_intro (fun z => ?_) (fun z => ?_)
    · rw [z] at eb1
      have eb1 := eb1.symm
      simp only [Bool.and_eq_true, decide_eq_true_eq] at eb1
      have hpa := hA.push (by omega) hO b5.symm (hbefore eb1.1 eb1.2)
      have hpb := hB.push (by omega) hO b5.symm (hbefore eb1.1 eb1.2)
      rw [wrap64_id (n := next + (B.n : Int)) (by omega) (by omega), b5]
      have b0 := hO.base0
      have hb2 : B.base ≤ 100000 := by omega
      have p0 := hO.pid0; have p1 := hO.pid1; have p2 := hO.ep0; have p3 := hO.ep1; have p4 := hO.seq0; have p5 := hO.seq1; have p6 := hO.n0
      refine batch_spec h4 (by omega) fun q H6 h6 => ⟨_, _, _, _, _, ⟨some ⟨q, 0, none⟩, B.n, B.n⟩, rfl, ?_⟩
      refine note_zero (b := B) h6.swap hTa b0 hb2 (by omega) (by omega) (by omega) (by omega) (by omega) (by omega) (by omega) (by omega) fun H7 h7 => ⟨rfl, ?_⟩
      refine batch_spec h7 (by omega) fun q2 H8 h8 => ⟨_, _, _, _, _, ⟨some ⟨q2, 0, none⟩, B.n, B.n⟩, rfl, ?_⟩
      refine note_zero (b := B) (h8.pull 2 rfl) hTb b0 hb2 (by omega) (by omega) (by omega) (by omega) (by omega) (by omega) (by omega) (by omega) fun H9 h9 => ⟨rfl, rfl, ⟨l ++ [B], _, _, h9.swap, ?_, ?_, na.note _ _ _ _ _, nb'.note _ _ _ _ _, by omega⟩, by dsimp only; omega⟩
      · rw [← b5] at hpa ⊢; exact hpa
      · rw [← b5] at hpb ⊢; exact hpb
    · exact ⟨rfl, ⟨l, Ta, Tb', h4, hA.step, hB.step, na, nb', by omega⟩, by dsimp only; omega⟩
end Go.Proofs.Ytkabaoigablphaa
