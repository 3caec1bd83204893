/- Chapter 9: RaftlogSurvives: the walk. -/
import Derived.Test.YtmneimfhcjkinaaDoorL1
import Derived.Test.YtmneimfhcjkinaaDoorV7
namespace Go.Proofs.YtmneimfhcjkinaaDoor
open Go Go.HL
set_option maxHeartbeats 3200000
set_option maxRecDepth 10000

/-- A call as it lies in memory. -/
structure Op9 where
  kind : Int
  n : Int
  m : Int
  text : ByteArray
  sl : Sl
  l : List En
  fits : Bool
  ks : Sl
  keep : List Int
abbrev eOp9 : Op9 → List Value := fun o => [.int .i64 o.kind, .int .i64 o.n, .int .i64 o.m, .string o.text, .slice o.sl.p o.sl.n o.sl.c, .bool o.fits, .slice o.ks.p o.ks.n o.ks.c]
theorem eOp9len : ∀ a, (eOp9 a).length = 7 := fun _ => rfl
structure Op9Ok (H : Heap) (o : Op9) : Prop where
  kind : i64B o.kind
  n : i64B o.n
  m : i64B o.m
  recs : Recs eE H o.sl o.l
  ints : Ints H o.ks o.keep
  keep : ∀ n ∈ o.keep, -9223372036854775808 ≤ n ∧ n ≤ 9223372036854775807
theorem ro_open {c : Chunk} {cs : List Chunk} {H H' : Heap} (h : HL.Holds cs H) (h' : HL.Holds [c, ro H] H') : HL.Holds (c :: cs) H' := by
  have h3 : HL.Holds (HL.Holds cs :: [c]) H' := h'.swap.head (d := HL.Holds cs) fun A hA => h.up hA
  exact (Holds.flat.1 h3).perm List.perm_append_comm
theorem LogAt.less {x : Chunk} {cs : List Chunk} {H : Heap} {c d : Nat} {size : Int} {st : RS} (h : LogAt (x :: cs) H c d size st) : LogAt cs H c d size st := by
  obtain ⟨⟨F, hS, h1⟩, hG, hU⟩ := h
  exact ⟨⟨F, hS, (h1.pull 2 rfl).tail⟩, hG, hU⟩
theorem LogAt.with {x : Chunk} {cs : List Chunk} {H H' : Heap} {c d : Nat} {size : Int} {st : RS} (h : LogAt cs H c d size st) (k : ∀ F, HL.Holds (lgc c d st :: dsk d size F :: cs) H → HL.Holds (x :: lgc c d st :: dsk d size F :: cs) H') : LogAt (x :: cs) H' c d size st := by
  obtain ⟨⟨F, hS, h1⟩, hG, hU⟩ := h
  exact ⟨⟨F, hS, (k F h1).down 2⟩, hG, hU⟩
theorem last_nn {st : RS} (h : StOk st) : 0 ≤ (lastX st).1 := by
  rw [h.good.last]
  have := h.index.1
  omega
section
variable {K : Value → Heap → Prop}
theorem survives9 {H0 : Heap} {script : Sl} {ops : List Op9} (hs : Recs eOp9 H0 script ops) (ho : ∀ o ∈ ops, Op9Ok H0 o) (k : ∀ H', HL.Sub H0 H' → K (.bool true) H') : FnH Tryd.prog 5 #[.slice script.p script.n script.c] H0 K := by
  apply logboomlaw9_RaftlogSurvives_fn
  unfold logboomlaw9_RaftlogSurvives_vc
  have hsl := hs.len
  have hsb := hs.big
  refine shown9_spec (Holds.whole H0) fun H1 h1 => ⟨_, rfl, dnew_spec h1 (fun q => by omega) fun _ _ d H2 h2 => ⟨_, _, rfl, br_f rfl (br_f rfl (br_f rfl (LogAt.open h2 fun c H3 h3 => ⟨_, _, rfl, br_f rfl (br_f rfl ?_)⟩)))⟩⟩
  refine ⟨fun p i H' => 0 ≤ i ∧ i ≤ 60 ∧ ∃ c st, p = some ⟨c, 0, none⟩ ∧ st.l.length ≤ 3 * i.toNat ∧ LogAt [ro H0] H' c d 1000000 st, fun _ i _ => (60 - i).toNat, ⟨Int.le_refl _, by decide, c, st0, rfl, by decide, h3⟩, ?_⟩
  clear h1 h2 h3 c
  rintro p i H4 ⟨i0, i1, c, st, rfl, hlen, h4⟩
  obtain ⟨F4, f4, g4⟩ := h4.at_
  refine br_intro (fun q => br_intro (fun q2 => ?_) (fun _ => k H4 (g4.sub 2 rfl))) (fun _ => k H4 (g4.sub 2 rfl))
  have q := of_decide_eq_true q
  have q2 := of_decide_eq_true q2
  obtain ⟨b, o, op, p1, p2, p3⟩ := (Recs.mono _ _ (g4.sub 2 rfl) hs).at_ eOp9len (by decide) i0 q
  have hop := ho op (List.mem_of_getElem? p2)
  rw [wrap64_id (n := i + 1) (by omega) (by omega)]
  refine ⟨b, o, p1, i0, q, _, p3 0 _ rfl, _, p3 1 _ rfl, _, p3 2 _ rfl, _, p3 3 _ rfl, op.sl, p3 4 _ rfl, _, p3 5 _ rfl, op.ks, p3 6 _ rfl, ?_⟩
  refine term9_spec (i := 0) g4 rfl ⟨_, rfl, vote9_spec (i := 0) g4 rfl ⟨_, rfl, last9_spec (i := 0) g4 rfl h4.ok.len ⟨_, _, rfl, ?_⟩⟩⟩
  have hl0 := last_nn h4.ok
  have hl1 := h4.ok.last_le
  refine ⟨fun H' => ∃ st', LogAt [ro H0] H' c d 1000000 st' ∧ st'.l.length ≤ 3 * i.toNat + 3 ∧ st.term ≤ st'.term ∧ (st'.term = st.term → st.vote ≠ 0 → st'.vote = st.vote), ?_, ?_⟩
  · obtain ⟨d0, d1⟩ := pickI_in (c := op.kind) (n := 3) (by decide) hop.kind.1 hop.kind.2
    refine pick9_spec (by decide) ⟨_, rfl, br_intro (fun w => ?_) (fun w => br_intro (fun w2 => ?_) (fun w2 => br_intro (fun w3 => ?_) (fun w3 => ?_)))⟩
    · obtain ⟨e0, e1⟩ := pickI_in (c := op.n) (n := 4) (by decide) hop.n.1 hop.n.2
      obtain ⟨nn, hnn⟩ : ∃ nn : Nat, pickI op.n 4 = (nn : Int) := ⟨(pickI op.n 4).toNat, by omega⟩
      rw [hnn] at e1
      refine pick9_spec (by decide) ⟨_, rfl, HL.Sub.refl _, pick9_spec (by decide) ⟨_, rfl, HL.Sub.refl _, ?_⟩⟩
      rw [hnn]
      refine some9_spec (Holds.whole H4) hl0 hl1 (by omega) fun l1 H5 h5 => ⟨l1, rfl, h5.sub 1 rfl, ?_⟩
      have w5 := h4.with (x := ownE l1 _) fun F hF => ro_open hF h5
      refine w5.put (i := 0) (gE l1 _ (by rw [someL_len]; omega)) rfl (by rw [someL_len]; omega) (by rw [someL_len]; omega) fun _ st' H6 _ _ _ h6 a1 a2 a3 => ⟨_, rfl, rfl, st', h6.less, ?_, by omega, fun _ _ => a3⟩
      rw [someL_len] at a1; omega
    · exact h4.turn fun F st' H6 f6 e6 h6 => by
        have hk := turn_keeps (size := 1000000) op.n op.m f6 h4.ok
        rw [← e6] at hk
        exact ⟨_, rfl, rfl, st', h6, by rw [hk.2.2.1]; omega, hk.2.2.2.2.2.1, hk.2.2.2.2.2.2⟩
    · rw [wrap64_id (n := (lastX st).1 + 1) (by omega) (by omega)]
      have hi := h4.ok.index
      obtain ⟨e0, e1⟩ := pickI_in (c := op.n) (n := (lastX st).1 + 1) (by omega) hop.n.1 hop.n.2
      have same : ∃ st', LogAt [ro H0] H4 c d 1000000 st' ∧ st'.l.length ≤ 3 * i.toNat + 3 ∧ st.term ≤ st'.term ∧ (st'.term = st.term → st.vote ≠ 0 → st'.vote = st.vote) := ⟨st, h4, by omega, Int.le_refl _, fun _ _ => rfl⟩
      refine ⟨pick9_spec (by omega) ⟨_, rfl, HL.Sub.refl _, at9_spec (i := 0) g4 rfl h4.ok.len hi.1 hi.2 (by omega) (fun _ => ⟨_, _, _, _, rfl, HL.Sub.refl _, HL.Sub.refl _, br_f rfl ⟨rfl, same⟩⟩) fun e _ => ⟨_, _, _, _, rfl, HL.Sub.refl _, HL.Sub.refl _, br_t rfl (h4.snap fun _ st' H6 _ _ h6 a1 a2 a3 => ⟨_, rfl, rfl, st', h6, by omega, by omega, fun _ _ => a3⟩)⟩,
        HL.Sub.refl _, at9_spec (i := 0) g4 rfl h4.ok.len hi.1 hi.2 (by omega) (fun _ => ⟨_, _, _, _, rfl, HL.Sub.refl _, br_f rfl ⟨rfl, same⟩⟩) fun e _ => ⟨_, _, _, _, rfl, HL.Sub.refl _, br_t rfl (h4.snap fun _ st' H6 _ _ h6 a1 a2 a3 => ⟨_, rfl, rfl, st', h6, by omega, by omega, fun _ _ => a3⟩)⟩⟩, HL.Sub.refl _,
        pick9_spec (by omega) ⟨_, rfl, HL.Sub.refl _, at9_spec (i := 0) g4 rfl h4.ok.len hi.1 hi.2 (by omega) (fun _ => ⟨_, _, _, _, rfl, HL.Sub.refl _, br_f rfl ⟨rfl, same⟩⟩) fun e _ => ⟨_, _, _, _, rfl, HL.Sub.refl _, br_t rfl (h4.snap fun _ st' H6 _ _ h6 a1 a2 a3 => ⟨_, rfl, rfl, st', h6, by omega, by omega, fun _ _ => a3⟩)⟩⟩⟩
    · exact ⟨rfl, st, h4, by omega, Int.le_refl _, fun _ _ => rfl⟩
  rintro H22 ⟨st', h22, hlen2, ht, hv⟩
  obtain ⟨F22, f22, g22⟩ := h22.at_
  refine ⟨fun H' => H' = H22, term9_spec (i := 0) g22 rfl ⟨_, rfl, br_f (decide_eq_false (by omega)) (term9_spec (i := 0) g22 rfl ⟨_, rfl, br_intro (fun w => br_intro (fun w2 => vote9_spec (i := 0) g22 rfl ⟨_, rfl, br_f ?_ ⟨rfl, rfl⟩⟩) (fun _ => ⟨rfl, rfl⟩)) (fun _ => ⟨rfl, rfl⟩)⟩)⟩, ?_⟩
  · have w : st'.term = st.term := by simpa using w
    have w2 : ¬ st.vote = 0 := by simpa using w2
    rw [hv w w2]; simp
  rintro H24 rfl
  have hints : Gives (ro H0) fun A => Ints A op.ks op.keep := ⟨ro_mono H0, fun A hA => hop.ints.sub hA⟩
  refine crash_spec (i := 1) (g22.pull 1 rfl) hints rfl hop.keep fun H26 h26 => ⟨rfl, ?_⟩
  have f26 := f22.crash op.keep
  have hG := h22.ok
  refine open9_spec h26 f26 hG fun m H27 h27 => ⟨_, _, rfl, br_f rfl (br_f rfl ?_)⟩
  have h27 : HL.Holds (lgc m d st' :: dsk d 1000000 (crashF op.keep F22) :: lgc c d st' :: [ro H0]) H27 := h27
  have hx := hG.index
  refine last9_spec (i := 2) h27 rfl hG.len ⟨_, _, rfl, last9_spec (i := 0) h27 rfl hG.len ⟨_, _, rfl, snapshot9_spec (i := 2) h27 rfl ⟨_, _, _, rfl, snapshot9_spec (i := 0) h27 rfl ⟨_, _, _, rfl, ?_⟩⟩⟩⟩
  have hfa := from_all (st := st') (by have := hG.len; omega)
  refine first9_spec (i := 2) h27 rfl hx ⟨_, rfl, HL.Sub.refl _, from9_spec (i := 2) (m := 1000000) h27 rfl hG.len hx.1 hx.2 (by have := hx.2; omega) fun r1 H33 s33 h33 => ⟨r1, rfl, s33, ?_⟩⟩
  refine first9_spec (i := 1) h33 rfl hx ⟨_, rfl, s33, from9_spec (i := 1) (m := 1000000) h33 rfl hG.len hx.1 hx.2 (by have := hx.2; omega) fun r2 H35 s35 h35 => ⟨r2, rfl, s33.trans s35, ?_⟩⟩
  rw [hfa] at h33 h35
  have hR1 : Recs eE H35 r1 st'.l := Own.recs eElen (by decide) (h35.own 1 rfl) (by have := hG.len; omega)
  have hR2 : Recs eE H35 r2 st'.l := Own.recs eElen (by decide) (h35.own 0 rfl) (by have := hG.len; omega)
  refine same_spec hR1 hR2 ⟨_, rfl, s33.trans s35, br_f (by simp) (br_f (by simp) (br_f (by simp) (br_f (by simp) (br_f (by simp) (br_f (by simp) ?_)))))⟩
  refine term9_spec (i := 4) h35 rfl ⟨_, rfl, HL.Sub.refl _, term9_spec (i := 2) h35 rfl ⟨_, rfl, HL.Sub.refl _, br_f (by simp) (vote9_spec (i := 4) h35 rfl ⟨_, rfl, HL.Sub.refl _, vote9_spec (i := 2) h35 rfl ⟨_, rfl, HL.Sub.refl _, br_f (by simp) (first9_spec (i := 4) h35 rfl hx ⟨_, rfl, HL.Sub.refl _, first9_spec (i := 2) h35 rfl hx ⟨_, rfl, HL.Sub.refl _, br_f (by simp) ?_⟩⟩)⟩⟩)⟩⟩
  have h36 : HL.Holds (lgc m d st' :: dsk d 1000000 (crashF op.keep F22) :: [ro H0]) H35 := ((h35.tail.tail).pull 2 rfl).tail
  exact ⟨rfl, ⟨by omega, by omega, m, st', rfl, by omega, ⟨_, f26, h36⟩, hG, h22.up⟩, by dsimp only; omega⟩
end
end Go.Proofs.YtmneimfhcjkinaaDoor
