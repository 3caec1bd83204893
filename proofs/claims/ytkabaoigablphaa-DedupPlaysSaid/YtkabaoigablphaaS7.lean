/- Chapter 8: Note. -/
import Derived.Test.YtkabaoigablphaaS6
namespace Go.Proofs.Ytkabaoigablphaa
open Go.HL
set_option maxHeartbeats 800000
set_option maxRecDepth 10000

/-- Is a batch behind what a producer wrote? -/
def lateB (l : List Nt) (base epoch seq : Int) : Bool :=
  if l.length = 0 then false
  else decide ((l.getD (l.length - 1) nt0).2.2.2 ≥ base) || decide ((l.getD (l.length - 1) nt0).1 > epoch) || (decide ((l.getD (l.length - 1) nt0).1 = epoch) && decide (seq < nextS l))
def noteM (T : Tb) (base pid epoch seq n : Int) : Tb :=
  if lateB ((lookL T pid).getD []) base epoch seq = true then T else putL T pid ((lookL T pid).getD [] ++ [(epoch, seq, n, base)])
theorem note_spec {cs : List Chunk} {H : Heap} {t : Nat} {T : Tb} {base be pid epoch seq : Int} {s : Sl} {rs : List Rcd} {c0 : Chunk} {i : Nat} {K : Value → Heap → Prop} (h : Holds (tab t T :: cs) H) (hL : Low T 100000) (g : Gives c0 fun A => Recs eR A s rs) (hi : cs[i]? = some c0)
    (k : ∀ H', Holds (tab t (if pid = 0 ∨ rightM base be pid epoch seq rs ≠ 0 then T else noteM T base pid epoch seq s.n) :: cs) H' → K (.tuple #[]) H') :
    FnH Try.prog 16 #[.pointer (some ⟨t, 0, none⟩), .agg #[.int .i64 base, .int .i64 be, .int .i64 pid, .int .i64 epoch, .int .i64 seq, .slice s.p s.n s.c]] H K := by
  apply dedup_Table_Note_fn
  unfold dedup_Table_Note_vc
  refine br_intro (fun q => ?_) (fun q => ?_)
  · rw [if_pos (.inl (by simpa using q))] at k; exact k H h
  have q : ¬ pid = 0 := by simpa using q
  refine right_spec h g (i := i + 1) (by simpa using hi) fun H1 h1 => ⟨_, rfl, br_intro (fun q2 => ?_) (fun q2 => ?_)⟩
  · rw [if_pos (.inr (by simpa using q2))] at k; exact k H1 h1
  rw [if_neg (fun z => z.elim q fun z => z (by simpa using q2))] at k
  clear h q2
  obtain ⟨mb, ps, ⟨eT, hN⟩, h2⟩ := tab_open.1 h1
  have hm := h2.map 1 rfl
  refine ⟨some mb, h2.cell 0 rfl rfl, runR_lookup u53 kint z56 hm (k := pid) (ok := false) ?_⟩
  obtain ⟨s0, l0, X, ev, el, hX, hlen, cl⟩ : ∃ (s0 : Sl) (l0 : List Nt) (X : List Hd), (lookL (tmap ps) pid).getD (.slice none 0 0) = .slice s0.p s0.n s0.c ∧ (lookL T pid).getD [] = l0 ∧
      Holds (ownN s0 l0 :: Holds (X.map hown) :: blk t (.cells #[.map (some mb)] 55 (0, 0)) :: mp mb encI (tmap ps) :: cs) H1 ∧ l0.length ≤ 100000 ∧
      ∀ (r : Sl) (l' : List Nt) H', Holds (ownN r l' :: Holds (X.map hown) :: blk t (.cells #[.map (some mb)] 55 (0, 0)) :: mp mb encI (putL (tmap ps) pid (.slice r.p r.n r.c)) :: cs) H' → Holds (tab t (putL T pid l') :: cs) H' := by
    cases e : idxL ps pid with
    | none =>
      have e1 : idxL (tmap ps) pid = none := by rw [idx_tmap, e]; rfl
      have e2 : idxL T pid = none := by rw [← eT, idx_tmod, e]; rfl
      refine ⟨⟨none, 0, 0⟩, [], ps, by unfold lookL; rw [e1]; rfl, by unfold lookL; rw [e2]; rfl, (h2.pull 2 rfl).own_nil _ _, by simp, fun r l' H' h' => ?_⟩
      refine tab_open.2 ⟨mb, ps ++ [(pid, r, l')], ⟨?_, ?_⟩, ?_⟩
      · rw [putL_none e2, ← eT]; simp [tmod]
      · rw [putL_none e2, List.map_append, List.nodup_append]
        refine ⟨hN, by simp, fun a ha b hb => ?_⟩
        simp only [List.map_cons, List.map_nil, List.mem_singleton] at hb
        subst hb
        rintro rfl
        obtain ⟨q, hq⟩ := idxL_mem ha
        rw [e2] at hq; cases hq
      · have h3 := Holds.more (f := hown) (a := (pid, r, l')) h'
        have e3 : tmap (ps ++ [(pid, r, l')]) = putL (tmap ps) pid (.slice r.p r.n r.c) := by rw [putL_none e1]; simp [tmap]
        rw [e3]
        exact h3.down 2
    | some w =>
      obtain ⟨j, s0, l0⟩ := w
      have e1 := idxL_get e
      have e2 : lookL T pid = some l0 := by rw [← eT]; unfold lookL; rw [idx_tmod, e]; rfl
      refine ⟨s0, l0, ps.eraseIdx j, by unfold lookL; rw [idx_tmap, e]; rfl, by rw [e2]; rfl, (h2.pull 2 rfl).pick e1, hL.look e2, fun r l' H' h' => ?_⟩
      refine tab_open.2 ⟨mb, ps.set j (pid, r, l'), ⟨?_, ?_⟩, ?_⟩
      · rw [tmod_set e, eT]
      · rw [putL_keys e2]; exact hN
      · rw [tmap_set e]
        exact (Holds.back (f := hown) (a := (pid, r, l')) h' (List.getElem?_eq_some_iff.1 e1).1).down 2
  rw [ev]
  refine ⟨s0, rfl, ?_⟩
  unfold noteM at k
  rw [el] at k
  have hR : Recs eN H1 s0 l0 := Own.recs eNlen (by decide) (hX.own 0 rfl) (by omega)
  have hl := hR.len
  refine ⟨fun H2 => H2 = H1 ∧ lateB l0 base epoch seq = false, ?_, ?_⟩
  · have late : lateB l0 base epoch seq = true → K (.tuple #[]) H1 := fun z => by rw [if_pos z] at k; exact k H1 h1
    have hbg := hR.big
    refine br_intro (fun w => ?_) (fun w => ⟨rfl, rfl, ?_⟩)
    · have w := of_decide_eq_true w
      obtain ⟨q1, o1, p1, p2⟩ := Recs.getN hR (j := (s0.n : Int) - 1) (by omega) (by omega)
      have eL : ((s0.n : Int) - 1).toNat = l0.length - 1 := by omega
      rw [wrap64_id (n := (s0.n : Int) - 1) (by omega) (by omega)]
      rw [eL] at p2 ⊢
      have eB : lateB l0 base epoch seq = (decide ((l0.getD (l0.length - 1) nt0).2.2.2 ≥ base) || decide ((l0.getD (l0.length - 1) nt0).1 > epoch) || (decide ((l0.getD (l0.length - 1) nt0).1 = epoch) && decide (seq < nextS l0))) := by
        unfold lateB; rw [if_neg (by omega)]
      rw [eB] at late ⊢
      refine ⟨q1, o1, p1, by omega, by omega, _, p2 0 _ rfl, _, p2 1 _ rfl, _, p2 2 _ rfl, _, p2 3 _ rfl, br_intro (fun u => late (by rw [u]; rfl)) (fun u => br_intro (fun u2 => late (by rw [u2]; simp)) (fun u2 => br_intro (fun u3 => br_intro (fun u4 => late ?_) (fun u4 => ⟨rfl, rfl, ?_⟩)) (fun u3 => ⟨rfl, rfl, ?_⟩)))⟩
      · have u4 : decide (seq < nextS l0) = true := u4
        rw [decide_eq_true (eq_of_beq u3), u4]; simp
      · have u4 : decide (seq < nextS l0) = false := u4
        rw [u, u2, u4]; simp
      · have u3 : ¬ (l0.getD (l0.length - 1) nt0).1 = epoch := by simpa using u3
        rw [u, u2, decide_eq_false u3]; simp
    · have w := of_decide_eq_false w
      unfold lateB; rw [if_pos (by omega)]
  · rintro H2 ⟨rfl, hlate⟩
    rw [if_neg (by rw [hlate]; simp)] at k
    obtain ⟨x, ex⟩ : ∃ x : Nt, x = (epoch, seq, (s.n : Int), base) := ⟨_, rfl⟩
    rw [← ex] at k
    have upd : ∀ (r : Sl) (H3 : Heap), Holds (ownN r (l0 ++ [x]) :: Holds (X.map hown) :: blk t (.cells #[.map (some mb)] 55 (0, 0)) :: mp mb encI (tmap ps) :: cs) H3 → runH Try.prog (Instr.mapUpdate 53 (.map (some mb)) (.int .i64 pid) (.slice r.p r.n r.c)) H3 fun _ H5 => K (.tuple #[]) H5 :=
      fun r H3 h3 => Holds.update h3 3 rfl u53 kint fun H' h' => k H' (cl r _ H' h')
    have app : ∀ (q : Nat) (H3 : Heap) (F : Value → Heap → Prop), Holds (blk q (.cells #[.int .i64 epoch, .int .i64 seq, .int .i64 (s.n : Nat), .int .i64 base] 62 (0, 0)) :: ownN s0 l0 :: Holds (X.map hown) :: blk t (.cells #[.map (some mb)] 55 (0, 0)) :: mp mb encI (tmap ps) :: cs) H3 →
        (∀ (r : Sl) (H4 : Heap), Holds (ownN r (l0 ++ [x]) :: Holds (X.map hown) :: blk t (.cells #[.map (some mb)] 55 (0, 0)) :: mp mb encI (tmap ps) :: cs) H4 → F (.slice r.p r.n r.c) H4) →
        runH Try.prog (Builtin.append_ #[56, 56] 56 #[.slice s0.p s0.n s0.c, .slice (some ⟨q, 0, none⟩) 1 1]) H3 F := fun q H3 F h3 hF => by
      have hx : CellsAt H3 (some ⟨q, 0, none⟩) (eN x) := CellsAt.block (h3.get 0 rfl) fun i hi => by rw [ex]; simp
      refine Holds.append ok56 ok56.under h3.swap hx (by rfl) (by rfl) (by omega) fun r H4 h4 n4 => hF r H4 ?_
      have e : (l0 ++ [x]).flatMap eN = l0.flatMap eN ++ eN x := by simp
      show Holds (own 62 4 r ((l0 ++ [x]).flatMap eN) :: _) H4
      rw [e]
      exact h4.swap.tail
    have au : ∀ (q : Nat) (H3 : Heap), Holds (blk q (.cells #[.int .i64 epoch, .int .i64 seq, .int .i64 (s.n : Nat), .int .i64 base] 62 (0, 0)) :: ownN s0 l0 :: Holds (X.map hown) :: blk t (.cells #[.map (some mb)] 55 (0, 0)) :: mp mb encI (tmap ps) :: cs) H3 →
        runH Try.prog (Builtin.append_ #[56, 56] 56 #[.slice s0.p s0.n s0.c, .slice (some ⟨q, 0, none⟩) 1 1]) H3 fun r3 H4 => ∃ l2 : Sl, r3 = .slice l2.p l2.n l2.c ∧ runH Try.prog (Instr.mapUpdate 53 (.map (some mb)) (.int .i64 pid) (.slice l2.p l2.n l2.c)) H4 fun _ H5 => K (.tuple #[]) H5 :=
      fun q H3 h3 => app q H3 _ h3 fun r H4 h4 => ⟨r, rfl, upd r H4 h4⟩
    have hc : cellH H2 ⟨t, 0, none⟩ = some (.map (some mb)) := hX.cell 2 rfl rfl
    refine ⟨⟨some mb, hc, HL.Sub.refl _, ⟨HL.Sub.refl _, hX.newS fun q H3 s3 h3 => ⟨s3, au q H3 h3⟩⟩, hX.newS fun q H3 s3 h3 => ⟨s3, ⟨s3, au q H3 h3⟩, au q H3 h3⟩⟩, ⟨HL.Sub.refl _, ⟨some mb, hc, HL.Sub.refl _, hX.newS fun q H3 s3 h3 => ⟨s3, au q H3 h3⟩⟩,
      hX.newS fun q H3 s3 h3 => ⟨s3, ⟨some mb, h3.cell 3 rfl rfl, s3, au q H3 h3⟩, app q H3 _ h3 fun r H4 h4 => ⟨r, rfl, some mb, h4.cell 2 rfl rfl, upd r H4 h4⟩⟩⟩,
      hX.newS fun q H3 s3 h3 => ⟨s3, ⟨some mb, h3.cell 3 rfl rfl, s3, ⟨s3, au q H3 h3⟩, au q H3 h3⟩, ⟨s3, ⟨some mb, h3.cell 3 rfl rfl, s3, au q H3 h3⟩, app q H3 _ h3 fun r H4 h4 => ⟨r, rfl, some mb, h4.cell 2 rfl rfl, upd r H4 h4⟩⟩,
        app q H3 _ h3 fun r H4 h4 => ⟨r, rfl, ⟨some mb, h4.cell 2 rfl rfl, upd r H4 h4⟩, some mb, h4.cell 2 rfl rfl, upd r H4 h4⟩⟩⟩
end Go.Proofs.Ytkabaoigablphaa
