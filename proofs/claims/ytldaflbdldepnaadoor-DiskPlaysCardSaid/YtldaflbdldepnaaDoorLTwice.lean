/- Chapter 1: the laws DiskTwice, DiskErrs, DiskClones, walked. -/
import Derived.Test.YtldaflbdldepnaaDoorS4
namespace Go.Proofs.YtldaflbdldepnaaDoor
open Go Go.HL
set_option maxRecDepth 10000
set_option maxHeartbeats 800000

theorem headD_in {L : List Int} (h : ∀ n ∈ L, i64B n) : i64B (L.headD 0) := by
  cases L with
  | nil => exact ⟨by decide, by decide⟩
  | cons x l => exact h x List.mem_cons_self
/-- What is left behind a crash is safe. -/
theorem crash_settled : ∀ {F : Fs} {L : List Int}, (∀ p ∈ F, 0 ≤ p.2.2 ∧ p.2.2 ≤ p.2.1.size) → (∀ n ∈ L, i64B n) → ∀ p ∈ crashF L F, (p.2.1.size : Int) - p.2.2 = 0 := by
  intro F
  induction F with
  | nil => intro L _ _ p hp; simp [crashF] at hp
  | cons a F ih =>
    intro L hF hL p hp
    have ha := hF a List.mem_cons_self
    have hF' : ∀ p ∈ F, 0 ≤ p.2.2 ∧ p.2.2 ≤ p.2.1.size := fun p hp => hF p (List.mem_cons_of_mem _ hp)
    rw [crashF_cons] at hp
    split at hp
    · rename_i q
      rcases List.mem_cons.1 hp with e | e
      · rw [e]; exact q
      · exact ih hF' hL p e
    · rename_i q
      rcases List.mem_cons.1 hp with e | e
      · obtain ⟨y0, y1⟩ := pickI_in (c := L.headD 0) (n := (a.2.1.size : Int) - a.2.2 + 1) (by omega) (headD_in hL).1 (headD_in hL).2
        rw [e]
        dsimp only
        rw [ext_size (by omega)]; omega
      · exact ih hF' (fun n hn => hL n (List.mem_of_mem_drop hn)) p e
theorem crash_id : ∀ {F : Fs} {L : List Int}, (∀ p ∈ F, (p.2.1.size : Int) - p.2.2 = 0) → crashF L F = F := by
  intro F
  induction F with
  | nil => intro L _; cases L <;> rfl
  | cons a F ih =>
    intro L h
    rw [crashF_cons, if_pos (h a List.mem_cons_self), ih fun p hp => h p (List.mem_cons_of_mem _ hp)]
/-- A call that is refused changes nothing, but for a full disk's Append. -/
theorem callE_same {size : Int} {F : Fs} {o : Op} (h : (callE size F o).1 ≠ 0) (h2 : (callE size F o).1 = 7 → ¬ pickI o.kind 8 < 3) : (callE size F o).2 = F := by
  unfold callE at h h2 ⊢
  split
  · rename_i q
    rw [if_pos q] at h h2
    dsimp only at h h2 ⊢
    unfold appC at h h2
    unfold appM
    split
    · rfl
    · rename_i q2
      rw [if_neg q2] at h h2
      split at h
      · rename_i q3
        rw [if_pos q3] at h2
        exact absurd (by omega) (h2 rfl)
      · exact absurd rfl h
  · rename_i q
    rw [if_neg q] at h
    split
    · rename_i q1
      rw [if_pos q1] at h
      dsimp only at h ⊢
      unfold synM
      split
      · rfl
      · rename_i q2
        rw [if_neg q2] at h; exact absurd rfl h
    · rename_i q1
      rw [if_neg q1] at h
      split
      · rename_i q3
        rw [if_pos q3] at h
        dsimp only at h ⊢
        unfold cutM
        rw [if_pos h]
      · rename_i q3
        rw [if_neg q3] at h
        split
        · rename_i q4
          rw [if_pos q4] at h
          dsimp only at h ⊢
          unfold repM
          rw [if_pos h]
        · rename_i q4
          rw [if_neg q4] at h
          split
          · rename_i q5
            rw [if_pos q5] at h
            dsimp only at h ⊢
            unfold renM
            rw [if_pos (.inl h)]
          · rename_i q5
            rw [if_neg q5] at h
            dsimp only at h ⊢
            unfold remM
            split
            · rfl
            · rename_i q6
              rw [if_neg q6] at h; exact absurd rfl h
/-- What every law is given: a size. -/
theorem size_in {size m : Int} (hb : i64B size) (hm : 0 < m) (hm2 : m ≤ 5000) : IntKind.wrap .i64 (1 + pickI size m) = 1 + pickI size m ∧ 1 ≤ 1 + pickI size m ∧ 1 + pickI size m ≤ 16777216 := by
  obtain ⟨c0, c1⟩ := pickI_in (c := size) hm hb.1 hb.2
  exact ⟨wrap64_id (by omega) (by omega), by omega, by omega⟩
theorem twice_spec {H0 : Heap} {size : Int} {s f t : Sl} {l : List Op} {Lf Lt : List Int} {K : Value → Heap → Prop} (hb : i64B size) (hr : Recs eOp H0 s l) (ho : ∀ o ∈ l, OpOk H0 o) (hf : Ints H0 f Lf) (wf : ∀ n ∈ Lf, i64B n) (ht : Ints H0 t Lt) (wt : ∀ n ∈ Lt, i64B n)
    (k : ∀ H', HL.Sub H0 H' → K (.bool true) H') : FnH Tryd.prog 9 #[.int .i64 size, .slice s.p s.n s.c, .slice f.p f.n f.c, .slice t.p t.n t.c] H0 K := by
  apply logboomlaw1_DiskTwice_fn
  unfold logboomlaw1_DiskTwice_vc
  obtain ⟨w0, w1, w2⟩ := size_in (m := 2000) hb (by decide) (by decide)
  refine shown_spec (Holds.whole H0) fun H1 h1 => ⟨true, rfl, pick_spec (by decide) ⟨_, rfl, ?_⟩⟩
  rw [w0]
  refine run_spec (i := 0) h1 hr ho rfl w1 w2 fun d H2 h2 => ⟨_, rfl, br_f rfl (br_f rfl ?_)⟩
  refine crash_spec (i := 0) h2 ⟨ro_mono H0, fun A hA => hf.sub hA⟩ rfl wf fun H3 h3 => ⟨rfl, ?_⟩
  refine dclone_spec h3 fun d2 H4 h4 _ => ⟨_, rfl, br_f rfl ?_⟩
  refine crash_spec (i := 1) h4 ⟨ro_mono H0, fun A hA => ht.sub hA⟩ rfl wt fun H5 h5 => ⟨rfl, ?_⟩
  have hB : DkB (1 + pickI size 2000) (playF (1 + pickI size 2000) [] (l.take 100)) := by
    obtain ⟨mb, fs, ⟨hB, hp⟩, -⟩ := dsk_open.1 h2
    exact hB
  rw [crash_id (crash_settled hB.safe wf)] at h5
  exact one_spec h5 fun H6 h6 => ⟨_, rfl, k H6 (h6.sub 2 rfl)⟩
theorem errs_spec {H0 : Heap} {size : Int} {s : Sl} {l : List Op} {o : Op} {K : Value → Heap → Prop} (hb : i64B size) (hr : Recs eOp H0 s l) (ho : ∀ o ∈ l, OpOk H0 o) (hl : OpOk H0 o)
    (k : ∀ H', HL.Sub H0 H' → K (.bool true) H') : FnH Tryd.prog 7 #[.int .i64 size, .slice s.p s.n s.c, .agg #[.int .i64 o.kind, .string o.name, .string o.b, .int .i64 o.n, .slice o.keep.p o.keep.n o.keep.c]] H0 K := by
  apply logboomlaw1_DiskErrs_fn
  unfold logboomlaw1_DiskErrs_vc
  obtain ⟨w0, w1, w2⟩ := size_in (m := 2000) hb (by decide) (by decide)
  refine shown_spec (Holds.whole H0) fun H1 h1 => ⟨true, rfl, pick_spec (by decide) ⟨_, rfl, ?_⟩⟩
  rw [w0]
  refine run_spec (i := 0) h1 hr ho rfl w1 w2 fun d H2 h2 => ⟨_, rfl, br_f rfl (br_f rfl ?_)⟩
  refine dclone_spec h2 fun d2 H3 h3 _ => ⟨_, rfl, br_f rfl ?_⟩
  refine calls_spec h3.swap hl fun H4 h4 => ⟨_, rfl, br_intro (fun q => k H4 (h4.sub 2 rfl)) (fun q => ?_)⟩
  have q : ¬ (callE (1 + pickI size 2000) (playF (1 + pickI size 2000) [] (l.take 100)) o).1 = 0 := by simpa using q
  refine br_intro (fun q2 => pick_spec (by decide) ⟨_, rfl, br_intro (fun q3 => k H4 (h4.sub 2 rfl)) (fun q3 => ?_)⟩) (fun q2 => ?_)
  · rw [callE_same q fun _ => of_decide_eq_false q3] at h4
    exact one_spec h4.swap fun H6 h6 => ⟨_, rfl, k H6 (h6.sub 2 rfl)⟩
  · rw [callE_same q fun z => by rw [z] at q2; simp at q2] at h4
    exact one_spec h4.swap fun H6 h6 => ⟨_, rfl, k H6 (h6.sub 2 rfl)⟩
end Go.Proofs.YtldaflbdldepnaaDoor
