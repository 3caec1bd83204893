/- Chapter 1: the law DiskClones, walked. -/
import Derived.Test.YtldaflbdldepnaaDoorLTwice
namespace Go.Proofs.YtldaflbdldepnaaDoor
open Go Go.HL
set_option maxRecDepth 10000
set_option maxHeartbeats 1600000

theorem clones_spec {H0 : Heap} {size : Int} {s m t : Sl} {l lm lt : List Op} {K : Value → Heap → Prop} (hb : i64B size) (hr : Recs eOp H0 s l) (ho : ∀ o ∈ l, OpOk H0 o) (hm : Recs eOp H0 m lm) (om : ∀ o ∈ lm, OpOk H0 o) (ht : Recs eOp H0 t lt) (ot : ∀ o ∈ lt, OpOk H0 o)
    (k : ∀ H', HL.Sub H0 H' → K (.bool true) H') : FnH Tryd.prog 8 #[.int .i64 size, .slice s.p s.n s.c, .slice m.p m.n m.c, .slice t.p t.n t.c] H0 K := by
  apply logboomlaw1_DiskClones_fn
  unfold logboomlaw1_DiskClones_vc
  obtain ⟨w0, w1, w2⟩ := size_in (m := 2000) hb (by decide) (by decide)
  refine shown_spec (Holds.whole H0) fun H1 h1 => ⟨true, rfl, pick_spec (by decide) ⟨_, rfl, ?_⟩⟩
  rw [w0]
  refine run_spec (i := 0) h1 hr ho rfl w1 w2 fun d H2 h2 => ⟨_, rfl, br_f rfl (br_f rfl ?_)⟩
  refine dclone_spec h2 fun a H3 h3 _ => ⟨_, rfl, ?_⟩
  refine dclone_spec h3.swap fun b H4 h4 _ => ⟨_, rfl, br_f rfl (br_f rfl ?_)⟩
  have h4 : Holds [dsk a (1 + pickI size 2000) (playF (1 + pickI size 2000) [] (l.take 100)), dsk b (1 + pickI size 2000) (playF (1 + pickI size 2000) [] (l.take 100)), dsk d (1 + pickI size 2000) (playF (1 + pickI size 2000) [] (l.take 100)), ro H0] H4 := h4.pull 2 rfl
  generalize hF : playF (1 + pickI size 2000) [] (l.take 100) = F at *
  generalize hsz : 1 + pickI size 2000 = sz at *
  refine ⟨fun i H => 0 ≤ i ∧ ∃ G, Holds [dsk a sz G, dsk b sz F, dsk d sz F, ro H0] H, fun i _ => (m.n - i).toNat, ⟨Int.le_refl _, F, h4⟩, ?_⟩
  rintro i H5 ⟨i0, G, h5⟩
  refine br_intro (fun q => br_intro (fun q2 => ?step) (fun q2 => ?exit1)) (fun q => ?exit2)
  case step =>
    have q := of_decide_eq_true q
    have q2 := of_decide_eq_true q2
    obtain ⟨b', o, x, e1, e2, e3⟩ := (Recs.mono _ _ (h5.sub 3 rfl) hm).at_ eOplen (by decide) i0 q
    rw [wrap64_id (n := i + 1) (by omega) (by omega)]
    exact ⟨b', o, e1, i0, q, _, e3 0 _ rfl, _, e3 1 _ rfl, _, e3 2 _ rfl, _, e3 3 _ rfl, _, e3 4 _ rfl, calls_spec h5 (om x (List.mem_of_getElem? e2)) fun H6 h6 => ⟨_, rfl, rfl, ⟨by omega, _, h6⟩, by dsimp only; omega⟩⟩
  all_goals
    refine one_spec h5.tail fun H6 h6 => ⟨_, rfl, ?_⟩
    refine ⟨fun i H => 0 ≤ i ∧ ∃ G, Holds [dsk b sz G, dsk d sz F, ro H0] H, fun i _ => (t.n - i).toNat, ⟨Int.le_refl _, F, h6⟩, ?_⟩
    rintro j H7 ⟨j0, G2, h7⟩
    refine br_intro (fun q => br_intro (fun q2 => ?_) (fun q2 => ?_)) (fun q => ?_)
    · have q := of_decide_eq_true q
      have q2 := of_decide_eq_true q2
      obtain ⟨b', o, x, e1, e2, e3⟩ := (Recs.mono _ _ (h7.sub 2 rfl) ht).at_ eOplen (by decide) j0 q
      rw [wrap64_id (n := j + 1) (by omega) (by omega)]
      exact ⟨b', o, e1, j0, q, _, e3 0 _ rfl, _, e3 1 _ rfl, _, e3 2 _ rfl, _, e3 3 _ rfl, _, e3 4 _ rfl, calls_spec h7 (ot x (List.mem_of_getElem? e2)) fun H6 h6 => ⟨_, rfl, rfl, ⟨by omega, _, h6⟩, by dsimp only; omega⟩⟩
    all_goals
      refine pick_spec (by decide) ⟨_, rfl, ?_⟩
      rw [hsz, w0]
      refine run_spec (i := 2) h7 hr ho rfl w1 w2 fun c H8 h8 => ⟨_, rfl, br_f rfl ?_⟩
      rw [hF] at h8
      have h9 : Holds [dsk c sz F, dsk d sz F, dsk b sz G2, ro H0] H8 := h8.perm ((List.Perm.swap _ _ _).cons _)
      exact one_spec h9 fun H9 h9 => ⟨_, rfl, br_t rfl (k H9 (h9.sub 3 rfl))⟩
end Go.Proofs.YtldaflbdldepnaaDoor
