/- Chapter 7: EpochPlays: the program's cache and the document's answer alike. -/
import Derived.Test.YtdgmifbcbmndgaaGreatDoorQ2
import Derived.Test.YtdgmifbcbmndgaaGreatDoorV4
namespace Go.Proofs.YtdgmifbcbmndgaaGreatDoor
open Go Go.HL
set_option maxHeartbeats 6400000
set_option maxRecDepth 10000

abbrev Op7 := Int × Int × Int
abbrev e3 : Op7 → List Value := fun o => [.int .i64 o.1, .int .i64 o.2.1, .int .i64 o.2.2]
theorem e3len : ∀ a, (e3 a).length = 3 := fun _ => rfl
def Op7Ok (o : Op7) : Prop := i64B o.1 ∧ i64B o.2.1 ∧ i64B o.2.2
/-- Both caches and both disks. -/
def Inv7 (sz : Int) (d r : Nat) (H0 : Heap) (c x : Option Addr) (H' : Heap) : Prop := ∃ (c1 x1 : Nat) (F : Fs) (L : List En), c = some ⟨c1, 0, none⟩ ∧ x = some ⟨x1, 0, none⟩ ∧ StE F L ∧ EOk L ∧ HL.Holds [cch c1 d nmE L, dsk d sz F, rch x1 r nmE L, rdsk r sz F, ro H0] H'
theorem epochPlays_walk {H0 : Heap} {size : Int} {script : Sl} {ops : List Op7} (hz : i64B size) (hs : Recs e3 H0 script ops) (hr : ∀ o ∈ ops, Op7Ok o) :
    FnH Tryz.prog 3 #[.int .i64 size, .slice script.p script.n script.c] H0 fun r H' => r = .bool true ∧ HL.Sub H0 H' := by
  apply logboomlaw7_EpochPlays_fn
  unfold logboomlaw7_EpochPlays_vc
  have hsl := hs.len
  have hsb := hs.big
  obtain ⟨z0, z1⟩ := pickI_in (c := size) (n := 400) (by decide) hz.1 hz.2
  refine shown_spec (Holds.whole H0) fun H1 h1 => ⟨_, rfl, pick_spec (by decide) ⟨_, rfl, ?_⟩⟩
  rw [wrap64_id (n := 20 + pickI size 400) (by omega) (by omega)]
  generalize pickI size 400 = p4 at *
  generalize hsz : 20 + p4 = sz at *
  refine opened_spec h1 (by omega) (by omega) fun c d H3 h3 => ⟨_, _, rfl, rnew_spec h3 (fun q => by omega) fun _ _ r H4 h4 => ⟨_, rfl, br_f rfl (br_f rfl (br_f rfl ?_))⟩⟩
  have e1 : openC [] nmE = 0 := rfl
  have e2 : openL [] nmE = [] := rfl
  refine ropen_spec (n := nmE) h4 (fun H5 hc _ => absurd e1 hc) fun x H5 _ h5 => ⟨_, _, rfl, ?_⟩
  rw [e2] at h5
  refine ⟨fun H' => HL.Sub H0 H', ?_, fun H' s' => ⟨rfl, s'⟩⟩
  refine ⟨fun c x i H' => 0 ≤ i ∧ i ≤ 200 ∧ Inv7 sz d r H0 c x H', fun _ _ i _ => (200 - i).toNat, ⟨Int.le_refl _, by decide, c, x, [], [], rfl, rfl, .inl ⟨rfl, rfl⟩, EOk.nil, (h5.pull 3 rfl).pull 3 rfl⟩, ?_⟩
  clear h5 h4 h3 h1
  rintro c' x' i H6 ⟨i0, i1, c1, x1, F, L, rfl, rfl, hS, hL, h6⟩
  refine br_intro (fun q => br_intro (fun q2 => ?_) (fun _ => ⟨rfl, h6.sub 4 rfl⟩)) (fun _ => ⟨rfl, h6.sub 4 rfl⟩)
  have q := of_decide_eq_true q
  have q2 := of_decide_eq_true q2
  obtain ⟨b, o, op, p1, p2, p3⟩ := (Recs.mono _ _ (h6.sub 4 rfl) hs).at_ e3len (by decide) i0 q
  obtain ⟨r1, r2, r3⟩ := hr op (List.mem_of_getElem? p2)
  have hlen := hL.len
  obtain ⟨d0, d1⟩ := pickI_in (c := op.1) (n := 8) (by decide) r1.1 r1.2
  refine ⟨b, o, p1, i0, q, _, p3 0 _ rfl, _, p3 1 _ rfl, _, p3 2 _ rfl, ?_⟩
  refine ⟨fun c x ok H' => ok = true ∧ Inv7 sz d r H0 c x H', pick_spec (by decide) ⟨_, rfl, ?_⟩, ?_⟩
  · generalize pickI op.1 8 = kd at *
    have pair : ∀ (R : Int × Fs × List En), CallOk F L R → ∀ H', HL.Holds [cch c1 d nmE R.2.2, dsk d sz R.2.1, rch x1 r nmE R.2.2, rdsk r sz R.2.1, ro H0] H' → Inv7 sz d r H0 (some ⟨c1, 0, none⟩) (some ⟨x1, 0, none⟩) H' := fun R ok H' h => ⟨c1, x1, R.2.1, R.2.2, rfl, rfl, ok.st, ok.ok, h⟩
    have okB := CallOk.begin sz op.2.1 op.2.2 hS hL
    have okC := CallOk.cut sz op.2.2 hS hL
    have okD := CallOk.delete sz op.2.2 hS hL
    have DB := fun {K : Value → Heap → Prop} (k : ∀ H', HL.Holds [rch x1 r nmE L, rdsk r sz F, cch c1 d nmE (beginR sz F nmE L op.2.1 op.2.2).2.2, dsk d sz (beginR sz F nmE L op.2.1 op.2.2).2.1, ro H0] H' → K (.int .i64 (beginR sz F nmE L op.2.1 op.2.2).1) H') => begin_spec (K := K) (ep := op.2.1) (off := op.2.2) h6 hL fun H' h' => k H' ((h'.pull 3 rfl).pull 3 rfl)
    have EB := fun {K : Value → Heap → Prop} {H8 : Heap} (h : HL.Holds [rch x1 r nmE L, rdsk r sz F, cch c1 d nmE (beginR sz F nmE L op.2.1 op.2.2).2.2, dsk d sz (beginR sz F nmE L op.2.1 op.2.2).2.1, ro H0] H8) (k : ∀ H', HL.Holds [cch c1 d nmE (beginR sz F nmE L op.2.1 op.2.2).2.2, dsk d sz (beginR sz F nmE L op.2.1 op.2.2).2.1, rch x1 r nmE (beginR sz F nmE L op.2.1 op.2.2).2.2, rdsk r sz (beginR sz F nmE L op.2.1 op.2.2).2.1, ro H0] H' → K (.int .i64 (beginR sz F nmE L op.2.1 op.2.2).1) H') => rbegin_spec (K := K) (ep := op.2.1) (off := op.2.2) h hL fun H' h' => k H' ((h'.pull 3 rfl).pull 3 rfl)
    have DC := fun {K : Value → Heap → Prop} (k : ∀ H', HL.Holds [rch x1 r nmE L, rdsk r sz F, cch c1 d nmE (cutR sz F nmE L op.2.2).2.2, dsk d sz (cutR sz F nmE L op.2.2).2.1, ro H0] H' → K (.int .i64 (cutR sz F nmE L op.2.2).1) H') => cut_spec7 (K := K) (off := op.2.2) h6 hL fun H' h' => k H' ((h'.pull 3 rfl).pull 3 rfl)
    have EC := fun {K : Value → Heap → Prop} {H8 : Heap} (h : HL.Holds [rch x1 r nmE L, rdsk r sz F, cch c1 d nmE (cutR sz F nmE L op.2.2).2.2, dsk d sz (cutR sz F nmE L op.2.2).2.1, ro H0] H8) (k : ∀ H', HL.Holds [cch c1 d nmE (cutR sz F nmE L op.2.2).2.2, dsk d sz (cutR sz F nmE L op.2.2).2.1, rch x1 r nmE (cutR sz F nmE L op.2.2).2.2, rdsk r sz (cutR sz F nmE L op.2.2).2.1, ro H0] H' → K (.int .i64 (cutR sz F nmE L op.2.2).1) H') => rcut_spec7 (K := K) (off := op.2.2) h hL fun H' h' => k H' ((h'.pull 3 rfl).pull 3 rfl)
    have DD := fun {K : Value → Heap → Prop} (k : ∀ H', HL.Holds [rch x1 r nmE L, rdsk r sz F, cch c1 d nmE (deleteR sz F nmE L op.2.2).2.2, dsk d sz (deleteR sz F nmE L op.2.2).2.1, ro H0] H' → K (.int .i64 (deleteR sz F nmE L op.2.2).1) H') => delete_spec7 (K := K) (off := op.2.2) h6 hL fun H' h' => k H' ((h'.pull 3 rfl).pull 3 rfl)
    have ED := fun {K : Value → Heap → Prop} {H8 : Heap} (h : HL.Holds [rch x1 r nmE L, rdsk r sz F, cch c1 d nmE (deleteR sz F nmE L op.2.2).2.2, dsk d sz (deleteR sz F nmE L op.2.2).2.1, ro H0] H8) (k : ∀ H', HL.Holds [cch c1 d nmE (deleteR sz F nmE L op.2.2).2.2, dsk d sz (deleteR sz F nmE L op.2.2).2.1, rch x1 r nmE (deleteR sz F nmE L op.2.2).2.2, rdsk r sz (deleteR sz F nmE L op.2.2).2.1, ro H0] H' → K (.int .i64 (deleteR sz F nmE L op.2.2).1) H') => rdelete_spec7 (K := K) (off := op.2.2) h hL fun H' h' => k H' ((h'.pull 3 rfl).pull 3 rfl)
    have z : kd = 0 ∨ kd = 1 ∨ kd = 2 ∨ kd = 3 ∨ kd = 4 ∨ kd = 5 ∨ kd = 6 ∨ kd = 7 := by omega
    rcases z with z | z | z | z | z | z | z | z
    all_goals
      subst z
      repeat (first | refine br_t rfl ?_ | refine br_f rfl ?_)
    iterate 3
      · repeat' (first
          | exact HL.Sub.refl _
          | exact ⟨rfl, by simp, pair _ okB _ h⟩
          | refine DB fun H h => ⟨_, rfl, ?_⟩
          | refine EB h fun H h => ⟨_, rfl, ?_⟩
          | refine And.intro ?_ ?_)
    · repeat' (first
        | exact HL.Sub.refl _
        | exact ⟨rfl, by simp, pair _ okC _ h⟩
        | refine DC fun H h => ⟨_, rfl, ?_⟩
        | refine EC h fun H h => ⟨_, rfl, ?_⟩
        | refine And.intro ?_ ?_)
    · repeat' (first
        | exact HL.Sub.refl _
        | exact ⟨rfl, by simp, pair _ okD _ h⟩
        | refine DD fun H h => ⟨_, rfl, ?_⟩
        | refine ED h fun H h => ⟨_, rfl, ?_⟩
        | refine And.intro ?_ ?_)
    iterate 2
      · refine end_spec (i := 0) (ep := op.2.1) (nxt := op.2.2) h6 rfl hL.srt (by omega) fun H7 s7 h7 => ⟨_, _, rfl, rend_spec (i := 2) (ep := op.2.1) (nxt := op.2.2) h7 rfl hL.srt (by omega) ⟨_, _, rfl, br_t (by simp) ⟨rfl, by simp, c1, x1, F, L, rfl, rfl, hS, hL, h7⟩⟩⟩
    · obtain ⟨ec, el⟩ := open_st hS hL
      refine crash_spec (keep := ⟨none, 0, 0⟩) (L := []) (i := 3) (h6.pull 1 rfl) (c0 := ro H0) ⟨ro_mono _, fun A _ => Ints.nil A⟩ rfl (by simp) fun H7 h7 => ⟨rfl, ?_⟩
      rw [crash_st hS] at h7
      refine rcrash_spec (keep := ⟨none, 0, 0⟩) (L := []) (i0 := 3) (h7.pull 3 rfl) (c0 := ro H0) ⟨ro_mono _, fun A _ => Ints.nil A⟩ rfl (by simp) fun H8 h8 => ⟨rfl, ?_⟩
      rw [crash_st hS] at h8
      refine open_spec (n := nmE) (h8.pull 1 rfl) (fun H9 hne _ => absurd ec hne) fun c2 H9 _ h9 => ⟨_, _, rfl, ?_⟩
      refine ropen_spec (n := nmE) (h9.pull 2 rfl) (fun H10 hne _ => absurd ec hne) fun x2 H10 _ h10 => ⟨_, _, rfl, br_f rfl (br_f rfl (br_f rfl ⟨rfl, rfl, c2, x2, F, L, rfl, rfl, hS, hL, ?_⟩))⟩
      rw [el] at h10
      exact ((((h10.pull 3 rfl).pull 3 rfl).pull 4 rfl).tail.pull 4 rfl).tail
  clear hS hL h6 hlen p2 p3 d0 d1 r1 r2 r3
  rintro c2 x2 ok H7 ⟨rfl, c3, x3, F', L', rfl, rfl, hS, hL, h7⟩
  have hlen := hL.len
  refine all_spec (i := 0) h7 rfl (by omega) fun l1 H8 s8 h8 => ⟨l1, rfl, rall_spec (i := 3) h8 rfl (by omega) fun l2 H9 s9 h9 => ⟨l2, rfl, ?_⟩⟩
  have hR1 : Recs eE H9 l1 L' := Own.recs eElen (by decide) (h9.own 1 rfl) (by omega)
  have hR2 : Recs eE H9 l2 L' := Own.recs eElen (by decide) (h9.own 0 rfl) (by omega)
  have hn := hR1.len
  refine same_spec hR1 hR2 ⟨_, rfl, read_spec (i := 3) h9 rfl ⟨_, _, rfl, rread_spec (j := 5) h9 rfl ⟨_, _, rfl, br_f rfl (br_f (by simp) (last_spec (i := 2) h9 rfl (by omega) ⟨_, rfl, rlast_spec (i := 4) h9 rfl (by omega) ⟨_, rfl, br_f (by simp) (br_f (by simp) (br_f (by simp) ?_))⟩⟩))⟩⟩⟩
  refine ⟨fun k H' => 0 ≤ k ∧ k ≤ l1.n ∧ ∃ vs : List Value, vs.length = L'.length * 3 ∧ HL.Holds [own 51 3 l1 vs, cch c3 d nmE L', dsk d sz F', rch x3 r nmE L', rdsk r sz F', ro H0] H', fun k _ => (l1.n - k).toNat, ⟨Int.le_refl _, by omega, L'.flatMap eE, flat_len eElen _, h9.tail⟩, ?_⟩
  rintro k H10 ⟨k0, k1, vs, hv, h10⟩
  refine br_intro (fun w => ?_) (fun w => ?_)
  · have w := of_decide_eq_true w
    obtain ⟨b2, o2, y, y1, -, -⟩ := hR1.at_ eElen (by decide) k0 w
    refine ⟨b2, o2, y1, k0, w, ?_⟩
    rw [wrap64_id (n := k + 1) (by omega) (by omega)]
    exact Holds.setCell h10 y1 (j := Int.toNat k * 3) (by omega) fun H11 h11 => ⟨rfl, ⟨by omega, by omega, _, by rw [List.length_set]; exact hv, h11⟩, by dsimp only; omega⟩
  · rw [wrap64_id (n := i + 1) (by omega) (by omega)]
    exact ⟨rfl, ⟨by omega, by omega, c3, x3, F', L', rfl, rfl, hS, hL, h10.tail⟩, by dsimp only; omega⟩
end Go.Proofs.YtdgmifbcbmndgaaGreatDoor
