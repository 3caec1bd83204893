/- Chapter 7: EpochRises: whatever comes in, the call gives true and turns nothing that was there. -/
import Derived.Test.YtdgmifbcbmndgaaDoorL1
namespace Go.Proofs.YtdgmifbcbmndgaaDoor
open Go Go.HL
set_option maxHeartbeats 3200000
set_option maxRecDepth 10000

/-- What a cut, or a delete, leaves. -/
def LeftOk (kind off : Int) (r : Int × Fs × List En) : Prop := (r.1 = 0 → kind = 2 → ∀ e ∈ r.2.2, e.2.1 < off) ∧ (r.1 = 0 → kind = 3 → ∀ e ∈ r.2.2, off ≤ e.2.1)
theorem left_cut {F : Fs} {L : List En} (off : Int) (h : StE F L) : LeftOk 2 off (cutR 100000 F nmE L off) := by
  unfold cutR
  split
  · exact ⟨fun z => (by cases z), fun z => (by cases z)⟩
  · obtain ⟨-, h2, -⟩ := wr_st (size := 100000) (l := aheadL L off) h
    exact ⟨fun z _ e he => by rw [h2 z] at he; exact of_decide_eq_true (List.mem_filter.1 he).2, fun _ z => by omega⟩
theorem left_del {F : Fs} {L : List En} (off : Int) (h : StE F L) (hL : EOk L) : LeftOk 3 off (deleteR 100000 F nmE L off) := by
  unfold deleteR
  split
  · exact ⟨fun z => (by cases z), fun z => (by cases z)⟩
  · obtain ⟨-, h2, -⟩ := wr_st (size := 100000) (l := delE L off) h
    refine ⟨fun _ z => by omega, fun z _ e he => ?_⟩
    rw [h2 z] at he
    rcases del_split hL (off := off) with e1 | ⟨x, t, e1, e2, e3⟩
    · rw [e1] at he; cases he
    · rw [e2] at he
      rcases List.mem_cons.1 he with w | w
      · subst w
        show off ≤ (if off > x.2.1 then off else x.2.1)
        split <;> omega
      · have := e3 e w; omega
theorem left_none {kind off : Int} {r : Int × Fs × List En} (h2 : kind ≠ 2) (h3 : kind ≠ 3) : LeftOk kind off r := ⟨fun _ z => absurd z h2, fun _ z => absurd z h3⟩
theorem SrtE.get {L : List En} (h : SrtE L) {i j : Nat} {x y : En} (hx : L[i]? = some x) (hy : L[j]? = some y) (hij : i < j) : x.1 < y.1 ∧ x.2.1 < y.2.1 := by
  obtain ⟨h1, h2⟩ := List.getElem?_eq_some_iff.1 hx
  obtain ⟨h3, h4⟩ := List.getElem?_eq_some_iff.1 hy
  have := List.pairwise_iff_getElem.1 h i j h1 h3 hij
  rw [h2, h4] at this; exact this
/-- What End answers, seen from an entry. -/
theorem end_at {L : List En} (hL : EOk L) {ep nxt : Int} {i : Nat} {x : En} (hx : L[i]? = some x) (e : x.1 = (endR L ep nxt).1) : x.1 ≤ ep ∧ (∀ y, L[i + 1]? = some y → (endR L ep nxt).2 = y.2.1 ∧ ¬ y.1 ≤ ep) ∧ (L[i + 1]? = none → (endR L ep nxt).2 = nxt) := by
  obtain ⟨f1, f2⟩ := hL.srt.upto ep
  have hfl : (uptoL L ep).length ≤ L.length := List.length_filter_le _ _
  have hxm := hL.may x (List.mem_of_getElem? hx)
  unfold endR at e ⊢
  by_cases r0 : (uptoL L ep).length = 0
  · rw [if_pos r0] at e
    have : x.1 = -1 := e
    omega
  rw [if_neg r0] at e ⊢
  have hr : (uptoL L ep).length - 1 < L.length := by omega
  have hg : L[(uptoL L ep).length - 1]? = some (L.getD ((uptoL L ep).length - 1) e0) := by rw [List.getD, List.getElem?_eq_getElem hr]; rfl
  have ea : x.1 = (L.getD ((uptoL L ep).length - 1) e0).1 := by
    split at e <;> exact e
  have hi : i = (uptoL L ep).length - 1 := by
    rcases Nat.lt_trichotomy i ((uptoL L ep).length - 1) with z | z | z
    · have := (hL.srt.get hx hg z).1; omega
    · exact z
    · have := (hL.srt.get hg hx z).1; omega
  have hle := take_filt f1 hx (by have h0 : i < (uptoL L ep).length := by omega
                                  exact h0)
  simp only [decide_eq_true_eq] at hle
  refine ⟨hle, fun y hy => ?_, fun hn => ?_⟩
  · have hlt := (List.getElem?_eq_some_iff.1 hy).1
    rw [if_neg (by omega)]
    have ey : L.getD (uptoL L ep).length e0 = y := getD_of (by rw [← hy]; congr 1; omega)
    rw [ey]
    exact ⟨rfl, f2 y (drop_filt hy (by omega))⟩
  · have : L.length ≤ i + 1 := by
      refine Decidable.byContradiction fun z => ?_
      rw [List.getElem?_eq_getElem (by omega)] at hn; cases hn
    rw [if_pos (by omega)]
theorem end_none {L : List En} (hL : EOk L) {ep nxt : Int} (h : (endR L ep nxt).1 = -1) : (endR L ep nxt).2 = -1 ∧ ∀ x, L[0]? = some x → ¬ x.1 ≤ ep := by
  obtain ⟨f1, f2⟩ := hL.srt.upto ep
  have hfl : (uptoL L ep).length ≤ L.length := List.length_filter_le _ _
  unfold endR at h ⊢
  by_cases r0 : (uptoL L ep).length = 0
  · rw [if_pos r0]
    exact ⟨rfl, fun x hx => f2 x (drop_filt hx (by omega))⟩
  · rw [if_neg r0] at h
    have hr : (uptoL L ep).length - 1 < L.length := by omega
    have hg : L[(uptoL L ep).length - 1]? = some (L.getD ((uptoL L ep).length - 1) e0) := by rw [List.getD, List.getElem?_eq_getElem hr]; rfl
    have := (hL.may _ (List.mem_of_getElem? hg)).1
    have : (L.getD ((uptoL L ep).length - 1) e0).1 = -1 := by split at h <;> exact h
    omega
abbrev Op7 := Int × Int × Int
abbrev e3 : Op7 → List Value := fun o => [.int .i64 o.1, .int .i64 o.2.1, .int .i64 o.2.2]
theorem e3len : ∀ a, (e3 a).length = 3 := fun _ => rfl
def Op7Ok (o : Op7) : Prop := i64B o.1 ∧ i64B o.2.1 ∧ i64B o.2.2
theorem epochRises_walk {H0 : Heap} {script : Sl} {ops : List Op7} {epoch next : Int} (hs : Recs e3 H0 script ops) (hr : ∀ o ∈ ops, Op7Ok o) :
    FnH Tryd.prog 5 #[.slice script.p script.n script.c, .int .i64 epoch, .int .i64 next] H0 fun r H' => r = .bool true ∧ HL.Sub H0 H' := by
  apply logboomlaw7_EpochRises_fn
  unfold logboomlaw7_EpochRises_vc
  have hsl := hs.len
  have hsb := hs.big
  refine shown_spec (Holds.whole H0) fun H1 h1 => ⟨_, rfl, opened_spec h1 (by decide) (by decide) fun c d H2 h2 => ⟨_, _, rfl, br_f rfl (br_f rfl ?_)⟩⟩
  refine ⟨fun H' => ∃ F L, StE F L ∧ EOk L ∧ HL.Holds [cch c d nmE L, dsk d 100000 F, ro H0] H', ?_, ?_⟩
  · refine ⟨fun i H' => 0 ≤ i ∧ i ≤ 150 ∧ ∃ F L, StE F L ∧ EOk L ∧ HL.Holds [cch c d nmE L, dsk d 100000 F, ro H0] H', fun i _ => (150 - i).toNat, ⟨Int.le_refl _, by decide, [], [], .inl ⟨rfl, rfl⟩, EOk.nil, h2⟩, ?_⟩
    rintro i H3 ⟨i0, i1, F, L, hS, hL, h3⟩
    refine br_intro (fun q => br_intro (fun q2 => ?_) (fun _ => ⟨rfl, F, L, hS, hL, h3⟩)) (fun _ => ⟨rfl, F, L, hS, hL, h3⟩)
    have q := of_decide_eq_true q
    have q2 := of_decide_eq_true q2
    obtain ⟨b, o, op, p1, p2, p3⟩ := (Recs.mono _ _ (h3.sub 2 rfl) hs).at_ e3len (by decide) i0 q
    obtain ⟨r1, r2, r3⟩ := hr op (List.mem_of_getElem? p2)
    have hlen := hL.len
    obtain ⟨d0, d1⟩ := pickI_in (c := op.1) (n := 4) (by decide) r1.1 r1.2
    rw [wrap64_id (n := i + 1) (by omega) (by omega)]
    refine ⟨b, o, p1, i0, q, _, p3 0 _ rfl, _, p3 1 _ rfl, _, p3 2 _ rfl, all_spec (i := 0) h3 rfl (by omega) fun l1 H4 s4 h4 => ⟨l1, rfl, ?_⟩⟩
    refine ⟨fun e H' => ∃ r : Int × Fs × List En, r.1 = e ∧ CallOk F L r ∧ LeftOk (pickI op.1 4) op.2.2 r ∧ HL.Holds [cch c d nmE r.2.2, dsk d 100000 r.2.1, ownE l1 L, ro H0] H', pick_spec (by decide) ⟨_, rfl, ?_⟩, ?_⟩
    · generalize pickI op.1 4 = kd at *
      have h5 : HL.Holds [cch c d nmE L, dsk d 100000 F, ownE l1 L, ro H0] H4 := h4.down 2
      have cb := fun {X : List SVal × List (Option (Nat × List Value)) × List Nat} (hk : kd = 0 ∨ kd = 1) => begin_spec (K := fun r H' => ∃ n5 : Int, r = .int .i64 n5 ∧ SelfEq X ∧ ∃ r : Int × Fs × List En, r.1 = n5 ∧ CallOk F L r ∧ LeftOk kd op.2.2 r ∧ HL.Holds [cch c d nmE r.2.2, dsk d 100000 r.2.1, ownE l1 L, ro H0] H') (ep := op.2.1) (off := op.2.2) h5 hL fun H6 h6 => ⟨_, rfl, rfl, _, rfl, CallOk.begin _ _ _ hS hL, left_none (by omega) (by omega), h6⟩
      have cc := fun {X : List SVal × List (Option (Nat × List Value)) × List Nat} (hk : kd = 2) => cut_spec7 (K := fun r H' => ∃ n5 : Int, r = .int .i64 n5 ∧ SelfEq X ∧ ∃ r : Int × Fs × List En, r.1 = n5 ∧ CallOk F L r ∧ LeftOk kd op.2.2 r ∧ HL.Holds [cch c d nmE r.2.2, dsk d 100000 r.2.1, ownE l1 L, ro H0] H') (off := op.2.2) h5 hL fun H6 h6 => ⟨_, rfl, rfl, _, rfl, CallOk.cut _ _ hS hL, by rw [hk]; exact left_cut _ hS, h6⟩
      have cd := fun {X : List SVal × List (Option (Nat × List Value)) × List Nat} (hk : kd = 3) => delete_spec7 (K := fun r H' => ∃ n5 : Int, r = .int .i64 n5 ∧ SelfEq X ∧ ∃ r : Int × Fs × List En, r.1 = n5 ∧ CallOk F L r ∧ LeftOk kd op.2.2 r ∧ HL.Holds [cch c d nmE r.2.2, dsk d 100000 r.2.1, ownE l1 L, ro H0] H') (off := op.2.2) h5 hL fun H6 h6 => ⟨_, rfl, rfl, _, rfl, CallOk.delete _ _ hS hL, by rw [hk]; exact left_del _ hS hL, h6⟩
      have z : kd = 0 ∨ kd = 1 ∨ kd = 2 ∨ kd = 3 := by omega
      rcases z with z | z | z | z
      · have cb := @cb
        subst z
        exact br_t rfl (br_t rfl (cb (.inl rfl)))
      · have cb := @cb
        subst z
        exact br_f rfl (br_t rfl (cb (.inr rfl)))
      · have cc := @cc
        subst z
        exact br_f rfl (br_f rfl (br_t rfl (cc rfl)))
      · have cd := @cd
        subst z
        exact br_f rfl (br_f rfl (br_f rfl (br_t rfl (cd rfl))))
    rintro e1 H12 ⟨⟨c1, F', L'⟩, rfl, ⟨w1, w2, w3⟩, ⟨v1, v2⟩, h12⟩
    dsimp only at w1 w2 w3 v1 v2 h12 ⊢
    have hlen' := w2.len
    refine all_spec (i := 0) h12 rfl (by omega) fun l2 H13 s13 h13 => ⟨l2, rfl, ?_⟩
    have hR2 : Recs eE H13 l2 L' := Own.recs eElen (by decide) (h13.own 0 rfl) (by omega)
    have hR1 : Recs eE H13 l1 L := Own.recs eElen (by decide) (h13.own 3 rfl) (by omega)
    have hn2 := hR2.len
    have hb2 := hR2.big
    refine same_spec hR2 hR1 ⟨_, rfl, br_intro (fun u => br_f ?_ ?_) (fun u => ?_)⟩
    · have u : ¬ c1 = 0 := by simpa using u
      rw [w3 u]; simp
    all_goals
      refine ⟨fun k H' => HL.Sub H13 H' ∧ 0 ≤ k ∧ k ≤ l2.n, fun k _ => (l2.n - k).toNat, ⟨HL.Sub.refl _, Int.le_refl _, by omega⟩, ?_⟩
      rintro k H15 ⟨s15, k0, k1⟩
      refine br_intro (fun t => ?_) (fun t => ⟨rfl, ⟨by omega, by omega, F', L', w1, w2, (h13.tail.up s15).pull 0 rfl |> fun g => ((g.pull 2 rfl).tail)⟩, by (try dsimp only); omega⟩)
      have t := of_decide_eq_true t
      obtain ⟨q2', o2, x, x1, x2, x3⟩ := (Recs.mono _ _ s15 hR2).at_ eElen (by decide) k0 t
      obtain ⟨m1, m2, -⟩ := w2.may x (List.mem_of_getElem? x2)
      refine ⟨fun b H' => H' = H15 ∧ b = false, ⟨q2', o2, x1, k0, t, _, x3 0 _ rfl, br_f (decide_eq_false (by omega)) ⟨q2', o2, x1, k0, t, _, x3 1 _ rfl, br_f (decide_eq_false (by omega)) (br_intro (fun g => ?_) (fun g => ⟨rfl, rfl, rfl⟩))⟩⟩, ?_⟩
      · have g := of_decide_eq_true g
        have ew : IntKind.wrap .i64 (k - 1) = k - 1 := wrap64_id (by omega) (by omega)
        rw [ew]
        obtain ⟨q3', o3, y, y1, y2, y3⟩ := (Recs.mono _ _ s15 hR2).at_ eElen (by decide) (j := k - 1) (by omega) (by omega)
        have hlt := w2.srt.get y2 x2 (by omega)
        exact ⟨q2', o2, x1, k0, t, _, x3 0 _ rfl, q3', o3, y1, by omega, by omega, _, y3 0 _ rfl, br_f (decide_eq_false (by omega)) ⟨q2', o2, x1, k0, t, _, x3 1 _ rfl, q3', o3, y1, by omega, by omega, _, y3 1 _ rfl, rfl, rfl, decide_eq_false (by omega)⟩⟩
      rintro bb H16 ⟨rfl, rfl⟩
      refine br_f rfl ⟨fun b H' => H' = H16 ∧ b = false, br_intro (fun g => pick_spec (by decide) ⟨_, rfl, HL.Sub.refl _, ?_⟩) (fun g => ⟨rfl, rfl, rfl⟩), ?_⟩
      · have g : c1 = 0 := by simpa using g
        refine br_intro (fun g2 => ?_) (fun g2 => pick_spec (by decide) ⟨_, rfl, HL.Sub.refl _, br_intro (fun g3 => ?_) (fun g3 => ⟨rfl, rfl, rfl⟩)⟩)
        · have g2 : pickI op.1 4 = 2 := by simpa using g2
          have := v1 g g2 x (List.mem_of_getElem? x2)
          refine ⟨q2', o2, x1, k0, t, _, x3 1 _ rfl, br_f (decide_eq_false (by omega)) (pick_spec (by decide) ⟨_, rfl, HL.Sub.refl _, br_f (by rw [g2]; rfl) ⟨rfl, rfl, rfl⟩⟩)⟩
        · have g3 : pickI op.1 4 = 3 := by simpa using g3
          have := v2 g g3 x (List.mem_of_getElem? x2)
          exact ⟨q2', o2, x1, k0, t, _, x3 1 _ rfl, rfl, rfl, decide_eq_false (by omega)⟩
      rintro bb H20 ⟨rfl, rfl⟩
      rw [wrap64_id (n := k + 1) (by omega) (by omega)]
      exact br_f rfl ⟨rfl, ⟨s15, by omega, by omega⟩, by dsimp only; omega⟩
  rintro H27 ⟨F, L, hS, hL, h27⟩
  have hlen := hL.len
  refine all_spec (i := 0) h27 rfl (by omega) fun l3 H28 s28 h28 => ⟨l3, rfl, end_spec (i := 1) (ep := epoch) (nxt := next) h28 rfl hL.srt (by omega) fun H29 s29 h29 => ⟨_, _, rfl, ?_⟩⟩
  have hR : Recs eE H29 l3 L := Own.recs eElen (by decide) (h29.own 0 rfl) (by omega)
  have hn := hR.len
  have hb := hR.big
  have EA := fun {i : Nat} {x : En} => end_at hL (ep := epoch) (nxt := next) (i := i) (x := x)
  have EN := end_none hL (ep := epoch) (nxt := next)
  generalize endR L epoch next = ab at *
  refine ⟨fun H' => H' = H29, ?_, ?_⟩
  · refine ⟨fun i H' => H' = H29 ∧ 0 ≤ i ∧ i ≤ l3.n, fun i _ => (l3.n - i).toNat, ⟨rfl, Int.le_refl _, by omega⟩, ?_⟩
    rintro i H30 ⟨rfl, i0, i1⟩
    refine br_intro (fun t => ?_) (fun t => ⟨rfl, rfl⟩)
    have t := of_decide_eq_true t
    obtain ⟨q1, o1, x, x1, x2, x3⟩ := hR.at_ eElen (by decide) i0 t
    rw [wrap64_id (n := i + 1) (by omega) (by omega)]
    have e1 : (i + 1).toNat = i.toNat + 1 := by omega
    have nx : ∀ h : i + 1 < l3.n, ∃ q o y, l3.p = some ⟨q, o, none⟩ ∧ L[i.toNat + 1]? = some y ∧ cellH H30 ⟨q, o + Int.toNat (i + 1) * 3, none⟩ = some (.int .i64 y.1) ∧ cellH H30 ⟨q, o + Int.toNat (i + 1) * 3 + 1, none⟩ = some (.int .i64 y.2.1) := fun h => by
      obtain ⟨q, o, y, y1, y2, y3⟩ := hR.at_ eElen (by decide) (j := i + 1) (by omega) h
      rw [e1] at y2
      exact ⟨q, o, y, y1, y2, y3 0 _ rfl, y3 1 _ rfl⟩
    refine ⟨fun e H' => H' = H30 ∧ (∀ y, L[i.toNat + 1]? = some y → e = y.2.1) ∧ (L[i.toNat + 1]? = none → e = next), br_intro (fun g => ?_) (fun g => ⟨rfl, rfl, fun y hy => ?_, fun _ => rfl⟩), ?_⟩
    · have g := of_decide_eq_true g
      obtain ⟨q, o, y, y1, y2, y3, y4⟩ := nx g
      exact ⟨q, o, y1, by omega, g, _, y4, rfl, rfl, fun z hz => by rw [y2] at hz; simp only [Option.some.injEq] at hz; rw [hz], fun hz => by rw [y2] at hz; cases hz⟩
    · have g := of_decide_eq_false g
      have := (List.getElem?_eq_some_iff.1 hy).1
      omega
    rintro en H31 ⟨rfl, en1, en2⟩
    refine ⟨fun b H' => H' = H31 ∧ b = false, ⟨q1, o1, x1, i0, t, _, x3 0 _ rfl, br_intro (fun g => ?_) (fun _ => ⟨rfl, rfl, rfl⟩)⟩, ?_⟩
    · have g : x.1 = ab.1 := by simpa using g
      obtain ⟨a1, a2, a3⟩ := EA x2 g
      refine br_f (decide_eq_false (by omega)) ?_
      cases hy : L[i.toNat + 1]? with
      | none =>
        have hno : ¬ i + 1 < l3.n := fun z => by
          have : i.toNat + 1 < L.length := by omega
          rw [List.getElem?_eq_getElem this] at hy; cases hy
        refine br_f ?_ (br_f (decide_eq_false hno) ⟨rfl, rfl, rfl⟩)
        rw [a3 hy, en2 hy]; simp
      | some y =>
        obtain ⟨b1, b2⟩ := a2 y hy
        have hyes : i + 1 < l3.n := by have := (List.getElem?_eq_some_iff.1 hy).1; omega
        obtain ⟨q, o, y', y1, y2, y3, y4⟩ := nx hyes
        have ey : y' = y := by rw [hy] at y2; exact (Option.some.inj y2).symm
        subst ey
        refine br_f ?_ (br_t (decide_eq_true hyes) ⟨q, o, y1, by omega, hyes, _, y3, rfl, rfl, decide_eq_false b2⟩)
        rw [b1, en1 y' hy]; simp
    rintro bb H32 ⟨rfl, rfl⟩
    exact br_f rfl ⟨rfl, ⟨rfl, by omega, by omega⟩, by dsimp only; omega⟩
  rintro H33 rfl
  refine ⟨fun b H' => H' = H33 ∧ b = false, br_intro (fun g => ?_) (fun _ => ⟨rfl, rfl, rfl⟩), ?_⟩
  · have g : ab.1 = -1 := by simpa using g
    obtain ⟨b1, b2⟩ := EN g
    refine br_f (by rw [b1]; rfl) (br_intro (fun t => ?_) (fun _ => ⟨rfl, rfl, rfl⟩))
    have t := of_decide_eq_true t
    obtain ⟨q1, o1, x, x1, x2, x3⟩ := hR.at_ eElen (by decide) (j := 0) (Int.le_refl 0) t
    exact ⟨q1, o1, x1, Int.le_refl _, t, _, x3 0 _ rfl, rfl, rfl, decide_eq_false (b2 x x2)⟩
  rintro bb H34 ⟨rfl, rfl⟩
  refine br_f rfl (h29.new fun q24 H35 h35 => ?_)
  have h36 : HL.Holds [dsk d 100000 F, blk q24 (.cells #[.int .i64 1, .int .i64 2, .int .i64 3] 3 (0, 0)), ownE l3 L, cch c d nmE L, ro H0] H35 := h35.pull 3 rfl
  refine crash_spec (keep := ⟨some ⟨q24, 0, none⟩, 3, 3⟩) (L := [1, 2, 3]) (i := 0) h36 (c0 := blk q24 (.cells #[.int .i64 1, .int .i64 2, .int .i64 3] 3 (0, 0))) ⟨blk_mono _ _, fun A hA => ⟨rfl, by show (3 : Nat) ≤ 9223372036854775807; decide, Nat.le_refl _, CellsAt.block hA fun i hi => by
    have hi : i < 3 := hi
    have : i = 0 ∨ i = 1 ∨ i = 2 := by omega
    rcases this with rfl | rfl | rfl <;> rfl⟩⟩ rfl (by simp) fun H37 h37 => ⟨rfl, ?_⟩
  rw [crash_st hS] at h37
  obtain ⟨ec, el⟩ := open_st hS hL
  refine open_spec (n := nmE) h37 (fun H38 hne _ => absurd ec hne) fun c2 H38 _ h38 => ⟨_, _, rfl, br_f rfl (br_f rfl ?_)⟩
  rw [el] at h38
  refine all_spec (i := 0) h38 rfl (by omega) fun l4 H39 s39 h39 => ⟨l4, rfl, ?_⟩
  have hR4 : Recs eE H39 l4 L := Own.recs eElen (by decide) (h39.own 0 rfl) (by omega)
  have hR3 : Recs eE H39 l3 L := Own.recs eElen (by decide) (h39.own 4 rfl) (by omega)
  exact same_spec hR4 hR3 ⟨_, rfl, by simp, h39.sub 6 rfl⟩
end Go.Proofs.YtdgmifbcbmndgaaDoor
