/- GroupOwners: whatever comes in, the call gives true and turns nothing that was there. -/
import Derived.Test.YtcbobncipnjbjaaDoorP1
import Derived.Test.YtcbobncipnjbjaaDoorV5
namespace Go.Proofs.YtcbobncipnjbjaaDoor
open Go.HL
set_option maxHeartbeats 800000
set_option maxRecDepth 10000

theorem own_gives {s : Sl} {L : List Int} (hb : L.length ≤ 1000000) : Gives (own 3 1 s (iv L)) (ints s L) := ⟨Own.mono, fun _ hA => own_ints hA hb⟩
theorem groupOwners_walk {H0 : Heap} {joins : Sl} {js : List Int} {parts : Int} (hj : Ints H0 joins js) (hjr : ∀ n ∈ js, i64B n) (hp : i64B parts) :
    FnH Tryd.prog 6 #[.slice joins.p joins.n joins.c, .int .i64 parts] H0 fun r H' => r = .bool true ∧ HL.Sub H0 H' := by
  apply logboomlaw15_GroupOwners_fn
  unfold logboomlaw15_GroupOwners_vc
  have hjl := hj.len
  have hjb := hj.big
  refine shown_spec (Holds.whole H0) fun H1 h1 => ⟨_, rfl, new_spec h1 fun g H2 h2 => ⟨_, rfl, br_f rfl (br_f rfl ?_)⟩⟩
  obtain ⟨c0, c1⟩ := pickI_in (c := parts) (n := 16) (by decide) hp.1 hp.2
  have h2 : Holds [own 3 1 ⟨none, 0, 0⟩ (iv (up 0)), grs g [] 0, ro H0] H2 := h2.own_nil 3 1
  refine ⟨fun l p H => 1 ≤ p ∧ p ≤ 17 ∧ Holds [own 3 1 l (iv (up (p - 1).toNat)), grs g [] 0, ro H0] H, fun _ p _ => (20 - p).toNat, ⟨Int.le_refl _, by omega, h2⟩, ?_⟩
  rintro l p H3 ⟨p0, p1, h3⟩
  refine pick_spec (by decide) ⟨_, rfl, ?_⟩
  generalize pickI parts 16 = P at *
  rw [wrap64_id (n := 1 + P) (by omega) (by omega)]
  have hln := (h3.own 0 rfl).1
  simp only [List.length_map, up_len, Nat.mul_one] at hln
  refine br_intro (fun q => ?_) (fun q => ?_)
  · have q := of_decide_eq_true q
    refine Holds.push ok22 h3 (xs := [.int .i64 p]) (m := 1) rfl rfl (by omega) fun l2 H6 h6 n6 => ⟨l2, rfl, rfl, ?_⟩
    rw [wrap64_id (n := p + 1) (by omega) (by omega)]
    refine ⟨⟨by omega, by omega, ?_⟩, by dsimp only; omega⟩
    have e : (p + 1 - 1).toNat = (p - 1).toNat + 1 := by omega
    have e2 : ((p - 1).toNat : Int) + 1 = p := by omega
    rw [e, up_succ, e2]
    have e3 : iv (up (p - 1).toNat ++ [p]) = iv (up (p - 1).toNat) ++ [.int .i64 p] := by simp [iv]
    rw [e3]; exact h6
  have hL1 := up_len (p - 1).toNat
  have hL2 := up_nodup (p - 1).toNat
  generalize up (p - 1).toNat = L at *
  have hL3 : L.length ≤ 16 := by omega
  clear q hL1 p0 p1
  refine ⟨fun i H => 0 ≤ i ∧ i ≤ 40 ∧ ∃ G ep, Holds [grs g G ep, own 3 1 l (iv L), ro H0] H ∧ Fine G (1000 + 1000 * i) ∧ Ok (theX G gN) L, fun i _ => (40 - i).toNat, ⟨Int.le_refl _, by omega, [], 0, h3.swap, Fine.nil _, Ok.new L⟩, ?_⟩
  rintro i H7 ⟨i0, i1, G, ep, h7, hF, hO⟩
  have S7 := h7.sub 2 rfl
  refine br_intro (fun q => br_intro (fun q2 => ?_) (fun _ => ⟨rfl, S7⟩)) (fun _ => ⟨rfl, S7⟩)
  have q := of_decide_eq_true q
  have q2 := of_decide_eq_true q2
  rw [wrap64_id (n := i + 1) (by omega) (by omega)]
  refine gMembers2_spec (n := gN) hF.small h7 fun r H8 h8 => ⟨r, rfl, ?_⟩
  have hm8 : Ints H8 r (theX G gN).mem := h8.read 0 rfl Ints.mono
  have hml := hm8.len
  have hfx := hF.look (by omega) gN
  obtain ⟨b, o, e1, e2, e3, e4⟩ := (hj.sub (h8.sub 3 rfl)).at_ i0 q
  have hji : i64B (js.getD i.toNat 0) := hjr _ (getD_mem i0 (by omega))
  generalize js.getD i.toNat 0 = n at *
  refine ⟨fun H => ∃ G' ep', Holds [grs g G' ep', own 3 1 l (iv L), ro H0] H ∧ Fine G' (1001 + 1000 * i) ∧ Ok (theX G' gN) L, ?_, ?_⟩
  · refine ⟨fun bb H => H = H8 ∧ (bb = true → 0 < r.n), br_intro (fun w => ⟨b, o, e1, e2, e3, n, e4, by decide, rfl, rfl, fun _ => ?_⟩) (fun _ => ⟨rfl, rfl, fun w => (by cases w)⟩), ?_⟩
    · have w := of_decide_eq_true w; omega
    rintro bb H9 ⟨rfl, hbb⟩
    refine br_intro (fun w => ?_) (fun w => ?_)
    · have w := hbb w
      obtain ⟨d0, d1⟩ := pickI_in (c := n) (n := (r.n : Int)) (by omega) hji.1 hji.2
      obtain ⟨b', o', f1, f2, f3, f4⟩ := hm8.at_ d0 d1
      refine ⟨b, o, e1, e2, e3, n, e4, pick_spec (by omega) ⟨_, rfl, b', o', f1, f2, f3, _, f4, ?_⟩⟩
      refine apply0 (mL0 ((theX G gN).mem.getD (pickI n r.n).toNat 0)) (hF.mono (by omega)) h8.tail (by show gN.size ≤ _; decide) fun s H11 h11 => ⟨_, _, _, _, s, rfl, rfl, _, _, h11.tail, (hF.apply (by omega) _ _).mono (by omega), hO.leave _⟩
    · refine apply_spec (m := mA0) (hF.mono (by omega)) h8.tail (own_gives (by omega)) (i0 := 0) rfl (by show gN.size ≤ _; decide) fun s H11 h11 => ⟨_, _, _, _, s, rfl, rfl, _, _, h11.tail, (hF.apply (by omega) _ _).mono (by omega), hO.join⟩
  clear hm8 hml hfx e1 e2 e3 e4 hji h8 r S7 h7 hF hO H8 n G ep b o
  rintro H13 ⟨G, ep, h13, hF, hO⟩
  refine gMembers2_spec (n := gN) hF.small h13 fun r H14 h14 => ⟨r, rfl, ?_⟩
  have hfx := hF.look (by omega) gN
  have hm14 : Ints H14 r (theX G gN).mem := h14.read 0 rfl Ints.mono
  have hml := hm14.len
  refine ⟨fun sum k H => 0 ≤ k ∧ k ≤ (theX G gN).mem.length ∧ sum = ((((assignM (theX G gN).mem.length L).take k.toNat).flatten.length : Nat) : Int) ∧ Holds [ints r (theX G gN).mem, grs g G ep, own 3 1 l (iv L), ro H0] H, fun _ k _ => ((theX G gN).mem.length - k).toNat, ⟨Int.le_refl _, by omega, rfl, h14⟩, ?_⟩
  rintro sum k H15 ⟨k0, k1, hsum, h15⟩
  have hm15 : Ints H15 r (theX G gN).mem := h15.read 0 rfl Ints.mono
  have g15 := h15.read 1 rfl grs_mono
  have hlu : (own 3 1 l (iv L)) H15 → l.n = L.length := fun hA => by have := hA.1; simp at this; omega
  have hlu := hlu (h15.own 2 rfl)
  refine br_intro (fun v => ?_) (fun v => ?_)
  · have v := of_decide_eq_true v
    have hk : k.toNat < (theX G gN).mem.length := by omega
    have hne : (theX G gN).mem ≠ [] := fun e => by rw [e] at hk; simp at hk
    have hprt := hO.prt hne
    obtain ⟨b, o, e1, e2, e3, e4⟩ := hm15.at_ k0 v
    have hmem : (theX G gN).mem.getD k.toNat 0 ∈ (theX G gN).mem := getD_mem k0 (by omega)
    obtain ⟨t1, t2, t3⟩ := sync_same (ep := ep) hmem
    have hof := of_at hO.nod hk
    rw [hprt] at hof
    have hsn : (ofM (theX G gN) ((theX G gN).mem.getD k.toNat 0)) = (assignM (theX G gN).mem.length L).getD k.toNat [] := hof
    have hal := assignM_len (theX G gN).mem.length L
    have hka : k.toNat < (assignM (theX G gN).mem.length L).length := by omega
    have hflat : (assignM (theX G gN).mem.length L).flatten.length = L.length := by rw [assignM_flat _ _ (by omega)]
    have htake : (((assignM (theX G gN).mem.length L).take (k + 1).toNat).flatten.length : Int) = sum + ((assignM (theX G gN).mem.length L).getD k.toNat []).length := by
      rw [take_next (d := []) k0 (by omega), List.flatten_append, List.length_append, hsum]
      simp
    have hsub : (((assignM (theX G gN).mem.length L).take (k + 1).toNat).flatten.length) ≤ L.length := by
      rw [← hflat]
      conv => rhs; rw [← List.take_append_drop (k + 1).toNat (assignM (theX G gN).mem.length L)]
      rw [List.flatten_append, List.length_append]; omega
    have howner : ∀ p ∈ (assignM (theX G gN).mem.length L).getD k.toNat [], ownerM (theX G gN) p = (theX G gN).mem.getD k.toNat 0 := fun p hp => owner_at (by rw [hprt]; exact hL2) hk (by rw [hprt]; exact hp)
    refine ⟨b, o, e1, e2, e3, _, e4, gGen_spec (n := gN) hF.small g15 ⟨_, rfl, HL.Sub.refl _, ?_, HL.Sub.refl _, ?_⟩, HL.Sub.refl _, gGen_spec (n := gN) hF.small g15 ⟨_, rfl, HL.Sub.refl _, ?_⟩⟩
    all_goals
      rw [look_gen]
      refine apply0 (mS0 ((theX G gN).mem.getD k.toNat 0) (theX G gN).gen) (hF.mono (by omega)) h15.swap (by show gN.size ≤ _; decide) fun s H17 h17 => ⟨_, _, _, _, s, rfl, ?_⟩
      rw [t1, t2, t3, hsn] at h17
      rw [t2]
      refine br_f rfl ?_
      have h17 : Holds [ints s ((assignM (theX G gN).mem.length L).getD k.toNat []), grs g G ep, ints r (theX G gN).mem, own 3 1 l (iv L), ro H0] H17 := h17
      have hsl : s.n = ((assignM (theX G gN).mem.length L).getD k.toNat []).length := (show Ints H17 s _ from h17.read 0 rfl Ints.mono).len
      refine ⟨fun j H => 0 ≤ j ∧ j ≤ s.n ∧ Holds [ints s ((assignM (theX G gN).mem.length L).getD k.toNat []), grs g G ep, ints r (theX G gN).mem, own 3 1 l (iv L), ro H0] H, fun j _ => (s.n - j).toNat, ⟨Int.le_refl _, by omega, h17⟩, ?_⟩
      rintro j H18 ⟨j0, j1, h18⟩
      refine br_intro (fun y => ?_) (fun y => ?_)
      · have y := of_decide_eq_true y
        rw [wrap64_id (n := j + 1) (by omega) (by omega)]
        obtain ⟨b1, o1, f1, f2, f3, f4⟩ := (show Ints H18 s _ from h18.read 0 rfl Ints.mono).at_ j0 y
        obtain ⟨b2, o2, d1, d2, d3, d4⟩ := (show Ints H18 r _ from h18.read 2 rfl Ints.mono).at_ k0 v
        refine ⟨b1, o1, f1, f2, f3, _, f4, b2, o2, d1, d2, d3, _, d4, gOwner_spec (n := gN) hF.small (h18.read 1 rfl grs_mono) fun H19 s19 => ⟨_, rfl, s19, br_f ?_ ⟨rfl, ⟨by omega, by omega, h18.up s19⟩, by dsimp only; omega⟩⟩⟩
        rw [look_own, howner _ (getD_mem j0 (by omega))]; simp
      · have hL4 := hfx.1
        rw [wrap64_id (n := k + 1) (by omega) (by omega), wrap64_id (n := sum + s.n) (by omega) (by omega)]
        refine ⟨rfl, ⟨by omega, by omega, by rw [htake, hsl], ?_⟩, by dsimp only; omega⟩
        exact h18.tail.swap
  · have v := of_decide_eq_false v
    have hk : k = (theX G gN).mem.length := by omega
    have h15' : Holds [grs g G ep, own 3 1 l (iv L), ro H0] H15 := h15.tail
    refine br_intro (fun w => ?_) (fun w => ?_)
    · have w := of_decide_eq_true w
      have hs2 : sum = l.n := by
        rw [hsum, hk, hlu]
        have : (assignM (theX G gN).mem.length L).take ((theX G gN).mem.length : Int).toNat = assignM (theX G gN).mem.length L := List.take_of_length_le (by rw [assignM_len]; omega)
        rw [this, assignM_flat _ _ (by omega)]
      refine br_f (by rw [hs2]; simp) (br_f ?_ ⟨rfl, ⟨by omega, by omega, G, ep, h15', hF.mono (by omega), hO⟩, by dsimp only; omega⟩)
      have : ¬ ((r.n : Int) = 0) := by omega
      simpa using this
    · have w := of_decide_eq_false w
      have he : (theX G gN).mem = [] := List.eq_nil_of_length_eq_zero (by omega)
      refine br_t ?_ (gOwner_spec (n := gN) (part := 1) hF.small (h15'.read 0 rfl grs_mono) fun H28 s28 => ⟨_, rfl, br_f ?_ ⟨rfl, ⟨by omega, by omega, G, ep, h15'.up s28, hF.mono (by omega), hO⟩, by dsimp only; omega⟩⟩)
      · have : ((r.n : Int) = 0) := by omega
        simpa using this
      · rw [look_own]
        unfold ownerM
        rw [he]; rfl
end Go.Proofs.YtcbobncipnjbjaaDoor
