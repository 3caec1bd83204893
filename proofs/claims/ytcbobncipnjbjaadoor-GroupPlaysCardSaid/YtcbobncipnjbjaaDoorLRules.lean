/- GroupRules: whatever comes in, the call gives true and turns nothing that was there. -/
import Derived.Test.YtcbobncipnjbjaaDoorLApart
import Derived.Test.YtcbobncipnjbjaaDoorV4
namespace Go.Proofs.YtcbobncipnjbjaaDoor
open Go.HL
set_option maxHeartbeats 800000
set_option maxRecDepth 10000

theorem look_the {α : Type} {G : List (ByteArray × Grp)} {n : ByteArray} (f : Grp → α) {d : α} (h : f newGrp = d) : ((lookL G n).map f).getD d = f (theX G n) := by
  unfold theX
  cases lookL G n with
  | none => exact h.symm
  | some x => rfl
theorem look_gen {G : List (ByteArray × Grp)} {n : ByteArray} : ((lookL G n).map Grp.gen).getD 0 = (theX G n).gen := look_the _ rfl
theorem look_mem {G : List (ByteArray × Grp)} {n : ByteArray} : ((lookL G n).map Grp.mem).getD [] = (theX G n).mem := look_the _ rfl
theorem look_own {G : List (ByteArray × Grp)} {n : ByteArray} {p : Int} : ((lookL G n).map fun x => ownerM x p).getD 0 = ownerM (theX G n) p := look_the (fun x => ownerM x p) rfl
theorem look_off {G : List (ByteArray × Grp)} {n : ByteArray} {p : Int} : ((lookL G n).map fun x => offM x p).getD (-1) = offM (theX G n) p := look_the (fun x => offM x p) rfl
theorem the_put {G : List (ByteArray × Grp)} {n : ByteArray} {x : Grp} : theX (putL G n x) n = x := by
  unfold theX
  rw [lookL_put, if_pos rfl]
  rfl
theorem ownerIn_or : ∀ (ms : List Int) (ls : List (List Int)) (p : Int), ownerIn ms ls p = 0 ∨ ownerIn ms ls p ∈ ms := by
  intro ms
  induction ms with
  | nil => intro ls p; left; rfl
  | cons m ms ih =>
    intro ls p
    cases ls with
    | nil => left; rfl
    | cons l ls =>
      simp only [ownerIn]
      split
      · right; simp
      · rcases ih ls p with e | e
        · left; exact e
        · right; simp [e]
/-- What one record does to the group that it names. -/
structure Step (x x' : Grp) (m : Rec) (t : Told) : Prop where
  gen : (x'.gen = x.gen) ∨ (x'.gen = x.gen + 1 ∧ t.err = 0)
  ever : x.ever ≤ x'.ever
  id : m.kind = 1 → m.a = 0 → t.err = 0 → x.ever < t.member ∧ t.member ≤ x'.ever
  off : ¬ (m.kind = 3 ∧ m.c = 2 ∧ t.err = 0) → offM x' 2 = offM x 2
  com : m.kind = 3 → m.c = 2 → t.err = 0 → offM x' 2 = m.d ∧ ownerM x' 2 = m.a ∧ m.b = x'.gen
theorem Step.same {x : Grp} {m : Rec} {t : Told} (h : t.err ≠ 0 ∨ (m.kind ≠ 1 ∧ m.kind ≠ 3)) : Step x x m t where
  gen := .inl rfl
  ever := Int.le_refl _
  id := fun h1 _ h3 => by rcases h with h | h <;> omega
  off := fun _ => rfl
  com := fun h1 _ h3 => by rcases h with h | h <;> omega
theorem step_of (G : List (ByteArray × Grp)) (ep : Int) (m : Rec) (L : List Int) : Step (theX G m.name) (theX (applyG G m L) m.name) m (applyT G ep m L) := by
  unfold applyG applyT
  by_cases k1 : m.kind = 1
  · rw [if_pos k1, if_pos k1]
    unfold joinG joinT
    by_cases c : joinC G m L = 0
    · rw [if_pos c, if_pos c, the_put]
      refine ⟨.inr ⟨?_, rfl⟩, ?_, fun _ ha _ => ?_, fun _ => ?_, fun h3 => by omega⟩
      · unfold joinX addX; split <;> rfl
      · unfold joinX addX; split <;> dsimp only <;> omega
      · unfold joinX addX joinA
        rw [if_pos ha, if_pos ha]
        dsimp only; omega
      · unfold joinX addX; split <;> rfl
    · rw [if_neg c, if_neg c]
      exact Step.same (.inl c)
  · rw [if_neg k1, if_neg k1]
    by_cases k5 : m.kind = 5
    · rw [if_pos k5, if_neg (by omega)]
      exact Step.same (.inr ⟨k1, by omega⟩)
    · rw [if_neg k5]
      by_cases kk : m.kind = 2 ∨ m.kind = 3 ∨ m.kind = 4 ∨ m.kind = 6
      · rw [if_pos kk, if_pos kk]
        by_cases c : doesC G m = 0
        · rw [if_pos c, if_pos c, the_put]
          unfold doesX doesT
          by_cases k2 : m.kind = 2
          · rw [if_pos k2, if_pos k2]
            exact ⟨.inr ⟨rfl, rfl⟩, Int.le_refl _, fun h => absurd h k1, fun _ => rfl, fun h => by omega⟩
          · rw [if_neg k2, if_neg k2]
            by_cases k3 : m.kind = 3
            · rw [if_pos k3, if_pos k3]
              unfold commitG commitT
              by_cases cc : commitC (theX G m.name) m L = 0
              · rw [if_pos cc, if_pos cc]
                refine ⟨.inl rfl, Int.le_refl _, fun h => absurd h k1, fun h => ?_, fun _ h2 _ => ?_⟩
                · unfold offM
                  dsimp only
                  rw [lookL_put, if_neg (fun e => h ⟨k3, e.symm, rfl⟩)]
                · have own : ownerM (theX G m.name) m.c = m.a := by
                    refine Classical.byContradiction fun own => ?_
                    unfold commitC at cc
                    rw [if_pos own] at cc
                    repeat' split at cc
                    all_goals omega
                  have hb : m.b = (theX G m.name).gen := by
                    unfold doesC at c
                    unfold theX
                    cases e : lookL G m.name with
                    | none => rw [e] at c; cases c
                    | some x =>
                      rw [e] at c
                      have c : (if m.kind ≠ 4 ∧ m.a ∉ x.mem then (17 : Int) else if (m.kind = 3 ∨ m.kind = 6) ∧ m.b ≠ x.gen then 18 else 0) = 0 := c
                      split at c
                      · cases c
                      · split at c
                        · cases c
                        · rename_i q
                          show m.b = x.gen
                          exact Classical.byContradiction fun y => q ⟨.inl k3, y⟩
                  refine ⟨?_, ?_, hb⟩
                  · unfold offM
                    dsimp only
                    rw [lookL_put, if_pos h2.symm]; rfl
                  · rw [← h2]; exact own
              · rw [if_neg cc, if_neg cc]
                exact Step.same (.inl cc)
            · rw [if_neg k3, if_neg k3]
              exact Step.same (.inr ⟨k1, k3⟩)
        · rw [if_neg c, if_neg c]
          exact Step.same (.inl c)
      · rw [if_neg kk, if_neg kk]
        exact Step.same (.inr ⟨k1, by omega⟩)
theorem applyE_le (ep : Int) (m : Rec) : ep ≤ applyE ep m := by
  unfold applyE
  split
  · split <;> omega
  · omega
theorem groupRules_walk {H0 : Heap} {script : Sl} {ops : List Op} (hs : Recs e8 H0 script ops) (hr : ∀ o ∈ ops, OpOk H0 o) :
    FnH Tryd.prog 7 #[.slice script.p script.n script.c] H0 fun r H' => r = .bool true ∧ HL.Sub H0 H' := by
  apply logboomlaw15_GroupRules_fn
  unfold logboomlaw15_GroupRules_vc
  have hsl := hs.len
  have hsb := hs.big
  refine shown_spec (Holds.whole H0) fun H1 h1 => ⟨_, rfl, new_spec h1 fun g H2 h2 => ⟨_, rfl, br_f rfl (br_f rfl ?_)⟩⟩
  have h2 : Holds [own 3 1 ⟨none, 0, 0⟩ (iv []), grs g [] 0, ro H0] H2 := h2.own_nil 3 1
  refine ⟨fun ids last i H => 0 ≤ i ∧ i ≤ 200 ∧ ∃ idl G ep, Holds [own 3 1 ids (iv idl), grs g G ep, ro H0] H ∧ Fine G (1000 + i) ∧ (∀ d ∈ idl, d ≤ (theX G gN).ever) ∧ (idl.length : Int) ≤ i ∧ last = offM (theX G gN) 2, fun _ _ i _ => (200 - i).toNat,
    ⟨Int.le_refl _, by omega, [], [], 0, h2, Fine.nil _, by simp, by simp, rfl⟩, ?_⟩
  rintro ids last i H3 ⟨i0, i1, idl, G, ep, h3, hF, hids, hlen, rfl⟩
  have S3 := h3.sub 2 rfl
  refine br_intro (fun q => br_intro (fun q2 => ?_) (fun _ => ⟨rfl, S3⟩)) (fun _ => ⟨rfl, S3⟩)
  have q := of_decide_eq_true q
  have q2 := of_decide_eq_true q2
  obtain ⟨b, o, op, p1, p2, p3⟩ := (Recs.mono _ _ S3 hs).at_ e8len (by decide) i0 q
  obtain ⟨r1, r2⟩ := hr op (List.mem_of_getElem? p2)
  rw [wrap64_id (n := i + 1) (by omega) (by omega)]
  refine ⟨b, o, p1, i0, q, op.1.kind, p3 0 _ rfl, op.1.a, p3 1 _ rfl, op.1.b, p3 2 _ rfl, op.1.c, p3 3 _ rfl, op.1.d, p3 4 _ rfl, op.1.name, p3 5 _ rfl, op.1.text, p3 6 _ rfl, op.2.1, p3 7 _ rfl, ?_⟩
  have g3 := h3.read 1 rfl grs_mono
  refine gGen_spec (n := gN) hF.small g3 ⟨_, rfl, gEpoch_spec g3 ⟨_, rfl, ?_⟩⟩
  rw [look_gen]
  obtain ⟨m, em⟩ : ∃ m : Rec, m = { op.1 with name := gN } := ⟨_, rfl⟩
  have hv : (Value.agg #[.int .i64 op.1.kind, .int .i64 op.1.a, .int .i64 op.1.b, .int .i64 op.1.c, .int .i64 op.1.d, .string gN, .string op.1.text, .slice op.2.1.p op.2.1.n op.2.1.c]) = recV m op.2.1 := by rw [em]
  have mn : m.name = gN := by rw [em]
  have e1 : op.1.kind = m.kind := by rw [em]
  have e2 : op.1.a = m.a := by rw [em]
  have e3 : op.1.b = m.b := by rw [em]
  have e4 : op.1.c = m.c := by rw [em]
  have e5 : op.1.d = m.d := by rw [em]
  have hst := step_of G ep m op.2.2
  rw [mn] at hst
  have hfx := hF.look (by omega) gN
  have hE := applyE_le ep m
  have hF2 := hF.apply (by omega) m op.2.2
  show FnH Tryd.prog 14 #[ptrV g, (Value.agg #[.int .i64 op.1.kind, .int .i64 op.1.a, .int .i64 op.1.b, .int .i64 op.1.c, .int .i64 op.1.d, .string gN, .string op.1.text, .slice op.2.1.p op.2.1.n op.2.1.c])] H3 _
  rw [hv, e1, e2, e3, e4, e5]
  clear e1 e2 e3 e4 e5 hv em
  refine apply_spec (m := m) (hF.mono (by omega)) h3.swap ⟨ro_mono H0, fun A hA => r1.sub hA⟩ (i0 := 1) rfl (by rw [mn]; decide) fun s3 H6 h6 => ⟨_, _, _, _, s3, rfl, ?_⟩
  replace h6 := h6.tail
  generalize applyG G m op.2.2 = G' at *
  generalize applyE ep m = ep' at *
  generalize applyT G ep m op.2.2 = t at *
  generalize theX G gN = x at *
  have h6 : Holds [grs g G' ep', own 3 1 ids (iv idl), ro H0] H6 := h6
  have g6 := h6.read 0 rfl grs_mono
  refine gGen_spec (n := gN) hF2.small g6 ⟨_, rfl, ?_⟩
  rw [look_gen]
  obtain ⟨s1, s2, s3, s4, s5⟩ := hst
  rw [wrap64_id (n := x.gen + 1) (by omega) (by omega)]
  refine ⟨fun H => Holds [grs g G' ep', own 3 1 ids (iv idl), ro H0] H, ?_, fun H9 h9 => ?_⟩
  · refine br_f (decide_eq_false (by omega)) (br_f (decide_eq_false (by omega)) (gEpoch_spec g6 ⟨_, rfl, br_f (decide_eq_false (by omega)) (br_intro (fun w => br_f ?_ ⟨rfl, h6⟩) (fun _ => ⟨rfl, h6⟩))⟩))
    have w : ¬ t.err = 0 := by simpa using w
    rcases s1 with y | y
    · rw [y]; simp
    · exact absurd y.2 w
  refine ⟨fun ids2 H => ∃ idl2, Holds [grs g G' ep', own 3 1 ids2 (iv idl2), ro H0] H ∧ (∀ d ∈ idl2, d ≤ (theX G' gN).ever) ∧ (idl2.length : Int) ≤ i + 1, ?_, ?_⟩
  · refine ⟨fun bb H => (bb = true → m.kind = 1 ∧ m.a = 0 ∧ t.err = 0) ∧ Holds [grs g G' ep', own 3 1 ids (iv idl), ro H0] H, ?_, ?_⟩
    · exact br_intro (fun w1 => br_intro (fun w2 => ⟨rfl, fun w3 => ⟨by simpa using w1, by simpa using w2, by simpa using w3⟩, h9⟩) (fun _ => ⟨rfl, fun w => (by cases w), h9⟩)) (fun _ => ⟨rfl, fun w => (by cases w), h9⟩)
    · rintro bb H10 ⟨hbb, h10⟩
      have hI : Ints H10 ids idl := own_ints (h10.own 1 rfl) (by omega)
      refine br_intro (fun w => ?_) (fun _ => ⟨rfl, idl, h10, fun d hd => Int.le_trans (hids d hd) s2, by omega⟩)
      obtain ⟨w1, w2, w3⟩ := hbb w
      obtain ⟨y1, y2⟩ := s3 w1 w2 w3
      have hl := hI.len
      refine ⟨fun k H => 0 ≤ k ∧ k ≤ idl.length ∧ H = H10, fun k _ => (idl.length - k).toNat, ⟨Int.le_refl _, by omega, rfl⟩, ?_⟩
      rintro k H11 ⟨k0, k1, rfl⟩
      refine br_intro (fun v => ?_) (fun _ => ?_)
      · have v := of_decide_eq_true v
        obtain ⟨b', o', f1, f2, f3, f4⟩ := hI.at_ k0 v
        have hd := hids _ (getD_mem k0 (by omega))
        rw [wrap64_id (n := k + 1) (by omega) (by omega)]
        refine ⟨b', o', f1, f2, f3, _, f4, br_f ?_ ⟨rfl, ⟨by omega, by omega, rfl⟩, by dsimp only; omega⟩⟩
        have : idl.getD k.toNat 0 ≠ t.member := by omega
        simpa using this
      · refine Holds.push ok22 h10.swap (xs := [.int .i64 t.member]) (m := 1) rfl rfl (by omega) fun l2 H13 h13 n13 => ⟨l2, rfl, rfl, idl ++ [t.member], ?_, fun d hd => ?_, ?_⟩
        · have h13 : Holds (own 3 1 l2 (iv idl ++ [.int .i64 t.member]) :: grs g G' ep' :: ro H0 :: []) H13 := h13
          have e : iv (idl ++ [t.member]) = iv idl ++ [.int .i64 t.member] := by simp [iv]
          rw [e]
          exact h13.swap
        · rcases List.mem_append.1 hd with z | z
          · exact Int.le_trans (hids d z) s2
          · simp only [List.mem_singleton] at z; rw [z]; exact y2
        · simp; omega
  rintro ids2 H14 ⟨idl2, h14, hids2, hlen2⟩
  refine ⟨fun last2 H => last2 = offM (theX G' gN) 2 ∧ Holds [grs g G' ep', own 3 1 ids2 (iv idl2), ro H0] H, ?_, ?_⟩
  · refine ⟨fun bb H => (bb = true ↔ m.kind = 3 ∧ m.c = 2 ∧ t.err = 0) ∧ Holds [grs g G' ep', own 3 1 ids2 (iv idl2), ro H0] H, ?_, ?_⟩
    · exact br_intro (fun w1 => br_intro (fun w2 => ⟨rfl, ⟨fun w3 => ⟨by simpa using w1, by simpa using w2, by simpa using w3⟩, fun w3 => by simpa using w3.2.2⟩, h14⟩)
        (fun w2 => ⟨rfl, ⟨fun w => (by cases w), fun w => absurd w.2.1 (by simpa using w2)⟩, h14⟩)) (fun w1 => ⟨rfl, ⟨fun w => (by cases w), fun w => absurd w.1 (by simpa using w1)⟩, h14⟩)
    · rintro bb H15 ⟨hbb, h15⟩
      refine br_intro (fun w => ?_) (fun w => ⟨rfl, (s4 fun z => by rw [hbb.2 z] at w; cases w).symm, h15⟩)
      obtain ⟨w1, w2, w3⟩ := hbb.1 w
      obtain ⟨y1, y2, y3⟩ := s5 w1 w2 w3
      refine gOwner_spec (n := gN) (part := 2) hF2.small (h15.read 0 rfl grs_mono) fun H16 s16 => ⟨_, rfl, s16, ?_⟩
      rw [look_own]
      exact br_f (by rw [y2]; simp) (br_f (by rw [y3]; simp) ⟨rfl, y1.symm, h15.up s16⟩)
  rintro last2 H17 ⟨rfl, h17⟩
  have g17 := h17.read 0 rfl grs_mono
  refine gOffset_spec (n := gN) (part := 2) hF2.small g17 ⟨_, rfl, br_f (by rw [look_off]; simp) (gOwner_spec (n := gN) (part := 2) hF2.small g17 fun H19 s19 => ⟨_, rfl, gMembers_spec (n := gN) hF2.small (grs_mono _ _ s19 g17) fun r H20 s20 hm => ⟨r, rfl, ?_⟩⟩)⟩
  rw [look_own]
  rw [look_mem] at hm
  have h20 := h17.up (s19.trans s20)
  have hown := ownerIn_or (theX G' gN).mem (assignM (theX G' gN).mem.length (theX G' gN).prt) 2
  have hown : ownerM (theX G' gN) 2 = 0 ∨ ownerM (theX G' gN) 2 ∈ (theX G' gN).mem := hown
  have hml := (hF2.look (by omega) gN).1
  generalize ownerM (theX G' gN) 2 = ow at *
  generalize hMM : (theX G' gN).mem = mm at *
  have hl := hm.len
  refine ⟨fun is k H => H = H20 ∧ 0 ≤ k ∧ k ≤ mm.length ∧ (is = true ∨ ow ∈ mm.drop k.toNat), fun _ k _ => (mm.length - k).toNat, ⟨rfl, Int.le_refl _, by omega, ?_⟩, ?_⟩
  · rcases hown with z | z
    · left; simp [z]
    · right; simpa using z
  rintro is k H21 ⟨rfl, k0, k1, hk⟩
  refine br_intro (fun v => ?_) (fun v => ?_)
  · have v := of_decide_eq_true v
    rw [wrap64_id (n := k + 1) (by omega) (by omega)]
    refine br_intro (fun w => ⟨rfl, ⟨rfl, by omega, by omega, .inl rfl⟩, by dsimp only; omega⟩) (fun w => ?_)
    obtain ⟨b', o', f1, f2, f3, f4⟩ := hm.at_ k0 v
    refine ⟨b', o', f1, f2, f3, _, f4, rfl, ⟨rfl, by omega, by omega, ?_⟩, by dsimp only; omega⟩
    rcases hk with z | z
    · rw [z] at w; cases w
    · have hk2 : k.toNat < mm.length := by omega
      rw [List.drop_eq_getElem_cons hk2] at z
      have e : (k + 1).toNat = k.toNat + 1 := by omega
      rw [e]
      rcases List.mem_cons.1 z with y | y
      · left
        rw [List.getD, List.getElem?_eq_getElem hk2, ← y]; simp
      · exact .inr y
  · have v := of_decide_eq_false v
    have : is = true := by
      rcases hk with z | z
      · exact z
      · rw [List.drop_eq_nil_of_le (by omega)] at z; cases z
    refine br_f (by rw [this]; rfl) ⟨rfl, ⟨by omega, by omega, idl2, G', ep', h20.swap, hF2.mono (by omega), hids2, hlen2, rfl⟩, by dsimp only; omega⟩
end Go.Proofs.YtcbobncipnjbjaaDoor
