/- TimerOrder: whatever comes in, the call gives true and turns nothing that was there. -/
import Derived.Test.YtcipmipadjenaaaLMany
import Derived.Test.YtcipmipadjenaaaV4
namespace Go.Proofs.Ytcipmipadjenaaa
open Go.HL
set_option maxHeartbeats 800000

abbrev keysO (ops : List (Int × Int × Int)) : List Int := ops.map fun o => o.2.1
/-- The timers that a script has set. -/
structure Fed (ops : List (Int × Int × Int)) (A : List (Int × Int)) : Prop where
  all : ∀ a ∈ A, 0 ≤ a.2 ∧ a.2 < 1000 ∧ a.1 ∈ keysO ops
  has : ∀ x ∈ keysO ops, x ∈ A.map Prod.fst
theorem Fed.step {ops : List (Int × Int × Int)} {A : List (Int × Int)} (h : Fed ops A) {o : Int × Int × Int} {d : Int} (h0 : 0 ≤ d) (h1 : d < 1000) : Fed (ops ++ [o]) (insL (o.2.1, d) (butL A o.2.1)) := by
  refine ⟨fun a ha => ?_, fun x hx => ?_⟩
  · rcases (insL_mem a).1 ha with e | e
    · rw [e]; exact ⟨h0, h1, by simp⟩
    · have := h.all a (List.mem_filter.1 e).1
      exact ⟨this.1, this.2.1, by rw [keysO, List.map_append]; exact List.mem_append_left _ this.2.2⟩
  · by_cases e : x = o.2.1
    · exact List.mem_map.2 ⟨_, (insL_mem _).2 (.inl rfl), e.symm⟩
    · rw [keysO, List.map_append] at hx
      rcases List.mem_append.1 hx with y | y
      · obtain ⟨a, ha, rfl⟩ := List.mem_map.1 (h.has x y)
        exact List.mem_map.2 ⟨a, (insL_mem _).2 (.inr (List.mem_filter.2 ⟨ha, by simpa using e⟩)), rfl⟩
      · simp at y; exact absurd y e
theorem mem_while {α : Type} {p : α → Bool} : ∀ {l : List α} {a : α}, a ∈ l.takeWhile p → p a = true := by
  intro l
  induction l with
  | nil => intro a h; simp at h
  | cons b l ih =>
    intro a h
    rw [List.takeWhile_cons] at h
    split at h
    · rename_i q
      rcases List.mem_cons.1 h with e | e
      · rw [e]; exact q
      · exact ih e
    · simp at h
theorem atA_neg {A : List (Int × Int)} {key : Int} (hA : ∀ a ∈ A, 0 ≤ a.2) : atA A key < 0 ↔ key ∉ A.map Prod.fst := by
  constructor
  · intro h hk
    obtain ⟨a, ha, rfl⟩ := List.mem_map.1 hk
    unfold atA at h
    cases e : A.find? (fun b => decide (b.1 = a.1)) with
    | none => have := List.find?_eq_none.1 e a ha; simp at this
    | some b =>
      rw [e] at h
      have := hA b (List.mem_of_find?_eq_some e)
      simp at h; omega
  · intro h
    rw [atA_none (fun a ha e => h (List.mem_map.2 ⟨a, ha, e⟩))]; decide
theorem timerOrder_walk {H0 : Heap} {script steps : Sl} {ops : List (Int × Int × Int)} {ss : List Int} (hs : Recs e3 H0 script ops) (hr : ∀ o ∈ ops, i64B o.2.2) (ht : Ints H0 steps ss) (hq : ∀ n ∈ ss, i64B n) :
    FnH Try.prog 5 #[.slice script.p script.n script.c, .slice steps.p steps.n steps.c] H0 fun r H' => r = .bool true ∧ HL.Sub H0 H' := by
  apply logboomlaw2_TimerOrder_fn
  unfold logboomlaw2_TimerOrder_vc
  have hsl := hs.len
  have hsb := hs.big
  have htl := ht.len
  have htb := ht.big
  refine shown_spec (Holds.whole H0) fun H1 h1 => ⟨_, rfl, new_spec h1 fun t H2 h2 => ⟨_, rfl, br_f rfl (br_f rfl ?_)⟩⟩
  obtain ⟨N, hN⟩ : ∃ N : Int, N = min (script.n : Int) 300 := ⟨_, rfl⟩
  let I : Int → Int → Heap → Prop := fun set i H => 0 ≤ i ∧ i ≤ N ∧ ∃ A, Holds [tim t A, ro H0] H ∧ set = (A.length : Int) ∧ (A.length : Int) ≤ i ∧ Fed (ops.take i.toNat) A
  refine ⟨fun set H => I set N H, ⟨I, fun _ i _ => (N - i).toNat, ⟨Int.le_refl _, by omega, [], h2, rfl, by simp, ⟨by simp, by simp⟩⟩, ?_⟩, ?_⟩
  · rintro set i H3 ⟨i0, i1, A, h3, e1, e2, fed⟩
    refine br_intro (fun q => br_intro (fun q2 => ?_) (fun q2 => ?_)) (fun q => ?_)
    case refine_2 =>
      have q2 := of_decide_eq_false q2
      have : i = N := by omega
      subst this; exact ⟨rfl, i0, i1, A, h3, e1, e2, fed⟩
    case refine_3 =>
      have q := of_decide_eq_false q
      have : i = N := by omega
      subst this; exact ⟨rfl, i0, i1, A, h3, e1, e2, fed⟩
    have q := of_decide_eq_true q
    have q2 := of_decide_eq_true q2
    have hs3 := Recs.mono _ _ (h3.sub 1 rfl) hs
    obtain ⟨b, o, op, p1, p2, p3⟩ := hs3.at_ e3len (by decide) i0 q
    have et := take_step i0 p2
    have hneg := atA_neg (A := A) (key := op.2.1) fun a ha => (fed.all a ha).1
    refine ⟨fun set' H => H = H3 ∧ set' = (A.length : Int) + if op.2.1 ∈ A.map Prod.fst then 0 else 1, ⟨b, o, p1, i0, q, op.2.1, p3 1 _ rfl, tat_spec (i := 0) h3 rfl ⟨_, rfl, br_intro (fun q3 => ⟨rfl, rfl, ?_⟩) (fun q3 => ⟨rfl, rfl, ?_⟩)⟩⟩, ?_⟩
    · rw [if_neg (hneg.1 (of_decide_eq_true q3)), e1, wrap64_id (by omega) (by omega)]
    · have := of_decide_eq_false q3
      rw [if_pos (Classical.byContradiction fun x => this (hneg.2 x)), e1]; omega
    rintro set' H5 ⟨rfl, es⟩
    have hop : i64B op.2.2 := hr _ (List.mem_of_getElem? p2)
    obtain ⟨c0, c1⟩ := pickI_in (c := op.2.2) (n := 1000) (by decide) hop.1 hop.2
    refine ⟨b, o, p1, i0, q, op.2.1, p3 1 _ rfl, b, o, p1, i0, q, op.2.2, p3 2 _ rfl, pick_spec (by decide) ⟨_, rfl, HL.Sub.refl _, tset_spec h3 fun H7 h7 => ⟨_, rfl, ?_⟩⟩⟩
    obtain ⟨hf, -, hnd⟩ := tim_few (i := 0) h3 rfl
    generalize pickI op.2.2 1000 = d at *
    have f0 : setC A op.2.1 d = 0 := by
      unfold setC
      rw [if_neg (by omega), if_neg (fun x => by omega)]
    have f1 : setA A op.2.1 d = insL (op.2.1, d) (butL A op.2.1) := by unfold setA; rw [f0, if_pos rfl]
    rw [f1] at h7
    rw [f0, wrap64_id (n := i + 1) (by omega) (by omega)]
    have hlen : (insL (op.2.1, d) (butL A op.2.1)).length = A.length + if op.2.1 ∈ A.map Prod.fst then 0 else 1 := by
      rw [insL_len]
      split
      · rename_i x; exact butL_less hnd x
      · rename_i x
        rw [butL_self fun a ha e => x (List.mem_map.2 ⟨a, ha, e⟩)]
    refine br_f rfl ⟨rfl, ⟨by omega, by omega, _, h7, ?_, ?_, ?_⟩, by dsimp only; omega⟩
    · rw [es, hlen]; split <;> simp
    · rw [hlen]; split <;> omega
    · rw [et]; exact fed.step c0 c1
  rintro set3 H8 ⟨n0, -, A, h8, e1, e2, fed⟩
  obtain ⟨hfA, hsoA, hndA⟩ := tim_few (i := 0) h8 rfl
  obtain ⟨W, hW⟩ : ∃ W : List Int, W = (ops.take N.toNat).map fun o => atA A o.2.1 := ⟨_, rfl⟩
  have hWl : (W.length : Int) = N := by rw [hW]; simp; omega
  refine ⟨fun want H => Holds [own 3 1 want (W.map (Value.int .i64)), tim t A, ro H0] H ∧ want.n = W.length, ⟨fun want i H => 0 ≤ i ∧ i ≤ N ∧ want.n = i.toNat ∧ Holds [own 3 1 want (((ops.take i.toNat).map fun o => atA A o.2.1).map (Value.int .i64)), tim t A, ro H0] H, fun _ i _ => (N - i).toNat,
    ⟨Int.le_refl _, n0, rfl, h8.own_nil _ _⟩, ?_⟩, ?_⟩
  · rintro want i H9 ⟨i0, i1, hn, h9⟩
    have fin : i = N → Holds [own 3 1 want (W.map (Value.int .i64)), tim t A, ro H0] H9 ∧ want.n = W.length := fun e => by
      subst e; rw [hW]; exact ⟨h9, by rw [← hW]; omega⟩
    refine br_intro (fun q => br_intro (fun q2 => ?_) (fun q2 => ⟨rfl, fin (by have := of_decide_eq_false q2; omega)⟩)) (fun q => ⟨rfl, fin (by have := of_decide_eq_false q; omega)⟩)
    have q := of_decide_eq_true q
    have q2 := of_decide_eq_true q2
    have hs9 := Recs.mono _ _ (h9.sub 2 rfl) hs
    obtain ⟨b, o, op, p1, p2, p3⟩ := hs9.at_ e3len (by decide) i0 q
    have et := take_step i0 p2
    refine ⟨b, o, p1, i0, q, op.2.1, p3 1 _ rfl, tat_spec (i := 1) h9 rfl ⟨_, rfl, Holds.push ok37 h9 (m := 1) rfl rfl (by omega) fun r H12 h12 n12 => ⟨r, rfl, rfl, ?_, ?_⟩⟩⟩
    · rw [wrap64_id (n := i + 1) (by omega) (by omega)]
      dsimp only
      rw [et]
      refine ⟨by omega, by omega, by omega, ?_⟩
      rw [List.map_append, List.map_append]; exact h12
    · rw [wrap64_id (n := i + 1) (by omega) (by omega)]; dsimp only; omega
  rintro want H13 ⟨h13, hwn⟩
  let S : List (Int × Int) → Heap → Prop := fun R H => Holds [tim t R, own 3 1 want (W.map (Value.int .i64)), ro H0] H
  have done : ∀ told R T H, S R H → A = T ++ R → told = (T.length : Int) → R = [] → br ((told : Int) == set3) (FnH Try.prog 18 #[.pointer (some ⟨t, 0, none⟩)] H fun r12 H23 => ∃ n25 : Int, r12 = .int .i64 n25 ∧ br ((n25 : Int) == 0) (
        FnH Try.prog 19 #[.pointer (some ⟨t, 0, none⟩)] H23 fun r13 H24 => ∃ n26 : Int, r13 = .int .i64 n26 ∧ ((Value.bool ((n26 : Int) == (-1))) = .bool true ∧ HL.Sub H0 H24)) ((Value.bool false) = .bool true ∧ HL.Sub H0 H23)) ((Value.bool false) = .bool true ∧ HL.Sub H0 H) := fun told0 R T H hS eA et eR => by
    subst eR
    refine br_t (by rw [et, e1, eA]; simp) (tlen_one (i := 0) hS rfl ⟨_, rfl, br_t rfl (tnext_spec (i := 0) hS rfl ⟨_, rfl, rfl, hS.sub 2 rfl⟩)⟩)
  refine ⟨fun now told i lk la H => 0 ≤ now ∧ now ≤ 1000 + 50 * i ∧ 0 ≤ i ∧ i ≤ 200 ∧ ∃ T R, A = T ++ R ∧ S R H ∧ told = (T.length : Int) ∧ (∀ a ∈ R, ahead (lk, la) a) ∧ (i ≤ steps.n ∧ i ≤ 199 ∨ R = []), fun _ _ i _ _ _ => (201 - i).toNat,
    ⟨Int.le_refl _, by omega, Int.le_refl _, by omega, [], A, rfl, h13.swap, rfl, fun a ha => .inl (by have := (fed.all a ha).1; show (-1 : Int) < _; omega), .inl ⟨by omega, by omega⟩⟩, ?_⟩
  rintro now told i lk la H14 ⟨w0, w1, i0, i1, T, R, eA, hS, e3, hah, hend⟩
  refine br_intro (fun q => br_intro (fun q2 => ?_) (fun q2 => ?_)) (fun q => ?_)
  case refine_2 => exact done told R T H14 hS eA e3 (by have := of_decide_eq_false q2; rcases hend with x | x; · omega
                                                        · exact x)
  case refine_3 => exact done told R T H14 hS eA e3 (by have := of_decide_eq_false q; rcases hend with x | x; · omega
                                                        · exact x)
  have q := of_decide_eq_true q
  have q2 := of_decide_eq_true q2
  refine ⟨fun n2 H => H = H14 ∧ 0 ≤ n2 ∧ n2 ≤ 1000 + 50 * i + 50, br_intro (fun q3 => ?_) (fun q3 => ⟨rfl, rfl, w0, by omega⟩), ?_⟩
  · have q3 := of_decide_eq_true q3
    obtain ⟨b, o, p1, p2, p3, p4⟩ := (ht.sub (hS.sub 2 rfl)).at_ i0 q3
    have hm : i64B (ss.getD i.toNat 0) := hq _ (getD_mem i0 (by omega))
    obtain ⟨c0, c1⟩ := pickI_in (c := ss.getD i.toNat 0) (n := 50) (by decide) hm.1 hm.2
    refine ⟨b, o, p1, p2, p3, _, p4, pick_spec (by decide) ⟨_, rfl, rfl, rfl, ?_⟩⟩
    rw [wrap64_id (by omega) (by omega)]; omega
  rintro n2 H16 ⟨rfl, v0, v1⟩
  refine ⟨fun n3 H => H = H16 ∧ 0 ≤ n3 ∧ n3 ≤ 1000 + 50 * i + 50 ∧ ((i = steps.n ∨ i = 199) → n3 = 1000), br_intro (fun q3 => ⟨rfl, rfl, by decide, by omega, fun _ => rfl⟩) (fun q3 => br_intro (fun q4 => ⟨rfl, rfl, by decide, by omega, fun _ => rfl⟩) (fun q4 => ⟨rfl, rfl, v0, v1, fun x => ?_⟩)), ?_⟩
  · have q3 : ¬ i = steps.n := by simpa using q3
    have q4 : ¬ i = 199 := by simpa using q4
    omega
  rintro n3 H17 ⟨rfl, u0, u1, hlast⟩
  have hRso : Inorder R := by rw [eA] at hsoA; exact (List.pairwise_append.1 hsoA).2.1
  refine tdue_spec hS fun l2 H18 h18 => ⟨l2, rfl, ?_⟩
  obtain ⟨D, hD⟩ : ∃ D : List (Int × Int), D = R.takeWhile fun a => decide (a.2 ≤ n3) := ⟨_, rfl⟩
  obtain ⟨R', hR'⟩ : ∃ R' : List (Int × Int), R' = leftA R n3 := ⟨_, rfl⟩
  have eR : R = D ++ R' := by rw [hD, hR']; exact (List.takeWhile_append_dropWhile).symm
  rw [← hR', dueA, ← hD] at h18
  have hDn : ∀ a ∈ D, a.2 ≤ n3 := fun a ha => by rw [hD] at ha; have := mem_while (p := fun b : Int × Int => decide (b.2 ≤ n3)) ha; exact of_decide_eq_true this
  refine ⟨fun told' k lk la H => 0 ≤ k ∧ k ≤ D.length ∧ told' = (T.length : Int) + k ∧ Holds [Go.Proofs.Ytcipmipadjenaaa.told t R' l2 (D.map Prod.fst), own 3 1 want (W.map (Value.int .i64)), ro H0] H ∧ (∀ a ∈ D.drop k.toNat ++ R', ahead (lk, la) a), fun _ k _ _ _ => (D.length - k).toNat,
    ⟨Int.le_refl _, by omega, by omega, h18, by show ∀ a ∈ D ++ R', _; rw [← eR]; exact hah⟩, ?_⟩
  rintro told' k lk' la' H19 ⟨k0, k1, e4, h19, hah'⟩
  have hl2 := (h19.read 0 rfl Go.Proofs.Ytcipmipadjenaaa.told.mono).2
  have hll := hl2.len
  simp only [List.length_map] at hll
  have hTD : A = (T ++ D) ++ R' := by rw [List.append_assoc, ← eR]; exact eA
  have hAl : A.length = T.length + D.length + R'.length := by rw [hTD]; simp; omega
  refine br_intro (fun q3 => ?_) (fun q3 => ?_)
  case refine_2 =>
    have q3 := of_decide_eq_false q3
    have ek : k = D.length := by omega
    subst ek
    rw [wrap64_id (n := i + 1) (by omega) (by omega)]
    have h20 := tim_of_told h19
    refine ⟨rfl, ⟨u0, by omega, by omega, by omega, T ++ D, R', hTD, h20, by rw [e4]; simp, fun a ha => hah' a (by simp [ha]), ?_⟩, by dsimp only; omega⟩
    by_cases x : i = steps.n ∨ i = 199
    · right
      have := hlast x
      subst this
      rw [hR']
      have := (while_split (p := fun a : Int × Int => decide (a.2 ≤ 1000)) (a := R) (b := []) (fun a ha => decide_eq_true (by have := (fed.all a (by rw [eA]; simp [ha])).2.1; omega)) (by simp)).2
      simpa using this
    · left; omega
  have q3 := of_decide_eq_true q3
  have hkD : k.toNat < D.length := by omega
  obtain ⟨d, hd⟩ : ∃ d, D[k.toNat]? = some d := ⟨_, List.getElem?_eq_getElem hkD⟩
  have hdD : d ∈ D := List.mem_of_getElem? hd
  have hdA : d ∈ A := by rw [hTD]; simp [hdD]
  have edrop : D.drop k.toNat = d :: D.drop (k + 1).toNat := by
    rw [List.drop_eq_getElem_cons hkD]
    have : (k + 1).toNat = k.toNat + 1 := by omega
    rw [this]
    have := List.getElem?_eq_getElem hkD
    rw [hd] at this
    simp only [Option.some.injEq] at this
    rw [this]
  obtain ⟨x, y, g1, g2, g3, g4⟩ := hl2.at_ k0 q3
  have eg : (D.map Prod.fst).getD k.toNat 0 = d.1 := by simp [List.getD, List.getElem?_map, hd]
  rw [eg] at g4
  have hdk := atA_some hndA hdA
  refine ⟨fun at1 j H => H = H19 ∧ 0 ≤ j ∧ j ≤ N ∧ (at1 = if d.1 ∈ keysO (ops.take j.toNat) then d.2 else -1), fun _ j _ => (N - j).toNat, ⟨rfl, Int.le_refl _, n0, by simp⟩, ?_⟩
  rintro at1 j H20 ⟨rfl, j0, j1, ea⟩
  refine br_intro (fun q4 => ?_) (fun q4 => ?_)
  · have q4 := of_decide_eq_true q4
    have hs20 := Recs.mono _ _ (h19.sub 2 rfl) hs
    obtain ⟨b, o, op, p1, p2, p3⟩ := hs20.at_ e3len (by decide) j0 (by omega)
    have et := take_step j0 p2
    refine ⟨b, o, p1, j0, by omega, op.2.1, p3 1 _ rfl, x, y, g1, g2, g3, _, g4, br_intro (fun q5 => ?_) (fun q5 => ?_)⟩
    · have q5 : op.2.1 = d.1 := by simpa using q5
      have hw : Ints H20 want W := Own.ints (h19.own 1 rfl) (by omega)
      obtain ⟨x2, y2, f1, f2, f3, f4⟩ := hw.at_ (j := j) j0 (by omega)
      refine ⟨x2, y2, f1, f2, f3, _, f4, rfl, ?_, ?_⟩
      · rw [wrap64_id (n := j + 1) (by omega) (by omega)]
        dsimp only
        refine ⟨rfl, by omega, by omega, ?_⟩
        rw [et, if_pos (by simp [keysO, q5])]
        have hjN : j.toNat < (ops.take N.toNat).length := by rw [List.length_take]; omega
        have : W[j.toNat]? = some (atA A op.2.1) := by
          rw [hW, List.getElem?_map, List.getElem?_take_of_lt (by omega), p2]; rfl
        rw [List.getD_eq_getElem?_getD, this, q5, hdk]; rfl
      · rw [wrap64_id (n := j + 1) (by omega) (by omega)]; dsimp only; omega
    · have q5 : ¬ op.2.1 = d.1 := by simpa using q5
      refine ⟨rfl, ?_, ?_⟩
      · rw [wrap64_id (n := j + 1) (by omega) (by omega)]
        dsimp only
        refine ⟨rfl, by omega, by omega, ?_⟩
        rw [ea, et, keysO, keysO, List.map_append]
        have : (d.1 ∈ (ops.take j.toNat).map (fun o => o.2.1) ++ [op].map (fun o => o.2.1)) ↔ d.1 ∈ (ops.take j.toNat).map (fun o => o.2.1) := by
          simp only [List.mem_append, List.map_cons, List.map_nil, List.mem_singleton]
          exact ⟨fun h => h.resolve_right (fun e => q5 e.symm), .inl⟩
        simp only [this]
      · rw [wrap64_id (n := j + 1) (by omega) (by omega)]; dsimp only; omega
  have q4 := of_decide_eq_false q4
  have ej : j = N := by omega
  subst ej
  rw [if_pos (fed.all d hdA).2.2] at ea
  subst ea
  have hfd := fed.all d hdA
  have hdn := hDn d hdD
  have hdah := hah' d (by rw [edrop]; simp)
  unfold ahead at hdah
  simp only [] at hdah
  have hDR : Inorder (d :: (D.drop (k + 1).toNat ++ R')) := by
    have : (D ++ R').drop k.toNat = d :: (D.drop (k + 1).toNat ++ R') := by
      rw [List.drop_append_of_le_length (by omega), edrop]; rfl
    rw [← this, ← eR]; exact hRso.sublist (List.drop_sublist _ _)
  have hnot : atA R' d.1 = -1 := atA_none fun a ha e => by
    rw [hTD, List.map_append, List.nodup_append] at hndA
    exact hndA.2.2 d.1 (List.mem_map.2 ⟨d, by simp [hdD], rfl⟩) a.1 (List.mem_map.2 ⟨a, ha, rfl⟩) e.symm
  have h20t : Holds [tim t R', own 3 1 want (W.map (Value.int .i64)), ro H0] H20 := tim_of_told h19
  have next : FnH Try.prog 16 #[.pointer (some ⟨t, 0, none⟩), .int .i64 d.1] H20 fun r10 H21 => ∃ n20 : Int, r10 = .int .i64 n20 ∧ HL.Sub H20 H21 ∧ br ((n20 : Int) != (-1)) ((Value.bool false) = .bool true ∧ HL.Sub H0 H21) (
        ∃ q12 : Nat, ∃ o11 : Nat, (l2.p : Option Addr) = some ⟨q12, o11, none⟩ ∧ 0 ≤ (k : Int) ∧ (k : Int) < (l2.n : Nat) ∧ ∃ n21 : Int, cellH H21 ⟨q12, o11 + Int.toNat k, none⟩ = some (.int .i64 n21) ∧
          SelfEq ([.v (.slice script.p script.n script.c), .v (.slice steps.p steps.n steps.c), .v (.pointer (some ⟨t, 0, none⟩)), .v (.int .i64 set3), .v (.slice want.p want.n want.c), .v (.int .i64 n3), .loc 0 0, .v (.int .i64 i), .v (.slice l2.p l2.n l2.c)], [], [44]) ∧
          (0 ≤ IntKind.wrap .i64 (k + 1) ∧ IntKind.wrap .i64 (k + 1) ≤ D.length ∧ IntKind.wrap .i64 (told' + 1) = (T.length : Int) + IntKind.wrap .i64 (k + 1) ∧ Holds [Go.Proofs.Ytcipmipadjenaaa.told t R' l2 (D.map Prod.fst), own 3 1 want (W.map (Value.int .i64)), ro H0] H21 ∧
            (∀ a ∈ D.drop (IntKind.wrap .i64 (k + 1)).toNat ++ R', ahead (n21, d.2) a)) ∧ (D.length - IntKind.wrap .i64 (k + 1)).toNat < (D.length - k).toNat) := by
    refine tat_spec (i := 0) h20t rfl ⟨_, rfl, HL.Sub.refl _, br_f (by rw [hnot]; rfl) ⟨x, y, g1, g2, g3, _, g4, rfl, ?_, ?_⟩⟩
    · rw [wrap64_id (n := k + 1) (by omega) (by omega), wrap64_id (n := told' + 1) (by omega) (by omega)]
      exact ⟨by omega, by omega, by omega, h19, fun a ha => (List.pairwise_cons.1 hDR).1 a ha⟩
    · rw [wrap64_id (n := k + 1) (by omega) (by omega)]; omega
  refine br_f (decide_eq_false (by omega)) (br_f (decide_eq_false (by omega)) (br_f (decide_eq_false (by omega)) (br_intro (fun q5 => ?_) (fun q5 => ⟨x, y, g1, g2, g3, _, g4, next⟩))))
  have q5 : d.2 = la' := by simpa using q5
  exact ⟨x, y, g1, g2, g3, _, g4, br_f (decide_eq_false (by omega)) ⟨x, y, g1, g2, g3, _, g4, next⟩⟩
end Go.Proofs.Ytcipmipadjenaaa
