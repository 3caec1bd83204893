/- GroupAssigns: whatever comes in, the call gives true and turns nothing that was there. -/
import Derived.Test.YtcbobncipnjbjaaDoorP1
namespace Go.Proofs.YtcbobncipnjbjaaDoor
open Go.HL
set_option maxHeartbeats 800000
set_option maxRecDepth 10000

theorem part_size {len n i : Nat} (hi : i < n) : ceilN (len - (i * (len / n) + min i (len % n))) (n - i) = (len / n + if i < len % n then 1 else 0) ∧ i * (len / n) + min i (len % n) ≤ len := by
  have h := Nat.div_add_mod len n
  have hr := Nat.mod_lt len (show 0 < n by omega)
  generalize len / n = q at *
  generalize len % n = r at *
  obtain ⟨d, ed⟩ : ∃ d, n = i + d := ⟨n - i, by omega⟩
  have hd : 0 < d := by omega
  have e1 : n * q = i * q + d * q := by rw [ed, Nat.add_mul]
  have e2 : n - i = d := by omega
  generalize hiq : i * q = a at *
  have e3 : len - (a + min i r) = (r - min i r) + q * d := by rw [Nat.mul_comm q d]; omega
  rw [e2, e3]
  refine ⟨?_, by omega⟩
  unfold ceilN
  rw [Nat.add_mul_div_right _ _ hd, Nat.add_mul_mod_self_right]
  by_cases c : i < r
  · have e4 : min i r = i := by omega
    rw [e4, Nat.div_eq_of_lt (by omega), Nat.mod_eq_of_lt (by omega), if_pos (by omega), if_pos c]; omega
  · have e4 : min i r = r := by omega
    rw [e4, Nat.sub_self, Nat.zero_div, Nat.zero_mod, if_neg (by omega), if_neg c]; omega
theorem assignM_even : ∀ (k : Nat) (p : List Int), ∀ l ∈ assignM k p, p.length / k ≤ l.length ∧ l.length ≤ ceilN p.length k := by
  intro k
  induction k with
  | zero => intro p l h; cases h
  | succ k ih =>
    intro p l h
    have hle := ceilN_le (a := p.length) (b := k + 1) (by omega)
    simp only [assignM, List.mem_cons] at h
    have hc : ceilN p.length (k + 1) = p.length / (k + 1) + if p.length % (k + 1) ≠ 0 then 1 else 0 := rfl
    rcases h with e | h
    · rw [e, List.length_take, Nat.min_eq_left hle]
      exact ⟨by rw [hc]; omega, Nat.le_refl _⟩
    · rcases Nat.eq_zero_or_pos k with z | z
      · subst z; cases h
      have h2 := ih _ l h
      rw [List.length_drop] at h2
      have hd := Nat.div_add_mod p.length (k + 1)
      have hr := Nat.mod_lt p.length (show 0 < k + 1 by omega)
      generalize p.length = len at *
      generalize len / (k + 1) = q at *
      generalize len % (k + 1) = r at *
      have e1 : (k + 1) * q = q * k + q := by rw [Nat.add_mul, Nat.mul_comm]; omega
      by_cases c : r = 0
      · have e2 : len - ceilN len (k + 1) = 0 + q * k := by rw [hc, if_neg (by omega)]; omega
        rw [e2] at h2
        have e3 : ceilN (0 + q * k) k = q := by
          unfold ceilN
          rw [Nat.add_mul_div_right _ _ z, Nat.add_mul_mod_self_right]; simp
        rw [e3, Nat.add_mul_div_right _ _ z, Nat.zero_div] at h2
        rw [hc, if_neg (by omega)]; omega
      · have e2 : len - ceilN len (k + 1) = (r - 1) + q * k := by rw [hc, if_pos (by omega)]; omega
        rw [e2] at h2
        have e3 : ceilN ((r - 1) + q * k) k ≤ q + 1 := by
          unfold ceilN
          rw [Nat.add_mul_div_right _ _ z, Nat.add_mul_mod_self_right, Nat.div_eq_of_lt (by omega)]
          split <;> omega
        rw [Nat.add_mul_div_right _ _ z, Nat.div_eq_of_lt (by omega)] at h2
        rw [hc, if_pos (by omega)]; omega
theorem ceilN_floor (a b : Nat) : ceilN a b ≤ a / b + 1 := by
  unfold ceilN; split <;> omega
theorem refAssign_spec {cs : List Chunk} {H : Heap} {mem parts : Sl} {L : List Int} {c0 : Chunk} {i : Nat} {K : Value → Heap → Prop} (h : Holds cs H) (g : Gives c0 (ints parts L)) (hi : cs[i]? = some c0) (hm : mem.n ≤ 1000000) (hL : L.length ≤ 1000000)
    (k : ∀ (r : Sl) H', Holds (lists r (assignM mem.n L) :: cs) H' → K (.slice r.p r.n r.c) H') : FnH Tryd.prog 11 #[.slice mem.p mem.n mem.c, .slice parts.p parts.n parts.c] H K := by
  apply logboomref15_Assign_fn
  unfold logboomref15_Assign_vc
  refine ⟨fun l at_ n H1 => ∃ ps : List (Sl × List Int), 0 ≤ n ∧ n ≤ mem.n ∧ ps.length = n.toNat ∧ at_ = ((n.toNat * (L.length / mem.n) + min n.toNat (L.length % mem.n) : Nat) : Int) ∧ ps.map Prod.snd ++ assignM (mem.n - n.toNat) (L.drop at_.toNat) = assignM mem.n L ∧
      Holds (own 22 1 l (ps.map slv) :: Holds (ps.map fun p => ints p.1 p.2) :: cs) H1, fun _ _ n _ => (mem.n - n).toNat, ⟨[], Int.le_refl _, by omega, rfl, by simp, rfl, ?_⟩, ?_⟩
  · exact (show Holds (Holds [] :: cs) H from h.cons_emp True.intro).own_nil _ _
  rintro l at_ n H1 ⟨ps, n0, n1, hps, hat, eA, h1⟩
  have hlo := (h1.own 0 rfl).1
  simp only [List.length_map, Nat.mul_one] at hlo
  refine br_intro (fun q => ?_) (fun q => ?_)
  case refine_2 =>
    have q := of_decide_eq_false q
    have : mem.n - n.toNat = 0 := by omega
    rw [this] at eA
    refine k l H1 (Holds.head (c := Holds [own 22 1 l (ps.map slv), Holds (ps.map fun p => ints p.1 p.2)]) (fun A hA => ⟨ps, by rw [← eA]; simp [assignM], hA⟩) ((Holds.flat (cs := [own 22 1 l (ps.map slv), Holds (ps.map fun p => ints p.1 p.2)])).2 h1))
  have q := of_decide_eq_true q
  have hP := g.give _ (h1.read (i + 2) (by simpa using hi) g.mono)
  have hpl := hP.len
  have hpc := hP.cap
  have eq1 : Int.tdiv (parts.n : Int) (mem.n : Int) = ((L.length / mem.n : Nat) : Int) := by rw [hpl, Int.tdiv_eq_ediv_of_nonneg (by omega)]; simp
  have eq2 : Int.tmod (parts.n : Int) (mem.n : Int) = ((L.length % mem.n : Nat) : Int) := by rw [hpl, Int.tmod_eq_emod_of_nonneg (by omega)]; simp
  obtain ⟨z1, z2⟩ := part_size (len := L.length) (n := mem.n) (i := n.toNat) (by omega)
  have z3 := Nat.div_le_self L.length mem.n
  have e1 : (n + 1).toNat = n.toNat + 1 := by omega
  have hcl := ceilN_le (a := L.length - (n.toNat * (L.length / mem.n) + min n.toNat (L.length % mem.n))) (b := mem.n - n.toNat) (by omega)
  have hnx : (n + 1).toNat * (L.length / mem.n) + min (n + 1).toNat (L.length % mem.n) = n.toNat * (L.length / mem.n) + min n.toNat (L.length % mem.n) + (L.length / mem.n + if n.toNat < L.length % mem.n then 1 else 0) := by
    rw [e1, Nat.add_mul, Nat.one_mul]
    split <;> omega
  obtain ⟨kk, ek⟩ : ∃ kk, mem.n - n.toNat = kk + 1 := ⟨mem.n - n.toNat - 1, by omega⟩
  have ek2 : mem.n - (n + 1).toNat = kk := by omega
  rw [eq1, eq2]
  generalize n.toNat * (L.length / mem.n) + min n.toNat (L.length % mem.n) = a at *
  generalize ha' : (n + 1).toNat * (L.length / mem.n) + min (n + 1).toNat (L.length % mem.n) = a' at *
  generalize L.length / mem.n = dq at *
  generalize L.length % mem.n = dr at *
  subst hat
  rw [wrap64_id (n := (dq : Int)) (by omega) (by omega), wrap64_id (n := (dq : Int) + 1) (by omega) (by omega), wrap64_id (n := n + 1) (by omega) (by omega), wrap64_id (n := (a : Int) + ((dq : Int) + 1)) (by omega) (by omega), wrap64_id (n := (a : Int) + (dq : Int)) (by omega) (by omega)]
  have step : ∀ (c : Int) (Q : Prop), Q → c = ((a' : Nat) : Int) → ∀ q1 : Nat, H1 q1 = none → letH (Heap.upd H1 q1 (.cells #[] 3 (0, 0))) fun H2 => 0 ≤ c ∧ c ≤ (parts.c : Nat) ∧ 0 ≤ (a : Int) ∧ (a : Int) ≤ c ∧
      runH Tryd.prog (Builtin.append_ #[22, 22] 22 #[.slice (some ⟨q1, 0, none⟩) 0 0, .slice (slP parts.p parts.c (a : Int) 1) (Int.toNat (c - (a : Int))) (Int.toNat ((parts.c : Nat) - (a : Int)))]) H2 fun r1 H3 =>
      ∃ l1 : Sl, r1 = .slice l1.p l1.n l1.c ∧ ∀ q2 : Nat, H3 q2 = none → letH (Heap.upd H3 q2 (.cells #[.slice l1.p l1.n l1.c] 22 (0, 0))) fun H4 =>
        runH Tryd.prog (Builtin.append_ #[24, 24] 24 #[.slice l.p l.n l.c, .slice (some ⟨q2, 0, none⟩) 1 1]) H4 fun r2 H5 =>
          ∃ l2 : Sl, r2 = .slice l2.p l2.n l2.c ∧ Q ∧
          (∃ ps : List (Sl × List Int), 0 ≤ n + 1 ∧ n + 1 ≤ mem.n ∧ ps.length = (n + 1).toNat ∧ c = (((n + 1).toNat * dq + min (n + 1).toNat dr : Nat) : Int) ∧ ps.map Prod.snd ++ assignM (mem.n - (n + 1).toNat) (L.drop c.toNat) = assignM mem.n L ∧
      Holds (own 22 1 l2 (ps.map slv) :: Holds (ps.map fun p => ints p.1 p.2) :: cs) H5) ∧
          (mem.n - (n + 1)).toNat < (mem.n - n).toNat := fun c Q hQ hc => by
    refine h1.new fun q1 H2 h2 => ?_
    have hP2 := g.give _ (h2.read (i + 3) (by simpa using hi) g.mono)
    have hx := CellsAt.take (hP2.from_ (j := (a : Int)) (by omega) (by omega)).cells (ceilN (L.length - a) (mem.n - n.toNat))
    have h2 : Holds (own 3 1 ⟨some ⟨q1, 0, none⟩, 0, 0⟩ [] :: own 22 1 l (ps.map slv) :: Holds (ps.map fun p => ints p.1 p.2) :: cs) H2 := h2.head fun A hA => ⟨rfl, Nat.le_refl _, .inr ⟨q1, #[], rfl, hA, rfl, fun i hi => by simp at hi⟩⟩
    refine ⟨by omega, by omega, by omega, by omega, ?_⟩
    have hcn : (Int.toNat (c - (a : Int))) = ceilN (L.length - a) (mem.n - n.toNat) := by rw [z1]; split <;> split at hnx <;> omega
    rw [hcn]
    have et : ((L.drop (a : Int).toNat).map (Value.int .i64)).take (ceilN (L.length - a) (mem.n - n.toNat)) = iv ((L.drop a).take (ceilN (L.length - a) (mem.n - n.toNat))) := by simp [iv, List.map_take]
    rw [et] at hx
    refine Holds.append (s := ⟨some ⟨q1, 0, none⟩, 0, 0⟩) ok22 ok22.under h2 hx (by simp; omega) (noTups_ints _ _) (by show 0 + _ ≤ _; omega) fun r1 H3 h3 n3 => ⟨r1, rfl, ?_⟩
    have h3 : Holds (own 22 1 l (ps.map slv) :: own 3 1 r1 (iv ((L.drop a).take (ceilN (L.length - a) (mem.n - n.toNat)))) :: Holds (ps.map fun p => ints p.1 p.2) :: cs) H3 := h3.swap
    refine Holds.push ok24 h3 (m := 1) rfl rfl (by omega) fun l2 H5 h5 n5 => ⟨l2, rfl, hQ, ⟨ps ++ [(r1, (L.drop a).take (ceilN (L.length - a) (mem.n - n.toNat)))], by omega, by omega, by rw [e1]; simp [hps], by rw [hc, ← ha'], ?_, ?_⟩, by omega⟩
    · rw [← eA, ek2, ek]
      have e5 : c.toNat = a + ceilN (L.length - a) (kk + 1) := by rw [← ek]; omega
      rw [e5, ← List.drop_drop]
      simp [assignM]
    · have h6 : Holds (ints r1 ((L.drop a).take (ceilN (L.length - a) (mem.n - n.toNat))) :: Holds (ps.map fun p => ints p.1 p.2) :: own 22 1 l2 (ps.map slv ++ [slv (r1, (L.drop a).take (ceilN (L.length - a) (mem.n - n.toNat)))]) :: cs) H5 :=
        (h5.perm ((List.Perm.swap _ _ _).trans ((List.Perm.swap _ _ _).cons _))).head fun A hA => Own.ints hA (by simp; omega)
      have h7 := Holds.more (f := fun p : Sl × List Int => ints p.1 p.2) (a := (r1, (L.drop a).take (ceilN (L.length - a) (mem.n - n.toNat)))) h6
      rw [List.map_append]
      exact h7.swap
  refine ⟨by omega, by omega, br_intro (fun q2 => ?_) (fun q2 => ?_)⟩
  · have q2 := of_decide_eq_true q2
    exact step ((a : Int) + ((dq : Int) + 1)) (SelfEq ([.v (.slice mem.p mem.n mem.c), .v (.slice parts.p parts.n parts.c)], [], [])) rfl (by rw [hnx, if_pos (by omega)]; omega)
  · have q2 := of_decide_eq_false q2
    exact step ((a : Int) + (dq : Int)) (SelfEq ([.v (.slice mem.p mem.n mem.c), .v (.slice parts.p parts.n parts.c)], [], [])) rfl (by rw [hnx, if_neg (by omega)]; omega)
theorem assign_first {k : Nat} {p : List Int} (hk : 0 < k) : ((assignM k p).getD 0 []).length = ceilN p.length k := by
  obtain ⟨j, rfl⟩ : ∃ j, k = j + 1 := ⟨k - 1, by omega⟩
  have := ceilN_le (a := p.length) (b := j + 1) (by omega)
  simp only [assignM, List.getD_cons_zero, List.length_take]
  omega
theorem groupAssigns_walk {H0 : Heap} {members parts : Sl} {ms ps : List Int} (hm : Ints H0 members ms) (hp : Ints H0 parts ps) :
    FnH Tryd.prog 3 #[.slice members.p members.n members.c, .slice parts.p parts.n parts.c] H0 fun r H' => r = .bool true ∧ HL.Sub H0 H' := by
  apply logboomlaw15_GroupAssigns_fn
  unfold logboomlaw15_GroupAssigns_vc
  have hml := hm.len
  have hpl := hp.len
  refine shown_spec (Holds.whole H0) fun H1 h1 => ⟨_, rfl, ?_⟩
  have S1 := h1.sub 0 rfl
  refine br_intro (fun _ => ⟨rfl, S1⟩) (fun q => br_intro (fun _ => ⟨rfl, S1⟩) (fun q2 => ?_))
  have q := of_decide_eq_false q
  have q2 := of_decide_eq_false q2
  have gp : Gives (ro H0) (ints parts ps) := ⟨ro_mono H0, fun A hA => hp.sub hA⟩
  refine assign_spec h1 gp (i := 0) rfl (by omega) (by omega) fun l1 H2 h2 => ⟨l1, rfl, refAssign_spec h2 gp (i := 1) rfl (by omega) (by omega) fun l2 H3 h3 => ⟨l2, rfl, br_f rfl ?_⟩⟩
  have hA := assignM_len members.n ps
  have hev := assignM_even members.n ps
  have hfl := assignM_flat members.n ps
  have hfi := assign_first (k := members.n) (p := ps)
  have hcf := ceilN_floor ps.length members.n
  generalize assignM members.n ps = A at *
  have h3 : Holds [lists l2 A, lists l1 A, ro H0] H3 := h3
  have a1 := (lists_at (h3.read 1 rfl lists_mono)).1
  have a2 := (lists_at (h3.read 0 rfl lists_mono)).1
  refine br_f (by rw [a1, a2]; simp) (br_f (by rw [a1, hA]; simp) ?_)
  have h3 : Holds [own 3 1 ⟨none, 0, 0⟩ (iv []), lists l2 A, lists l1 A, ro H0] H3 := h3.own_nil 3 1
  refine ⟨fun all i H => 0 ≤ i ∧ i ≤ members.n ∧ Holds [own 3 1 all (iv (A.take i.toNat).flatten), lists l2 A, lists l1 A, ro H0] H, fun _ i _ => (members.n - i).toNat, ⟨Int.le_refl _, by omega, h3⟩, ?_⟩
  rintro all i H4 ⟨i0, i1, h4⟩
  have S4 := h4.sub 3 rfl
  have b1 := (lists_at (h4.read 2 rfl lists_mono)).2
  have b2 := (lists_at (h4.read 1 rfl lists_mono)).2
  have hal := (h4.own 0 rfl).1
  simp only [List.length_map, Nat.mul_one] at hal
  have htk : 0 < members.n → (A.take i.toNat).flatten.length ≤ ps.length := fun hpos => by
    rw [← hfl hpos]
    conv => rhs; rw [← List.take_append_drop i.toNat A]
    rw [List.flatten_append, List.length_append]; omega
  refine br_intro (fun v => ?_) (fun v => ?_)
  · have v := of_decide_eq_true v
    have hpos : 0 < members.n := by omega
    obtain ⟨q1, o1, s1, x1, x2, x3⟩ := b1 i i0 v
    obtain ⟨q5, o5, s5, y1, y2, y3⟩ := b2 i i0 (by omega)
    obtain ⟨q0, o0, s0, w1, w2, w3⟩ := b1 0 (Int.le_refl _) (by omega)
    have hi : i.toNat < A.length := by omega
    have hmem : A.getD i.toNat [] ∈ A := by rw [List.getD, List.getElem?_eq_getElem hi]; exact List.getElem_mem hi
    obtain ⟨z1, z2⟩ := hev _ hmem
    have hf := hfi hpos
    have w3l := w3.len
    have x3l := x3.len
    have htk := htk hpos
    have w3l : s0.n = (A.getD 0 []).length := w3l
    have hz := ceilN_le (a := ps.length) (b := members.n) hpos
    have hw : IntKind.wrap .i64 ((s0.n : Int) - 1) = (s0.n : Int) - 1 := wrap64_id (by omega) (by omega)
    have hw2 : IntKind.wrap .i64 (i + 1) = i + 1 := wrap64_id (by omega) (by omega)
    refine ⟨q1, o1, x1, i0, v, s1, x2, q5, o5, y1, i0, by omega, s5, y2, sameList_spec x3 y3 ⟨_, rfl, HL.Sub.refl _, br_f (by simp) ⟨q1, o1, x1, i0, v, s1, x2, q0, o0, w1, Int.le_refl _, by omega, s0, w2, br_f (decide_eq_false (by omega))
      ⟨q1, o1, x1, i0, v, s1, x2, q0, o0, w1, Int.le_refl _, by omega, s0, w2, br_f (by rw [hw]; exact decide_eq_false (by omega)) ⟨q1, o1, x1, i0, v, s1, x2, ?_⟩⟩⟩⟩⟩
    rw [hw2]
    refine Holds.append ok22 ok22.under h4 x3.cells (by simp [x3l]) (noTups_ints _ _) (by omega) fun r H6 h6 n6 => ⟨r, rfl, rfl, ⟨by omega, by omega, ?_⟩, by dsimp only; omega⟩
    rw [take_next (d := []) i0 (by omega), List.flatten_append]
    have e : iv ((A.take i.toNat).flatten ++ [A.getD i.toNat []].flatten) = iv (A.take i.toNat).flatten ++ iv (A.getD i.toNat []) := by simp [iv]
    rw [e]; exact h6
  · have v := of_decide_eq_false v
    refine br_intro (fun w => ⟨rfl, S4⟩) (fun w => ?_)
    have w : ¬ (members.n : Int) = 0 := by simpa using w
    have hpos : 0 < members.n := by omega
    have e : (A.take i.toNat).flatten = ps := by rw [List.take_of_length_le (by omega), hfl hpos]
    have hI := own_ints (h4.own 0 rfl) (by have := htk hpos; omega)
    rw [e] at hI
    exact sameList_spec hI (hp.sub S4) ⟨_, rfl, by simp, S4⟩
end Go.Proofs.YtcbobncipnjbjaaDoor
