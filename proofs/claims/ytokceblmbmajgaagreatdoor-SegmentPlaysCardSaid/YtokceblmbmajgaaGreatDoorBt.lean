/- Batches as bytes: wire.body, which may be: wire.Right (out of chapter 8). -/
import Derived.Test.YtokceblmbmajgaaGreatDoorWr
import Derived.Test.YtokceblmbmajgaaGreatDoorV2
namespace Go.Proofs.YtokceblmbmajgaaGreatDoor
open Go.HL
set_option maxHeartbeats 800000
set_option maxRecDepth 10000

/-- A record: its key, its value, its time. -/
abbrev Rcd := ByteArray × ByteArray × Int
abbrev eR : Rcd → List Value := fun r => [.string r.1, .string r.2.1, .int .i64 r.2.2]
theorem eRlen : ∀ r, (eR r).length = 3 := fun _ => rfl
def recM (r : Rcd) : List Int := encInt r.2.2 ++ (encText r.1 ++ encText r.2.1)
def bodyM (A : List Int) (rs : List Rcd) : List Int := (A.map encInt).flatten ++ (rs.map recM).flatten
def TextOk (r : Rcd) : Prop := r.1.size ≤ 1000 ∧ r.2.1.size ≤ 1000
theorem encText_len {s : ByteArray} : (encText s).length ≤ 10 + s.size := by
  have := encInt_len s.size
  simp [encText, txt]; omega
theorem recM_len {r : Rcd} (h : TextOk r) : (recM r).length ≤ 2030 := by
  have h1 := encInt_len r.2.2
  have h2 := encText_len (s := r.1)
  have h3 := encText_len (s := r.2.1)
  simp only [recM, List.length_append]
  have := h.1; have := h.2; omega
theorem flat_le {α : Type} {f : α → List Int} {m : Nat} : ∀ {l : List α}, (∀ a ∈ l, (f a).length ≤ m) → (l.map f).flatten.length ≤ l.length * m := by
  intro l
  induction l with
  | nil => intro _; simp
  | cons a l ih =>
    intro h
    have h1 := h a (List.mem_cons_self ..)
    have h2 := ih fun b hb => h b (List.mem_cons_of_mem _ hb)
    simp only [List.map_cons, List.flatten_cons, List.length_append, List.length_cons, Nat.add_mul, Nat.one_mul]
    omega
theorem body_spec {cs : List Chunk} {H : Heap} {a0 a1 a2 a3 a4 : Int} {s : Sl} {rs : List Rcd} {c0 : Chunk} {i : Nat} {K : Value → Heap → Prop} (h : Holds cs H) (g : Gives c0 fun A => Recs eR A s rs) (hi : cs[i]? = some c0) (hn : s.n ≤ 64) (ht : ∀ r ∈ rs, TextOk r)
    (k : ∀ (r : Sl) H', Holds (own 5 1 r (bv (bodyM [a0, a1, a2, a3, a4, s.n] rs)) :: cs) H' → r.n = (bodyM [a0, a1, a2, a3, a4, s.n] rs).length → K (.slice r.p r.n r.c) H') :
    FnH Tryz.prog 69 #[.agg #[.int .i64 a0, .int .i64 a1, .int .i64 a2, .int .i64 a3, .int .i64 a4, .slice s.p s.n s.c]] H K := by
  apply wire_body_fn
  unfold wire_body_vc
  simp only [sub_self, true_and, and_self]
  have hsl := (g.at_ h i hi).len
  obtain ⟨A, eA⟩ : ∃ A : List Int, A = [a0, a1, a2, a3, a4, (s.n : Int)] := ⟨_, rfl⟩
  have hAl : A.length = 6 := by rw [eA]; rfl
  rw [← eA] at k
  refine ⟨fun o n H1 => 0 ≤ n ∧ n ≤ 6 ∧ Holds (own 5 1 o (bv ((A.take n.toNat).map encInt).flatten) :: cs) H1, fun _ n _ => (6 - n).toNat, ⟨Int.le_refl _, by decide, h.own_nil _ _⟩, ?_⟩
  rintro o n H1 ⟨n0, n1, h1⟩
  have ho := (h1.own 0 rfl).1
  simp only [List.length_map, Nat.mul_one] at ho
  have hfl : ((A.take n.toNat).map encInt).flatten.length ≤ 60 := by
    have := flat_le (f := encInt) (m := 10) (l := A.take n.toNat) fun a _ => encInt_len a
    rw [List.length_take] at this; omega
  refine br_intro (fun q => ?_) (fun q => ?_)
  · have q := of_decide_eq_true q
    refine ⟨n0, by omega, A.getD n.toNat 0, ?_, appendInt_spec h1 (by omega) fun r H2 h2 n2 => ⟨r, rfl, rfl, ?_⟩⟩
    · have e : (#[.int .i64 a0, .int .i64 a1, .int .i64 a2, .int .i64 a3, .int .i64 a4, .int .i64 (s.n : Nat)] : Array Value) = (A.map (Value.int .i64)).toArray := by rw [eA]; rfl
      rw [e]
      simp [List.getD, show n.toNat < A.length by omega]
    · rw [wrap64_id (n := n + 1) (by omega) (by omega)]
      refine ⟨⟨by omega, by omega, ?_⟩, by dsimp only; omega⟩
      rw [take_next (d := 0) n0 (by omega)]
      simpa using h2
  have q := of_decide_eq_false q
  have e6 : n.toNat = 6 := by omega
  rw [e6, List.take_of_length_le (by omega)] at h1 hfl ho
  refine ⟨fun o n H2 => 0 ≤ n ∧ n ≤ s.n ∧ Holds (own 5 1 o (bv ((A.map encInt).flatten ++ ((rs.take n.toNat).map recM).flatten)) :: cs) H2, fun _ n _ => (s.n - n).toNat, ⟨Int.le_refl _, by omega, by simpa using h1⟩, ?_⟩
  rintro o2 j H3 ⟨j0, j1, h3⟩
  have ho2 := (h3.own 0 rfl).1
  simp only [List.length_map, Nat.mul_one, List.length_append] at ho2
  have hf2 : ((rs.take j.toNat).map recM).flatten.length ≤ 129920 := by
    have := flat_le (f := recM) (m := 2030) (l := rs.take j.toNat) fun r hr => recM_len (ht r (List.mem_of_mem_take hr))
    rw [List.length_take] at this; omega
  refine br_intro (fun v => ?_) (fun v => ?_)
  · have v := of_decide_eq_true v
    obtain ⟨b, o, r, p1, p2, p3⟩ := (g.at_ h3 (i + 1) (by simpa using hi)).at_ eRlen (by decide) j0 v
    have hto := ht r (List.mem_of_getElem? p2)
    have t1 := hto.1
    have t2 := hto.2
    have l1 := encInt_len r.2.2
    have l2 := encText_len (s := r.1)
    rw [wrap64_id (n := j + 1) (by omega) (by omega)]
    refine ⟨b, o, p1, j0, v, r.1, p3 0 _ rfl, r.2.1, p3 1 _ rfl, r.2.2, p3 2 _ rfl, appendInt_spec h3 (by omega) fun r1 H4 h4 n4 => ⟨r1, rfl, appendText_spec h4 (by omega) (by omega) fun r2 H5 h5 n5 => ⟨r2, rfl, appendText_spec h5 (by omega) (by omega) fun r3 H6 h6 n6 => ⟨r3, rfl, rfl, ⟨by omega, by omega, ?_⟩, by dsimp only; omega⟩⟩⟩⟩
    have e : rs.take (j + 1).toNat = rs.take j.toNat ++ [r] := by
      have e1 : (j + 1).toNat = j.toNat + 1 := by omega
      rw [e1, List.take_add_one, p2]; rfl
    rw [e]
    simpa [recM] using h6
  · have v := of_decide_eq_false v
    have e : rs.take j.toNat = rs := List.take_of_length_le (by omega)
    rw [e] at h3
    refine k o2 H3 h3 ?_
    unfold bodyM
    rw [List.length_append]
    rw [e] at ho2
    exact ho2.symm
def inB (n m : Int) : Bool := decide (0 ≤ n) && decide (n ≤ m)
theorem within_spec {n m : Int} {H : Heap} {K : Value → Heap → Prop} (k : K (.bool (inB n m)) H) : FnH Tryz.prog 84 #[.int .i64 n, .int .i64 m] H K := by
  apply wire_within_fn
  unfold wire_within_vc
  unfold inB at k
  refine br_intro (fun q => ?_) (fun q => ?_)
  · have q := of_decide_eq_true q
    rw [decide_eq_true (show 0 ≤ n from q), Bool.true_and] at k; exact k
  · have q := of_decide_eq_false q
    rw [decide_eq_false (show ¬ 0 ≤ n from q), Bool.false_and] at k; exact k
/-- Why a batch may not be; 0: it may. -/
def argBad (a0 a1 a2 a3 a4 n : Int) : Bool := decide (a0 < 0) || !inB a1 1000000000 || !inB a2 1000000000 || !inB a3 1000000000 || !inB a4 1000000000 || (decide (a2 = 0) && decide (orI .i64 a3 a4 ≠ 0)) || decide (n = 0)
def longB (r : Rcd) : Bool := decide ((r.1.size : Int) > 1000) || decide ((r.2.1.size : Int) > 1000)
def rightM (a0 a1 a2 a3 a4 : Int) (rs : List Rcd) : Int :=
  if argBad a0 a1 a2 a3 a4 rs.length = true then 1
  else if rs.any (fun r => !inB r.2.2 1000000000) = true then 1
  else if rs.length > 64 then 3
  else if rs.any longB = true then 2
  else if a0 > 1000000000 - rs.length + 1 ∨ a4 > 1000000 - rs.length + 1 then 20
  else if (bodyM [a0, a1, a2, a3, a4, rs.length] rs).length > 4088 then 2 else 0
theorem long_ok {r : Rcd} (h : longB r = false) : TextOk r := by
  unfold longB at h
  simp at h
  exact ⟨by omega, by omega⟩
theorem right_spec {cs : List Chunk} {H : Heap} {a0 a1 a2 a3 a4 : Int} {s : Sl} {rs : List Rcd} {c0 : Chunk} {i : Nat} {K : Value → Heap → Prop} (h : Holds cs H) (g : Gives c0 fun A => Recs eR A s rs) (hi : cs[i]? = some c0)
    (k : ∀ H', Holds cs H' → K (.int .i64 (rightM a0 a1 a2 a3 a4 rs)) H') :
    FnH Tryz.prog 68 #[.agg #[.int .i64 a0, .int .i64 a1, .int .i64 a2, .int .i64 a3, .int .i64 a4, .slice s.p s.n s.c]] H K := by
  apply wire_Right_fn
  unfold wire_Right_vc
  have hR := g.at_ h i hi
  have hsl := hR.len
  have hsb := hR.big
  have bad : argBad a0 a1 a2 a3 a4 rs.length = true → K (.int .i64 1) H := fun e => by
    unfold rightM at k
    rw [if_pos e] at k; exact k H h
  refine br_intro (fun q => bad (by unfold argBad; rw [q]; rfl)) (fun q0 => within_spec ⟨_, rfl, br_intro (fun q => bad (by unfold argBad; rw [q]; simp)) (fun q1 => within_spec ⟨_, rfl, br_intro (fun q => bad (by unfold argBad; rw [q]; simp)) (fun q2 =>
    within_spec ⟨_, rfl, br_intro (fun q => bad (by unfold argBad; rw [q]; simp)) (fun q3 => within_spec ⟨_, rfl, br_intro (fun q => bad (by unfold argBad; rw [q]; simp)) (fun q4 => ?_)⟩)⟩)⟩)⟩)
  have fin : ((a2 : Int) == 0) = false ∨ ((orI .i64 a3 a4 : Int) != 0) = false → ((s.n : Int) == 0) = false → argBad a0 a1 a2 a3 a4 rs.length = false := fun e1 e2 => by
    unfold argBad
    rw [q0, q1, q2, q3, q4]
    have e2 : ¬ (rs.length : Int) = 0 := by rw [← hsl]; simpa using e2
    rw [decide_eq_false e2]
    rcases e1 with e1 | e1
    · have e1 : ¬ a2 = 0 := by simpa using e1
      rw [decide_eq_false e1]; rfl
    · have e1 : ¬ orI .i64 a3 a4 ≠ 0 := by simpa using e1
      rw [decide_eq_false e1]; simp
  have zero : ((s.n : Int) == 0) = true → K (.int .i64 1) H := fun e => bad (by
    have : (rs.length : Int) = 0 := by rw [← hsl]; simpa using e
    unfold argBad; rw [this]; simp)
  refine br_intro (fun w => br_intro (fun w2 => bad ?_) (fun w2 => br_intro zero (fun w3 => ?_))) (fun w => br_intro zero (fun w3 => ?_))
  · have w : a2 = 0 := by simpa using w
    have w2 : orI .i64 a3 a4 ≠ 0 := by simpa using w2
    unfold argBad; simp [w, w2]
  · replace fin := fin (.inr w2) w3
    clear bad zero w2 w w3
    unfold rightM at k
    rw [if_neg (by rw [fin]; simp)] at k
    refine ⟨fun long n H1 => H1 = H ∧ 0 ≤ n ∧ n ≤ s.n ∧ ((rs.take n.toNat).any fun r => !inB r.2.2 1000000000) = false ∧ long = (rs.take n.toNat).any longB, fun _ n _ => (s.n - n).toNat, ⟨rfl, Int.le_refl _, by omega, by simp, by simp⟩, ?_⟩
    rintro long n H1 ⟨rfl, n0, n1, hb, hlong⟩
    refine br_intro (fun v => ?_) (fun v => ?_)
    · have v := of_decide_eq_true v
      obtain ⟨b, o, r, p1, p2, p3⟩ := hR.at_ eRlen (by decide) n0 v
      have e : rs.take (n + 1).toNat = rs.take n.toNat ++ [r] := by
        have e1 : (n + 1).toNat = n.toNat + 1 := by omega
        rw [e1, List.take_add_one, p2]; rfl
      rw [wrap64_id (n := n + 1) (by omega) (by omega)]
      refine ⟨b, o, p1, n0, v, r.1, p3 0 _ rfl, r.2.1, p3 1 _ rfl, r.2.2, p3 2 _ rfl, within_spec ⟨_, rfl, br_intro (fun w => ?_) (fun w => ?_)⟩⟩
      · rw [if_pos (List.any_eq_true.2 ⟨r, List.mem_of_getElem? p2, w⟩)] at k; exact k _ h
      · have hb' : ((rs.take (n + 1).toNat).any fun r => !inB r.2.2 1000000000) = false := by
          rw [e, List.any_append, hb]; simpa using w
        refine br_intro (fun l => ⟨rfl, ⟨rfl, by omega, by omega, hb', ?_⟩, by dsimp only; omega⟩) (fun l => br_intro (fun l2 => ⟨rfl, ⟨rfl, by omega, by omega, hb', ?_⟩, by dsimp only; omega⟩) (fun l2 => ⟨rfl, ⟨rfl, by omega, by omega, hb', ?_⟩, by dsimp only; omega⟩))
        · rw [e, List.any_append, ← hlong, l]; rfl
        · rw [e, List.any_append, ← hlong, l]
          simp only [List.any_cons, List.any_nil, longB, l2]; rfl
        · rw [e, List.any_append, ← hlong, l]
          simp only [List.any_cons, List.any_nil, longB, l2]; simp
    · have v := of_decide_eq_false v
      rw [List.take_of_length_le (by omega)] at hb hlong
      rw [if_neg (by rw [hb]; simp)] at k
      refine br_intro (fun w => ?_) (fun w => ?_)
      · have w := of_decide_eq_true w
        rw [if_pos (by omega)] at k; exact k _ h
      have w := of_decide_eq_false w
      rw [if_neg (by omega)] at k
      refine br_intro (fun w2 => ?_) (fun w2 => ?_)
      · rw [if_pos (by rw [← hlong, w2])] at k; exact k _ h
      rw [if_neg (by rw [← hlong, w2]; simp)] at k
      have ht : ∀ r ∈ rs, TextOk r := fun r hr => long_ok (by
        have := hlong.symm.trans w2
        rw [List.any_eq_false] at this
        simpa using this r hr)
      rw [wrap64_id (n := 1000000000 - (s.n : Int)) (by omega) (by omega), wrap64_id (n := 1000000000 - (s.n : Int) + 1) (by omega) (by omega), wrap64_id (n := 1000000 - (s.n : Int)) (by omega) (by omega), wrap64_id (n := 1000000 - (s.n : Int) + 1) (by omega) (by omega)]
      refine ⟨fun bb H2 => H2 = H1 ∧ (bb = true ↔ a0 > 1000000000 - rs.length + 1 ∨ a4 > 1000000 - rs.length + 1), br_intro (fun z => ⟨rfl, rfl, ?_⟩) (fun z => ⟨rfl, rfl, ?_⟩), ?_⟩
      · have z := of_decide_eq_true z
        exact ⟨fun _ => .inl (by omega), fun _ => rfl⟩
      · have z := of_decide_eq_false z
        rw [decide_eq_true_iff]
        omega
      rintro bb H2 ⟨rfl, hbb⟩
      refine br_intro (fun w3 => ?_) (fun w3 => ?_)
      · rw [if_pos (hbb.1 w3)] at k; exact k _ h
      rw [if_neg (fun z => by rw [hbb.2 z] at w3; cases w3)] at k
      refine body_spec h g hi (by omega) ht fun r H' h' hn => ⟨r, rfl, br_intro (fun w4 => ?_) (fun w4 => ?_)⟩
      · have w4 := of_decide_eq_true w4
        rw [hsl] at hn
        rw [if_pos (by omega)] at k; exact k _ h'.tail
      · have w4 := of_decide_eq_false w4
        rw [hsl] at hn
        rw [if_neg (by omega)] at k; exact k _ h'.tail
  · replace fin := fin (.inl w) w3
    clear bad zero w w3
    unfold rightM at k
    rw [if_neg (by rw [fin]; simp)] at k
    refine ⟨fun long n H1 => H1 = H ∧ 0 ≤ n ∧ n ≤ s.n ∧ ((rs.take n.toNat).any fun r => !inB r.2.2 1000000000) = false ∧ long = (rs.take n.toNat).any longB, fun _ n _ => (s.n - n).toNat, ⟨rfl, Int.le_refl _, by omega, by simp, by simp⟩, ?_⟩
    rintro long n H1 ⟨rfl, n0, n1, hb, hlong⟩
    refine br_intro (fun v => ?_) (fun v => ?_)
    · have v := of_decide_eq_true v
      obtain ⟨b, o, r, p1, p2, p3⟩ := hR.at_ eRlen (by decide) n0 v
      have e : rs.take (n + 1).toNat = rs.take n.toNat ++ [r] := by
        have e1 : (n + 1).toNat = n.toNat + 1 := by omega
        rw [e1, List.take_add_one, p2]; rfl
      rw [wrap64_id (n := n + 1) (by omega) (by omega)]
      refine ⟨b, o, p1, n0, v, r.1, p3 0 _ rfl, r.2.1, p3 1 _ rfl, r.2.2, p3 2 _ rfl, within_spec ⟨_, rfl, br_intro (fun w => ?_) (fun w => ?_)⟩⟩
      · rw [if_pos (List.any_eq_true.2 ⟨r, List.mem_of_getElem? p2, w⟩)] at k; exact k _ h
      · have hb' : ((rs.take (n + 1).toNat).any fun r => !inB r.2.2 1000000000) = false := by
          rw [e, List.any_append, hb]; simpa using w
        refine br_intro (fun l => ⟨rfl, ⟨rfl, by omega, by omega, hb', ?_⟩, by dsimp only; omega⟩) (fun l => br_intro (fun l2 => ⟨rfl, ⟨rfl, by omega, by omega, hb', ?_⟩, by dsimp only; omega⟩) (fun l2 => ⟨rfl, ⟨rfl, by omega, by omega, hb', ?_⟩, by dsimp only; omega⟩))
        · rw [e, List.any_append, ← hlong, l]; rfl
        · rw [e, List.any_append, ← hlong, l]
          simp only [List.any_cons, List.any_nil, longB, l2]; rfl
        · rw [e, List.any_append, ← hlong, l]
          simp only [List.any_cons, List.any_nil, longB, l2]; simp
    · have v := of_decide_eq_false v
      rw [List.take_of_length_le (by omega)] at hb hlong
      rw [if_neg (by rw [hb]; simp)] at k
      refine br_intro (fun w => ?_) (fun w => ?_)
      · have w := of_decide_eq_true w
        rw [if_pos (by omega)] at k; exact k _ h
      have w := of_decide_eq_false w
      rw [if_neg (by omega)] at k
      refine br_intro (fun w2 => ?_) (fun w2 => ?_)
      · rw [if_pos (by rw [← hlong, w2])] at k; exact k _ h
      rw [if_neg (by rw [← hlong, w2]; simp)] at k
      have ht : ∀ r ∈ rs, TextOk r := fun r hr => long_ok (by
        have := hlong.symm.trans w2
        rw [List.any_eq_false] at this
        simpa using this r hr)
      rw [wrap64_id (n := 1000000000 - (s.n : Int)) (by omega) (by omega), wrap64_id (n := 1000000000 - (s.n : Int) + 1) (by omega) (by omega), wrap64_id (n := 1000000 - (s.n : Int)) (by omega) (by omega), wrap64_id (n := 1000000 - (s.n : Int) + 1) (by omega) (by omega)]
      refine ⟨fun bb H2 => H2 = H1 ∧ (bb = true ↔ a0 > 1000000000 - rs.length + 1 ∨ a4 > 1000000 - rs.length + 1), br_intro (fun z => ⟨rfl, rfl, ?_⟩) (fun z => ⟨rfl, rfl, ?_⟩), ?_⟩
      · have z := of_decide_eq_true z
        exact ⟨fun _ => .inl (by omega), fun _ => rfl⟩
      · have z := of_decide_eq_false z
        rw [decide_eq_true_iff]
        omega
      rintro bb H2 ⟨rfl, hbb⟩
      refine br_intro (fun w3 => ?_) (fun w3 => ?_)
      · rw [if_pos (hbb.1 w3)] at k; exact k _ h
      rw [if_neg (fun z => by rw [hbb.2 z] at w3; cases w3)] at k
      refine body_spec h g hi (by omega) ht fun r H' h' hn => ⟨r, rfl, br_intro (fun w4 => ?_) (fun w4 => ?_)⟩
      · have w4 := of_decide_eq_true w4
        rw [hsl] at hn
        rw [if_pos (by omega)] at k; exact k _ h'.tail
      · have w4 := of_decide_eq_false w4
        rw [hsl] at hn
        rw [if_neg (by omega)] at k; exact k _ h'.tail
end Go.Proofs.YtokceblmbmajgaaGreatDoor
