/- Texts of this seat, one behind the other: Q1 Q2 Q3 Q4 Q5. -/
import Derived.Test.YtokceblmbmajgaaGreatDoorS2
import Derived.Test.YtokceblmbmajgaaGreatDoorV5
import Derived.Test.YtokceblmbmajgaaGreatDoorV6
import Derived.Test.YtokceblmbmajgaaGreatDoorRk
import Derived.Test.YtokceblmbmajgaaGreatDoorL1

/- Chapter 5: the document's batches: body, Right, Batch. -/
namespace Go.Proofs.YtokceblmbmajgaaGreatDoor
open Go Go.HL
set_option maxHeartbeats 3200000
set_option maxRecDepth 10000

/-- What is known of a batch ahead of its length. -/
structure PreOk (b : Ba) : Prop where
  base : i64B b.base
  epoch : i64B b.epoch
  pid : i64B b.pid
  pe : i64B b.pe
  seq : i64B b.seq
  few : b.recs.length ≤ 64
  text : ∀ r ∈ b.recs, TextOk r
  time : ∀ r ∈ b.recs, 0 ≤ r.2.2 ∧ r.2.2 ≤ 1000000000
theorem RightOk.pre {b : Ba} (h : RightOk b) : PreOk b := by
  obtain ⟨a0, a1⟩ := h.base
  obtain ⟨b0, b1⟩ := h.epoch
  obtain ⟨c0, c1⟩ := h.pid
  obtain ⟨d0, d1⟩ := h.pe
  obtain ⟨e0, e1⟩ := h.seq
  exact ⟨⟨by omega, by omega⟩, ⟨by omega, by omega⟩, ⟨by omega, by omega⟩, ⟨by omega, by omega⟩, ⟨by omega, by omega⟩, h.few, h.text, h.time⟩
theorem bodyM_pre {b : Ba} (h : PreOk b) : bodyM [b.base, b.epoch, b.pid, b.pe, b.seq, (b.recs.length : Nat)] b.recs = (bodyB b).map fun b : Nat => (b : Int) := by
  have hf := h.few
  unfold bodyM bodyB
  rw [recsM_eq h.text h.time]
  simp only [List.map_cons, List.map_nil, List.flatten_cons, List.flatten_nil, List.append_nil, List.map_append, List.append_assoc]
  rw [encInt_eq h.base, encInt_eq h.epoch, encInt_eq h.pid, encInt_eq h.pe, encInt_eq h.seq, encInt_eq (n := (b.recs.length : Nat)) ⟨by omega, by omega⟩]
theorem encZ (n : Int) : (strN (encN n)).size ≤ 10 := by rw [strN_size (encN_bytes n)]; exact encN_len n
theorem recN_le {r : Rcd} (h : TextOk r) : (recN r).length ≤ 2030 := by
  have h1 := h.1
  have h2 := h.2
  have a1 := encN_len r.2.2
  have a2 := encN_len (r.1.size : Nat)
  have a3 := encN_len (r.2.1.size : Nat)
  simp only [recN, textN, List.length_append, nb_len]
  omega
theorem recsN_le : ∀ {l : List Rcd}, (∀ r ∈ l, TextOk r) → (l.flatMap recN).length ≤ l.length * 2030
  | [], _ => by simp
  | r :: l, h => by
    have h1 := recN_le (h r (by simp))
    have h2 := recsN_le fun x hx => h x (List.mem_cons_of_mem r hx)
    rw [List.flatMap_cons, List.length_append, List.length_cons]; omega
theorem cat_nb (X : List Nat) (s : ByteArray) : strN X ++ s = strN (X ++ nb s) := by rw [← strN_app, strN_nb]
theorem bodyB_le {b : Ba} (h : PreOk b) : (bodyB b).length ≤ 129980 := by
  have h1 := recsN_le h.text
  have h2 := h.few
  have a1 := encN_len b.base
  have a2 := encN_len b.epoch
  have a3 := encN_len b.pid
  have a4 := encN_len b.pe
  have a5 := encN_len b.seq
  have a6 := encN_len (b.recs.length : Nat)
  simp only [bodyB, List.length_append]
  omega
section
variable {cs : List Chunk} {H : Heap} {K : Value → Heap → Prop}
theorem rfour_spec {s : ByteArray} {c : Nat} {r : List Nat} (hs : nb s = fourN c ++ r) (hc : c < 4294967296) (k : K (.int .i64 (c : Int)) H) : FnH Tryz.prog 91 #[.string s] H K := by
  apply logboomref3_four_fn
  unfold logboomref3_four_vc
  obtain ⟨c1, a1, b1⟩ := nb_get (s := s) (i := 0) (v := c / 16777216 % 256) (by rw [hs]; rfl)
  obtain ⟨c2, a2, b2⟩ := nb_get (s := s) (i := 1) (v := c / 65536 % 256) (by rw [hs]; rfl)
  obtain ⟨c3, a3, b3⟩ := nb_get (s := s) (i := 2) (v := c / 256 % 256) (by rw [hs]; rfl)
  obtain ⟨c4, a4, b4⟩ := nb_get (s := s) (i := 3) (v := c % 256) (by rw [hs]; rfl)
  refine ⟨by decide, c1, a1, by decide, c2, a2, by decide, c3, a3, by decide, c4, a4, ?_⟩
  rw [b1, b2, b3, b4]
  have m1 : c / 16777216 % 256 < 256 := Nat.mod_lt _ (by decide)
  have m2 : c / 65536 % 256 < 256 := Nat.mod_lt _ (by decide)
  have m3 : c / 256 % 256 < 256 := Nat.mod_lt _ (by decide)
  have m4 : c % 256 < 256 := Nat.mod_lt _ (by decide)
  have e : c / 16777216 % 256 * 16777216 + c / 65536 % 256 * 65536 + c / 256 % 256 * 256 + c % 256 = c := by omega
  generalize c / 16777216 % 256 = x1 at *
  generalize c / 65536 % 256 = x2 at *
  generalize c / 256 % 256 = x3 at *
  generalize c % 256 = x4 at *
  rw [k_w m1, k_w m2, k_w m3, k_w m4, wrap64_id (n := (x1 : Int) * 16777216) (by omega) (by omega), wrap64_id (n := (x2 : Int) * 65536) (by omega) (by omega), wrap64_id (n := (x1 : Int) * 16777216 + (x2 : Int) * 65536) (by omega) (by omega), wrap64_id (n := (x3 : Int) * 256) (by omega) (by omega),
    wrap64_id (n := (x1 : Int) * 16777216 + (x2 : Int) * 65536 + (x3 : Int) * 256) (by omega) (by omega), wrap64_id (n := (x1 : Int) * 16777216 + (x2 : Int) * 65536 + (x3 : Int) * 256 + (x4 : Int)) (by omega) (by omega)]
  have e2 : (x1 : Int) * 16777216 + (x2 : Int) * 65536 + (x3 : Int) * 256 + (x4 : Int) = (c : Int) := by omega
  rw [e2]; exact k
theorem rbody_spec {b : Ba} {s : Sl} {c0 : Chunk} {i : Nat} (h : HL.Holds cs H) (g : Gives c0 fun A => Recs eR A s b.recs) (ei : cs[i]? = some c0) (hp : PreOk b) (k : ∀ H', HL.Holds cs H' → K (.string (strN (bodyB b))) H') :
    FnH Tryz.prog 78 #[.agg #[.int .i64 b.base, .int .i64 b.epoch, .int .i64 b.pid, .int .i64 b.pe, .int .i64 b.seq, .slice s.p s.n s.c]] H K := by
  apply logboomref3_body_fn
  unfold logboomref3_body_vc
  have hsn : s.n = b.recs.length := (g.at_ h i ei).len
  have hf := hp.few
  have z1 := encZ b.base
  have z2 := encZ b.epoch
  have z3 := encZ b.pid
  have z4 := encZ b.pe
  have z5 := encZ b.seq
  have z6 := encZ (s.n : Nat)
  refine rint3_spec hp.base fun H1 s1 => ⟨_, rfl, s1, rint3_spec hp.epoch fun H2 s2 => ⟨_, rfl, s1.trans s2, by omega, rint3_spec hp.pid fun H3 s3 => ⟨_, rfl, (s1.trans s2).trans s3, by rw [ByteArray.size_append]; omega, rint3_spec hp.pe fun H4 s4 => ⟨_, rfl, ((s1.trans s2).trans s3).trans s4, by simp only [ByteArray.size_append]; omega,
    rint3_spec hp.seq fun H5 s5 => ⟨_, rfl, (((s1.trans s2).trans s3).trans s4).trans s5, by simp only [ByteArray.size_append]; omega, rint3_spec (n := (s.n : Nat)) ⟨by omega, by omega⟩ fun H6 s6 => ⟨_, rfl, ((((s1.trans s2).trans s3).trans s4).trans s5).trans s6, by simp only [ByteArray.size_append]; omega, ?_⟩⟩⟩⟩⟩⟩
  have h6 := h.up (((((s1.trans s2).trans s3).trans s4).trans s5).trans s6)
  clear s1 s2 s3 s4 s5 s6
  rw [strN_app, strN_app, strN_app, strN_app, strN_app]
  simp only [List.append_assoc]
  have hle := bodyB_le hp
  refine ⟨fun st n H' => 0 ≤ n ∧ n ≤ s.n ∧ st = strN (encN b.base ++ (encN b.epoch ++ (encN b.pid ++ (encN b.pe ++ (encN b.seq ++ (encN (s.n : Nat) ++ (b.recs.take n.toNat).flatMap recN)))))) ∧ HL.Holds cs H', fun _ n _ => (s.n - n).toNat, ⟨Int.le_refl _, by omega, by simp, h6⟩, ?_⟩
  rintro st n H7 ⟨n0, n1, rfl, h7⟩
  have e6 : encN (s.n : Nat) = encN (b.recs.length : Nat) := by rw [hsn]
  refine br_intro (fun q => ?_) (fun q => ?_)
  · have q := of_decide_eq_true q
    obtain ⟨c, o, r, p1, p2, p3⟩ := (g.at_ h7 i ei).at_ eRlen (by decide) n0 q
    have hm := List.mem_of_getElem? p2
    obtain ⟨t1, t2⟩ := hp.text r hm
    have t3 := hp.time r hm
    have y1 := encZ r.2.2
    have y2 := encZ (r.1.size : Nat)
    have y3 := encZ (r.2.1.size : Nat)
    have hX : (strN (encN b.base ++ (encN b.epoch ++ (encN b.pid ++ (encN b.pe ++ (encN b.seq ++ (encN (s.n : Nat) ++ (b.recs.take n.toNat).flatMap recN))))))).size ≤ 129980 := by
      rw [strN_size (app_bytes (encN_bytes _) (app_bytes (encN_bytes _) (app_bytes (encN_bytes _) (app_bytes (encN_bytes _) (app_bytes (encN_bytes _) (app_bytes (encN_bytes _) (recsN_b _)))))))]
      have a0 := recsN_le (l := b.recs.take n.toNat) fun r hr => hp.text r (List.mem_of_mem_take hr)
      rw [List.length_take] at a0
      have a1 := encN_len b.base
      have a2 := encN_len b.epoch
      have a3 := encN_len b.pid
      have a4 := encN_len b.pe
      have a5 := encN_len b.seq
      have a6 := encN_len (s.n : Nat)
      simp only [List.length_append]
      omega
    refine ⟨c, o, p1, n0, q, _, p3 0 _ rfl, _, p3 1 _ rfl, _, p3 2 _ rfl, rint3_spec ⟨by omega, by omega⟩ fun H8 s8 => ⟨_, rfl, s8, by omega, rint3_spec (n := (r.1.size : Nat)) ⟨by omega, by omega⟩ fun H9 s9 => ⟨_, rfl, s8.trans s9, by simp only [ByteArray.size_append]; omega, by simp only [ByteArray.size_append]; omega,
      rint3_spec (n := (r.2.1.size : Nat)) ⟨by omega, by omega⟩ fun H10 s10 => ⟨_, rfl, (s8.trans s9).trans s10, by simp only [ByteArray.size_append]; omega, by simp only [ByteArray.size_append]; omega, ?_⟩⟩⟩⟩
    rw [wrap64_id (n := n + 1) (by omega) (by omega), strN_app, strN_app, cat_nb, strN_app, cat_nb]
    refine ⟨rfl, ⟨by omega, by omega, ?_, h7.up ((s8.trans s9).trans s10)⟩, by dsimp only; omega⟩
    rw [take_step n0 p2, List.flatMap_append]
    simp [recN, textN]
  · have q := of_decide_eq_false q
    rw [List.take_of_length_le (by omega), e6]
    exact k H7 h7
theorem inB_f {n m : Int} (h : n < 0 ∨ n > m) : inB n m = false := by
  unfold inB
  rcases h with h | h
  · rw [decide_eq_false (by omega)]; rfl
  · rw [decide_eq_false (p := n ≤ m) (by omega), Bool.and_false]
theorem inB_t {n m : Int} (h0 : ¬ n < 0) (h1 : ¬ n > m) : inB n m = true := by
  unfold inB
  rw [decide_eq_true (by omega), decide_eq_true (by omega)]; rfl
theorem or_zero {a c : Int} (ha : inB a 1000000000 = true) (hc : inB c 1000000000 = true) (h : orI .i64 a c = 0) : a = 0 ∧ c = 0 := by
  obtain ⟨a0, a1⟩ := inB_of ha
  obtain ⟨c0, c1⟩ := inB_of hc
  obtain ⟨x, rfl⟩ := Int.eq_ofNat_of_zero_le a0
  obtain ⟨y, rfl⟩ := Int.eq_ofNat_of_zero_le c0
  rw [or64 (by omega) (by omega)] at h
  have h : x ||| y = 0 := by omega
  have h1 : x ≤ x ||| y := Nat.left_le_or
  have h2 : y ≤ x ||| y := Nat.right_le_or
  omega
theorem or00 : orI .i64 0 0 = 0 := by decide
theorem right3_spec {b : Ba} {s : Sl} {c0 : Chunk} {i : Nat} (h : HL.Holds cs H) (g : Gives c0 fun A => Recs eR A s b.recs) (ei : cs[i]? = some c0) (hi : i64B b.base) (k : ∀ H', HL.Holds cs H' → K (.int .i64 (rightB b)) H') :
    FnH Tryz.prog 77 #[.agg #[.int .i64 b.base, .int .i64 b.epoch, .int .i64 b.pid, .int .i64 b.pe, .int .i64 b.seq, .slice s.p s.n s.c]] H K := by
  apply logboomref3_Right_fn
  unfold logboomref3_Right_vc
  refine h.new fun q1 H1 h1 => ?_
  have bad : argBad b.base b.epoch b.pid b.pe b.seq b.recs.length = true → K (.int .i64 1) H1 := fun e => by
    have := k H1 h1.tail
    unfold rightB rightM at this
    rw [if_pos e] at this; exact this
  have hR := g.at_ h1 (i + 1) (by simpa using ei)
  have hsl := hR.len
  have hsb := hR.big
  refine ⟨fun n H' => H' = H1 ∧ 0 ≤ n ∧ n ≤ 4 ∧ (1 ≤ n → inB b.epoch 1000000000 = true) ∧ (2 ≤ n → inB b.pid 1000000000 = true) ∧ (3 ≤ n → inB b.pe 1000000000 = true) ∧ (4 ≤ n → inB b.seq 1000000000 = true), fun n _ => (4 - n).toNat, ⟨rfl, by decide, by decide, fun z => absurd z (by decide), fun z => absurd z (by decide), fun z => absurd z (by decide), fun z => absurd z (by decide)⟩, ?_⟩
  rintro n H1 ⟨rfl, n0, n1, g1, g2, g3, g4⟩
  refine br_intro (fun q => ?_) (fun q => ?_)
  · have q := of_decide_eq_true q
    have hn : n = 0 ∨ n = 1 ∨ n = 2 ∨ n = 3 := by omega
    rcases hn with rfl | rfl | rfl | rfl
    · refine ⟨q1, 0, rfl, by decide, by decide, _, h1.cell 0 rfl rfl, br_intro (fun w => bad ?_) (fun w => ⟨q1, 0, rfl, by decide, by decide, _, h1.cell 0 rfl rfl, br_intro (fun w2 => bad ?_) (fun w2 => ?_)⟩)⟩
      · unfold argBad; rw [inB_f (.inl (of_decide_eq_true w))]; simp
      · unfold argBad; rw [inB_f (.inr (of_decide_eq_true w2))]; simp
      · have t := inB_t (of_decide_eq_false w) (of_decide_eq_false w2)
        exact ⟨rfl, ⟨rfl, by decide, by decide, fun _ => t, fun z => absurd z (by decide), fun z => absurd z (by decide), fun z => absurd z (by decide)⟩, by dsimp only; decide⟩
    · refine ⟨q1, 0, rfl, by decide, by decide, _, h1.cell 0 rfl rfl, br_intro (fun w => bad ?_) (fun w => ⟨q1, 0, rfl, by decide, by decide, _, h1.cell 0 rfl rfl, br_intro (fun w2 => bad ?_) (fun w2 => ?_)⟩)⟩
      · unfold argBad; rw [inB_f (n := b.pid) (.inl (of_decide_eq_true w))]; simp
      · unfold argBad; rw [inB_f (n := b.pid) (.inr (of_decide_eq_true w2))]; simp
      · have t := inB_t (of_decide_eq_false w) (of_decide_eq_false w2)
        exact ⟨rfl, ⟨rfl, by decide, by decide, fun _ => g1 (by decide), fun _ => t, fun z => absurd z (by decide), fun z => absurd z (by decide)⟩, by dsimp only; decide⟩
    · refine ⟨q1, 0, rfl, by decide, by decide, _, h1.cell 0 rfl rfl, br_intro (fun w => bad ?_) (fun w => ⟨q1, 0, rfl, by decide, by decide, _, h1.cell 0 rfl rfl, br_intro (fun w2 => bad ?_) (fun w2 => ?_)⟩)⟩
      · unfold argBad; rw [inB_f (n := b.pe) (.inl (of_decide_eq_true w))]; simp
      · unfold argBad; rw [inB_f (n := b.pe) (.inr (of_decide_eq_true w2))]; simp
      · have t := inB_t (of_decide_eq_false w) (of_decide_eq_false w2)
        exact ⟨rfl, ⟨rfl, by decide, by decide, fun _ => g1 (by decide), fun _ => g2 (by decide), fun _ => t, fun z => absurd z (by decide)⟩, by dsimp only; decide⟩
    · refine ⟨q1, 0, rfl, by decide, by decide, _, h1.cell 0 rfl rfl, br_intro (fun w => bad ?_) (fun w => ⟨q1, 0, rfl, by decide, by decide, _, h1.cell 0 rfl rfl, br_intro (fun w2 => bad ?_) (fun w2 => ?_)⟩)⟩
      · unfold argBad; rw [inB_f (n := b.seq) (.inl (of_decide_eq_true w))]; simp
      · unfold argBad; rw [inB_f (n := b.seq) (.inr (of_decide_eq_true w2))]; simp
      · have t := inB_t (of_decide_eq_false w) (of_decide_eq_false w2)
        exact ⟨rfl, ⟨rfl, by decide, by decide, fun _ => g1 (by decide), fun _ => g2 (by decide), fun _ => g3 (by decide), fun _ => t⟩, by dsimp only; decide⟩
  have q := of_decide_eq_false q
  have g1 := g1 (by omega)
  have g2 := g2 (by omega)
  have g3 := g3 (by omega)
  have g4 := g4 (by omega)
  have hk := k H1 h1.tail
  unfold rightB at hk
  have fin : ¬ b.base < 0 → (b.pid = 0 → orI .i64 b.pe b.seq = 0) → ((s.n : Int) == 0) = false → argBad b.base b.epoch b.pid b.pe b.seq b.recs.length = false := fun e0 e1 e2 => by
    have e2 : ¬ (b.recs.length : Int) = 0 := by rw [← hsl]; simpa using e2
    unfold argBad
    rw [g1, g2, g3, g4, decide_eq_false e0, decide_eq_false e2]
    by_cases z : b.pid = 0
    · rw [e1 z]; simp
    · rw [decide_eq_false z]; rfl
  have zero : ((s.n : Int) == 0) = true → K (.int .i64 1) H1 := fun e => bad (by
    have : (b.recs.length : Int) = 0 := by rw [← hsl]; simpa using e
    unfold argBad; rw [this]; simp)
  have nz : b.pid = 0 → (b.pe ≠ 0 ∨ b.seq ≠ 0) → argBad b.base b.epoch b.pid b.pe b.seq b.recs.length = true := fun e1 e2 => by
    have : ¬ orI .i64 b.pe b.seq = 0 := fun z => by
      have := or_zero g3 g4 z
      omega
    unfold argBad
    rw [decide_eq_true e1, decide_eq_true this]; simp
  refine br_intro (fun w => bad ?_) (fun w0 => ?_)
  · unfold argBad; rw [w]; rfl
  have w0 := of_decide_eq_false w0
  refine br_intro (fun w => br_intro (fun w2 => bad (nz (by simpa using w) (.inl (by simpa using w2)))) (fun w2 => br_intro (fun w3 => bad (nz (by simpa using w) (.inr (by simpa using w3)))) (fun w3 => br_intro zero (fun w4 => ?_)))) (fun w => br_intro zero (fun w4 => ?_))
  · have fin := fin w0 (fun _ => by
      have e1 : b.pe = 0 := by simpa using w2
      have e2 : b.seq = 0 := by simpa using w3
      rw [e1, e2]; exact or00) w4
    clear w w2 w3
    unfold rightM at hk
    rw [if_neg (by rw [fin]; simp)] at hk
    have hp0 : i64B b.base ∧ i64B b.epoch ∧ i64B b.pid ∧ i64B b.pe ∧ i64B b.seq := by
      have x1 := inB_of g1; have x2 := inB_of g2; have x3 := inB_of g3; have x4 := inB_of g4
      exact ⟨hi, ⟨by omega, by omega⟩, ⟨by omega, by omega⟩, ⟨by omega, by omega⟩, ⟨by omega, by omega⟩⟩
    refine ⟨fun n H3 => H3 = H1 ∧ 0 ≤ n ∧ n ≤ s.n ∧ ((b.recs.take n.toNat).any fun r => !inB r.2.2 1000000000) = false, fun n _ => (s.n - n).toNat, ⟨rfl, Int.le_refl _, by omega, by simp⟩, ?_⟩
    rintro n H1 ⟨rfl, n0, n1, hb⟩
    refine br_intro (fun v => ?_) (fun v => ?_)
    · have v := of_decide_eq_true v
      obtain ⟨c, o, r, p1, p2, p3⟩ := hR.at_ eRlen (by decide) n0 v
      have late : inB r.2.2 1000000000 = false → K (.int .i64 1) H1 := fun w => by
        rw [if_pos (List.any_eq_true.2 ⟨r, List.mem_of_getElem? p2, by rw [w]; rfl⟩)] at hk; exact hk
      refine ⟨c, o, p1, n0, v, _, p3 2 _ rfl, br_intro (fun w => late (inB_f (.inl (of_decide_eq_true w)))) (fun w => ⟨c, o, p1, n0, v, _, p3 2 _ rfl, br_intro (fun w2 => late (inB_f (.inr (of_decide_eq_true w2)))) (fun w2 => ?_)⟩)⟩
      rw [wrap64_id (n := n + 1) (by omega) (by omega)]
      refine ⟨rfl, ⟨rfl, by omega, by omega, ?_⟩, by dsimp only; omega⟩
      rw [take_step n0 p2, List.any_append, hb]
      have := inB_t (of_decide_eq_false w) (of_decide_eq_false w2)
      simp [this]
    have v := of_decide_eq_false v
    rw [List.take_of_length_le (by omega)] at hb
    rw [if_neg (by rw [hb]; simp)] at hk
    refine br_intro (fun w => ?_) (fun w => ?_)
    · have w := of_decide_eq_true w
      rw [if_pos (by omega)] at hk; exact hk
    have w := of_decide_eq_false w
    rw [if_neg (by omega)] at hk
    refine ⟨fun n H3 => H3 = H1 ∧ 0 ≤ n ∧ n ≤ s.n ∧ (b.recs.take n.toNat).any longB = false, fun n _ => (s.n - n).toNat, ⟨rfl, Int.le_refl _, by omega, by simp⟩, ?_⟩
    rintro n H1 ⟨rfl, n0, n1, hlong⟩
    refine br_intro (fun v => ?_) (fun v => ?_)
    · have v := of_decide_eq_true v
      obtain ⟨c, o, r, p1, p2, p3⟩ := hR.at_ eRlen (by decide) n0 v
      have late : longB r = true → K (.int .i64 2) H1 := fun w => by
        rw [if_pos (List.any_eq_true.2 ⟨r, List.mem_of_getElem? p2, w⟩)] at hk; exact hk
      refine ⟨c, o, p1, n0, v, _, p3 0 _ rfl, br_intro (fun w => late (by unfold longB; rw [w]; rfl)) (fun w => ⟨c, o, p1, n0, v, _, p3 1 _ rfl, br_intro (fun w2 => late (by unfold longB; rw [w2]; simp)) (fun w2 => ?_)⟩)⟩
      rw [wrap64_id (n := n + 1) (by omega) (by omega)]
      refine ⟨rfl, ⟨rfl, by omega, by omega, ?_⟩, by dsimp only; omega⟩
      rw [take_step n0 p2, List.any_append, hlong]
      simp only [List.any_cons, List.any_nil, longB, w, w2]; rfl
    have v := of_decide_eq_false v
    rw [List.take_of_length_le (by omega)] at hlong
    rw [if_neg (by rw [hlong]; simp)] at hk
    rw [wrap64_id (n := (s.n : Int) - 1) (by omega) (by omega), wrap64_id (n := 1000000000 - ((s.n : Int) - 1)) (by omega) (by omega), wrap64_id (n := 1000000 - ((s.n : Int) - 1)) (by omega) (by omega)]
    refine br_intro (fun x => ?_) (fun x => br_intro (fun x2 => ?_) (fun x2 => ?_))
    · have x := of_decide_eq_true x
      rw [if_pos (.inl (by omega))] at hk; exact hk
    · have x2 := of_decide_eq_true x2
      rw [if_pos (.inr (by omega))] at hk; exact hk
    have x := of_decide_eq_false x
    have x2 := of_decide_eq_false x2
    rw [if_neg (by omega)] at hk
    have hp : PreOk b := ⟨hp0.1, hp0.2.1, hp0.2.2.1, hp0.2.2.2.1, hp0.2.2.2.2, by omega, fun r hr => long_ok (by
      rw [List.any_eq_false] at hlong
      simpa using hlong r hr), fun r hr => inB_of (by
      rw [List.any_eq_false] at hb
      simpa using hb r hr)⟩
    rw [bodyM_pre hp, List.length_map] at hk
    have hle := bodyB_le hp
    have hk2 : ∀ H', HL.Holds cs H' → K (.int .i64 (if (bodyB b).length > 4088 then 2 else 0)) H' := fun H' h' => by
      have := k H' h'
      unfold rightB rightM at this
      rw [if_neg (by rw [fin]; simp), if_neg (by rw [hb]; simp), if_neg (by omega), if_neg (by rw [hlong]; simp), if_neg (by omega), bodyM_pre hp, List.length_map] at this
      exact this
    refine rbody_spec h1 g (i := i + 1) (by simpa using ei) hp fun H5 h5 => ⟨_, rfl, ?_⟩
    have hz := strN_size (bodyB_b b)
    rw [wrap64_id (by omega) (by omega)]
    refine br_intro (fun y => ?_) (fun y => ?_)
    · have y := of_decide_eq_true y
      have := hk2 H5 h5.tail
      rw [if_pos (by omega)] at this; exact this
    · have y := of_decide_eq_false y
      have := hk2 H5 h5.tail
      rw [if_neg (by omega)] at this; exact this
  · have fin := fin w0 (fun z => absurd z (by simpa using w)) w4
    clear w
    unfold rightM at hk
    rw [if_neg (by rw [fin]; simp)] at hk
    have hp0 : i64B b.base ∧ i64B b.epoch ∧ i64B b.pid ∧ i64B b.pe ∧ i64B b.seq := by
      have x1 := inB_of g1; have x2 := inB_of g2; have x3 := inB_of g3; have x4 := inB_of g4
      exact ⟨hi, ⟨by omega, by omega⟩, ⟨by omega, by omega⟩, ⟨by omega, by omega⟩, ⟨by omega, by omega⟩⟩
    refine ⟨fun n H3 => H3 = H1 ∧ 0 ≤ n ∧ n ≤ s.n ∧ ((b.recs.take n.toNat).any fun r => !inB r.2.2 1000000000) = false, fun n _ => (s.n - n).toNat, ⟨rfl, Int.le_refl _, by omega, by simp⟩, ?_⟩
    rintro n H1 ⟨rfl, n0, n1, hb⟩
    refine br_intro (fun v => ?_) (fun v => ?_)
    · have v := of_decide_eq_true v
      obtain ⟨c, o, r, p1, p2, p3⟩ := hR.at_ eRlen (by decide) n0 v
      have late : inB r.2.2 1000000000 = false → K (.int .i64 1) H1 := fun w => by
        rw [if_pos (List.any_eq_true.2 ⟨r, List.mem_of_getElem? p2, by rw [w]; rfl⟩)] at hk; exact hk
      refine ⟨c, o, p1, n0, v, _, p3 2 _ rfl, br_intro (fun w => late (inB_f (.inl (of_decide_eq_true w)))) (fun w => ⟨c, o, p1, n0, v, _, p3 2 _ rfl, br_intro (fun w2 => late (inB_f (.inr (of_decide_eq_true w2)))) (fun w2 => ?_)⟩)⟩
      rw [wrap64_id (n := n + 1) (by omega) (by omega)]
      refine ⟨rfl, ⟨rfl, by omega, by omega, ?_⟩, by dsimp only; omega⟩
      rw [take_step n0 p2, List.any_append, hb]
      have := inB_t (of_decide_eq_false w) (of_decide_eq_false w2)
      simp [this]
    have v := of_decide_eq_false v
    rw [List.take_of_length_le (by omega)] at hb
    rw [if_neg (by rw [hb]; simp)] at hk
    refine br_intro (fun w => ?_) (fun w => ?_)
    · have w := of_decide_eq_true w
      rw [if_pos (by omega)] at hk; exact hk
    have w := of_decide_eq_false w
    rw [if_neg (by omega)] at hk
    refine ⟨fun n H3 => H3 = H1 ∧ 0 ≤ n ∧ n ≤ s.n ∧ (b.recs.take n.toNat).any longB = false, fun n _ => (s.n - n).toNat, ⟨rfl, Int.le_refl _, by omega, by simp⟩, ?_⟩
    rintro n H1 ⟨rfl, n0, n1, hlong⟩
    refine br_intro (fun v => ?_) (fun v => ?_)
    · have v := of_decide_eq_true v
      obtain ⟨c, o, r, p1, p2, p3⟩ := hR.at_ eRlen (by decide) n0 v
      have late : longB r = true → K (.int .i64 2) H1 := fun w => by
        rw [if_pos (List.any_eq_true.2 ⟨r, List.mem_of_getElem? p2, w⟩)] at hk; exact hk
      refine ⟨c, o, p1, n0, v, _, p3 0 _ rfl, br_intro (fun w => late (by unfold longB; rw [w]; rfl)) (fun w => ⟨c, o, p1, n0, v, _, p3 1 _ rfl, br_intro (fun w2 => late (by unfold longB; rw [w2]; simp)) (fun w2 => ?_)⟩)⟩
      rw [wrap64_id (n := n + 1) (by omega) (by omega)]
      refine ⟨rfl, ⟨rfl, by omega, by omega, ?_⟩, by dsimp only; omega⟩
      rw [take_step n0 p2, List.any_append, hlong]
      simp only [List.any_cons, List.any_nil, longB, w, w2]; rfl
    have v := of_decide_eq_false v
    rw [List.take_of_length_le (by omega)] at hlong
    rw [if_neg (by rw [hlong]; simp)] at hk
    rw [wrap64_id (n := (s.n : Int) - 1) (by omega) (by omega), wrap64_id (n := 1000000000 - ((s.n : Int) - 1)) (by omega) (by omega), wrap64_id (n := 1000000 - ((s.n : Int) - 1)) (by omega) (by omega)]
    refine br_intro (fun x => ?_) (fun x => br_intro (fun x2 => ?_) (fun x2 => ?_))
    · have x := of_decide_eq_true x
      rw [if_pos (.inl (by omega))] at hk; exact hk
    · have x2 := of_decide_eq_true x2
      rw [if_pos (.inr (by omega))] at hk; exact hk
    have x := of_decide_eq_false x
    have x2 := of_decide_eq_false x2
    rw [if_neg (by omega)] at hk
    have hp : PreOk b := ⟨hp0.1, hp0.2.1, hp0.2.2.1, hp0.2.2.2.1, hp0.2.2.2.2, by omega, fun r hr => long_ok (by
      rw [List.any_eq_false] at hlong
      simpa using hlong r hr), fun r hr => inB_of (by
      rw [List.any_eq_false] at hb
      simpa using hb r hr)⟩
    rw [bodyM_pre hp, List.length_map] at hk
    have hle := bodyB_le hp
    have hk2 : ∀ H', HL.Holds cs H' → K (.int .i64 (if (bodyB b).length > 4088 then 2 else 0)) H' := fun H' h' => by
      have := k H' h'
      unfold rightB rightM at this
      rw [if_neg (by rw [fin]; simp), if_neg (by rw [hb]; simp), if_neg (by omega), if_neg (by rw [hlong]; simp), if_neg (by omega), bodyM_pre hp, List.length_map] at this
      exact this
    refine rbody_spec h1 g (i := i + 1) (by simpa using ei) hp fun H5 h5 => ⟨_, rfl, ?_⟩
    have hz := strN_size (bodyB_b b)
    rw [wrap64_id (by omega) (by omega)]
    refine br_intro (fun y => ?_) (fun y => ?_)
    · have y := of_decide_eq_true y
      have := hk2 H5 h5.tail
      rw [if_pos (by omega)] at this; exact this
    · have y := of_decide_eq_false y
      have := hk2 H5 h5.tail
      rw [if_neg (by omega)] at this; exact this
end
end Go.Proofs.YtokceblmbmajgaaGreatDoor

/- Chapter 5: the document's Batch and ReadBatch. -/
namespace Go.Proofs.YtokceblmbmajgaaGreatDoor
open Go Go.HL
set_option maxHeartbeats 3200000
set_option maxRecDepth 10000

section
variable {cs : List Chunk} {H : Heap} {K : Value → Heap → Prop}
theorem batch3_spec {b : Ba} {s : Sl} {c0 : Chunk} {i : Nat} (h : HL.Holds cs H) (g : Gives c0 fun A => Recs eR A s b.recs) (ei : cs[i]? = some c0) (hi : i64B b.base) (k : ∀ H', HL.Holds cs H' → K (.tuple #[.string (if rightB b = 0 then strN (frameB b) else ⟨#[]⟩), .int .i64 (rightB b)]) H') :
    FnH Tryz.prog 56 #[.agg #[.int .i64 b.base, .int .i64 b.epoch, .int .i64 b.pid, .int .i64 b.pe, .int .i64 b.seq, .slice s.p s.n s.c]] H K := by
  apply logboomref3_Batch_fn
  unfold logboomref3_Batch_vc
  refine right3_spec h g ei hi fun H1 h1 => ⟨_, rfl, br_intro (fun q => ?_) (fun q => ?_)⟩
  · have q : ¬ rightB b = 0 := by simpa using q
    have := k H1 h1
    rw [if_neg q] at this
    exact this
  have q : rightB b = 0 := by simpa using q
  have hk := right_facts q
  rw [if_pos q, q] at k
  have hl := hk.len
  have hbb := bodyB_b b
  have hz : (strN (bodyB b)).size = (bodyB b).length := strN_size hbb
  refine rbody_spec h1 g ei hk.pre fun H2 h2 => ⟨_, rfl, ?_⟩
  rw [hz]
  have f4 : ∀ n, (strN (fourN n)).size = 4 := fun n => strN_size (fourN_bytes n)
  refine four_spec (c := (bodyB b).length) (by omega) fun H3 s3 => ⟨_, rfl, rcrc_spec (by omega) ⟨_, rfl, ?_⟩⟩
  rw [nb_str hbb]
  refine four_spec (crcN_lt _ hbb) fun H4 s4 => ⟨_, rfl, by rw [f4, f4]; omega, by rw [ByteArray.size_append, f4, f4]; omega, ?_⟩
  rw [strN_app, strN_app, List.append_assoc]
  exact k H4 (h2.up (s3.trans s4))
theorem nx3_enc {n : Int} {r : List Nat} (hn : i64B n) (hr : ∀ b ∈ r, b < 256) : (readN (nb (strN (encN n ++ r)))).1 = n ∧ (readN (nb (strN (encN n ++ r)))).2.2 = 0 ∧ nx3 (strN (encN n ++ r)) = strN r := by
  have e1 : nb (strN (encN n ++ r)) = encN n ++ r := nb_str (app_bytes (encN_bytes n) hr)
  have e2 : readN (nb (strN (encN n ++ r))) = (n, ((encN n).length : Int), 0) := by rw [e1, read_enc hn.1 hn.2]
  have hz := app_size (encN_bytes n) hr
  refine ⟨by rw [e2], by rw [e2], ?_⟩
  unfold nx3 nx
  rw [e2, if_pos rfl]
  exact ext_skip (encN_bytes n) hr (by simp) (by rw [hz])
theorem qint_lent {n : Int} {r : List Nat} {X : Int → ByteArray → Bool → Heap → Prop} (h : HL.Holds cs H) (hn : i64B n) (hr : ∀ b ∈ r, b < 256) (k : ∀ H', HL.Holds cs H' → X n (strN r) false H') :
    ∀ q, H q = none → FnH Tryz.prog 92 #[.pointer (some ⟨q, 0, none⟩)] (Heap.upd H q (.cells #[.string (strN (encN n ++ r)), .bool false] 133 (0, 0))) fun v H' => ∃ n : Int, v = .int .i64 n ∧ ∃ s2 : ByteArray, ∃ b : Bool, H' q = some (.cells #[.string s2, .bool b] 133 (0, 0)) ∧ letH (Heap.del H' q) fun H2 => X n s2 b H2 := by
  refine rread3_lent h fun H' h' => ?_
  obtain ⟨e1, e2, e3⟩ := nx3_enc hn hr
  rw [e1, e2, e3]
  exact k H' h'
theorem qtext_spec {q : Nat} {t : ByteArray} {r : List Nat} {most : Int} (h : HL.Holds (rdq q (strN (textN t ++ r)) false :: cs) H) (ht : (t.size : Int) ≤ most) (hb : t.size ≤ 268435456) (hr : ∀ b ∈ r, b < 256) (k : ∀ H', HL.Holds (rdq q (strN r) false :: cs) H' → K (.string t) H') :
    FnH Tryz.prog 93 #[.pointer (some ⟨q, 0, none⟩), .int .i64 most] H K := by
  apply logboomref3_Reader_Text_fn
  unfold logboomref3_Reader_Text_vc
  have e : textN t ++ r = encN (t.size : Nat) ++ (nb t ++ r) := by unfold textN; rw [List.append_assoc]
  rw [e] at h
  have hr2 := app_bytes (nb_byte t) hr
  have hz := app_size (nb_byte t) hr
  rw [nb_len] at hz
  obtain ⟨e1, e2, e3⟩ := nx3_enc (n := (t.size : Nat)) ⟨by omega, by omega⟩ hr2
  refine rread3_spec h fun H1 h1 => ?_
  rw [e2, e3] at h1
  rw [e1]
  have h1 : HL.Holds (rdq q (strN (nb t ++ r)) false :: cs) H1 := h1
  refine ⟨_, rfl, br_f (decide_eq_false (by omega)) (br_f (decide_eq_false (by omega)) ⟨_, h1.cell 0 rfl rfl, br_f (decide_eq_false (by rw [hz]; omega)) ⟨_, h1.cell 0 rfl rfl, by omega, by rw [hz]; omega, _, h1.cell 0 rfl rfl, by omega, by rw [hz]; omega, ?_⟩⟩)⟩
  refine h1.store 0 rfl (by simp) fun H5 h5 => ?_
  have x1 : (strN (nb t ++ r)).extract (Int.toNat (0 : Int)) (Int.toNat ((t.size : Nat) : Int)) = t := by
    have := ext_mid (p := []) (X := nb t) (r := r) (by simp) (nb_byte t) hr (i := 0) (j := t.size) rfl (by simp [nb_len])
    rw [strN_nb] at this
    exact this
  rw [x1]
  refine k H5 ?_
  rw [ext_skip (nb_byte t) hr (by simp [nb_len]) (by rw [hz, Int.toNat_natCast, nb_len])] at h5
  exact h5
theorem qtext_lent {t : ByteArray} {r : List Nat} {most : Int} {X : ByteArray → ByteArray → Bool → Heap → Prop} (h : HL.Holds cs H) (ht : (t.size : Int) ≤ most) (hb : t.size ≤ 268435456) (hr : ∀ b ∈ r, b < 256) (k : ∀ H', HL.Holds cs H' → X t (strN r) false H') :
    ∀ q, H q = none → FnH Tryz.prog 93 #[.pointer (some ⟨q, 0, none⟩), .int .i64 most] (Heap.upd H q (.cells #[.string (strN (textN t ++ r)), .bool false] 133 (0, 0))) fun v H' => ∃ s : ByteArray, v = .string s ∧ ∃ s2 : ByteArray, ∃ b : Bool, H' q = some (.cells #[.string s2, .bool b] 133 (0, 0)) ∧ letH (Heap.del H' q) fun H2 => X s s2 b H2 :=
  fun q hq => qtext_spec (h.add hq _) ht hb hr fun H' h' => ⟨_, rfl, _, _, (held_undo h').1, letH_intro fun H2 g => k H2 (by rw [g]; exact (held_undo h').2)⟩
theorem readBatch3_ok {b : Ba} {r : List Nat} (h : HL.Holds cs H) (hok : rightB b = 0) (hr : ∀ x ∈ r, x < 256) (hsz : r.length ≤ 268435456)
    (k : ∀ (s : Sl) H', HL.Holds (ownR s b.recs :: cs) H' → K (.tuple #[.agg #[.int .i64 b.base, .int .i64 b.epoch, .int .i64 b.pid, .int .i64 b.pe, .int .i64 b.seq, .slice s.p s.n s.c], .int .i64 (flen b : Nat), .int .i64 0]) H') : FnH Tryz.prog 76 #[.string (strN (frameB b ++ r))] H K := by
  apply logboomref3_ReadBatch_fn
  unfold logboomref3_ReadBatch_vc
  have hk := right_facts hok
  have hl := hk.len
  have hf := flen_eq b
  have hbb := bodyB_b b
  have hz : (strN (frameB b ++ r)).size = flen b + r.length := app_size (frameB_b b) hr
  have e0 : frameB b ++ r = fourN (bodyB b).length ++ (fourN (crcN (bodyB b)) ++ (bodyB b ++ r)) := by unfold frameB; simp
  have e1 : frameB b ++ r = (fourN (bodyB b).length ++ fourN (crcN (bodyB b))) ++ (bodyB b ++ r) := by unfold frameB; simp
  have l4 : ∀ n, (fourN n).length = 4 := fun _ => rfl
  refine br_f (decide_eq_false (by omega)) (rfour_spec (c := (bodyB b).length) (r := fourN (crcN (bodyB b)) ++ (bodyB b ++ r)) (by rw [nb_str (app_bytes (frameB_b b) hr), e0]) (by omega) ⟨_, rfl, br_f (decide_eq_false (by omega)) ?_⟩)
  rw [wrap64_id (n := 8 + ((bodyB b).length : Int)) (by omega) (by omega)]
  have x1 : (strN (frameB b ++ r)).extract (Int.toNat 8) (Int.toNat (8 + ((bodyB b).length : Int))) = strN (bodyB b) := by
    rw [e1]
    exact ext_mid (app_bytes (fourN_bytes _) (fourN_bytes _)) hbb hr rfl (by rw [List.length_append, l4, l4]; omega)
  have x2 : (strN (frameB b ++ r)).extract (Int.toNat 4) (Int.toNat ((strN (frameB b ++ r)).size : Int)) = strN (fourN (crcN (bodyB b)) ++ (bodyB b ++ r)) := by
    rw [Int.toNat_natCast, hz, e0]
    exact ext_skip (fourN_bytes _) (app_bytes (fourN_bytes _) (app_bytes hbb hr)) rfl (by simp only [List.length_append, l4]; omega)
  rw [x1, x2]
  have hzb := strN_size hbb
  refine br_f (decide_eq_false (by omega)) ⟨by omega, by omega, by decide, by omega, by decide, by omega, rcrc_spec (by omega) ⟨_, rfl, HL.Sub.refl _, ?_⟩⟩
  rw [nb_str hbb]
  refine rfour_spec (c := crcN (bodyB b)) (r := bodyB b ++ r) (nb_str (app_bytes (fourN_bytes _) (app_bytes hbb hr))) (crcN_lt _ hbb) ⟨_, rfl, HL.Sub.refl _, br_f (by simp) ?_⟩
  have h0 : HL.Holds (ownR ⟨none, 0, 0⟩ [] :: cs) H := h.own_nil 86 3
  have n5 := rest5_b b
  have i1 : i64B b.base := ⟨by have := hk.base; omega, by have := hk.base; omega⟩
  have i2 : i64B b.epoch := ⟨by have := hk.epoch; omega, by have := hk.epoch; omega⟩
  have i3 : i64B b.pid := ⟨by have := hk.pid; omega, by have := hk.pid; omega⟩
  have i4 : i64B b.pe := ⟨by have := hk.pe; omega, by have := hk.pe; omega⟩
  have i5 : i64B b.seq := ⟨by have := hk.seq; omega, by have := hk.seq; omega⟩
  have hn := hk.few
  refine qint_lent (n := b.base) (r := encN b.epoch ++ (encN b.pid ++ (encN b.pe ++ (encN b.seq ++ rest5 b)))) h0 i1 (app_bytes (encN_bytes _) (app_bytes (encN_bytes _) (app_bytes (encN_bytes _) (app_bytes (encN_bytes _) n5)))) fun H5 h5 => ?_
  refine qint_lent (n := b.epoch) (r := encN b.pid ++ (encN b.pe ++ (encN b.seq ++ rest5 b))) h5 i2 (app_bytes (encN_bytes _) (app_bytes (encN_bytes _) (app_bytes (encN_bytes _) n5))) fun H6 h6 => ?_
  refine qint_lent (n := b.pid) (r := encN b.pe ++ (encN b.seq ++ rest5 b)) h6 i3 (app_bytes (encN_bytes _) (app_bytes (encN_bytes _) n5)) fun H7 h7 => ?_
  refine qint_lent (n := b.pe) (r := encN b.seq ++ rest5 b) h7 i4 (app_bytes (encN_bytes _) n5) fun H8 h8 => ?_
  refine qint_lent (n := b.seq) (r := rest5 b) h8 i5 n5 fun H9 h9 => ?_
  refine qint_lent (n := (b.recs.length : Nat)) (r := b.recs.flatMap recN) h9 ⟨by omega, by omega⟩ (recsN_b _) fun H10 h10 => ?_
  have hs0 := hk.some_
  refine br_f (decide_eq_false (by omega)) (br_f (decide_eq_false (by omega)) ?_)
  refine ⟨fun i s bad f1 f2 f3 f4 f5 sl H' => bad = false ∧ f1 = b.base ∧ f2 = b.epoch ∧ f3 = b.pid ∧ f4 = b.pe ∧ f5 = b.seq ∧ ∃ j : Nat, j ≤ b.recs.length ∧ i = (j : Int) ∧ s = strN ((b.recs.drop j).flatMap recN) ∧ HL.Holds (ownR sl (b.recs.take j) :: cs) H', fun i _ _ _ _ _ _ _ _ _ => ((b.recs.length : Int) - i).toNat, ⟨rfl, rfl, rfl, rfl, rfl, rfl, 0, Nat.zero_le _, rfl, rfl, h10⟩, ?_⟩
  clear h10 h9 h8 h7 h6 h5 h0 h
  rintro i s bad f1 f2 f3 f4 f5 sl H11 ⟨rfl, rfl, rfl, rfl, rfl, rfl, j, j1, rfl, rfl, h11⟩
  have hsl : sl.n = j := by
    have := (Own.recs eRlen (by decide) (h11.own 0 rfl) (by rw [List.length_take]; omega)).len
    rw [List.length_take] at this; omega
  refine br_intro (fun w => ?_) (fun w => ?_)
  · have w := of_decide_eq_true w
    have hj : j < b.recs.length := by omega
    obtain ⟨rc, hrc⟩ : ∃ rc, b.recs[j]? = some rc := ⟨b.recs[j], List.getElem?_eq_getElem hj⟩
    have hd : b.recs.drop j = rc :: b.recs.drop (j + 1) := by
      rw [List.drop_eq_getElem_cons hj]
      have := List.getElem?_eq_getElem hj
      rw [hrc] at this
      rw [Option.some.inj this]
    have htake : b.recs.take (j + 1) = b.recs.take j ++ [rc] := by rw [List.take_add_one, hrc]; rfl
    have hm := List.mem_of_getElem? hrc
    obtain ⟨t1, t2⟩ := hk.text rc hm
    have t3 := hk.time rc hm
    have er : (b.recs.drop j).flatMap recN = encN rc.2.2 ++ (textN rc.1 ++ (textN rc.2.1 ++ (b.recs.drop (j + 1)).flatMap recN)) := by rw [hd, List.flatMap_cons]; unfold recN; simp
    rw [er]
    have hrb := recsN_b (b.recs.drop (j + 1))
    refine qint_lent h11 ⟨by omega, by omega⟩ (app_bytes (textN_b _) (app_bytes (textN_b _) hrb)) fun H13 h13 => ?_
    refine qtext_lent h13 (by omega) (by omega) (app_bytes (textN_b _) hrb) fun H15 h15 => ?_
    refine qtext_lent h15 (by omega) (by omega) hrb fun H17 h17 => ?_
    refine Holds.push okRc h17 (xs := [.string rc.1, .string rc.2.1, .int .i64 rc.2.2]) (m := 1) rfl rfl (by omega) fun r2 H19 h19 n19 => ⟨r2, rfl, ?_⟩
    rw [wrap64_id (n := (j : Int) + 1) (by omega) (by omega)]
    have e : (b.recs.take j).flatMap eR ++ [.string rc.1, .string rc.2.1, .int .i64 rc.2.2] = (b.recs.take (j + 1)).flatMap eR := by rw [htake, List.flatMap_append]; rfl
    rw [e] at h19
    exact ⟨rfl, ⟨rfl, rfl, rfl, rfl, rfl, rfl, j + 1, by omega, by omega, rfl, h19⟩, by dsimp only; omega⟩
  · have w := of_decide_eq_false w
    have hj : j = b.recs.length := by omega
    subst hj
    rw [List.drop_length]
    rw [List.take_length] at h11
    refine right3_spec (i := 0) h11 (ownR_gives (by omega)) rfl i1 fun H23 h23 => ⟨_, rfl, br_f rfl (br_f (by decide +kernel) (br_f (by rw [hok]; rfl) ?_))⟩
    have := k sl H23 h23
    rw [hf] at this
    exact this
theorem readBatch3_short {b : Ba} {m : Nat} (hok : rightB b = 0) (hm : m < flen b) (k : K (.tuple #[.agg #[.int .i64 0, .int .i64 0, .int .i64 0, .int .i64 0, .int .i64 0, .slice none 0 0], .int .i64 0, .int .i64 5]) H) : FnH Tryz.prog 76 #[.string (strN ((frameB b).take m))] H K := by
  apply logboomref3_ReadBatch_fn
  unfold logboomref3_ReadBatch_vc
  have hk := right_facts hok
  have hl := hk.len
  have hf := flen_eq b
  have htb : ∀ x ∈ (frameB b).take m, x < 256 := fun x hx => frameB_b b x (List.mem_of_mem_take hx)
  have hz : (strN ((frameB b).take m)).size = m := by
    rw [strN_size htb, List.length_take]; unfold flen at hm; omega
  refine br_intro (fun _ => k) (fun q => ?_)
  have q := of_decide_eq_false q
  have e0 : (frameB b).take m = fourN (bodyB b).length ++ ((fourN (crcN (bodyB b)) ++ bodyB b).take (m - 4)) := by
    have l4 : (fourN (bodyB b).length).length = 4 := rfl
    unfold frameB
    rw [List.take_append, l4, List.take_of_length_le (by omega)]
  refine rfour_spec (c := (bodyB b).length) (by rw [nb_str htb, e0]) (by omega) ⟨_, rfl, br_f (decide_eq_false (by omega)) ?_⟩
  rw [wrap64_id (n := 8 + ((bodyB b).length : Int)) (by omega) (by omega)]
  exact br_t (decide_eq_true (by omega)) k
end
end Go.Proofs.YtokceblmbmajgaaGreatDoor

/- Chapter 5: the document's segment: All, Next, Safe, Index. -/
namespace Go.Proofs.YtokceblmbmajgaaGreatDoor
open Go Go.HL
set_option maxHeartbeats 3200000
set_option maxRecDepth 100000

abbrev OneR := (Ba × Sl) × Nat × Nat
abbrev eOn : OneR → List Value := fun x => [.int .i64 x.1.1.base, .int .i64 x.1.1.epoch, .int .i64 x.1.1.pid, .int .i64 x.1.1.pe, .int .i64 x.1.1.seq, .slice x.1.2.p x.1.2.n x.1.2.c, .int .i64 (x.2.1 : Nat), .int .i64 (x.2.2 : Nat)]
theorem eOnlen : ∀ a, (eOn a).length = 8 := fun _ => rfl
theorem okOn : ElemOK Tryz.prog 95 99 8 := ElemOK.of (by kernel_rfl)
def onsR : Nat → List (Ba × Sl) → List OneR
  | _, [] => []
  | a, p :: l => (p, a, a + flen p.1) :: onsR (a + flen p.1) l
theorem onsR_len : ∀ (l : List (Ba × Sl)) (a : Nat), (onsR a l).length = l.length
  | [], _ => rfl
  | _ :: l, a => by simp [onsR, onsR_len l]
theorem onsR_app : ∀ (l : List (Ba × Sl)) (p : Ba × Sl) (a : Nat), onsR a (l ++ [p]) = onsR a l ++ [(p, a + lenB (l.map Prod.fst), a + lenB (l.map Prod.fst) + flen p.1)]
  | [], p, a => by simp [onsR, lenB]
  | x :: l, p, a => by rw [List.cons_append, onsR, onsR, onsR_app l, List.map_cons, lenB_cons, List.cons_append, Nat.add_assoc a]
theorem onsR_at : ∀ {l : List (Ba × Sl)} {a j : Nat} {p : Ba × Sl}, l[j]? = some p → (onsR a l)[j]? = some (p, a + lenB ((l.map Prod.fst).take j), a + lenB ((l.map Prod.fst).take j) + flen p.1)
  | [], _, j, b, h => by simp at h
  | c :: l, a, 0, b, h => by
    simp only [List.getElem?_cons_zero, Option.some.injEq] at h
    subst h
    simp [onsR, lenB]
  | c :: l, a, j + 1, b, h => by
    rw [List.getElem?_cons_succ] at h
    rw [onsR, List.getElem?_cons_succ, onsR_at h, List.map_cons, List.take_succ_cons, lenB_cons, Nat.add_assoc a]
/-- The batches of a file in memory. -/
def onl (s : Sl) (bs : List Ba) : Chunk := fun H => ∃ ps : List (Ba × Sl), ps.map Prod.fst = bs ∧ HL.Holds [own 99 8 s ((onsR 0 ps).flatMap eOn), HL.Holds (ps.map fun p => ownR p.2 p.1.recs)] H
theorem onl_mono {s : Sl} {bs : List Ba} : Mono (onl s bs) := fun _ _ hs ⟨ps, e, h⟩ => ⟨ps, e, h.up hs⟩
theorem onl_open {cs : List Chunk} {H : Heap} {s : Sl} {bs : List Ba} : HL.Holds (onl s bs :: cs) H ↔ ∃ ps : List (Ba × Sl), ps.map Prod.fst = bs ∧ HL.Holds (own 99 8 s ((onsR 0 ps).flatMap eOn) :: HL.Holds (ps.map fun p => ownR p.2 p.1.recs) :: cs) H := by
  unfold onl
  rw [Holds.ex]
  constructor
  · rintro ⟨ps, h⟩
    obtain ⟨e, h⟩ := Holds.pure.1 h
    exact ⟨ps, e, Holds.flat.1 h⟩
  · rintro ⟨ps, e, h⟩
    exact ⟨ps, Holds.pure.2 ⟨e, Holds.flat.2 h⟩⟩
def Ons (H : Heap) (s : Sl) (bs : List Ba) : Prop := ∃ ps : List (Ba × Sl), ps.map Prod.fst = bs ∧ Recs eOn H s (onsR 0 ps) ∧ ∀ p ∈ ps, Recs eR H p.2 p.1.recs
theorem Ons.mono {s : Sl} {bs : List Ba} : Mono (fun H => Ons H s bs) := fun _ _ hs ⟨ps, e, h, g⟩ => ⟨ps, e, Recs.mono _ _ hs h, fun p hp => Recs.mono _ _ hs (g p hp)⟩
theorem Ons.len {H : Heap} {s : Sl} {bs : List Ba} (h : Ons H s bs) : s.n = bs.length := by
  obtain ⟨ps, e, h, -⟩ := h
  rw [h.len, onsR_len, ← e, List.length_map]
theorem Ons.at_ {H : Heap} {s : Sl} {bs : List Ba} (h : Ons H s bs) {j : Int} (h0 : 0 ≤ j) (h1 : j < s.n) : ∃ (q o : Nat) (b : Ba) (sl : Sl), s.p = some ⟨q, o, none⟩ ∧ bs[j.toNat]? = some b ∧ Recs eR H sl b.recs ∧ ∀ (f : Nat) (v : Value), (eOn ((b, sl), lenB (bs.take j.toNat), lenB (bs.take j.toNat) + flen b))[f]? = some v → cellH H ⟨q, o + j.toNat * 8 + f, none⟩ = some v := by
  obtain ⟨ps, e, h, g⟩ := h
  obtain ⟨q, o, x, e1, e2, e3⟩ := h.at_ eOnlen (by decide) h0 h1
  have hl := h.len
  rw [onsR_len] at hl
  obtain ⟨p, hp⟩ : ∃ p, ps[j.toNat]? = some p := ⟨_, List.getElem?_eq_getElem (by omega)⟩
  rw [onsR_at hp, Nat.zero_add, e] at e2
  cases e2
  exact ⟨q, o, p.1, p.2, e1, by rw [← e, List.getElem?_map, hp]; rfl, g p (List.mem_of_getElem? hp), e3⟩
theorem onl_ons {H : Heap} {s : Sl} {bs : List Ba} (h : onl s bs H) (hf : FewB bs) (hl : bs.length ≤ 1000000) : Ons H s bs := by
  obtain ⟨ps, e, h⟩ := h
  have hpl : ps.length = bs.length := by rw [← e, List.length_map]
  refine ⟨ps, e, Own.recs eOnlen (by decide) (h.own 0 rfl) (by rw [onsR_len]; omega), fun p hp => ?_⟩
  have h2 : HL.Holds (ps.map fun p => ownR p.2 p.1.recs) H := h.read 1 rfl (Holds.mono _)
  obtain ⟨i, hi⟩ := List.getElem?_of_mem hp
  have hb := hf p.1 (by rw [← e]; exact List.mem_map_of_mem hp)
  exact Own.recs eRlen (by decide) (h2.own (e := 86) (sz := 3) (s := p.2) (vs := p.1.recs.flatMap eR) i (by rw [List.getElem?_map, hi]; rfl)) (by omega)
/-- A segment of the document, on its disk r. -/
abbrev rsg (t r : Nat) (base : Int) : Chunk := blk t (.cells #[.pointer (some ⟨r, 0, none⟩), .string nS, .int .i64 base] 68 (0, 0))
theorem SegOk.fewB {base : Int} {bs : List Ba} (h : SegOk base bs) : FewB bs := fun b hb => by
  have := (right_facts (h.chain.all b hb)).few
  omega
theorem rdsk_safe {cs : List Chunk} {H : Heap} {d : Nat} {size z : Int} {b : ByteArray} (h : HL.Holds (rdsk d size (F1 b z) :: cs) H) : 0 ≤ z ∧ z ≤ b.size ∧ (b.size : Int) ≤ size ∧ size ≤ 16777216 := by
  obtain ⟨s, hB, -⟩ := rdsk_open.1 h
  have h1 := hB.safe (nS, (b, z)) (by simp [F1])
  have h2 := hB.use
  rw [use1] at h2
  exact ⟨h1.1, h1.2, h2, hB.s1⟩
section
variable {cs : List Chunk} {H : Heap} {K : Value → Heap → Prop}
theorem onl_nil (h : HL.Holds cs H) : HL.Holds (onl ⟨none, 0, 0⟩ [] :: cs) H := h.cons_emp ⟨[], rfl, ((Holds.nil Heap.emp).cons_emp (c := HL.Holds (([] : List (Ba × Sl)).map fun p => ownR p.2 p.1.recs)) (Holds.nil _)).own_nil 99 8⟩
theorem onl_push {s sl : Sl} {bs : List Ba} {b : Ba} (h : HL.Holds (onl s bs :: ownR sl b.recs :: cs) H) (hl : bs.length ≤ 100000) (k : ∀ (r : Sl) H', HL.Holds (onl r (bs ++ [b]) :: cs) H' → K (.slice r.p r.n r.c) H') :
    ∀ q, H q = none → letH (H.upd q (.cells #[.int .i64 b.base, .int .i64 b.epoch, .int .i64 b.pid, .int .i64 b.pe, .int .i64 b.seq, .slice sl.p sl.n sl.c, .int .i64 (lenB bs : Nat), .int .i64 ((lenB bs + flen b : Nat) : Int)] 99 (0, 0))) fun H1 => runH Tryz.prog (Builtin.append_ #[95, 95] 95 #[.slice s.p s.n s.c, .slice (some ⟨q, 0, none⟩) 1 1]) H1 K := by
  obtain ⟨ps, e, h1⟩ := onl_open.1 h
  have hpl : ps.length = bs.length := by rw [← e, List.length_map]
  have hn : s.n = ps.length := by
    have := (Own.recs eOnlen (by decide) (h1.own 0 rfl) (by rw [onsR_len]; omega)).len
    rw [onsR_len] at this; exact this
  refine Holds.push okOn h1 (xs := eOn ((b, sl), lenB bs, lenB bs + flen b)) (m := 1) rfl rfl (by omega) fun r H2 h2 n2 => k r H2 (onl_open.2 ⟨ps ++ [(b, sl)], by rw [List.map_append, e]; rfl, ?_⟩)
  rw [onsR_app, Nat.zero_add, e, List.flatMap_append]
  have h3 : HL.Holds (ownR sl b.recs :: HL.Holds (ps.map fun p => ownR p.2 p.1.recs) :: own 99 8 r ((onsR 0 ps).flatMap eOn ++ eOn ((b, sl), lenB bs, lenB bs + flen b)) :: cs) H2 := (h2.swap).pull 2 rfl
  have h4 := Holds.more (f := fun p : Ba × Sl => ownR p.2 p.1.recs) (a := (b, sl)) h3
  exact h4.swap
theorem rend_spec {a0 a1 a2 a3 a4 : Int} {s : Sl} (h0 : 0 ≤ a0 + s.n) (h1 : a0 + s.n ≤ 2000000000) (k : K (.int .i64 (a0 + (s.n : Nat))) H) : FnH Tryz.prog 55 #[.agg #[.int .i64 a0, .int .i64 a1, .int .i64 a2, .int .i64 a3, .int .i64 a4, .slice s.p s.n s.c]] H K := by
  apply logboomref5_End_fn
  unfold logboomref5_End_vc
  rw [wrap64_id (by omega) (by omega)]; exact k
theorem rall_spec {t r i j : Nat} {size base z : Int} {bs : List Ba} {tail : List Nat} (h : HL.Holds cs H) (ei : cs[i]? = some (rsg t r base)) (ej : cs[j]? = some (rdsk r size (F1 (strN (bs.flatMap frameB ++ tail)) z))) (hs : SegOk base bs) (hst : Stops (nextB base bs) tail) (htot : lenB bs + tail.length ≤ 16777216)
    (k : ∀ (s : Sl) H', HL.Sub H H' → HL.Holds (onl s bs :: cs) H' → K (.tuple #[.slice s.p s.n s.c, .int .i64 (lenB bs : Nat)]) H') : FnH Tryz.prog 52 #[.pointer (some ⟨t, 0, none⟩)] H K := by
  apply logboomref5_Segment_All_fn
  unfold logboomref5_Segment_All_vc
  have hb0 := hs.b0
  have hb1 := hs.b1
  have hsl := hs.len
  have hzl := hs.lenB
  have htb := hst.bytes
  have hts : (strN (bs.flatMap frameB ++ tail)).size = lenB bs + tail.length := app_size (frames_b bs) htb
  have hbig : ∀ {n : Nat}, n ≤ 16777216 → n ≤ 268435456 := fun h => Nat.le_trans h (by decide)
  refine ⟨_, h.cell i ei rfl, _, h.cell i ei rfl, rread_spec h ej ⟨_, _, rfl, HL.Sub.refl _, _, h.cell i ei rfl, ?_⟩⟩
  rw [get1]
  dsimp only
  refine ⟨fun out at_ next H' => ∃ m : Nat, m ≤ bs.length ∧ at_ = (lenB (bs.take m) : Nat) ∧ next = nextB base (bs.take m) ∧ HL.Holds [onl out (bs.take m), ro H] H', fun _ at_ _ _ => ((lenB bs : Int) + 1 - at_).toNat, ⟨0, Nat.zero_le _, by simp [lenB], rfl, onl_nil (Holds.whole H)⟩, ?_⟩
  rintro out at_ next H4 ⟨m, hm, rfl, rfl, h4⟩
  have hfew : FewB (bs.take m) := fun b hb => hs.fewB b (List.mem_of_mem_take hb)
  have hO : Ons H4 out (bs.take m) := onl_ons (h4.read 0 rfl onl_mono) hfew (by rw [List.length_take]; omega)
  have hol := hO.len
  rw [List.length_take] at hol
  have s4 := h4.sub 1 rfl
  have hle := lenB_take_mono bs (i := m) (j := bs.length) hm
  rw [List.take_length] at hle
  by_cases hml : m = bs.length
  · have e1 : bs.take m = bs := by rw [hml, List.take_length]
    rw [e1] at h4 ⊢
    have fin : ∀ {H5 : Heap}, HL.Holds [onl out bs, ro H] H5 → K (.tuple #[.slice out.p out.n out.c, .int .i64 (lenB bs : Nat)]) H5 := fun {H5} h5 => k out H5 (h5.sub 1 rfl) (ro_open h h5)
    have hex : (strN (bs.flatMap frameB ++ tail)).extract (Int.toNat ((lenB bs : Nat) : Int)) (Int.toNat ((strN (bs.flatMap frameB ++ tail)).size : Int)) = strN tail := by
      rw [Int.toNat_natCast, Int.toNat_natCast, hts]
      exact ext_skip (frames_b bs) htb rfl rfl
    refine br_intro (fun w => br_intro (fun w2 => ⟨Int.natCast_nonneg _, Int.ofNat_le.2 (by rw [hts]; exact Nat.le_add_right _ _), ?_⟩) (fun _ => fin h4)) (fun _ => fin h4)
    have w := of_decide_eq_true w
    rw [hex]
    rcases hst with rfl | ⟨b, m, hb, hm0, hm, rfl⟩ | ⟨b, r, hb, hr, rfl, hne⟩
    · rw [hts] at w; simp at w
    · exact readBatch3_short hb hm ⟨_, _, _, _, _, ⟨none, 0, 0⟩, _, _, rfl, br_t rfl (fin h4)⟩
    · have hrl : r.length ≤ 268435456 := hbig (by rw [List.length_append] at htot; exact Nat.le_trans (Nat.le_trans (Nat.le_add_left _ _) (Nat.le_add_left _ _)) htot)
      exact readBatch3_ok h4 hb hr hrl fun sl H5 h5 => ⟨_, _, _, _, _, sl, _, _, rfl, br_f rfl (br_t (by simpa using hne) (fin h5.tail))⟩
  · have hmlt : m < bs.length := by omega
    obtain ⟨b, hb⟩ : ∃ b, bs[m]? = some b := ⟨_, List.getElem?_eq_getElem hmlt⟩
    obtain ⟨c1, c2, c3, c4, c5⟩ := hs.chain.at_ hb
    have hk := right_facts c4
    have hfl := hk.flen
    have hts2 := take_succ_len hb
    have hle2 := lenB_take_mono bs (i := m + 1) (j := bs.length) (by omega)
    rw [List.take_length, hts2] at hle2
    have htake : bs.take (m + 1) = bs.take m ++ [b] := by rw [List.take_add_one, hb]; rfl
    obtain ⟨g1, g2⟩ := List.getElem?_eq_some_iff.1 hb
    have eb : bs = bs.take m ++ (b :: bs.drop (m + 1)) := by rw [← g2, ← List.drop_eq_getElem_cons g1, List.take_append_drop]
    have hsp : bs.flatMap frameB ++ tail = (bs.take m).flatMap frameB ++ (frameB b ++ ((bs.drop (m + 1)).flatMap frameB ++ tail)) := by
      have e2 := congrArg (fun z => List.flatMap frameB z ++ tail) eb
      simp only [List.flatMap_append, List.flatMap_cons, List.append_assoc] at e2
      exact e2
    have hrb : ∀ x ∈ (bs.drop (m + 1)).flatMap frameB ++ tail, x < 256 := app_bytes (frames_b _) htb
    have hlr : lenB bs = lenB (bs.take m) + (flen b + ((bs.drop (m + 1)).flatMap frameB).length) := by
      have e2 := congrArg lenB eb
      rw [lenB_app, lenB_cons] at e2
      exact e2
    have hex : (strN (bs.flatMap frameB ++ tail)).extract (Int.toNat ((lenB (bs.take m) : Nat) : Int)) (Int.toNat ((strN (bs.flatMap frameB ++ tail)).size : Int)) = strN (frameB b ++ ((bs.drop (m + 1)).flatMap frameB ++ tail)) := by
      rw [Int.toNat_natCast, Int.toNat_natCast, hts, hsp]
      exact ext_skip (frames_b _) (app_bytes (frameB_b b) hrb) rfl (by rw [List.length_append, List.length_append]; unfold flen at hlr; unfold lenB at hlr ⊢; omega)
    have q1 : ((lenB (bs.take m) : Nat) : Int) < ((strN (bs.flatMap frameB ++ tail)).size : Nat) := Int.ofNat_lt.2 (by rw [hts]; clear hex hsp; omega)
    have q2 : ((out.n : Nat) : Int) < 4096 := by rw [hol]; clear hex hsp; omega
    refine br_t (decide_eq_true q1) (br_t (decide_eq_true q2) ⟨Int.natCast_nonneg _, Int.le_of_lt q1, ?_⟩)
    rw [hex]
    refine readBatch3_ok h4 c4 hrb (hbig (by rw [List.length_append]; exact Nat.le_trans (by rw [hlr]; omega) htot)) fun sl H5 h5 => ⟨_, _, _, _, _, sl, _, _, rfl, br_f rfl (br_f (by rw [c1]; simp) ?_)⟩
    have hsn : sl.n = b.recs.length := (Own.recs eRlen (by decide) (h5.own 0 rfl) (by have := hk.few; omega)).len
    have hend : b.base + ((sl.n : Nat) : Int) = endB b := by unfold endB; rw [hsn]
    have hbb := hk.base
    have hfew2 := hk.few
    refine rend_spec (by omega) (by omega) ⟨_, rfl, ?_⟩
    rw [hend, wrap64_id (n := ((lenB (bs.take m) : Nat) : Int) + (flen b : Nat)) (by omega) (by omega)]
    refine br_f (decide_eq_false (by omega)) ?_
    refine onl_push (b := b) h5.swap (by rw [List.length_take]; omega) fun l2 H7 h7 => ⟨l2, rfl, rend_spec (by omega) (by omega) ⟨_, rfl, rfl, ?_, by dsimp only; omega⟩⟩
    rw [hend]
    refine ⟨m + 1, by omega, by rw [hts2]; omega, by rw [htake, nextB_snoc], ?_⟩
    rw [htake]; exact h7
theorem rall0_spec {t r i j : Nat} {size base z : Int} {bs : List Ba} (h : HL.Holds cs H) (ei : cs[i]? = some (rsg t r base)) (ej : cs[j]? = some (rdsk r size (F1 (fB bs) z))) (hs : SegOk base bs)
    (k : ∀ (s : Sl) H', HL.Sub H H' → HL.Holds (onl s bs :: cs) H' → Ons H' s bs → K (.tuple #[.slice s.p s.n s.c, .int .i64 (lenB bs : Nat)]) H') : FnH Tryz.prog 52 #[.pointer (some ⟨t, 0, none⟩)] H K := by
  have hzl := hs.lenB
  have hsl := hs.len
  refine rall_spec (tail := []) (bs := bs) h ei (by rw [List.append_nil]; exact ej) hs (.inl rfl) (by simpa using hzl) fun s H' hsub h' => k s H' hsub h' (onl_ons (h'.read 0 rfl onl_mono) hs.fewB (by omega))
theorem rnext_spec {t r i j : Nat} {size base z : Int} {bs : List Ba} (h : HL.Holds cs H) (ei : cs[i]? = some (rsg t r base)) (ej : cs[j]? = some (rdsk r size (F1 (fB bs) z))) (hs : SegOk base bs) (k : ∀ H', HL.Sub H H' → K (.int .i64 (nextB base bs)) H') : FnH Tryz.prog 22 #[.pointer (some ⟨t, 0, none⟩)] H K := by
  apply logboomref5_Segment_Next_fn
  unfold logboomref5_Segment_Next_vc
  have hsl := hs.len
  refine rall0_spec h ei ej hs fun s H1 s1 h1 hO => ⟨s, _, rfl, ?_⟩
  have hn := hO.len
  refine br_intro (fun w => ?_) (fun w => ?_)
  · have w : ((s.n : Nat) : Int) = 0 := by simpa using w
    have e : bs = [] := List.eq_nil_of_length_eq_zero (by omega)
    have := k H1 s1
    rw [e, nextB_nil] at this
    exact ⟨_, (h.up s1).cell i ei rfl, this⟩
  · have w : ¬ ((s.n : Nat) : Int) = 0 := by simpa using w
    rw [wrap64_id (n := (s.n : Int) - 1) (by omega) (by omega)]
    obtain ⟨q, o, b, sl, e1, e2, e3, e4⟩ := hO.at_ (j := (s.n : Int) - 1) (by omega) (by omega)
    have ej2 : ((s.n : Int) - 1).toNat = bs.length - 1 := by omega
    obtain ⟨c1, c2, c3, c4, c5⟩ := hs.chain.at_ e2
    have hb0 := hs.b0
    have hk := right_facts c4
    have hbb := hk.base
    have hfew := hk.few
    have hsn := e3.len
    refine ⟨q, o, e1, by omega, by omega, b.base, e4 0 _ rfl, b.epoch, e4 1 _ rfl, b.pid, e4 2 _ rfl, b.pe, e4 3 _ rfl, b.seq, e4 4 _ rfl, sl, e4 5 _ rfl, rend_spec (by omega) (by omega) ⟨_, rfl, ?_⟩⟩
    have := k H1 s1
    unfold nextB at this
    rw [List.getLast?_eq_getElem?, ← ej2, e2] at this
    have hend : b.base + ((sl.n : Nat) : Int) = endB b := by unfold endB; rw [hsn]
    rw [hend]
    exact this
end
end Go.Proofs.YtokceblmbmajgaaGreatDoor

/- Chapter 5: the document's segment: Safe, Index, Read. -/
namespace Go.Proofs.YtokceblmbmajgaaGreatDoor
open Go Go.HL
set_option maxHeartbeats 3200000
set_option maxRecDepth 100000

section
variable {cs : List Chunk} {H : Heap} {K : Value → Heap → Prop}
theorem rsafe_spec {t r i j : Nat} {size base z : Int} {bs : List Ba} (h : HL.Holds cs H) (ei : cs[i]? = some (rsg t r base)) (ej : cs[j]? = some (rdsk r size (F1 (fB bs) z))) (hs : SegOk base bs) (k : ∀ H', HL.Sub H H' → K (.int .i64 (nextB base (bs.take (safeN z bs)))) H') : FnH Tryz.prog 33 #[.pointer (some ⟨t, 0, none⟩)] H K := by
  apply logboomref5_Segment_Safe_fn
  unfold logboomref5_Segment_Safe_vc
  have hsl := hs.len
  refine rall0_spec h ei ej hs fun s H1 s1 h1 hO => ⟨s, _, rfl, ?_⟩
  have hn := hO.len
  have hh := h.up s1
  have hsn : safeN z bs ≤ bs.length := cnt_le _ _
  refine ⟨_, hh.cell i ei rfl, fun n m H' => H' = H1 ∧ 0 ≤ m ∧ m ≤ s.n ∧ n = nextB base (bs.take (min m.toNat (safeN z bs))), fun _ m _ => (s.n - m).toNat, ⟨rfl, Int.le_refl _, by omega, by simp [nextB]⟩, ?_⟩
  rintro n m H1 ⟨rfl, m0, m1, rfl⟩
  refine br_intro (fun w => ?_) (fun w => ?_)
  · have w := of_decide_eq_true w
    obtain ⟨q, o, b, sl, e1, e2, e3, e4⟩ := hO.at_ m0 w
    have hts := take_succ_len e2
    obtain ⟨c1, c2, c3, c4, c5⟩ := hs.chain.at_ e2
    have hb0 := hs.b0
    have hk := right_facts c4
    have hbb := hk.base
    have hfew := hk.few
    have hm1 : (m + 1).toNat = m.toNat + 1 := by omega
    have hsl2 := e3.len
    rw [wrap64_id (n := m + 1) (by omega) (by omega)]
    refine ⟨q, o, e1, m0, w, ((lenB (bs.take m.toNat) + flen b : Nat) : Int), e4 7 _ rfl, _, hh.cell i ei rfl, _, hh.cell i ei rfl, rsynced_spec hh ej ⟨_, rfl, HL.Sub.refl _, br_intro (fun v => ?_) (fun v => ?_)⟩⟩
    · have v := of_decide_eq_true v
      rw [get1] at v
      have v : ((lenB (bs.take m.toNat) + flen b : Nat) : Int) ≤ z := v
      have hlt : m.toNat < safeN z bs := Decidable.byContradiction fun c => by
        have := safe_rise (z := z) (bs := bs) (j := m.toNat) (by omega) (by omega)
        unfold safeP at this
        have := of_decide_eq_false this
        omega
      refine ⟨q, o, e1, m0, w, b.base, e4 0 _ rfl, b.epoch, e4 1 _ rfl, b.pid, e4 2 _ rfl, b.pe, e4 3 _ rfl, b.seq, e4 4 _ rfl, sl, e4 5 _ rfl, rend_spec (by omega) (by omega) ⟨_, rfl, rfl, ⟨rfl, by omega, by omega, ?_⟩, by dsimp only; omega⟩⟩
      have hend : b.base + ((sl.n : Nat) : Int) = endB b := by unfold endB; rw [hsl2]
      rw [hend, hm1, Nat.min_eq_left (by omega), List.take_add_one, e2]
      exact (nextB_snoc _ _ _).symm
    · have v := of_decide_eq_false v
      rw [get1] at v
      have v : ¬ ((lenB (bs.take m.toNat) + flen b : Nat) : Int) ≤ z := v
      have hge : safeN z bs ≤ m.toNat := Decidable.byContradiction fun c => by
        have := cnt_lt (p := safeP z bs) (n := bs.length) (j := m.toNat) (by unfold safeN at c; omega)
        unfold safeP at this
        have := of_decide_eq_true this
        omega
      refine ⟨rfl, ⟨rfl, by omega, by omega, ?_⟩, by dsimp only; omega⟩
      rw [hm1, Nat.min_eq_right (by omega), Nat.min_eq_right (by omega)]
  · have w := of_decide_eq_false w
    rw [Nat.min_eq_right (by omega)]
    exact k H1 s1
theorem ixE1_at {bs : List Ba} {j : Nat} {b : Ba} (h : bs[j]? = some b) : ixE1 bs j = (((lenB (bs.take j) : Nat) : Int), b.base, ⟨#[]⟩) := by unfold ixE1; rw [h]
theorem rindex_spec {t r i j : Nat} {size base z : Int} {bs : List Ba} (h : HL.Holds cs H) (ei : cs[i]? = some (rsg t r base)) (ej : cs[j]? = some (rdsk r size (F1 (fB bs) z))) (hs : SegOk base bs) (k : ∀ (r : Sl) H', HL.Sub H H' → HL.Holds (ownE r (ixE bs) :: cs) H' → K (.slice r.p r.n r.c) H') : FnH Tryz.prog 37 #[.pointer (some ⟨t, 0, none⟩)] H K := by
  apply logboomref5_Segment_Index_fn
  unfold logboomref5_Segment_Index_vc
  have hsl := hs.len
  have hzl := hs.lenB
  refine rall0_spec h ei ej hs fun s H1 s1 h1 hO => ⟨s, _, rfl, ?_⟩
  have hn := hO.len
  have hok := idxI_ok (froms 0 bs)
  refine ⟨fun out m H' => 0 ≤ m ∧ m ≤ s.n ∧ HL.Holds [ownE out ((idxI (froms 0 (bs.take m.toNat))).map (ixE1 bs)), ro H1] H', fun _ m _ => (s.n - m).toNat, ⟨Int.le_refl _, by omega, (Holds.whole H1).own_nil 94 3⟩, ?_⟩
  rintro out m H2 ⟨m0, m1, h2⟩
  have s2 := h2.sub 1 rfl
  have hO2 := Ons.mono _ _ s2 hO
  refine br_intro (fun w => ?_) (fun w => ?_)
  · have w := of_decide_eq_true w
    obtain ⟨q, o, b, sl, e1, e2, e3, e4⟩ := hO2.at_ m0 w
    have hml : m.toNat < bs.length := by omega
    have hle := lenB_take_mono bs (i := m.toNat) (j := bs.length) (by omega)
    rw [List.take_length] at hle
    have hm1 : (m + 1).toNat = m.toNat + 1 := by omega
    have htl : (bs.take m.toNat).length = m.toNat := by rw [List.length_take]; omega
    have hfr : froms 0 (bs.take (m.toNat + 1)) = froms 0 (bs.take m.toNat) ++ [lenB (bs.take m.toNat)] := by
      rw [List.take_add_one, e2]
      show froms 0 (_ ++ [b]) = _
      rw [froms_app, Nat.zero_add]; rfl
    have hsn : idxI (froms 0 (bs.take (m.toNat + 1))) = if farI (idxI (froms 0 (bs.take m.toNat))) (froms 0 (bs.take m.toNat)) (lenB (bs.take m.toNat)) = true then idxI (froms 0 (bs.take m.toNat)) ++ [m.toNat] else idxI (froms 0 (bs.take m.toNat)) := by
      rw [hfr, idxI_snoc]
      unfold addS
      rw [froms_len, htl]
    have hil : (idxI (froms 0 (bs.take m.toNat))).length ≤ m.toNat := by
      have := ixV_len (bs.take m.toNat)
      rw [List.length_map, htl] at this; exact this
    have hrc : Recs eE H2 out ((idxI (froms 0 (bs.take m.toNat))).map (ixE1 bs)) := Own.recs eElen (by decide) (h2.own 0 rfl) (by rw [List.length_map]; omega)
    have hol := hrc.len
    rw [List.length_map] at hol
    rw [wrap64_id (n := m + 1) (by omega) (by omega)]
    refine ⟨fun f H' => H' = H2 ∧ f = farI (idxI (froms 0 (bs.take m.toNat))) (froms 0 (bs.take m.toNat)) (lenB (bs.take m.toNat)), br_intro (fun v => ⟨rfl, rfl, ?_⟩) (fun v => ?_), ?_⟩
    · have v : ((out.n : Nat) : Int) = 0 := by simpa using v
      have e : idxI (froms 0 (bs.take m.toNat)) = [] := List.eq_nil_of_length_eq_zero (by omega)
      rw [e]; rfl
    · have v : ¬ ((out.n : Nat) : Int) = 0 := by simpa using v
      rw [wrap64_id (n := (out.n : Int) - 1) (by omega) (by omega)]
      obtain ⟨q2, o2, x, g1, g2, g3⟩ := hrc.at_ eElen (by decide) (j := (out.n : Int) - 1) (by omega) (by omega)
      have ej2 : ((out.n : Int) - 1).toNat = (idxI (froms 0 (bs.take m.toNat))).length - 1 := by omega
      obtain ⟨y, hy⟩ : ∃ y, (idxI (froms 0 (bs.take m.toNat)))[(idxI (froms 0 (bs.take m.toNat))).length - 1]? = some y := ⟨_, List.getElem?_eq_getElem (by omega)⟩
      have hyl := idxI_lt _ y (List.mem_of_getElem? hy)
      rw [froms_len, htl] at hyl
      rw [ej2, List.getElem?_map, hy] at g2
      have g2 : ixE1 bs y = x := by simpa using g2
      obtain ⟨c, hc⟩ : ∃ c, bs[y]? = some c := ⟨_, List.getElem?_eq_getElem (by omega)⟩
      rw [ixE1_at hc] at g2
      subst g2
      have hle2 := lenB_take_mono bs (i := y) (j := m.toNat) (by omega)
      have hfa := froms_at (bs.take m.toNat) 0 y (by rw [htl]; exact hyl)
      rw [Nat.zero_add, List.take_take, Nat.min_eq_left (by omega)] at hfa
      refine ⟨q, o, e1, m0, w, ((lenB (bs.take m.toNat) : Nat) : Int), e4 6 _ rfl, q2, o2, g1, by omega, by omega, ((lenB (bs.take y) : Nat) : Int), g3 0 _ rfl, rfl, rfl, ?_⟩
      rw [wrap64_id (by omega) (by omega)]
      unfold farI
      rw [List.getLast?_eq_getElem?, hy]
      dsimp only
      rw [List.getD, hfa]; rfl
    rintro f H2 ⟨rfl, rfl⟩
    refine br_intro (fun v => ?_) (fun v => ?_)
    · rw [if_pos v] at hsn
      refine ⟨q, o, e1, m0, w, ((lenB (bs.take m.toNat) : Nat) : Int), e4 6 _ rfl, q, o, e1, m0, w, b.base, e4 0 _ rfl, ?_⟩
      refine pushS okEn h2 (xs := [.int .i64 ((lenB (bs.take m.toNat) : Nat) : Int), .int .i64 b.base, .string (⟨#[]⟩ : ByteArray)]) (m := 1) rfl rfl (by omega) fun r2 H3 h3 n3 => ⟨r2, rfl, rfl, ⟨by omega, by omega, ?_⟩, by dsimp only; omega⟩
      rw [hm1, hsn, List.map_append, List.map_singleton, ixE1_at e2]
      show HL.Holds [own 94 3 r2 (List.flatMap eE _), ro H1] H3
      rw [List.flatMap_append]
      exact h3
    · rw [if_neg (by rw [v]; decide)] at hsn
      refine ⟨rfl, ⟨by omega, by omega, ?_⟩, by dsimp only; omega⟩
      rw [hm1, hsn]; exact h2
  · have w := of_decide_eq_false w
    have e : bs.take m.toNat = bs := List.take_of_length_le (by omega)
    rw [e] at h2
    exact k out H2 (s1.trans s2) (ro_open (h.up s1) h2)
theorem rread5_spec {t r i j : Nat} {size base z off most : Int} {bs : List Ba} (h : HL.Holds cs H) (ei : cs[i]? = some (rsg t r base)) (ej : cs[j]? = some (rdsk r size (F1 (fB bs) z))) (hs : SegOk base bs)
    (k : ∀ (r : Sl) H', HL.Sub H H' → Bts H' r (readB base off most bs) → K (.slice r.p r.n r.c) H') : FnH Tryz.prog 28 #[.pointer (some ⟨t, 0, none⟩), .int .i64 off, .int .i64 most] H K := by
  apply logboomref5_Segment_Read_fn
  unfold logboomref5_Segment_Read_vc
  have hsl := hs.len
  have hzl := hs.lenB
  refine rall0_spec h ei ej hs fun s H1 s1 h1 hO => ⟨s, _, rfl, _, (h.up s1).cell i ei rfl, ?_⟩
  have hn := hO.len
  have nilB : ∀ {H' : Heap}, Bts H' ⟨none, 0, 0⟩ [] := fun {H'} => btl_bts (H := H') (by
    have := (btl_nil (Holds.whole H')).read 0 rfl btl_mono
    exact this) (by intro b hb; simp at hb) (by simp)
  refine br_intro (fun w => ?_) (fun w => ?_)
  · have w := of_decide_eq_true w
    unfold readB at k
    rw [if_pos w] at k
    exact k ⟨none, 0, 0⟩ H1 s1 nilB
  have w := of_decide_eq_false w
  unfold readB at k
  rw [if_neg w] at k
  refine ⟨fun out sum m H' => 0 ≤ m ∧ m ≤ s.n ∧ 0 ≤ sum ∧ sum ≤ (lenB (bs.take m.toNat) : Nat) ∧ ∃ ps : List (Ba × Sl), ps.length ≤ m.toNat ∧ (∀ p ∈ ps, Recs eR H1 p.2 p.1.recs) ∧ takeB most 0 false (bs.dropWhile fun b => decide (endB b ≤ off)) = ps.map Prod.fst ++ takeB most sum (decide (ps ≠ [])) ((bs.drop m.toNat).dropWhile fun b => decide (endB b ≤ off)) ∧ HL.Holds [own 40 6 out (ps.flatMap eBt), ro H1] H',
    fun _ _ m _ => (s.n - m).toNat, ⟨Int.le_refl _, by omega, Int.le_refl _, by omega, [], by simp, by simp, by simp, (Holds.whole H1).own_nil 40 6⟩, ?_⟩
  rintro out sum m H2 ⟨m0, m1, a0, a1, ps, hpl, hpr, hres, h2⟩
  have s2 := h2.sub 1 rfl
  have hO2 := Ons.mono _ _ s2 hO
  have hrc : Recs eBt H2 out ps := Own.recs eBtlen (by decide) (h2.own 0 rfl) (by omega)
  have hol := hrc.len
  have done : takeB most 0 false (bs.dropWhile fun b => decide (endB b ≤ off)) = ps.map Prod.fst → K (.slice out.p out.n out.c) H2 := fun e => by
    rw [e] at k
    exact k out H2 (s1.trans s2) ⟨ps, rfl, hrc, fun p hp => Recs.mono _ _ s2 (hpr p hp)⟩
  refine br_intro (fun u => ?_) (fun u => ?_)
  · have u := of_decide_eq_true u
    obtain ⟨q, o, b, sl, e1, e2, e3, e4⟩ := hO2.at_ m0 u
    obtain ⟨q', o', b', sl', f1, f2, f3, f4⟩ := hO.at_ m0 u
    have hsl' : sl' = sl ∧ b' = b := by
      have hb : b' = b := by rw [f2] at e2; exact Option.some.inj e2
      rw [f1] at e1
      cases e1
      have g1 := s2.cell (f4 5 (.slice sl'.p sl'.n sl'.c) rfl)
      have g2 := e4 5 (.slice sl.p sl.n sl.c) rfl
      rw [g1] at g2
      cases sl; cases sl'
      simp only [Option.some.injEq, Value.slice.injEq] at g2
      exact ⟨by simp [g2], hb⟩
    obtain ⟨rfl, rfl⟩ := hsl'
    have hml : m.toNat < bs.length := by omega
    have hts := take_succ_len e2
    have hok1 := hs.chain.all b' (List.mem_of_getElem? e2)
    have hk := right_facts hok1
    have hfl := hk.flen
    have hbb := hk.base
    have hfew := hk.few
    have hle := lenB_take_mono bs (i := m.toNat + 1) (j := bs.length) (by omega)
    rw [List.take_length, hts] at hle
    have hsn := e3.len
    have hm1 : (m + 1).toNat = m.toNat + 1 := by omega
    have hend : b'.base + ((sl'.n : Nat) : Int) = endB b' := by unfold endB; rw [hsn]
    have hdrop : bs.drop m.toNat = b' :: bs.drop (m.toNat + 1) := by
      rw [List.drop_eq_getElem_cons hml]
      have := List.getElem?_eq_getElem hml
      rw [e2] at this
      rw [Option.some.inj this]
    rw [wrap64_id (n := m + 1) (by omega) (by omega)]
    refine ⟨q, o, e1, m0, u, b'.base, e4 0 _ rfl, b'.epoch, e4 1 _ rfl, b'.pid, e4 2 _ rfl, b'.pe, e4 3 _ rfl, b'.seq, e4 4 _ rfl, sl', e4 5 _ rfl, rend_spec (by omega) (by omega) ⟨_, rfl, ?_⟩⟩
    rw [hend]
    refine br_intro (fun v => ?_) (fun v => ?_)
    · have v := of_decide_eq_true v
      refine ⟨rfl, ⟨by omega, by omega, a0, by rw [hm1, hts]; omega, ps, by omega, hpr, ?_, h2⟩, by dsimp only; omega⟩
      rw [hres, hdrop, List.dropWhile_cons, if_pos (decide_eq_true v), hm1]
    · have v := of_decide_eq_false v
      have hdw : (bs.drop m.toNat).dropWhile (fun b => decide (endB b ≤ off)) = b' :: bs.drop (m.toNat + 1) := by
        rw [hdrop, List.dropWhile_cons, if_neg (by rw [decide_eq_false v]; decide)]
      have hrs := rest_same (off := off) hs.chain e2 (by omega)
      refine ⟨q, o, e1, m0, u, ((lenB (bs.take m.toNat) + flen b' : Nat) : Int), e4 7 _ rfl, q, o, e1, m0, u, ((lenB (bs.take m.toNat) : Nat) : Int), e4 6 _ rfl, ?_⟩
      have ew : IntKind.wrap .i64 (IntKind.wrap .i64 (sum + ((lenB (bs.take m.toNat) + flen b' : Nat) : Int)) - ((lenB (bs.take m.toNat) : Nat) : Int)) = sum + (flen b' : Nat) := by
        rw [wrap64_id (n := sum + ((lenB (bs.take m.toNat) + flen b' : Nat) : Int)) (by omega) (by omega), wrap64_id (by omega) (by omega)]
        omega
      rw [ew]
      have go : ¬ (decide (ps ≠ []) = true ∧ sum + (flen b' : Nat) > most) → ∀ (l4 : Sl) (H5 : Heap), HL.Holds [own 40 6 l4 (ps.flatMap eBt ++ eBt (b', sl')), ro H1] H5 → 0 ≤ m + 1 ∧ m + 1 ≤ s.n ∧ 0 ≤ sum + (flen b' : Nat) ∧ sum + (flen b' : Nat) ≤ (lenB (bs.take (m + 1).toNat) : Nat) ∧ ∃ ps : List (Ba × Sl), ps.length ≤ (m + 1).toNat ∧ (∀ p ∈ ps, Recs eR H1 p.2 p.1.recs) ∧ takeB most 0 false (bs.dropWhile fun b => decide (endB b ≤ off)) = ps.map Prod.fst ++ takeB most (sum + (flen b' : Nat)) (decide (ps ≠ [])) ((bs.drop (m + 1).toNat).dropWhile fun b => decide (endB b ≤ off)) ∧ HL.Holds [own 40 6 l4 (ps.flatMap eBt), ro H1] H5 := fun hgo l4 H5 h5 => by
        refine ⟨by omega, by omega, by omega, by rw [hm1, hts]; omega, ps ++ [(b', sl')], by rw [List.length_append, List.length_singleton]; omega, ?_, ?_, by rw [List.flatMap_append]; exact h5⟩
        · intro x hx
          rcases List.mem_append.1 hx with hx | hx
          · exact hpr x hx
          · rw [List.mem_singleton.1 hx]; exact f3
        · rw [hres, hdw, hm1, hrs]
          have : decide (ps ++ [(b', sl')] ≠ []) = true := by simp
          rw [this, takeB_go hgo]
          simp
      have hacc : ((out.n : Nat) : Int) > 0 ↔ ps ≠ [] := by
        rw [hol]
        cases ps with
        | nil => simp
        | cons a l => simp
      have ms : ((s.n : Int) - (m + 1)).toNat < ((s.n : Int) - m).toNat := by omega
      have push : ¬ (decide (ps ≠ []) = true ∧ sum + (flen b' : Nat) > most) → ∀ {Z : Sl → Heap → Prop}, (∀ l4 H5, (0 ≤ m + 1 ∧ m + 1 ≤ s.n ∧ 0 ≤ sum + (flen b' : Nat) ∧ sum + (flen b' : Nat) ≤ (lenB (bs.take (m + 1).toNat) : Nat) ∧ ∃ ps : List (Ba × Sl), ps.length ≤ (m + 1).toNat ∧ (∀ p ∈ ps, Recs eR H1 p.2 p.1.recs) ∧ takeB most 0 false (bs.dropWhile fun b => decide (endB b ≤ off)) = ps.map Prod.fst ++ takeB most (sum + (flen b' : Nat)) (decide (ps ≠ [])) ((bs.drop (m + 1).toNat).dropWhile fun b => decide (endB b ≤ off)) ∧ HL.Holds [own 40 6 l4 (ps.flatMap eBt), ro H1] H5) → Z l4 H5) →
          ∀ q5 : Nat, H2 q5 = none → letH (Heap.upd H2 q5 (.cells #[.int .i64 b'.base, .int .i64 b'.epoch, .int .i64 b'.pid, .int .i64 b'.pe, .int .i64 b'.seq, .slice sl'.p sl'.n sl'.c] 40 (0, 0))) fun H4 => runH Tryz.prog (Builtin.append_ #[52, 52] 52 #[.slice out.p out.n out.c, .slice (some ⟨q5, 0, none⟩) 1 1]) H4 fun r3 H5 => ∃ l4 : Sl, r3 = .slice l4.p l4.n l4.c ∧ Z l4 H5 := fun hgo {Z} hZ =>
        Holds.push okBt h2 (xs := eBt (b', sl')) (m := 1) rfl rfl (by omega) fun l4 H5 h5 n5 => ⟨l4, rfl, hZ l4 H5 (go hgo l4 H5 h5)⟩
      refine br_intro (fun y => br_intro (fun y2 => done ?_) (fun y2 => ⟨q, o, e1, m0, u, b'.base, e4 0 _ rfl, b'.epoch, e4 1 _ rfl, b'.pid, e4 2 _ rfl, b'.pe, e4 3 _ rfl, b'.seq, e4 4 _ rfl, sl', e4 5 _ rfl, push (fun z => of_decide_eq_false y2 z.2) fun l4 H5 h => ⟨rfl, h, ms⟩⟩)) (fun y => ⟨q, o, e1, m0, u, b'.base, e4 0 _ rfl, b'.epoch, e4 1 _ rfl, b'.pid, e4 2 _ rfl, b'.pe, e4 3 _ rfl, b'.seq, e4 4 _ rfl, sl', e4 5 _ rfl, push (fun z => of_decide_eq_false y (hacc.2 (of_decide_eq_true z.1))) fun l4 H5 h => ⟨rfl, h, ms⟩⟩)
      rw [hres, hdw, takeB_stop ⟨decide_eq_true (hacc.1 (of_decide_eq_true y)), of_decide_eq_true y2⟩, List.append_nil]
  · have u := of_decide_eq_false u
    have e : bs.drop m.toNat = [] := List.drop_eq_nil_of_le (by omega)
    rw [e] at hres
    exact done (by rw [hres]; simp [takeB])
end
end Go.Proofs.YtokceblmbmajgaaGreatDoor

/- Chapter 5: the document's segment: Cut, Append, Open. -/
namespace Go.Proofs.YtokceblmbmajgaaGreatDoor
open Go Go.HL
set_option maxHeartbeats 3200000
set_option maxRecDepth 100000

theorem cutB_take (off : Int) (bs : List Ba) : cutB off bs = bs.take (cutB off bs).length := takeWhile_len _ bs
section
variable {cs : List Chunk} {H : Heap} {K : Value → Heap → Prop}
theorem rcut5_spec {t r : Nat} {size base z off : Int} {bs : List Ba} (h : HL.Holds (rsg t r base :: rdsk r size (F1 (fB bs) z) :: cs) H) (hs : SegOk base bs) (k0 : off < base → ∀ H', HL.Holds (rsg t r base :: rdsk r size (F1 (fB bs) z) :: cs) H' → K (.int .i64 1) H')
    (k : ¬ off < base → ∀ H', HL.Holds (rsg t r base :: rdsk r size (F1 (fB (cutB off bs)) (if ((lenB (cutB off bs) : Nat) : Int) < z then (lenB (cutB off bs) : Nat) else z)) :: cs) H' → K (.int .i64 0) H') : FnH Tryz.prog 26 #[.pointer (some ⟨t, 0, none⟩), .int .i64 off] H K := by
  apply logboomref5_Segment_Cut_fn
  unfold logboomref5_Segment_Cut_vc
  have hsl := hs.len
  refine ⟨_, h.cell 0 rfl rfl, br_intro (fun w => k0 (of_decide_eq_true w) H h) (fun w => ?_)⟩
  have k := k (of_decide_eq_false w)
  clear k0 w
  refine rall0_spec (i := 0) (j := 1) h rfl rfl hs fun s H1 s1 h1 hO => ⟨s, _, rfl, ?_⟩
  have hn := hO.len
  have hh := h1.tail
  have hcn := cutN_eq (off := off) hs.chain
  have hcl : (cutB off bs).length ≤ bs.length := by rw [hcn]; exact cnt_le _ _
  have fin : ∀ {n : Nat}, (cutB off bs).length = n → FnH Tryz.prog 54 #[.pointer (some ⟨r, 0, none⟩), .string nS, .int .i64 (lenB (bs.take n) : Nat)] H1 fun r3 H4 => ∃ n10 : Int, r3 = .int .i64 n10 ∧ K (.int .i64 0) H4 := fun {n} e => by
    subst e
    rw [← cutB_take]
    refine rcut_spec (hh.pull 1 rfl) fun H4 h4 => ⟨_, rfl, k H4 ?_⟩
    have hle : lenB (cutB off bs) ≤ lenB bs := by
      have := lenB_take_mono bs (i := (cutB off bs).length) (j := bs.length) hcl
      rw [List.take_length, ← cutB_take] at this; exact this
    have hfb : (fB bs).extract 0 (lenB (cutB off bs)) = fB (cutB off bs) := by
      have e : bs = cutB off bs ++ bs.drop (cutB off bs).length := by
        have := List.take_append_drop (cutB off bs).length bs
        rw [← cutB_take] at this; exact this.symm
      have e2 := congrArg (fun l => List.flatMap frameB l) e
      simp only [List.flatMap_append] at e2
      show (strN (bs.flatMap frameB)).extract 0 _ = _
      rw [e2]
      exact ext_mid (p := []) (by simp) (frames_b _) (frames_b _) rfl (by simp [lenB])
    rw [cut1 (by omega) (by rw [fB_size]; omega), Int.toNat_natCast, hfb] at h4
    exact h4.down 1
  refine ⟨fun n i H' => H' = H1 ∧ -1 ≤ i ∧ i < s.n ∧ n = (lenB (bs.take (i + 1).toNat) : Nat) ∧ (cutB off bs).length ≤ (i + 1).toNat, fun _ i _ => (i + 1).toNat, ⟨rfl, ?_, ?_, ?_, ?_⟩, ?_⟩
  · rw [wrap64_id (by omega) (by omega)]; omega
  · rw [wrap64_id (by omega) (by omega)]; omega
  · rw [wrap64_id (by omega) (by omega), List.take_of_length_le (by omega)]
  · rw [wrap64_id (by omega) (by omega)]; omega
  rintro n i H1 ⟨rfl, i0, i1, rfl, hc⟩
  refine br_intro (fun w => ?_) (fun w => ?_)
  · have w := of_decide_eq_true w
    obtain ⟨q, o, b, sl, e1, e2, e3, e4⟩ := hO.at_ (j := i) (by omega) i1
    have hok1 := hs.chain.all b (List.mem_of_getElem? e2)
    have hk := right_facts hok1
    have hbb := hk.base
    have hfew := hk.few
    have hsn := e3.len
    have hend : b.base + ((sl.n : Nat) : Int) = endB b := by unfold endB; rw [hsn]
    have hi1 : (i + 1).toNat = i.toNat + 1 := by omega
    refine ⟨q, o, e1, by omega, i1, b.base, e4 0 _ rfl, b.epoch, e4 1 _ rfl, b.pid, e4 2 _ rfl, b.pe, e4 3 _ rfl, b.seq, e4 4 _ rfl, sl, e4 5 _ rfl, rend_spec (by omega) (by omega) ⟨_, rfl, ?_⟩⟩
    rw [hend]
    refine br_intro (fun v => ?_) (fun v => ?_)
    · have v := of_decide_eq_true v
      refine ⟨q, o, e1, by omega, i1, ((lenB (bs.take i.toNat) : Nat) : Int), e4 6 _ rfl, rfl, ?_, ?_⟩
      · rw [wrap64_id (by omega) (by omega)]
        refine ⟨rfl, by omega, by omega, by rw [show i - 1 + 1 = i by omega], ?_⟩
        rw [show i - 1 + 1 = i by omega]
        refine Decidable.byContradiction fun c => ?_
        have := cnt_lt (p := cutP off bs) (n := bs.length) (j := i.toNat) (by omega)
        rw [cutP_some e2] at this
        have := of_decide_eq_true this
        omega
      · rw [wrap64_id (by omega) (by omega)]; dsimp only; omega
    · have v := of_decide_eq_false v
      refine ⟨_, hh.cell 0 rfl rfl, _, hh.cell 0 rfl rfl, fin ?_⟩
      have : ¬ (cutB off bs).length ≤ i.toNat := fun c => by
        have := cutP_rise (off := off) hs.chain (j := i.toNat) (by omega) (by omega)
        rw [cutP_some e2] at this
        have := of_decide_eq_false this
        omega
      omega
  · have w := of_decide_eq_false w
    exact ⟨_, hh.cell 0 rfl rfl, _, hh.cell 0 rfl rfl, fin (by omega)⟩
theorem rappend5_spec {t r i : Nat} {size base z : Int} {bs : List Ba} {b : Ba} {s : Sl} {c0 : Chunk} (h : HL.Holds (rsg t r base :: rdsk r size (F1 (fB bs) z) :: cs) H) (hs : SegOk base bs) (g : Gives c0 fun A => Recs eR A s b.recs) (ei : cs[i]? = some c0) (hi : i64B b.base)
    (k : ∀ H', HL.Holds (rsg t r base :: rdsk r size (F1 (fB (appL size base bs b)) z) :: cs) H' → K (.int .i64 (appB size base bs b)) H') :
    FnH Tryz.prog 23 #[.pointer (some ⟨t, 0, none⟩), .agg #[.int .i64 b.base, .int .i64 b.epoch, .int .i64 b.pid, .int .i64 b.pe, .int .i64 b.seq, .slice s.p s.n s.c]] H K := by
  apply logboomref5_Segment_Append_fn
  unfold logboomref5_Segment_Append_vc
  have hzl := hs.lenB
  have hsl := hs.len
  have stay : ∀ {e : Int}, appB size base bs b = e → e ≠ 0 → ∀ {H'}, HL.Holds (rsg t r base :: rdsk r size (F1 (fB bs) z) :: cs) H' → K (.int .i64 e) H' := fun {e} h1 h2 H' h' => by
    unfold appL at k
    rw [h1, if_neg h2] at k
    exact k H' h'
  have hsn : s.n = b.recs.length := (g.at_ h (i + 2) ei).len
  refine batch3_spec h g (i := i + 2) ei hi fun H1 h1 => ⟨_, _, rfl, ?_⟩
  refine rall0_spec (i := 0) (j := 1) h1 rfl rfl hs fun l H2 s2 h2 hO => ⟨l, _, rfl, br_intro (fun w => ?_) (fun w => ?_)⟩
  · have w : rightB b ≠ 0 := by simpa using w
    exact stay (by unfold appB; rw [if_pos w]) w h2.tail
  have w : rightB b = 0 := by simpa using w
  have hk := right_facts w
  have hf := hk.flen
  have hn := hO.len
  rw [if_pos w]
  refine rnext_spec (i := 1) (j := 2) h2 rfl rfl hs fun H3 s3 => ⟨_, rfl, s3, ?_⟩
  have h3 := (h2.up s3).tail
  refine br_intro (fun w2 => ?_) (fun w2 => ?_)
  · have w2 : b.base ≠ nextB base bs := by simpa using w2
    exact stay (by unfold appB; rw [if_neg (fun z => z w), if_pos w2]) (by decide) h3
  have w2 : b.base = nextB base bs := by simpa using w2
  have hb0 := hk.base
  have hfew := hk.few
  refine rend_spec (by omega) (by omega) ⟨_, rfl, ?_⟩
  have hend : b.base + ((s.n : Nat) : Int) = endB b := by unfold endB; rw [hsn]
  rw [hend]
  refine br_intro (fun w3 => ?_) (fun w3 => ?_)
  · exact stay (by unfold appB; rw [if_neg (fun z => z w), if_neg (fun z => z w2), if_pos (of_decide_eq_true w3)]) (by decide) h3
  have w3 := of_decide_eq_false w3
  refine br_intro (fun w4 => ?_) (fun w4 => ?_)
  · have w4 := of_decide_eq_true w4
    exact stay (by unfold appB; rw [if_neg (fun z => z w), if_neg (fun z => z w2), if_neg w3, if_pos (by omega)]) (by decide) h3
  have w4 : ¬ bs.length ≥ 4096 := by have := of_decide_eq_false w4; omega
  refine ⟨_, h3.cell 0 rfl rfl, _, h3.cell 0 rfl rfl, ?_⟩
  have hsz : (strN (frameB b)).size = flen b := strN_size (frameB_b b)
  have hfs := fB_size bs
  obtain ⟨z0, z1, z2, z3⟩ := rdsk_safe (h3.pull 1 rfl)
  refine rappend_spec (h3.pull 1 rfl) fun H5 h5 => ⟨_, rfl, ?_⟩
  by_cases hfull : ((lenB bs + flen b : Nat) : Int) > size
  · obtain ⟨e1, t', e2⟩ := app1_full (size := size) (b := fB bs) (s := strN (frameB b)) (z := z) (by omega)
    rw [e2] at h5
    rw [e1]
    refine br_t rfl ⟨_, h5.cell 1 rfl rfl, _, h5.cell 1 rfl rfl, rcut_spec h5 fun H6 h6 => ⟨_, rfl, ?_⟩⟩
    rw [cut1 (by omega) (by rw [ByteArray.size_append, hfs]; omega), Int.toNat_natCast, fB_extract, if_neg (by omega)] at h6
    exact stay (by unfold appB; rw [if_neg (fun z => z w), if_neg (fun z => z w2), if_neg w3, if_neg w4, if_pos hfull]) (by decide) (h6.down 1)
  · obtain ⟨e1, e2⟩ := app1_ok (size := size) (b := fB bs) (s := strN (frameB b)) (z := z) (by omega)
    rw [e2, fB_snoc] at h5
    rw [e1]
    have e0 : appB size base bs b = 0 := by unfold appB; rw [if_neg (fun z => z w), if_neg (fun z => z w2), if_neg w3, if_neg w4, if_neg hfull]
    unfold appL at k
    rw [if_pos e0, e0] at k
    exact br_f rfl (k H5 (h5.down 1))
theorem ropen5_bad {d : Nat} {base : Int} (hb : base < 0 ∨ base > 1000000000) (k : K (.tuple #[.pointer none, .int .i64 0, .int .i64 1]) H) : FnH Tryz.prog 21 #[.pointer (some ⟨d, 0, none⟩), .string nS, .int .i64 base] H K := by
  apply logboomref5_Open_fn
  unfold logboomref5_Open_vc
  refine br_intro (fun _ => k) (fun w => br_intro (fun _ => k) (fun w2 => ?_))
  have w := of_decide_eq_false w
  have w2 := of_decide_eq_false w2
  omega
theorem ropen5_spec {d : Nat} {size base z : Int} {F : Fs} {bs : List Ba} {tail : List Nat} (h : HL.Holds (rdsk d size F :: cs) H) (hF : (F = [] ∧ bs = [] ∧ tail = []) ∨ F = F1 (strN (bs.flatMap frameB ++ tail)) z) (hs : SegOk base bs) (hst : Stops (nextB base bs) tail)
    (k : ∀ q H', HL.Holds (rsg q d base :: rdsk d size (F1 (fB bs) (lenB bs : Nat)) :: cs) H' → K (.tuple #[.pointer (some ⟨q, 0, none⟩), .int .i64 (tail.length : Nat), .int .i64 0]) H') : FnH Tryz.prog 21 #[.pointer (some ⟨d, 0, none⟩), .string nS, .int .i64 base] H K := by
  apply logboomref5_Open_fn
  unfold logboomref5_Open_vc
  have hb0 := hs.b0
  have hb1 := hs.b1
  have hsl := hs.len
  have hzl := hs.lenB
  have htb := hst.bytes
  refine br_f (decide_eq_false (by omega)) (br_f (decide_eq_false (by omega)) (rappend_spec (n := nS) h fun H1 h1 => ⟨_, rfl, ?_⟩))
  obtain ⟨z', ea, h1⟩ : ∃ z', appC size F nS ⟨#[]⟩ = 0 ∧ HL.Holds (rdsk d size (F1 (strN (bs.flatMap frameB ++ tail)) z') :: cs) H1 := by
    obtain ⟨s, hB, -⟩ := rdsk_open.1 h
    rcases hF with ⟨rfl, rfl, rfl⟩ | rfl
    · have := hB.s0
      obtain ⟨e1, e2⟩ := app1_nil (size := size) (by omega)
      rw [e2] at h1
      exact ⟨0, e1, h1⟩
    · have := hB.use
      rw [use1] at this
      obtain ⟨e1, e2⟩ := app1_ok (size := size) (b := strN (bs.flatMap frameB ++ tail)) (s := ⟨#[]⟩) (z := z) (by show _ + ((0 : Nat) : Int) ≤ _; omega)
      have e3 : strN (bs.flatMap frameB ++ tail) ++ (⟨#[]⟩ : ByteArray) = strN (bs.flatMap frameB ++ tail) := ByteArray.append_empty
      rw [e2, e3] at h1
      exact ⟨z, e1, h1⟩
  rw [ea]
  clear ea
  have hts : (strN (bs.flatMap frameB ++ tail)).size = lenB bs + tail.length := app_size (frames_b bs) htb
  obtain ⟨z0, z1, z2, z3⟩ := rdsk_safe h1
  have htot : lenB bs + tail.length ≤ 16777216 := by rw [← hts]; omega
  refine br_f rfl (h1.new fun q H2 h2 => ?_)
  have h2 : HL.Holds (rsg q d base :: rdsk d size (F1 (strN (bs.flatMap frameB ++ tail)) z') :: cs) H2 := h2
  refine rall_spec (i := 0) (j := 1) h2 rfl rfl hs hst htot fun l H3 s3 h3 => ⟨l, _, rfl, ?_⟩
  have h3 := h3.tail
  refine rsize_spec (j := 1) h3 rfl ⟨_, rfl, ?_⟩
  rw [get1]
  dsimp only
  refine rcut_spec (h3.pull 1 rfl) fun H11 h11 => ⟨_, rfl, ?_⟩
  have hex : (strN (bs.flatMap frameB ++ tail)).extract 0 (lenB bs) = fB bs := ext_mid (p := []) (by simp) (frames_b bs) htb rfl (by simp [lenB])
  rw [cut1 (by omega) (by omega), Int.toNat_natCast, hex] at h11
  refine rsync_spec h11 fun H12 h12 => ⟨_, rfl, ?_⟩
  rw [syn1, fB_size] at h12
  rw [wrap64_id (by omega) (by omega)]
  have e : ((strN (bs.flatMap frameB ++ tail)).size : Int) - (lenB bs : Nat) = (tail.length : Nat) := by omega
  rw [e]
  exact k q H12 (h12.down 1)
end
end Go.Proofs.YtokceblmbmajgaaGreatDoor
