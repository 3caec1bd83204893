/- Chapter 8: the document's numbers as bytes (logboomref3). -/
import Derived.Test.YtkabaoigablphaaW6
import Derived.Test.YtkabaoigablphaaV6
namespace Go.Proofs.Ytkabaoigablphaa
open Go Go.HL
set_option maxRecDepth 10000
set_option maxHeartbeats 1600000

def fourN (c : Nat) : List Nat := [c / 16777216 % 256, c / 65536 % 256, c / 256 % 256, c % 256]
theorem sumN_four (l : List Nat) : sumN l = fourN (crcN l) := rfl
theorem fourN_bytes (c : Nat) : ∀ b ∈ fourN c, b < 256 := by
  intro b hb
  simp only [fourN, List.mem_cons, List.not_mem_nil, or_false] at hb
  omega
theorem tdiv_n (c k : Nat) : Int.tdiv (c : Int) (k : Int) = ((c / k : Nat) : Int) := by
  rw [Int.tdiv_eq_ediv_of_nonneg (Int.natCast_nonneg c)]; rfl
theorem tmod_n (c k : Nat) : Int.tmod (c : Int) (k : Int) = ((c % k : Nat) : Int) := by
  rw [Int.tmod_eq_emod_of_nonneg (Int.natCast_nonneg c)]; rfl
section
variable {cs : List Chunk} {H : Heap} {K : Value → Heap → Prop}
theorem four_spec {c : Nat} (hc : c < 4294967296) (k : ∀ H', HL.Sub H H' → K (.string (strN (fourN c))) H') : FnH Try.prog 17 #[.int .i64 (c : Int)] H K := by
  apply logboomref3_Four_fn
  unfold logboomref3_Four_vc
  refine ⟨by decide, by decide, by decide, by decide, by decide, by decide, ?_⟩
  have a1 : Int.tdiv (c : Int) 16777216 = ((c / 16777216 : Nat) : Int) := tdiv_n c 16777216
  have a2 : Int.tdiv (c : Int) 65536 = ((c / 65536 : Nat) : Int) := tdiv_n c 65536
  have a3 : Int.tdiv (c : Int) 256 = ((c / 256 : Nat) : Int) := tdiv_n c 256
  have a4 : Int.tmod (c : Int) 256 = ((c % 256 : Nat) : Int) := tmod_n c 256
  rw [a1, a2, a3, a4, wrap64_id (n := ((c / 16777216 : Nat) : Int)) (by omega) (by omega), wrap64_id (n := ((c / 65536 : Nat) : Int)) (by omega) (by omega), wrap64_id (n := ((c / 256 : Nat) : Int)) (by omega) (by omega)]
  have b2 : Int.tmod ((c / 65536 : Nat) : Int) 256 = ((c / 65536 % 256 : Nat) : Int) := tmod_n _ 256
  have b3 : Int.tmod ((c / 256 : Nat) : Int) 256 = ((c / 256 % 256 : Nat) : Int) := tmod_n _ 256
  rw [b2, b3]
  have w : ∀ n : Nat, IntKind.wrap .u8 (n : Int) = ((n % 256 : Nat) : Int) := fun n => by rw [wrap_u8]; omega
  rw [w, w, w, w]
  refine (Holds.whole H).newS fun q H1 s1 h1 => ?_
  have ho : Own H1 5 1 ⟨some ⟨q, 0, none⟩, 4, 4⟩ (byV (fourN c)) := ⟨rfl, Nat.le_refl _, .inr ⟨q, _, rfl, h1.get 0 rfl, rfl, ?_⟩⟩
  · exact toStr (r := ⟨some ⟨q, 0, none⟩, 4, 4⟩) ho (fourN_bytes c) ⟨_, rfl, k H1 s1⟩
  · intro i hi
    have z : i = 0 ∨ i = 1 ∨ i = 2 ∨ i = 3 := by simp [fourN] at hi; omega
    rcases z with rfl | rfl | rfl | rfl
    · rfl
    · show some (Value.int .u8 _) = some (Value.int .u8 _); congr 2; omega
    · show some (Value.int .u8 _) = some (Value.int .u8 _); congr 2; omega
    · show some (Value.int .u8 _) = some (Value.int .u8 _); congr 2; omega
theorem rcrc_spec {b : ByteArray} (hb : b.size ≤ 9223372036854775806) (k : K (.int .i64 (crcN (nb b))) H) : FnH Try.prog 18 #[.string b] H K := by
  apply logboomref3_Crc_fn
  unfold logboomref3_Crc_vc
  refine ⟨fun c n H1 => H1 = H ∧ 0 ≤ n ∧ n ≤ b.size ∧ c = (((nb b).take n.toNat).foldl byteC 4294967295 : Nat), fun _ n _ => (b.size - n).toNat, ⟨rfl, Int.le_refl _, by omega, rfl⟩, ?_⟩
  rintro _ n H1 ⟨rfl, n0, n1, rfl⟩
  have hlt : ((nb b).take n.toNat).foldl byteC 4294967295 < 4294967296 := foldC_lt (fun x hx => nb_byte b x (List.mem_of_mem_take hx)) (by decide)
  refine br_intro (fun q => ?_) (fun q => ?_)
  · have q := of_decide_eq_true q
    obtain ⟨c, e1, e2, e3⟩ := nb_get (s := b) (i := n.toNat) (by omega)
    have et := foldl_take e2 4294967295
    generalize ((nb b).take n.toNat).foldl byteC 4294967295 = cc at *
    have ew : IntKind.wrap .u32 ((c.toNat : Nat) : Int) = ((c.toNat : Nat) : Int) := by rw [wrap_u32]; omega
    have hx : cc ^^^ c.toNat < 4294967296 := Nat.xor_lt_two_pow (n := 32) (by omega) (by omega)
    refine ⟨n0, c, e1, ?_⟩
    rw [ew, xor_u32 hlt (by omega)]
    refine ⟨fun c2 m H2 => H2 = H1 ∧ 0 ≤ m ∧ m ≤ 8 ∧ c2 = (bitsC m.toNat (cc ^^^ c.toNat) : Nat), fun _ m _ => (8 - m).toNat, ⟨rfl, Int.le_refl _, by decide, rfl⟩, ?_⟩
    rintro _ m H2 ⟨rfl, m0, m1, rfl⟩
    refine br_intro (fun v => ⟨by decide, by decide, ?_⟩) (fun v => ?_)
    · have v := of_decide_eq_true v
      have hc2 := bitsC_lt m.toNat hx
      have es := bitsC_snoc m.toNat (cc ^^^ c.toNat)
      generalize bitsC m.toNat (cc ^^^ c.toNat) = y at *
      have em : (m + 1).toNat = m.toNat + 1 := by omega
      have t1 : Int.tmod (y : Int) 2 = ((y % 2 : Nat) : Int) := tmod_n y 2
      have t2 : IntKind.wrap .u32 (Int.tdiv (y : Int) 2) = ((y / 2 : Nat) : Int) := by
        have : Int.tdiv (y : Int) 2 = ((y / 2 : Nat) : Int) := tdiv_n y 2
        rw [this, wrap_u32]; omega
      have t3 : xorI .u32 ((y / 2 : Nat) : Int) 2197175160 = (((y / 2) ^^^ 2197175160 : Nat) : Int) := xor_u32 (a := y / 2) (b := 2197175160) (by omega) (by decide)
      rw [t1, t2, wrap64_id (n := m + 1) (by omega) (by omega), t3]
      refine br_intro (fun w => ?_) (fun w => ?_)
      · have w : y % 2 = 1 := by have w : ((y % 2 : Nat) : Int) = 1 := by simpa using w
                                 omega
        exact ⟨rfl, ⟨rfl, by omega, by omega, by rw [em, es]; unfold bitC; rw [if_pos w]⟩, by dsimp only; omega⟩
      · have w : ¬ y % 2 = 1 := fun z => by rw [z] at w; simp at w
        exact ⟨rfl, ⟨rfl, by omega, by omega, by rw [em, es]; unfold bitC; rw [if_neg w]⟩, by dsimp only; omega⟩
    · have v := of_decide_eq_false v
      have em : m.toNat = 8 := by omega
      rw [em, wrap64_id (n := n + 1) (by omega) (by omega)]
      have en : (n + 1).toNat = n.toNat + 1 := by omega
      exact ⟨rfl, ⟨rfl, by omega, by omega, by rw [en, et]; rfl⟩, by dsimp only; omega⟩
  · have q := of_decide_eq_false q
    have e : (nb b).take n.toNat = nb b := List.take_of_length_le (by rw [nb_len]; omega)
    rw [e] at hlt ⊢
    have hc : crcN (nb b) < 4294967296 := Nat.xor_lt_two_pow (n := 32) (by omega) (by decide)
    have e2 : xorI .u32 (((nb b).foldl byteC 4294967295 : Nat) : Int) 4294967295 = ((crcN (nb b) : Nat) : Int) := xor_u32 (a := (nb b).foldl byteC 4294967295) (b := 4294967295) hlt (by decide)
    rw [e2, wrap64_id (by omega) (by omega)]; exact k
/-- The document's loop that writes a number. -/
theorem sevens_loop {z0 : Nat} {n : Int} (hz : z0 = zigN n) (hn : i64B n) (k : ∀ H', HL.Sub H H' → K (.string (strN (encN n))) H') :
    ∃ I1 : Int → Sl → Heap → Prop, ∃ M1 : Int → Sl → Heap → Nat, I1 (z0 : Int) ⟨none, 0, 0⟩ H ∧ ∀ (z_1 : Int) (b_1 : Sl) (H1 : Heap), I1 z_1 b_1 H1 →
      br (decide (z_1 ≥ 128)) ((128 : Int) ≠ 0 ∧ ∀ q1 : Nat, H1 q1 = none → letH (Heap.upd H1 q1 (.cells #[.int .u8 (IntKind.wrap .u8 (IntKind.wrap .u64 ((Int.tmod z_1 128) + 128)))] 5 (0, 0))) fun H2 =>
        runH Try.prog (Builtin.append_ #[68, 68] 68 #[.slice b_1.p b_1.n b_1.c, .slice (some ⟨q1, 0, none⟩) 1 1]) H2 fun r1 H3 => ∃ l1 : Sl, r1 = .slice l1.p l1.n l1.c ∧ (128 : Int) ≠ 0 ∧ SelfEq ([], [], []) ∧ I1 (IntKind.wrap .u64 (Int.tdiv z_1 128)) l1 H3 ∧ M1 (IntKind.wrap .u64 (Int.tdiv z_1 128)) l1 H3 < M1 z_1 b_1 H1)
       (∀ q2 : Nat, H1 q2 = none → letH (Heap.upd H1 q2 (.cells #[.int .u8 (IntKind.wrap .u8 z_1)] 5 (0, 0))) fun H4 =>
        runH Try.prog (Builtin.append_ #[68, 68] 68 #[.slice b_1.p b_1.n b_1.c, .slice (some ⟨q2, 0, none⟩) 1 1]) H4 fun r2 H5 => ∃ l2 : Sl, r2 = .slice l2.p l2.n l2.c ∧ runH Try.prog (convert 68 9 (.slice l2.p l2.n l2.c)) H5 fun r3 H6 => ∃ s1 : ByteArray, r3 = .string s1 ∧ K (.string s1) H6) := by
  have hz64 : z0 < 18446744073709551616 := by rw [hz]; exact zig_lt hn.1 hn.2
  refine ⟨fun z b H1 => ∃ (y j : Nat) (m : List Nat), z = y ∧ 0 < j ∧ j ≤ 10 ∧ y < 128 ^ j ∧ y < 18446744073709551616 ∧ m ++ encD j y = encN n ∧ (∀ x ∈ m, x < 256) ∧ Holds [ownY b m, ro H] H1, fun z _ _ => z.toNat,
    ⟨z0, 10, [], rfl, by decide, by decide, by omega, hz64, by rw [hz]; rfl, by simp, (Holds.whole H).own_nil 5 1⟩, ?_⟩
  rintro _ b H1 ⟨y, j, m, rfl, j0, j1, y1, y2, em, hm, h1⟩
  obtain ⟨i, rfl⟩ : ∃ i, j = i + 1 := ⟨j - 1, by omega⟩
  have hbn := (h1.own 0 rfl).1
  simp only [List.length_map, Nat.mul_one] at hbn
  have hml : m.length ≤ 10 := by
    have := congrArg List.length em
    have h2 := encN_len n
    rw [List.length_append] at this; omega
  have w : ∀ n : Nat, IntKind.wrap .u8 (n : Int) = ((n % 256 : Nat) : Int) := fun n => by rw [wrap_u8]; omega
  have push : ∀ (x : Nat) (X : Value → Heap → Prop), (∀ (r : Sl) H3, Holds [ownY r (m ++ [x]), ro H] H3 → X (.slice r.p r.n r.c) H3) → ∀ q, H1 q = none → letH (Heap.upd H1 q (.cells #[.int .u8 ((x : Nat) : Int)] 5 (0, 0))) fun H2 => runH Try.prog (Builtin.append_ #[68, 68] 68 #[.slice b.p b.n b.c, .slice (some ⟨q, 0, none⟩) 1 1]) H2 X := fun x X kX =>
    Holds.push ok68 h1 (xs := [.int .u8 ((x : Nat) : Int)]) (m := 1) rfl rfl (by omega) fun r H3 h3 _ => kX r H3 (by
      have e : byV (m ++ [x]) = byV m ++ [.int .u8 ((x : Nat) : Int)] := by simp
      show Holds [own 5 1 r (byV (m ++ [x])), _] H3
      rw [e]; exact h3)
  refine br_intro (fun q => ⟨by decide, ?_⟩) (fun q => ?_)
  · have q : y ≥ 128 := by have := of_decide_eq_true q; omega
    have t1 : Int.tmod (y : Int) 128 = ((y % 128 : Nat) : Int) := tmod_n y 128
    have t2 : Int.tdiv (y : Int) 128 = ((y / 128 : Nat) : Int) := tdiv_n y 128
    have t3 : IntKind.wrap .u8 (IntKind.wrap .u64 (((y % 128 : Nat) : Int) + 128)) = ((y % 128 + 128 : Nat) : Int) := by rw [wrap_u64', wrap_u8]; omega
    have t4 : IntKind.wrap .u64 ((y / 128 : Nat) : Int) = ((y / 128 : Nat) : Int) := by rw [wrap_u64']; omega
    rw [t1, t2, t3, t4]
    have ed : encD (i + 1) y = (y % 128 + 128) :: encD i (y / 128) := by
      show (if y ≥ 128 then _ else _) = _
      rw [if_pos q]
    have i0 : 0 < i := Nat.pos_of_ne_zero fun e => by
      subst e
      simp at y1; omega
    refine push _ _ fun r H3 h3 => ⟨r, rfl, by decide, rfl, ⟨y / 128, i, m ++ [y % 128 + 128], rfl, i0, by omega, ?_, by omega, ?_, fun x hx => ?_, h3⟩, by dsimp only; omega⟩
    · rw [Nat.pow_succ] at y1; omega
    · rw [← em, ed]; simp
    · rcases List.mem_append.1 hx with z | z
      · exact hm x z
      · simp only [List.mem_singleton] at z; rw [z]; omega
  · have q : ¬ y ≥ 128 := by have := of_decide_eq_false q; omega
    have ed : encD (i + 1) y = [y] := by
      show (if y ≥ 128 then _ else _) = _
      rw [if_neg q]
    have t5 : IntKind.wrap .u8 (y : Int) = ((y : Nat) : Int) := by rw [wrap_u8]; omega
    rw [t5]
    refine push _ _ fun r H3 h3 => ⟨r, rfl, ?_⟩
    rw [← ed, em] at h3
    exact toStr (h3.own 0 rfl) (encN_bytes n) ⟨_, rfl, k H3 (h3.sub 1 rfl)⟩
theorem rint3_spec {n : Int} (hn : i64B n) (k : ∀ H', HL.Sub H H' → K (.string (strN (encN n))) H') : FnH Try.prog 44 #[.int .i64 n] H K := by
  apply logboomref3_Int_fn
  unfold logboomref3_Int_vc
  obtain ⟨n0, n1⟩ := hn
  have hz := zig_lt n0 n1
  refine br_intro (fun q => ?_) (fun q => ?_)
  · have q := of_decide_eq_true q
    have e : IntKind.wrap .u64 ((IntKind.wrap .u64 (2 * (IntKind.wrap .u64 (IntKind.wrap .i64 (0 - (IntKind.wrap .i64 (n + 1))))))) + 1) = ((zigN n : Nat) : Int) := by
      rw [wrap64_id (n := n + 1) (by omega) (by omega), wrap64_id (n := 0 - (n + 1)) (by omega) (by omega), wrap_u64', wrap_u64', wrap_u64']
      unfold zigN
      rw [if_pos q]; omega
    rw [e]
    exact sevens_loop rfl ⟨n0, n1⟩ k
  · have q := of_decide_eq_false q
    have e : IntKind.wrap .u64 (2 * (IntKind.wrap .u64 n)) = ((zigN n : Nat) : Int) := by
      rw [wrap_u64', wrap_u64']
      unfold zigN
      rw [if_neg q]; omega
    rw [e]
    exact sevens_loop rfl ⟨n0, n1⟩ k
end
end Go.Proofs.Ytkabaoigablphaa
