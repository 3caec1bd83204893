/- Texts of this seat, one behind the other: R1 R2 R3 R4 R5 R6 R7 R8 R9. -/
import Derived.Test.YtkabaoigablphaaWA
import Derived.Test.YtkabaoigablphaaV6
import Derived.Test.YtkabaoigablphaaV7
import Derived.Test.YtkabaoigablphaaSb

/- Chapter 8: the document's numbers as bytes (logboomref3). -/
namespace Go.Proofs.Ytkabaoigablphaa
open Go Go.HL
set_option maxRecDepth 10000
set_option maxHeartbeats 1600000

def fourN (c : Nat) : List Nat := [c / 16777216 % 256, c / 65536 % 256, c / 256 % 256, c % 256]
theorem sumN_four (l : List Nat) : sumN l = fourN (crcN l) := rfl
theorem fourN_bytes (c : Nat) : ∀ b ∈ fourN c, b < 256 := by
  intro b hb
  simp only [fourN, List.mem_cons, List.not_mem_nil, or_false] at hb
  omega
theorem tdiv_n (c k : Nat) : Int.tdiv (c : Int) (k : Int) = ((c / k : Nat) : Int) := by
  rw [Int.tdiv_eq_ediv_of_nonneg (Int.natCast_nonneg c)]; rfl
theorem tmod_n (c k : Nat) : Int.tmod (c : Int) (k : Int) = ((c % k : Nat) : Int) := by
  rw [Int.tmod_eq_emod_of_nonneg (Int.natCast_nonneg c)]; rfl
section
variable {cs : List Chunk} {H : Heap} {K : Value → Heap → Prop}
theorem four_spec {c : Nat} (hc : c < 4294967296) (k : ∀ H', HL.Sub H H' → K (.string (strN (fourN c))) H') : FnH Try.prog 17 #[.int .i64 (c : Int)] H K := by
  apply logboomref3_Four_fn
  unfold logboomref3_Four_vc
  refine ⟨by decide, by decide, by decide, by decide, by decide, by decide, ?_⟩
  have a1 : Int.tdiv (c : Int) 16777216 = ((c / 16777216 : Nat) : Int) := tdiv_n c 16777216
  have a2 : Int.tdiv (c : Int) 65536 = ((c / 65536 : Nat) : Int) := tdiv_n c 65536
  have a3 : Int.tdiv (c : Int) 256 = ((c / 256 : Nat) : Int) := tdiv_n c 256
  have a4 : Int.tmod (c : Int) 256 = ((c % 256 : Nat) : Int) := tmod_n c 256
  rw [a1, a2, a3, a4, wrap64_id (n := ((c / 16777216 : Nat) : Int)) (by omega) (by omega), wrap64_id (n := ((c / 65536 : Nat) : Int)) (by omega) (by omega), wrap64_id (n := ((c / 256 : Nat) : Int)) (by omega) (by omega)]
  have b2 : Int.tmod ((c / 65536 : Nat) : Int) 256 = ((c / 65536 % 256 : Nat) : Int) := tmod_n _ 256
  have b3 : Int.tmod ((c / 256 : Nat) : Int) 256 = ((c / 256 % 256 : Nat) : Int) := tmod_n _ 256
  rw [b2, b3]
  have w : ∀ n : Nat, IntKind.wrap .u8 (n : Int) = ((n % 256 : Nat) : Int) := fun n => by rw [wrap_u8]; omega
  rw [w, w, w, w]
  refine (Holds.whole H).newS fun q H1 s1 h1 => ?_
  have ho : Own H1 5 1 ⟨some ⟨q, 0, none⟩, 4, 4⟩ (byV (fourN c)) := ⟨rfl, Nat.le_refl _, .inr ⟨q, _, rfl, h1.get 0 rfl, rfl, ?_⟩⟩
  · exact toStr (r := ⟨some ⟨q, 0, none⟩, 4, 4⟩) ho (fourN_bytes c) ⟨_, rfl, k H1 s1⟩
  · intro i hi
    have z : i = 0 ∨ i = 1 ∨ i = 2 ∨ i = 3 := by simp [fourN] at hi; omega
    rcases z with rfl | rfl | rfl | rfl
    · rfl
    · show some (Value.int .u8 _) = some (Value.int .u8 _); congr 2; omega
    · show some (Value.int .u8 _) = some (Value.int .u8 _); congr 2; omega
    · show some (Value.int .u8 _) = some (Value.int .u8 _); congr 2; omega
theorem rcrc_spec {b : ByteArray} (hb : b.size ≤ 9223372036854775806) (k : K (.int .i64 (crcN (nb b))) H) : FnH Try.prog 18 #[.string b] H K := by
  apply logboomref3_Crc_fn
  unfold logboomref3_Crc_vc
  refine ⟨fun c n H1 => H1 = H ∧ 0 ≤ n ∧ n ≤ b.size ∧ c = (((nb b).take n.toNat).foldl byteC 4294967295 : Nat), fun _ n _ => (b.size - n).toNat, ⟨rfl, Int.le_refl _, by omega, rfl⟩, ?_⟩
  rintro _ n H1 ⟨rfl, n0, n1, rfl⟩
  have hlt : ((nb b).take n.toNat).foldl byteC 4294967295 < 4294967296 := foldC_lt (fun x hx => nb_byte b x (List.mem_of_mem_take hx)) (by decide)
  refine br_intro (fun q => ?_) (fun q => ?_)
  · have q := of_decide_eq_true q
    obtain ⟨c, e1, e2, e3⟩ := nb_get (s := b) (i := n.toNat) (by omega)
    have et := foldl_take e2 4294967295
    generalize ((nb b).take n.toNat).foldl byteC 4294967295 = cc at *
    have ew : IntKind.wrap .u32 ((c.toNat : Nat) : Int) = ((c.toNat : Nat) : Int) := by rw [wrap_u32]; omega
    have hx : cc ^^^ c.toNat < 4294967296 := Nat.xor_lt_two_pow (n := 32) (by omega) (by omega)
    refine ⟨n0, c, e1, ?_⟩
    rw [ew, xor_u32 hlt (by omega)]
    refine ⟨fun c2 m H2 => H2 = H1 ∧ 0 ≤ m ∧ m ≤ 8 ∧ c2 = (bitsC m.toNat (cc ^^^ c.toNat) : Nat), fun _ m _ => (8 - m).toNat, ⟨rfl, Int.le_refl _, by decide, rfl⟩, ?_⟩
    rintro _ m H2 ⟨rfl, m0, m1, rfl⟩
    refine br_intro (fun v => ⟨by decide, by decide, ?_⟩) (fun v => ?_)
    · have v := of_decide_eq_true v
      have hc2 := bitsC_lt m.toNat hx
      have es := bitsC_snoc m.toNat (cc ^^^ c.toNat)
      generalize bitsC m.toNat (cc ^^^ c.toNat) = y at *
      have em : (m + 1).toNat = m.toNat + 1 := by omega
      have t1 : Int.tmod (y : Int) 2 = ((y % 2 : Nat) : Int) := tmod_n y 2
      have t2 : IntKind.wrap .u32 (Int.tdiv (y : Int) 2) = ((y / 2 : Nat) : Int) := by
        have : Int.tdiv (y : Int) 2 = ((y / 2 : Nat) : Int) := tdiv_n y 2
        rw [this, wrap_u32]; omega
      have t3 : xorI .u32 ((y / 2 : Nat) : Int) 2197175160 = (((y / 2) ^^^ 2197175160 : Nat) : Int) := xor_u32 (a := y / 2) (b := 2197175160) (by omega) (by decide)
      rw [t1, t2, wrap64_id (n := m + 1) (by omega) (by omega), t3]
      refine br_intro (fun w => ?_) (fun w => ?_)
      · have w : y % 2 = 1 := by have w : ((y % 2 : Nat) : Int) = 1 := by simpa using w
                                 omega
        exact ⟨rfl, ⟨rfl, by omega, by omega, by rw [em, es]; unfold bitC; rw [if_pos w]⟩, by dsimp only; omega⟩
      · have w : ¬ y % 2 = 1 := fun z => by rw [z] at w; simp at w
        exact ⟨rfl, ⟨rfl, by omega, by omega, by rw [em, es]; unfold bitC; rw [if_neg w]⟩, by dsimp only; omega⟩
    · have v := of_decide_eq_false v
      have em : m.toNat = 8 := by omega
      rw [em, wrap64_id (n := n + 1) (by omega) (by omega)]
      have en : (n + 1).toNat = n.toNat + 1 := by omega
      exact ⟨rfl, ⟨rfl, by omega, by omega, by rw [en, et]; rfl⟩, by dsimp only; omega⟩
  · have q := of_decide_eq_false q
    have e : (nb b).take n.toNat = nb b := List.take_of_length_le (by rw [nb_len]; omega)
    rw [e] at hlt ⊢
    have hc : crcN (nb b) < 4294967296 := Nat.xor_lt_two_pow (n := 32) (by omega) (by decide)
    have e2 : xorI .u32 (((nb b).foldl byteC 4294967295 : Nat) : Int) 4294967295 = ((crcN (nb b) : Nat) : Int) := xor_u32 (a := (nb b).foldl byteC 4294967295) (b := 4294967295) hlt (by decide)
    rw [e2, wrap64_id (by omega) (by omega)]; exact k
/-- The document's loop that writes a number. -/
theorem sevens_loop {z0 : Nat} {n : Int} (hz : z0 = zigN n) (hn : i64B n) (k : ∀ H', HL.Sub H H' → K (.string (strN (encN n))) H') :
    ∃ I1 : Int → Sl → Heap → Prop, ∃ M1 : Int → Sl → Heap → Nat, I1 (z0 : Int) ⟨none, 0, 0⟩ H ∧ ∀ (z_1 : Int) (b_1 : Sl) (H1 : Heap), I1 z_1 b_1 H1 →
      br (decide (z_1 ≥ 128)) ((128 : Int) ≠ 0 ∧ ∀ q1 : Nat, H1 q1 = none → letH (Heap.upd H1 q1 (.cells #[.int .u8 (IntKind.wrap .u8 (IntKind.wrap .u64 ((Int.tmod z_1 128) + 128)))] 5 (0, 0))) fun H2 =>
        runH Try.prog (Builtin.append_ #[68, 68] 68 #[.slice b_1.p b_1.n b_1.c, .slice (some ⟨q1, 0, none⟩) 1 1]) H2 fun r1 H3 => ∃ l1 : Sl, r1 = .slice l1.p l1.n l1.c ∧ (128 : Int) ≠ 0 ∧ SelfEq ([], [], []) ∧ I1 (IntKind.wrap .u64 (Int.tdiv z_1 128)) l1 H3 ∧ M1 (IntKind.wrap .u64 (Int.tdiv z_1 128)) l1 H3 < M1 z_1 b_1 H1)
       (∀ q2 : Nat, H1 q2 = none → letH (Heap.upd H1 q2 (.cells #[.int .u8 (IntKind.wrap .u8 z_1)] 5 (0, 0))) fun H4 =>
        runH Try.prog (Builtin.append_ #[68, 68] 68 #[.slice b_1.p b_1.n b_1.c, .slice (some ⟨q2, 0, none⟩) 1 1]) H4 fun r2 H5 => ∃ l2 : Sl, r2 = .slice l2.p l2.n l2.c ∧ runH Try.prog (convert 68 9 (.slice l2.p l2.n l2.c)) H5 fun r3 H6 => ∃ s1 : ByteArray, r3 = .string s1 ∧ K (.string s1) H6) := by
  have hz64 : z0 < 18446744073709551616 := by rw [hz]; exact zig_lt hn.1 hn.2
  refine ⟨fun z b H1 => ∃ (y j : Nat) (m : List Nat), z = y ∧ 0 < j ∧ j ≤ 10 ∧ y < 128 ^ j ∧ y < 18446744073709551616 ∧ m ++ encD j y = encN n ∧ (∀ x ∈ m, x < 256) ∧ Holds [ownY b m, ro H] H1, fun z _ _ => z.toNat,
    ⟨z0, 10, [], rfl, by decide, by decide, by omega, hz64, by rw [hz]; rfl, by simp, (Holds.whole H).own_nil 5 1⟩, ?_⟩
  rintro _ b H1 ⟨y, j, m, rfl, j0, j1, y1, y2, em, hm, h1⟩
  obtain ⟨i, rfl⟩ : ∃ i, j = i + 1 := ⟨j - 1, by omega⟩
  have hbn := (h1.own 0 rfl).1
  simp only [List.length_map, Nat.mul_one] at hbn
  have hml : m.length ≤ 10 := by
    have := congrArg List.length em
    have h2 := encN_len n
    rw [List.length_append] at this; omega
  have w : ∀ n : Nat, IntKind.wrap .u8 (n : Int) = ((n % 256 : Nat) : Int) := fun n => by rw [wrap_u8]; omega
  have push : ∀ (x : Nat) (X : Value → Heap → Prop), (∀ (r : Sl) H3, Holds [ownY r (m ++ [x]), ro H] H3 → X (.slice r.p r.n r.c) H3) → ∀ q, H1 q = none → letH (Heap.upd H1 q (.cells #[.int .u8 ((x : Nat) : Int)] 5 (0, 0))) fun H2 => runH Try.prog (Builtin.append_ #[68, 68] 68 #[.slice b.p b.n b.c, .slice (some ⟨q, 0, none⟩) 1 1]) H2 X := fun x X kX =>
    Holds.push ok68 h1 (xs := [.int .u8 ((x : Nat) : Int)]) (m := 1) rfl rfl (by omega) fun r H3 h3 _ => kX r H3 (by
      have e : byV (m ++ [x]) = byV m ++ [.int .u8 ((x : Nat) : Int)] := by simp
      show Holds [own 5 1 r (byV (m ++ [x])), _] H3
      rw [e]; exact h3)
  refine br_intro (fun q => ⟨by decide, ?_⟩) (fun q => ?_)
  · have q : y ≥ 128 := by have := of_decide_eq_true q; omega
    have t1 : Int.tmod (y : Int) 128 = ((y % 128 : Nat) : Int) := tmod_n y 128
    have t2 : Int.tdiv (y : Int) 128 = ((y / 128 : Nat) : Int) := tdiv_n y 128
    have t3 : IntKind.wrap .u8 (IntKind.wrap .u64 (((y % 128 : Nat) : Int) + 128)) = ((y % 128 + 128 : Nat) : Int) := by rw [wrap_u64', wrap_u8]; omega
    have t4 : IntKind.wrap .u64 ((y / 128 : Nat) : Int) = ((y / 128 : Nat) : Int) := by rw [wrap_u64']; omega
    rw [t1, t2, t3, t4]
    have ed : encD (i + 1) y = (y % 128 + 128) :: encD i (y / 128) := by
      show (if y ≥ 128 then _ else _) = _
      rw [if_pos q]
    have i0 : 0 < i := Nat.pos_of_ne_zero fun e => by
      subst e
      simp at y1; omega
    refine push _ _ fun r H3 h3 => ⟨r, rfl, by decide, rfl, ⟨y / 128, i, m ++ [y % 128 + 128], rfl, i0, by omega, ?_, by omega, ?_, fun x hx => ?_, h3⟩, by dsimp only; omega⟩
    · rw [Nat.pow_succ] at y1; omega
    · rw [← em, ed]; simp
    · rcases List.mem_append.1 hx with z | z
      · exact hm x z
      · simp only [List.mem_singleton] at z; rw [z]; omega
  · have q : ¬ y ≥ 128 := by have := of_decide_eq_false q; omega
    have ed : encD (i + 1) y = [y] := by
      show (if y ≥ 128 then _ else _) = _
      rw [if_neg q]
    have t5 : IntKind.wrap .u8 (y : Int) = ((y : Nat) : Int) := by rw [wrap_u8]; omega
    rw [t5]
    refine push _ _ fun r H3 h3 => ⟨r, rfl, ?_⟩
    rw [← ed, em] at h3
    exact toStr (h3.own 0 rfl) (encN_bytes n) ⟨_, rfl, k H3 (h3.sub 1 rfl)⟩
theorem rint3_spec {n : Int} (hn : i64B n) (k : ∀ H', HL.Sub H H' → K (.string (strN (encN n))) H') : FnH Try.prog 44 #[.int .i64 n] H K := by
  apply logboomref3_Int_fn
  unfold logboomref3_Int_vc
  obtain ⟨n0, n1⟩ := hn
  have hz := zig_lt n0 n1
  refine br_intro (fun q => ?_) (fun q => ?_)
  · have q := of_decide_eq_true q
    have e : IntKind.wrap .u64 ((IntKind.wrap .u64 (2 * (IntKind.wrap .u64 (IntKind.wrap .i64 (0 - (IntKind.wrap .i64 (n + 1))))))) + 1) = ((zigN n : Nat) : Int) := by
      rw [wrap64_id (n := n + 1) (by omega) (by omega), wrap64_id (n := 0 - (n + 1)) (by omega) (by omega), wrap_u64', wrap_u64', wrap_u64']
      unfold zigN
      rw [if_pos q]; omega
    rw [e]
    exact sevens_loop rfl ⟨n0, n1⟩ k
  · have q := of_decide_eq_false q
    have e : IntKind.wrap .u64 (2 * (IntKind.wrap .u64 n)) = ((zigN n : Nat) : Int) := by
      rw [wrap_u64', wrap_u64']
      unfold zigN
      rw [if_neg q]; omega
    rw [e]
    exact sevens_loop rfl ⟨n0, n1⟩ k
end
end Go.Proofs.Ytkabaoigablphaa

/- Chapter 8: the document's reader (logboomref3). -/
namespace Go.Proofs.Ytkabaoigablphaa
open Go Go.HL
set_option maxRecDepth 10000
set_option maxHeartbeats 1600000

section
variable {cs : List Chunk} {H : Heap} {K : Value → Heap → Prop}
theorem rreadInt_spec {b : ByteArray} (k : K (trp (readN (nb b))) H) : FnH Try.prog 55 #[.string b] H K := by
  apply logboomref3_ReadInt_fn
  unfold logboomref3_ReadInt_vc
  refine ⟨fun z u n H1 => H1 = H ∧ ∃ i y : Nat, n = i ∧ z = y ∧ i ≤ 10 ∧ i ≤ b.size ∧ (i ≤ 9 → y < 128 ^ i ∧ u = ((128 ^ i : Nat) : Int)) ∧ rd (10 - i) i y ((nb b).drop i) = readN (nb b), fun _ _ n _ => (10 - n).toNat, ⟨rfl, 0, 0, rfl, rfl, by decide, Nat.zero_le _, fun _ => ⟨by decide, rfl⟩, rfl⟩, ?_⟩
  rintro _ u _ H1 ⟨rfl, i, z, rfl, rfl, hi, hib, hz, hrd⟩
  have fin : ∀ t : Int × Int × Int, rd (10 - i) i z ((nb b).drop i) = t → K (trp t) H1 := fun t ht => by rw [← ht, hrd]; exact k
  refine br_intro (fun q => ?_) (fun q => ?_)
  · have q := of_decide_eq_true q
    obtain ⟨hz0, rfl⟩ := hz (by omega)
    obtain ⟨f, hf⟩ : ∃ f, 10 - i = f + 1 := ⟨9 - i, by omega⟩
    have hf2 : 10 - (i + 1) = f := by omega
    rw [hf] at fin hrd
    refine br_intro (fun q2 => ?_) (fun q2 => ?_)
    · have q2 := of_decide_eq_true q2
      have e : (nb b).drop i = [] := List.drop_eq_nil_of_le (by rw [nb_len]; omega)
      rw [e] at fin
      exact fin (0, 0, 5) rfl
    have q2 := of_decide_eq_false q2
    obtain ⟨c, e1, e2, e3⟩ := nb_get (s := b) (i := i) (by omega)
    have hlen : i < (nb b).length := by rw [nb_len]; omega
    have ed : (nb b).drop i = c.toNat :: (nb b).drop (i + 1) := by
      rw [List.drop_eq_getElem_cons hlen]
      congr 1
      rw [List.getElem?_eq_getElem hlen] at e2; exact Option.some.inj e2
    rw [ed] at fin hrd
    rw [rd_step e3] at fin hrd
    have ei : (i : Int).toNat = i := by omega
    have hn1 : IntKind.wrap .i64 ((i : Int) + 1) = ((i + 1 : Nat) : Int) := by rw [wrap64_id (by omega) (by omega)]; omega
    have hT : Int.tmod ((c.toNat : Nat) : Int) 128 = ((c.toNat % 128 : Nat) : Int) := tmod_n _ 128
    have hw1 : IntKind.wrap .u64 ((c.toNat % 128 : Nat) : Int) = ((c.toNat % 128 : Nat) : Int) := by rw [wrap_u64']; omega
    have dig : ¬ (i = 9 ∧ c.toNat > 1) → ∃ z' : Nat, IntKind.wrap .u64 ((z : Int) + IntKind.wrap .u64 ((c.toNat % 128 * 128 ^ i : Nat) : Int)) = (z' : Int) ∧ z' < 18446744073709551616 ∧ z' = z + c.toNat % 128 * 128 ^ i ∧ (i ≤ 8 → z' < 128 ^ (i + 1)) := fun h9 => by
      obtain ⟨-, d2, d3⟩ := digit (z := z) (b := c.toNat) (i := i) hz0 e3 (by omega) (fun e => Nat.le_of_not_lt fun z => h9 ⟨e, z⟩)
      refine ⟨_, ?_, d2, rfl, d3⟩
      generalize c.toNat % 128 * 128 ^ i = w at *
      rw [wrap_u64', wrap_u64']; omega
    have hwo : i ≤ 8 → IntKind.wrap .u64 (((128 ^ i : Nat) : Int) * 128) = ((128 ^ (i + 1) : Nat) : Int) := fun h8 => by
      have h3 : 128 ^ (i + 1) ≤ 128 ^ 9 := Nat.pow_le_pow_right (by decide) (by omega)
      have h4 : (128 : Nat) ^ 9 = 9223372036854775808 := by decide
      have h5 : 128 ^ (i + 1) = 128 ^ i * 128 := Nat.pow_succ ..
      generalize 128 ^ i = w at *
      rw [h5] at h3 ⊢
      rw [wrap_u64']; omega
    have last : ∀ z' : Nat, z' < 18446744073709551616 → (K (trp (unzig z', (i : Int) + 1, 0)) H1) → (2 : Int) ≠ 0 ∧ br ((Int.tmod (z' : Int) 2) == 1) ((2 : Int) ≠ 0 ∧ K (.tuple #[.int .i64 (IntKind.wrap .i64 ((IntKind.wrap .i64 (0 - (IntKind.wrap .i64 (IntKind.wrap .u64 (Int.tdiv (z' : Int) 2))))) - 1)), .int .i64 ((i + 1 : Nat) : Int), .int .i64 0]) H1)
        ((2 : Int) ≠ 0 ∧ K (.tuple #[.int .i64 (IntKind.wrap .i64 (IntKind.wrap .u64 (Int.tdiv (z' : Int) 2))), .int .i64 ((i + 1 : Nat) : Int), .int .i64 0]) H1) := fun z' hz' kk => by
      have t1 : Int.tmod (z' : Int) 2 = ((z' % 2 : Nat) : Int) := tmod_n z' 2
      have t2 : Int.tdiv (z' : Int) 2 = ((z' / 2 : Nat) : Int) := tdiv_n z' 2
      have t3 : IntKind.wrap .i64 (IntKind.wrap .u64 ((z' / 2 : Nat) : Int)) = ((z' / 2 : Nat) : Int) := by
        have : IntKind.wrap .u64 ((z' / 2 : Nat) : Int) = ((z' / 2 : Nat) : Int) := by rw [wrap_u64']; omega
        rw [this, wrap64_id (by omega) (by omega)]
      rw [t1, t2, t3, wrap64_id (n := 0 - ((z' / 2 : Nat) : Int)) (by omega) (by omega), wrap64_id (n := 0 - ((z' / 2 : Nat) : Int) - 1) (by omega) (by omega)]
      have ej : ((i + 1 : Nat) : Int) = (i : Int) + 1 := by omega
      rw [ej]
      refine ⟨by decide, br_intro (fun w => ⟨by decide, ?_⟩) (fun w => ⟨by decide, ?_⟩)⟩
      · have w : z' % 2 = 1 := by have w : ((z' % 2 : Nat) : Int) = 1 := by simpa using w
                                  omega
        have eu : unzig z' = 0 - ((z' / 2 : Nat) : Int) - 1 := by unfold unzig; rw [if_pos w]; omega
        rw [← eu]; exact kk
      · have w : ¬ z' % 2 = 1 := fun z => by rw [z] at w; simp at w
        have eu : unzig z' = ((z' / 2 : Nat) : Int) := by unfold unzig; rw [if_neg w]
        rw [← eu]; exact kk
    refine br_intro (fun q9 => ?_) (fun q9 => ?_)
    all_goals
      first
        | (refine ⟨by omega, c, by rw [ei]; exact e1, br_intro (fun q1 => ?_) (fun q1 => ?_)⟩
           · have q9 : (i : Int) = 9 := by simpa using q9
             have q1 := of_decide_eq_true q1
             exact fin (0, 0, 4) (by rw [if_pos ⟨by omega, by omega⟩]))
        | skip
    all_goals
      have h9 : ¬ (i = 9 ∧ c.toNat > 1) := fun z => by
        first
          | (have q1 := of_decide_eq_false q1; omega)
          | (have q9 : ¬ (i : Int) = 9 := by simpa using q9
             omega)
      rw [if_neg h9] at fin hrd
      obtain ⟨z', hz1, hz2, hz3, hz4⟩ := dig h9
      refine ⟨by omega, c, by rw [ei]; exact e1, by decide, by omega, c, by rw [ei]; exact e1, ?_⟩
      rw [hT, hw1, hn1, ← Int.natCast_mul, hz1]
      refine br_intro (fun c1 => ?_) (fun c1 => ?_)
      · have c1 := of_decide_eq_true c1
        rw [if_pos (by omega)] at hrd
        exact ⟨rfl, ⟨rfl, i + 1, z', rfl, rfl, by omega, by omega, fun h => ⟨hz4 (by omega), hwo (by omega)⟩, by rw [hf2, hz3]; exact hrd⟩, by dsimp only; omega⟩
      · have c1 := of_decide_eq_false c1
        rw [if_neg (by omega)] at fin
        refine br_intro (fun c2 => ⟨by omega, c, by rw [ei]; exact e1, br_intro (fun c3 => ?_) (fun c3 => ?_)⟩) (fun c2 => ?_)
        · have c2 := of_decide_eq_true c2
          have c3 : ((c.toNat : Nat) : Int) = 0 := by simpa using c3
          exact fin (0, 0, 4) (by rw [if_pos ⟨by omega, by omega⟩])
        · have c3 : ¬ ((c.toNat : Nat) : Int) = 0 := by simpa using c3
          exact last z' hz2 (fin _ (by rw [if_neg (fun z => c3 (by rw [z.2]; rfl)), hz3]))
        · have c2 := of_decide_eq_false c2
          exact last z' hz2 (fin _ (by rw [if_neg (fun z => c2 (by omega)), hz3]))
  · have q := of_decide_eq_false q
    have e : 10 - i = 0 := by omega
    rw [e] at fin
    exact fin (0, 0, 4) rfl
/-! ### the document's reader -/
abbrev rdq (r : Nat) (s : ByteArray) (bad : Bool) : Chunk := blk r (.cells #[.string s, .bool bad] 78 (0, 0))
/-- What the document's reader holds behind a read. -/
def nx3 (s : ByteArray) : ByteArray := if (readN (nb s)).2.2 = 0 then nx s else ⟨#[]⟩
theorem rread3_spec {r : Nat} {s : ByteArray} {bad : Bool} (h : Holds (rdq r s bad :: cs) H) (k : ∀ H', Holds (rdq r (nx3 s) (bad || !decide ((readN (nb s)).2.2 = 0)) :: cs) H' → K (.int .i64 (readN (nb s)).1) H') : FnH Try.prog 38 #[.pointer (some ⟨r, 0, none⟩)] H K := by
  apply logboomref3_Reader_Int_fn
  unfold logboomref3_Reader_Int_vc
  obtain ⟨k0, k1⟩ := read_k (nb s) (nb_byte s)
  rw [nb_len] at k1
  refine ⟨s, h.cell 0 rfl rfl, rreadInt_spec ⟨_, _, _, rfl, br_intro (fun q => ?_) (fun q => ?_)⟩⟩
  · have q : ¬ (readN (nb s)).2.2 = 0 := by simpa using q
    refine Holds.store h 0 rfl (by simp) fun H2 h2 => Holds.store h2 0 rfl (by simp) fun H3 h3 => ?_
    have := k H3 (by unfold nx3; rw [if_neg q, decide_eq_false q]; simp only [Bool.not_false, Bool.or_true]; exact h3)
    rw [read_bad q] at this; exact this
  · have q : (readN (nb s)).2.2 = 0 := by simpa using q
    refine ⟨s, h.cell 0 rfl rfl, k0, k1, Holds.store h 0 rfl (by simp) fun H3 h3 => k H3 ?_⟩
    unfold nx3
    rw [if_pos q, decide_eq_true q]
    simp only [Bool.not_true, Bool.or_false]
    exact h3
theorem rread3_lent {s : ByteArray} {bad : Bool} {X : Int → ByteArray → Bool → Heap → Prop} (h : Holds cs H) (k : ∀ H', Holds cs H' → X (readN (nb s)).1 (nx3 s) (bad || !decide ((readN (nb s)).2.2 = 0)) H') :
    ∀ q, H q = none → FnH Try.prog 38 #[.pointer (some ⟨q, 0, none⟩)] (Heap.upd H q (.cells #[.string s, .bool bad] 78 (0, 0))) fun r H' => ∃ n : Int, r = .int .i64 n ∧ ∃ s2 : ByteArray, ∃ b : Bool, H' q = some (.cells #[.string s2, .bool b] 78 (0, 0)) ∧ letH (Heap.del H' q) fun H2 => X n s2 b H2 :=
  fun q hq => rread3_spec (h.add hq _) fun H' h' => ⟨_, rfl, _, _, (held_undo h').1, letH_intro fun H2 g => k H2 (by rw [g]; exact (held_undo h').2)⟩
end
end Go.Proofs.Ytkabaoigablphaa

/- Chapter 8: the document's Load. -/
namespace Go.Proofs.Ytkabaoigablphaa
open Go Go.HL
set_option maxRecDepth 10000
set_option maxHeartbeats 3200000

abbrev Mk := Int × Nt
abbrev eM : Mk → List Value := fun m => [.int .i64 m.1, .int .i64 m.2.1, .int .i64 m.2.2.1, .int .i64 m.2.2.2.1, .int .i64 m.2.2.2.2]
theorem eMlen : ∀ x, (eM x).length = 5 := fun _ => rfl
theorem ok79 : ElemOK Try.prog 79 83 5 := ElemOK.of (by kernel_rfl)
abbrev ownM (s : Sl) (l : List Mk) : Chunk := own 83 5 s (l.flatMap eM)
/-- The document's table. -/
def rtab (t : Nat) (L : List Mk) : Chunk := fun H => ∃ s : Sl, Holds [blk t (.cells #[.slice s.p s.n s.c] 81 (0, 0)), ownM s L] H
def flatT (T : Tb) : List Mk := T.flatMap fun p => p.2.map fun x => (p.1, x)
theorem flatT_snoc (D : Tb) (p : Int) (N : List Nt) : flatT (D ++ [(p, N)]) = flatT D ++ N.map fun x => (p, x) := by simp [flatT]
section
variable {cs : List Chunk} {H : Heap} {K : Value → Heap → Prop}
theorem rtab_open {t : Nat} {L : List Mk} : Holds (rtab t L :: cs) H ↔ ∃ s : Sl, Holds (blk t (.cells #[.slice s.p s.n s.c] 81 (0, 0)) :: ownM s L :: cs) H := by
  constructor
  · intro h
    obtain ⟨s, h⟩ := Holds.ex.1 h
    exact ⟨s, Holds.flat.1 h⟩
  · rintro ⟨s, h⟩
    exact Holds.ex.2 ⟨s, Holds.flat.2 h⟩
theorem within39_spec {n m : Int} (k : K (.bool (inB n m)) H) : FnH Try.prog 39 #[.int .i64 n, .int .i64 m] H K := by
  apply logboomref8_within_fn
  unfold logboomref8_within_vc
  unfold inB at k
  refine br_intro (fun q => ?_) (fun q => ?_)
  · have q := of_decide_eq_true q
    rw [decide_eq_true (show 0 ≤ n from q), Bool.true_and] at k; exact k
  · have q := of_decide_eq_false q
    rw [decide_eq_false (show ¬ 0 ≤ n from q), Bool.false_and] at k; exact k
theorem nx3_good {s : ByteArray} (h : (readN (nb s)).2.2 = 0) : nx3 s = nx s := by unfold nx3; rw [if_pos h]
theorem nx3_le (s : ByteArray) : (nx3 s).size ≤ s.size := by
  unfold nx3
  split
  · rw [← nb_len, nb_nx, ← nb_len]; exact rest_le _
  · exact Nat.zero_le _
/-- Four numbers read by the document's reader. -/
theorem four_read (s : ByteArray) : let s1 := nx3 s; let s2 := nx3 s1; let s3 := nx3 s2; let s4 := nx3 s3
    ((((false || !decide ((readN (nb s)).2.2 = 0)) || !decide ((readN (nb s1)).2.2 = 0)) || !decide ((readN (nb s2)).2.2 = 0)) || !decide ((readN (nb s3)).2.2 = 0)) = !decide (ntGood (nb s)) ∧
    (ntGood (nb s) → nb s4 = rest4 (nb s) ∧ ntR (nb s) = ((readN (nb s)).1, (readN (nb s1)).1, (readN (nb s2)).1, (readN (nb s3)).1)) := by
  dsimp only
  have good : ∀ (a : (readN (nb s)).2.2 = 0), nb (nx3 s) = rest (nb s) := fun a => by rw [nx3_good a, nb_nx]
  have good2 : ∀ (_ : (readN (nb s)).2.2 = 0) (_ : (readN (nb (nx3 s))).2.2 = 0), nb (nx3 (nx3 s)) = rest (rest (nb s)) := fun a b => by rw [nx3_good b, nb_nx, good a]
  have good3 : ∀ (_ : (readN (nb s)).2.2 = 0) (_ : (readN (nb (nx3 s))).2.2 = 0) (_ : (readN (nb (nx3 (nx3 s)))).2.2 = 0), nb (nx3 (nx3 (nx3 s))) = rest (rest (rest (nb s))) := fun a b c => by rw [nx3_good c, nb_nx, good2 a b]
  constructor
  · rw [Bool.eq_iff_iff]
    simp only [Bool.false_or, Bool.or_eq_true, Bool.not_eq_true', decide_eq_false_iff_not]
    show _ ↔ ¬ ((readN (nb s)).2.2 = 0 ∧ (readN (rest (nb s))).2.2 = 0 ∧ (readN (rest (rest (nb s)))).2.2 = 0 ∧ (readN (rest (rest (rest (nb s))))).2.2 = 0)
    by_cases a : (readN (nb s)).2.2 = 0
    · have g1 := good a
      by_cases b : (readN (nb (nx3 s))).2.2 = 0
      · have g2 := good2 a b
        by_cases c : (readN (nb (nx3 (nx3 s)))).2.2 = 0
        · have g3 := good3 a b c
          rw [← g3, ← g2, ← g1]
          simp [a, b, c]
        · rw [← g2, ← g1]
          simp [a, b, c]
      · rw [← g1]
        simp [a, b]
    · simp [a]
  · rintro ⟨a, b, c, d⟩
    have b' : (readN (nb (nx3 s))).2.2 = 0 := by rw [good a]; exact b
    have c' : (readN (nb (nx3 (nx3 s)))).2.2 = 0 := by rw [good2 a b']; exact c
    have d' : (readN (nb (nx3 (nx3 (nx3 s))))).2.2 = 0 := by rw [good3 a b' c']; exact d
    exact ⟨by rw [nx3_good d', nb_nx, good3 a b' c']; rfl, by rw [good a, good2 a b', good3 a b' c']; rfl⟩
theorem rload_spec {s : ByteArray} (h : Holds cs H) (hs : s.size ≤ 100000000)
    (k5 : s.size < 4 → K (.tuple #[.pointer none, .int .i64 5]) H)
    (k6 : ¬ s.size < 4 → ¬ sumN ((nb s).drop 4) = (nb s).take 4 → ∀ H', Holds cs H' → K (.tuple #[.pointer none, .int .i64 6]) H')
    (k4 : ¬ s.size < 4 → sumN ((nb s).drop 4) = (nb s).take 4 → loadM ((nb s).drop 4) = none → ∀ H', Holds cs H' → K (.tuple #[.pointer none, .int .i64 4]) H')
    (k : ∀ T, ¬ s.size < 4 → sumN ((nb s).drop 4) = (nb s).take 4 → loadM ((nb s).drop 4) = some T → ∀ t H', Holds (rtab t (flatT T) :: cs) H' → K (.tuple #[.pointer (some ⟨t, 0, none⟩), .int .i64 0]) H') :
    FnH Try.prog 20 #[.string s] H K := by
  apply logboomref8_Load_fn
  unfold logboomref8_Load_vc
  refine br_intro (fun q => k5 (by have := of_decide_eq_true q; omega)) (fun q => ?_)
  have q : ¬ s.size < 4 := by have := of_decide_eq_false q; omega
  have en : nb (s.extract (Int.toNat 4) (Int.toNat (s.size : Int))) = (nb s).drop 4 := by
    rw [nb_extract, List.take_of_length_le (by rw [nb_len]; omega)]; rfl
  have hsz : (s.extract (Int.toNat 4) (Int.toNat (s.size : Int))).size ≤ 100000000 := by rw [← nb_len, en, List.length_drop, nb_len]; omega
  refine ⟨by decide, by omega, by decide, by omega, rcrc_spec (by omega) ⟨_, rfl, HL.Sub.refl _, four_spec (crcN_lt _ (nb_byte _)) fun H2 s2 => ⟨_, rfl, s2, ?_⟩⟩⟩
  have hc : Holds cs H2 := Holds.up s2 h
  rw [← sumN_four, en, str_eq]
  have e0 : nb (s.extract (Int.toNat 0) (Int.toNat 4)) = (nb s).take 4 := by rw [nb_extract]; rfl
  refine br_intro (fun q2 => k6 q ?_ H2 hc) (fun q2 => ?_)
  · have q2 : ¬ strN (sumN ((nb s).drop 4)) = s.extract (Int.toNat 0) (Int.toNat 4) := by simpa using q2
    intro e
    exact q2 (nb_inj (by rw [nb_str (sumN_bytes _), e0]; exact e))
  have q2 : strN (sumN ((nb s).drop 4)) = s.extract (Int.toNat 0) (Int.toNat 4) := by simpa using q2
  have q2 : sumN ((nb s).drop 4) = (nb s).take 4 := by rw [← nb_str (sumN_bytes ((nb s).drop 4)), q2, e0]
  have k4 := k4 q q2
  have k := fun T => k T q q2
  rw [← en] at k k4
  generalize s.extract (Int.toNat 4) (Int.toNat (s.size : Int)) = s0 at *
  clear k5 k6 e0 en q2 h s2
  refine ⟨by decide, by omega, hc.new fun t H3 h3 => ?_⟩
  have h3 : Holds (rtab t [] :: cs) H3 := rtab_open.2 ⟨⟨none, 0, 0⟩, (h3.own_nil 83 5).swap⟩
  refine rread3_lent h3 fun H5 h5 => ?_
  have hin := read_in (nb s0) (nb_byte s0)
  have hsz1 : (nx3 s0).size ≤ 100000000 := Nat.le_trans (nx3_le s0) hsz
  have hlM : loadM (nb s0) = if (readN (nb s0)).2.2 = 0 ∧ 0 ≤ (readN (nb s0)).1 then endR (tabR (readN (nb s0)).1.toNat 0 (rest (nb s0))) else none := rfl
  by_cases g : ¬ ((readN (nb s0)).2.2 = 0 ∧ 0 ≤ (readN (nb s0)).1)
  · rw [if_neg g] at hlM
    have hle : (readN (nb s0)).1 ≤ 0 := by
      by_cases g1 : (readN (nb s0)).2.2 = 0
      · have g2 : ¬ 0 ≤ (readN (nb s0)).1 := fun z => g ⟨g1, z⟩
        omega
      · rw [read_bad g1]; exact Int.le_refl _
    refine ⟨fun _ i s bad H => Holds (rtab t [] :: cs) H ∧ i = 0 ∧ bad = !decide ((readN (nb s0)).2.2 = 0), fun _ _ _ _ _ => 0, ⟨h5, rfl, by simp⟩, ?_⟩
    rintro last i s bad H7 ⟨h7, rfl, rfl⟩
    refine br_f (decide_eq_false (by omega)) ?_
    by_cases g1 : (readN (nb s0)).2.2 = 0
    · have g2 : ¬ 0 ≤ (readN (nb s0)).1 := fun z => g ⟨g1, z⟩
      exact br_f (by simp [g1]) (br_intro (fun _ => k4 hlM H7 h7.tail) (fun _ => br_t (decide_eq_true (by omega)) (k4 hlM H7 h7.tail)))
    · exact br_t (by simp [g1]) (k4 hlM H7 h7.tail)
  have g := Decidable.not_not.1 g
  have en0 : nb (nx3 s0) = rest (nb s0) := by rw [nx3_good g.1, nb_nx]
  rw [if_pos g, ← en0] at hlM
  obtain ⟨g1, g2⟩ := g
  have g3 : (false || !decide ((readN (nb s0)).2.2 = 0)) = false := by simp [g1]
  rw [g3]
  generalize (readN (nb s0)).1 = m0 at *
  generalize nx3 s0 = s1 at *
  rw [hlM] at k k4
  clear hlM g1 g3 en0 hsz
  refine ⟨fun last i s bad H => 0 ≤ i ∧ s.size ≤ 100000000 ∧ ∃ L, Holds (rtab t L :: cs) H ∧ ((bad = true ∧ endR (tabR m0.toNat 0 (nb s1)) = none) ∨ (bad = false ∧ i ≤ m0 ∧ 0 ≤ last ∧ ∃ D, L = flatT D ∧ L.length * 4 + s.size ≤ 100000000 ∧ endR (tabR m0.toNat 0 (nb s1)) = endR ((tabR (m0 - i).toNat last (nb s)).map fun p => (D ++ p.1, p.2)))), fun _ i _ _ _ => (m0 - i).toNat,
    ⟨Int.le_refl _, hsz1, [], h5, .inr ⟨rfl, g2, Int.le_refl _, [], rfl, by simp; omega, ?_⟩⟩, ?_⟩
  · rw [Int.sub_zero]
    cases tabR m0.toNat 0 (nb s1) <;> rfl
  rintro last i s bad H7 ⟨i0, hs, L, h7, hcase⟩
  have hin2 := hin.2
  have exit : i ≥ m0 ∨ bad = true → br bad (K (.tuple #[.pointer none, .int .i64 4]) H7) (br (!(s.toList == (⟨#[]⟩ : ByteArray).toList)) (K (.tuple #[.pointer none, .int .i64 4]) H7) (br (decide (m0 < 0)) (K (.tuple #[.pointer none, .int .i64 4]) H7) (K (.tuple #[.pointer (some ⟨t, 0, none⟩), .int .i64 0]) H7))) := fun he => by
    rcases hcase with ⟨rfl, hn⟩ | ⟨rfl, i1, hl, D, rfl, -, hR⟩
    · exact br_t rfl (k4 hn H7 h7.tail)
    · have e : (m0 - i).toNat = 0 := by rcases he with z | z; omega; cases z
      rw [e] at hR
      have hR : endR (tabR m0.toNat 0 (nb s1)) = endR (some (D ++ [], nb s)) := hR
      rw [List.append_nil] at hR
      rw [str_eq]
      refine br_f rfl (br_intro (fun p => k4 ?_ H7 h7.tail) (fun p => br_f (decide_eq_false (by omega)) (k D ?_ t H7 h7)))
      · have p : ¬ s = ⟨#[]⟩ := by simpa using p
        cases e : nb s with
        | nil => exact absurd (nb_inj (by rw [e]; rfl)) p
        | cons a l => rw [hR, e]; rfl
      · have p : s = ⟨#[]⟩ := by simpa using p
        subst p
        exact hR
  refine br_intro (fun c => br_intro (fun cb => ?_) (fun cb => exit (.inr (by simpa using cb)))) (fun c => exit (.inl (by have := of_decide_eq_false c; omega)))
  clear exit
  have c := of_decide_eq_true c
  have cb : bad = false := by simpa using cb
  subst cb
  obtain ⟨-, i1, hl, D, rfl, hLs, hR⟩ := hcase.resolve_left (fun z => by cases z.1)
  clear hcase
  have em : (m0 - i).toNat = (m0 - (i + 1)).toNat + 1 := by omega
  rw [em, tabR_succ] at hR
  refine rread3_lent h7 fun H8 h8 => rread3_lent h8 fun H9 h9 => ?_
  have hp := read_in (nb s) (nb_byte s)
  have hp2 := (read_in (nb (nx3 s)) (nb_byte _)).2
  have hs2 : (nx3 (nx3 s)).size ≤ s.size := Nat.le_trans (nx3_le _) (nx3_le _)
  have badK : ¬ keyOk last (nb s) → K (.tuple #[.pointer none, .int .i64 4]) H9 := fun z => by
    rw [if_neg z] at hR
    exact k4 hR H9 h9.tail
  by_cases gk : ¬ keyOk last (nb s)
  · refine br_intro (fun _ => badK gk) (fun p => br_intro (fun _ => badK gk) (fun p2 => br_intro (fun _ => badK gk) (fun p3 => absurd ?_ gk)))
    have p := of_decide_eq_false p
    have p2 := of_decide_eq_false p2
    have p3 := of_decide_eq_false p3
    have a : (readN (nb s)).2.2 = 0 := Decidable.byContradiction fun e => by have := read_bad e; omega
    have b : (readN (nb (nx3 s))).2.2 = 0 := Decidable.byContradiction fun e => by have := read_bad e; omega
    have f1 : nb (nx3 s) = rest (nb s) := by rw [nx3_good a, nb_nx]
    rw [f1] at b p3
    exact ⟨a, b, by omega, by omega, by omega⟩
  have gk := Decidable.not_not.1 gk
  rw [if_pos gk] at hR
  obtain ⟨a, b, c1, c2, c3⟩ := gk
  have f1 : nb (nx3 s) = rest (nb s) := by rw [nx3_good a, nb_nx]
  rw [← f1] at b c3
  have f2 : nb (nx3 (nx3 s)) = rest (rest (nb s)) := by rw [nx3_good b, nb_nx, f1]
  rw [← f2, ← f1] at hR
  have ef : ((false || !decide ((readN (nb s)).2.2 = 0)) || !decide ((readN (nb (nx3 s))).2.2 = 0)) = false := by simp [a, b]
  rw [ef]
  clear ef f1 f2 a b badK
  generalize (readN (nb s)).1 = pid at *
  generalize (readN (nb (nx3 s))).1 = n at *
  generalize nx3 (nx3 s) = s5 at *
  refine br_f (decide_eq_false (by omega)) (br_f (decide_eq_false (by omega)) (br_f (decide_eq_false (by omega)) ?_))
  have hR : endR (tabR m0.toNat 0 (nb s1)) = endR ((match notesR n.toNat was0 (nb s5) with
      | none => none
      | some q => (tabR (m0 - (i + 1)).toNat pid q.2).map fun p : Tb × List Nat => ((pid, q.1) :: p.1, p.2)).map fun p : Tb × List Nat => (D ++ p.1, p.2)) := hR
  refine ⟨fun kx s6 b5 _ a5 b6 c6 d6 H => 0 ≤ kx ∧ kx ≤ n ∧ (0 ≤ b6 ∧ b6 ≤ 1000001 ∧ 0 ≤ c6 ∧ c6 ≤ 64) ∧ (kx = 0 → a5 = 0 ∧ b6 = 0 ∧ c6 = 0 ∧ d6 = -1) ∧ s6.size ≤ 100000000 ∧ ∃ N : List Nt, Holds (rtab t (flatT D ++ N.map fun x => (pid, x)) :: cs) H ∧ ((b5 = true ∧ notesR n.toNat was0 (nb s5) = none) ∨ (b5 = false ∧ ((flatT D).length + N.length) * 4 + s6.size ≤ 100000000 ∧ notesR n.toNat was0 (nb s5) = (notesR (n - kx).toNat (a5, b6, c6, d6) (nb s6)).map fun p => (N ++ p.1, p.2))), fun kx _ _ _ _ _ _ _ _ => (n - kx).toNat,
    ⟨Int.le_refl _, by omega, ⟨by decide, by decide, by decide, by decide⟩, fun _ => ⟨rfl, rfl, rfl, rfl⟩, by omega, [], by rw [List.map_nil, List.append_nil]; exact h9, .inr ⟨rfl, by simp; omega, ?_⟩⟩, ?_⟩
  · rw [Int.sub_zero]
    show _ = (notesR n.toNat was0 (nb s5)).map _
    cases notesR n.toNat was0 (nb s5) <;> rfl
  rintro kx s6 b5 p5 a5 b6 c6 d6 H11 ⟨x0, x1, ⟨y0, y1, y2, y3⟩, xz, hs6, N, h11, hc11⟩
  rw [wrap64_id (n := i + 1) (by omega) (by omega)]
  have none_R : notesR n.toNat was0 (nb s5) = none → endR (tabR m0.toNat 0 (nb s1)) = none := fun z => by rw [z] at hR; exact hR
  have out : (kx ≥ n ∨ b5 = true) → (0 ≤ i + 1 ∧ s6.size ≤ 100000000 ∧ ∃ L, Holds (rtab t L :: cs) H11 ∧ ((b5 = true ∧ endR (tabR m0.toNat 0 (nb s1)) = none) ∨ (b5 = false ∧ i + 1 ≤ m0 ∧ 0 ≤ pid ∧ ∃ D, L = flatT D ∧ L.length * 4 + s6.size ≤ 100000000 ∧ endR (tabR m0.toNat 0 (nb s1)) = endR ((tabR (m0 - (i + 1)).toNat pid (nb s6)).map fun p => (D ++ p.1, p.2))))) := fun he => by
    rcases hc11 with ⟨rfl, hn⟩ | ⟨rfl, hl6, hN⟩
    · exact ⟨by omega, hs6, _, h11, .inl ⟨rfl, none_R hn⟩⟩
    · have e : (n - kx).toNat = 0 := by rcases he with z | z; omega; cases z
      rw [e] at hN
      have hN : notesR n.toNat was0 (nb s5) = some (N ++ [], nb s6) := hN
      rw [List.append_nil] at hN
      rw [hN] at hR
      have hR : endR (tabR m0.toNat 0 (nb s1)) = endR (((tabR (m0 - (i + 1)).toNat pid (nb s6)).map fun p : Tb × List Nat => ((pid, N) :: p.1, p.2)).map fun p : Tb × List Nat => (D ++ p.1, p.2)) := hR
      refine ⟨by omega, hs6, _, h11, .inr ⟨rfl, by omega, by omega, D ++ [(pid, N)], (flatT_snoc _ _ _).symm, by rw [List.length_append, List.length_map]; exact hl6, ?_⟩⟩
      rw [hR]
      cases tabR (m0 - (i + 1)).toNat pid (nb s6) with
      | none => rfl
      | some p => simp
  refine br_intro (fun q3 => br_intro (fun q4 => ?_) (fun q4 => ⟨rfl, out (.inr (by simpa using q4)), by dsimp only; omega⟩)) (fun q3 => ⟨rfl, out (.inl (by have := of_decide_eq_false q3; omega)), by dsimp only; omega⟩)
  clear out
  have q3 := of_decide_eq_true q3
  rw [wrap64_id (n := kx + 1) (by omega) (by omega)]
  have q4 : b5 = false := by simpa using q4
  subst q4
  obtain ⟨-, hl6, hN⟩ := hc11.resolve_left (fun z => by cases z.1)
  clear hc11
  have em2 : (n - kx).toNat = (n - (kx + 1)).toNat + 1 := by omega
  rw [em2, notesR_succ] at hN
  obtain ⟨f3, f4⟩ := four_read s6
  refine rread3_lent h11 fun H13 h13 => rread3_lent h13 fun H15 h15 => rread3_lent h15 fun H17 h17 => rread3_lent h17 fun H19 h19 => ?_
  rw [f3]
  have hlen : ntGood (nb s6) → (nx3 (nx3 (nx3 (nx3 s6)))).size + 4 ≤ s6.size := fun g => by
    have hbs := nb_byte s6
    have t5 := congrArg List.length (f4 g).1
    obtain ⟨g1, g2, g3, g4⟩ := g
    have t1 := rest_lt hbs g1
    have t2 := rest_lt (rest_bytes hbs) g2
    have t3 := rest_lt (rest_bytes (rest_bytes hbs)) g3
    have t4 := rest_lt (rest_bytes (rest_bytes (rest_bytes hbs))) g4
    unfold rest4 at t5
    rw [nb_len] at t5 t1
    omega
  have hs10 : (nx3 (nx3 (nx3 (nx3 s6)))).size ≤ s6.size := Nat.le_trans (nx3_le _) (Nat.le_trans (nx3_le _) (Nat.le_trans (nx3_le _) (nx3_le _)))
  clear f3 h13 h15 h17
  generalize (readN (nb s6)).1 = x1' at *
  generalize (readN (nb (nx3 s6))).1 = x2 at *
  generalize (readN (nb (nx3 (nx3 s6)))).1 = x3 at *
  generalize (readN (nb (nx3 (nx3 (nx3 s6))))).1 = x4 at *
  generalize nx3 (nx3 (nx3 (nx3 s6))) = s10 at *
  have ex : (NtOk (a5, b6, c6, d6) (x1', x2, x3, x4) → False) → K (.tuple #[.pointer none, .int .i64 4]) H19 := fun z => by
    rw [if_neg (fun g => z (by rw [← (f4 g.1).2]; exact g.2))] at hN
    exact k4 (none_R hN) H19 h19.tail
  have inb : ∀ {u v : Int} {w : Bool}, inB u v = w → (w = true → 0 ≤ u ∧ u ≤ v) ∧ (w = false → ¬ (0 ≤ u ∧ u ≤ v)) := fun {u v w} e => by
    unfold inB at e
    subst e
    simp
  refine br_intro (fun p1 => ex fun z => ?_) (fun p1 => br_intro (fun p2 => ex fun z => ?_) (fun p2 => ?_))
  · have := of_decide_eq_true p1; have := z.1; dsimp only at this; omega
  · have := of_decide_eq_true p2; have := z.2.1; dsimp only at this; omega
  have p1 := of_decide_eq_false p1
  have p2 := of_decide_eq_false p2
  rw [wrap64_id (n := x3 - 1) (by omega) (by omega), wrap64_id (n := 1000000 - (x3 - 1)) (by omega) (by omega), wrap64_id (n := 1000000000 - (x3 - 1)) (by omega) (by omega), wrap64_id (n := b6 + c6) (by omega) (by omega)]
  refine within39_spec ⟨_, rfl, br_intro (fun p3 => ex fun z => ?_) (fun p3 => within39_spec ⟨_, rfl, br_intro (fun p4 => ex fun z => ?_) (fun p4 => within39_spec ⟨_, rfl, br_intro (fun p5 => ex fun z => ?_) (fun p5 => ?_)⟩)⟩)⟩
  · exact (inb (w := false) (by simpa using p3)).2 rfl z.2.2.1
  · have := (inb (w := false) (by simpa using p4)).2 rfl; have := z.2.2.2.1; dsimp only at this; omega
  · have := (inb (w := false) (by simpa using p5)).2 rfl; have := z.2.2.2.2.1; dsimp only at this; omega
  have p3 := (inb (w := true) (by simpa using p3)).1 rfl
  have p4 := (inb (w := true) (by simpa using p4)).1 rfl
  have p5 := (inb (w := true) (by simpa using p5)).1 rfl
  refine br_intro (fun p6 => ex fun z => ?_) (fun p6 => br_intro (fun p7 => ex fun z => ?_) (fun p7 => ?_))
  · have := of_decide_eq_true p6; have := z.2.2.2.2.2.1; dsimp only at this; omega
  · have := of_decide_eq_true p7; have := z.2.2.2.2.2.2.1; dsimp only at this; omega
  have p6 := of_decide_eq_false p6
  have p7 := of_decide_eq_false p7
  have app : ∀ X : Heap → Prop, (∀ H25, Holds (rtab t (flatT D ++ (N ++ [(x1', x2, x3, x4)]).map fun x => (pid, x)) :: cs) H25 → X H25) → ∃ l1 : Sl, cellH H19 ⟨t, 0, none⟩ = some (.slice l1.p l1.n l1.c) ∧ ∀ q9, H19 q9 = none → letH (Heap.upd H19 q9 (.cells #[.int .i64 pid, .int .i64 x1', .int .i64 x2, .int .i64 x3, .int .i64 x4] 83 (0, 0))) fun H23 => HL.Sub H19 H23 ∧
      runH Try.prog (Builtin.append_ #[79, 79] 79 #[.slice l1.p l1.n l1.c, .slice (some ⟨q9, 0, none⟩) 1 1]) H23 fun r13 H24 => ∃ l2 : Sl, r13 = .slice l2.p l2.n l2.c ∧ (∃ u, cellH H24 ⟨t, 0, none⟩ = some u) ∧ frozenH H24 ⟨t, 0, none⟩ = false ∧ letH (Heap.set H24 ⟨t, 0, none⟩ (.slice l2.p l2.n l2.c)) X := fun X kX => by
    obtain ⟨r, h20⟩ := rtab_open.1 h19
    have hrn := (h20.own 1 rfl).1
    rw [flat_len eMlen, List.length_append, List.length_map] at hrn
    refine ⟨r, h20.cell 0 rfl rfl, fun q hq => letH_intro fun H23 g => ?_⟩
    subst g
    refine ⟨HL.Sub.new hq _, ?_⟩
    have hpu := Holds.push ok79 (ty := 79) (T := 83) h20.swap (xs := eM (pid, (x1', x2, x3, x4))) (m := 1) rfl rfl (by omega) (K := fun r13 H24 => ∃ l2 : Sl, r13 = .slice l2.p l2.n l2.c ∧ (∃ u, cellH H24 ⟨t, 0, none⟩ = some u) ∧ frozenH H24 ⟨t, 0, none⟩ = false ∧ letH (Heap.set H24 ⟨t, 0, none⟩ (.slice l2.p l2.n l2.c)) X) (fun l2 H24 h24 n24 => ⟨l2, rfl, Holds.store h24.swap 0 rfl (by simp) fun H25 h25 => kX H25 (rtab_open.2 ⟨l2, ?_⟩)⟩) q hq
    · exact hpu
    · have e : (flatT D ++ (N ++ [(x1', x2, x3, x4)]).map fun x => (pid, x)).flatMap eM = (flatT D ++ N.map fun x => (pid, x)).flatMap eM ++ eM (pid, (x1', x2, x3, x4)) := by simp
      show Holds (_ :: own 83 5 l2 ((flatT D ++ (N ++ [(x1', x2, x3, x4)]).map fun x => (pid, x)).flatMap eM) :: cs) H25
      rw [e]; exact h25
  have nextI : NtOk (a5, b6, c6, d6) (x1', x2, x3, x4) → ∀ H25, Holds (rtab t (flatT D ++ (N ++ [(x1', x2, x3, x4)]).map fun x => (pid, x)) :: cs) H25 → (0 ≤ kx + 1 ∧ kx + 1 ≤ n ∧ (0 ≤ x2 ∧ x2 ≤ 1000001 ∧ 0 ≤ x3 ∧ x3 ≤ 64) ∧ (kx + 1 = 0 → x1' = 0 ∧ x2 = 0 ∧ x3 = 0 ∧ x4 = -1) ∧ s10.size ≤ 100000000 ∧ ∃ N : List Nt, Holds (rtab t (flatT D ++ N.map fun x => (pid, x)) :: cs) H25 ∧ (((!decide (ntGood (nb s6))) = true ∧ notesR n.toNat was0 (nb s5) = none) ∨ ((!decide (ntGood (nb s6))) = false ∧ ((flatT D).length + N.length) * 4 + s10.size ≤ 100000000 ∧ notesR n.toNat was0 (nb s5) = (notesR (n - (kx + 1)).toNat (x1', x2, x3, x4) (nb s10)).map fun p => (N ++ p.1, p.2)))) := fun z H25 h25 => by
    refine ⟨by omega, by omega, ⟨p4.1, by omega, by omega, by omega⟩, fun e => by omega, by omega, _, h25, ?_⟩
    by_cases gd : ntGood (nb s6)
    · have hl := hlen gd
      refine .inr ⟨by simp [gd], by rw [List.length_append, List.length_singleton]; omega, ?_⟩
      rw [if_pos ⟨gd, by rw [(f4 gd).2]; exact z⟩, (f4 gd).2, ← (f4 gd).1] at hN
      rw [hN]
      cases notesR (n - (kx + 1)).toNat (x1', x2, x3, x4) (nb s10) with
      | none => rfl
      | some p => simp
    · rw [if_neg (fun g => gd g.1)] at hN
      exact .inl ⟨by simp [gd], hN⟩
  refine br_intro (fun p8 => br_intro (fun p9 => br_intro (fun p10 => ex fun z => ?_) (fun p10 => ?_)) (fun p9 => ?_)) (fun p8 => ?_)
  · have := of_decide_eq_true p10; have := z.2.2.2.2.2.2.2 (by simpa using p9); dsimp only at this; omega
  · have p10 := of_decide_eq_false p10
    have z : NtOk (a5, b6, c6, d6) (x1', x2, x3, x4) := ⟨by dsimp only; omega, by dsimp only; omega, p3, by dsimp only; omega, by dsimp only; omega, by dsimp only; omega, by dsimp only; omega, fun _ => by dsimp only; omega⟩
    exact app _ fun H25 h25 => ⟨rfl, nextI z H25 h25, by dsimp only; omega⟩
  · have p9 : ¬ x1' = a5 := by simpa using p9
    have z : NtOk (a5, b6, c6, d6) (x1', x2, x3, x4) := ⟨by dsimp only; omega, by dsimp only; omega, p3, by dsimp only; omega, by dsimp only; omega, by dsimp only; omega, by dsimp only; omega, fun e => absurd e p9⟩
    exact app _ fun H25 h25 => ⟨rfl, nextI z H25 h25, by dsimp only; omega⟩
  · have p8 := of_decide_eq_false p8
    obtain ⟨w1, w2, w3, w4⟩ := xz (by omega)
    have z : NtOk (a5, b6, c6, d6) (x1', x2, x3, x4) := ⟨by dsimp only; omega, by dsimp only; omega, p3, by dsimp only; omega, by dsimp only; omega, by dsimp only; omega, by dsimp only; omega, fun _ => by dsimp only; omega⟩
    exact app _ fun H25 h25 => ⟨rfl, nextI z H25 h25, by dsimp only; omega⟩
end
end Go.Proofs.Ytkabaoigablphaa

/- Chapter 8: the document's Keep. -/
namespace Go.Proofs.Ytkabaoigablphaa
open Go Go.HL
set_option maxRecDepth 10000
set_option maxHeartbeats 1600000

abbrev ofP (L : List Mk) (k : Int) : List Mk := L.filter fun x => decide (x.1 = k)
def keepS (L0 : List Mk) : Option Int → List Mk → List Int
  | _, [] => []
  | prev, m :: l => (if prev = some m.1 then [] else [m.1, ((ofP L0 m.1).length : Int)]) ++ (ntI m.2 ++ keepS L0 (some m.1) l)
def startS : Option Int → List Mk → Nat
  | _, [] => 0
  | prev, m :: l => (if prev = some m.1 then 0 else 1) + startS (some m.1) l
def prevAt (L : List Mk) (i : Nat) : Option Int := if i = 0 then none else (L[i - 1]?).map Prod.fst
theorem rtab_mono {t : Nat} {L : List Mk} : Mono (rtab t L) := fun _ _ hs ⟨s, h⟩ => ⟨s, h.up hs⟩
theorem ofP_take {L : List Mk} {k : Int} {i : Nat} {a : Mk} (h : L[i]? = some a) : ofP (L.take (i + 1)) k = if a.1 = k then ofP (L.take i) k ++ [a] else ofP (L.take i) k := by
  obtain ⟨h1, h2⟩ := List.getElem?_eq_some_iff.1 h
  unfold ofP
  rw [List.take_succ_eq_append_getElem h1, h2, List.filter_append]
  split
  · rename_i c; rw [List.filter_cons_of_pos (by simpa using c)]; rfl
  · rename_i c; rw [List.filter_cons_of_neg (by simpa using c)]; simp
section
variable {cs : List Chunk} {H : Heap} {K : Value → Heap → Prop}
theorem of_spec {t : Nat} {L : List Mk} {pid : Int} {i : Nat} (h : Holds cs H) (ei : cs[i]? = some (rtab t L)) (hl : L.length ≤ 100000000) (k : ∀ (r : Sl) H', HL.Sub H H' → Holds (ownM r (ofP L pid) :: cs) H' → r.n = (ofP L pid).length → K (.slice r.p r.n r.c) H') :
    FnH Try.prog 45 #[.pointer (some ⟨t, 0, none⟩), .int .i64 pid] H K := by
  apply logboomref8_Table_of_fn
  unfold logboomref8_Table_of_vc
  obtain ⟨s, hh⟩ := h.read i ei rtab_mono
  have hR : Recs eM H s L := Own.recs eMlen (by decide) (hh.own 1 rfl) (by omega)
  have hn := hR.len
  refine ⟨fun o m H1 => 0 ≤ m ∧ m ≤ s.n ∧ Holds [ownM o (ofP (L.take m.toNat) pid), ro H] H1, fun _ m _ => (s.n - m).toNat, ⟨Int.le_refl _, by omega, (Holds.whole H).own_nil 83 5⟩, ?_⟩
  rintro o m H1 ⟨m0, m1, h1⟩
  have sub := h1.sub 1 rfl
  have hh1 := Holds.up sub hh
  refine ⟨s, hh1.cell 0 rfl rfl, br_intro (fun q => ?_) (fun q => ?_)⟩
  · have q := of_decide_eq_true q
    obtain ⟨q1, o1, a, e1, e2, e3⟩ := (Recs.mono _ _ sub hR).at_ eMlen (by decide) m0 q
    have hot := ofP_take (k := pid) e2
    have em : (m + 1).toNat = m.toNat + 1 := by omega
    have hon := (h1.own 0 rfl).1
    rw [flat_len eMlen] at hon
    have hfl : (ofP (L.take m.toNat) pid).length ≤ L.length := Nat.le_trans (List.length_filter_le _ _) (by rw [List.length_take]; omega)
    rw [wrap64_id (n := m + 1) (by omega) (by omega)]
    refine ⟨s, hh1.cell 0 rfl rfl, q1, o1, e1, m0, q, a.1, e3 0 _ rfl, br_intro (fun c => ?_) (fun c => ?_)⟩
    · have c : a.1 = pid := by simpa using c
      rw [if_pos c] at hot
      refine ⟨s, hh1.cell 0 rfl rfl, q1, o1, e1, m0, q, a.1, e3 0 _ rfl, a.2.1, e3 1 _ rfl, a.2.2.1, e3 2 _ rfl, a.2.2.2.1, e3 3 _ rfl, a.2.2.2.2, e3 4 _ rfl, ?_⟩
      refine Holds.push ok79 h1 (xs := eM a) (m := 1) rfl rfl (by omega) fun r H3 h3 n3 => ⟨r, rfl, rfl, ⟨by omega, by omega, ?_⟩, by dsimp only; omega⟩
      rw [em, hot]
      show Holds [own 83 5 r ((ofP (L.take m.toNat) pid ++ [a]).flatMap eM), _] H3
      have e : (ofP (L.take m.toNat) pid ++ [a]).flatMap eM = (ofP (L.take m.toNat) pid).flatMap eM ++ eM a := by simp
      rw [e]; exact h3
    · have c : ¬ a.1 = pid := by simpa using c
      rw [if_neg c] at hot
      exact ⟨rfl, ⟨by omega, by omega, by rw [em, hot]; exact h1⟩, by dsimp only; omega⟩
  · have q := of_decide_eq_false q
    rw [List.take_of_length_le (by omega)] at h1
    have hon := (h1.own 0 rfl).1
    rw [flat_len eMlen] at hon
    exact k o H1 sub (Holds.onto h1 h) (by omega)
theorem prev_drop {L : List Mk} {i : Nat} {a : Mk} (h : L[i]? = some a) : keepS L (prevAt L i) (L.drop i) = (if prevAt L i = some a.1 then [] else [a.1, ((ofP L a.1).length : Int)]) ++ (ntI a.2 ++ keepS L (prevAt L (i + 1)) (L.drop (i + 1))) ∧ startS (prevAt L i) (L.drop i) = (if prevAt L i = some a.1 then 0 else 1) + startS (prevAt L (i + 1)) (L.drop (i + 1)) := by
  obtain ⟨h1, h2⟩ := List.getElem?_eq_some_iff.1 h
  have e : prevAt L (i + 1) = some a.1 := by
    unfold prevAt
    rw [if_neg (by omega), Nat.add_sub_cancel, h]; rfl
  rw [List.drop_eq_getElem_cons h1, h2, e]
  exact ⟨rfl, rfl⟩
theorem rkeep_spec {t : Nat} {L : List Mk} {i : Nat} (h : Holds cs H) (ei : cs[i]? = some (rtab t L)) (hl : L.length ≤ 100000000) (wf : ∀ m ∈ L, i64B m.1 ∧ ∀ n ∈ ntI m.2, i64B n) (hb : (encL ((startS none L : Int) :: keepS L none L)).length ≤ 100000000)
    (k : ∀ H', HL.Sub H H' → K (.string (strN (sumN (encL ((startS none L : Int) :: keepS L none L)) ++ encL ((startS none L : Int) :: keepS L none L)))) H') :
    FnH Try.prog 22 #[.pointer (some ⟨t, 0, none⟩)] H K := by
  apply logboomref8_Table_Keep_fn
  unfold logboomref8_Table_Keep_vc
  obtain ⟨s, hh⟩ := h.read i ei rtab_mono
  have hR : Recs eM H s L := Own.recs eMlen (by decide) (hh.own 1 rfl) (by omega)
  have hn := hR.len
  rw [encL_cons, List.length_append] at hb
  refine ⟨fun a many m H1 => HL.Sub H H1 ∧ 0 ≤ m ∧ m ≤ s.n ∧ 0 ≤ many ∧ many ≤ m ∧ ∃ A, nb a = encL A ∧ A ++ keepS L (prevAt L m.toNat) (L.drop m.toNat) = keepS L none L ∧ many + startS (prevAt L m.toNat) (L.drop m.toNat) = startS none L, fun _ _ m _ => (s.n - m).toNat, ⟨HL.Sub.refl _, Int.le_refl _, by omega, Int.le_refl _, Int.le_refl _, [], rfl, rfl, by show (0 : Int) + _ = _; rw [Int.zero_add]; rfl⟩, ?_⟩
  rintro a many m H1 ⟨sub, m0, m1, y0, y1, A, hA, hK, hS⟩
  have hh1 := Holds.up sub hh
  have hAl : (encL A).length ≤ 100000000 := by
    have : (encL A).length ≤ (encL (keepS L none L)).length := by rw [← hK, encL_app, List.length_append]; omega
    omega
  refine ⟨s, hh1.cell 0 rfl rfl, br_intro (fun q => ?_) (fun q => ?_)⟩
  · have q := of_decide_eq_true q
    obtain ⟨q1, o1, x, e1, e2, e3⟩ := (Recs.mono _ _ sub hR).at_ eMlen (by decide) m0 q
    obtain ⟨d1, d2⟩ := prev_drop e2
    rw [d1] at hK
    rw [d2] at hS
    have hx := wf x (List.mem_of_getElem? e2)
    have em : (m + 1).toNat = m.toNat + 1 := by omega
    rw [wrap64_id (n := m + 1) (by omega) (by omega), wrap64_id (n := many + 1) (by omega) (by omega)]
    have has : a.size = (encL A).length := by rw [← nb_len, hA]
    have hsz : ∀ n : Int, (strN (encN n)).size ≤ 10 := fun n => by rw [← nb_len, nb_str (encN_bytes n)]; exact encN_len n
    have hof : (ofP L x.1).length ≤ L.length := List.length_filter_le _ _
    refine ⟨s, hh1.cell 0 rfl rfl, q1, o1, e1, m0, q, x.1, e3 0 _ rfl, x.2.1, e3 1 _ rfl, x.2.2.1, e3 2 _ rfl, x.2.2.2.1, e3 3 _ rfl, x.2.2.2.2, e3 4 _ rfl, ?_⟩
    refine ⟨fun b H2 => H2 = H1 ∧ b = !decide (prevAt L m.toNat = some x.1), br_intro (fun c => ⟨rfl, rfl, ?_⟩) (fun c => ?_), ?_⟩
    · have c : m = 0 := by simpa using c
      subst c
      have : prevAt L (Int.toNat 0) = none := rfl
      rw [this]; simp
    · have c : ¬ m = 0 := by simpa using c
      obtain ⟨q2, o2, z, f1, f2, f3⟩ := (Recs.mono _ _ sub hR).at_ eMlen (by decide) (j := m - 1) (by omega) (by omega)
      rw [wrap64_id (n := m - 1) (by omega) (by omega)]
      refine ⟨s, hh1.cell 0 rfl rfl, q2, o2, f1, by omega, by omega, z.1, f3 0 _ rfl, rfl, rfl, ?_⟩
      have e : prevAt L m.toNat = some z.1 := by
        unfold prevAt
        have : m.toNat - 1 = (m - 1).toNat := by omega
        rw [if_neg (by omega), this, f2]; rfl
      rw [e]
      by_cases w : z.1 = x.1
      · rw [w]; simp
      · rw [decide_eq_false (by simpa using w)]; simpa using w
    rintro b H2 ⟨rfl, hb2⟩
    refine br_intro (fun c => ?_) (fun c => ?_)
    · rw [c] at hb2
      have c : ¬ prevAt L m.toNat = some x.1 := by simpa using hb2.symm
      rw [if_neg c] at hK hS
      refine rint3_spec hx.1 fun H3 s3 => ⟨_, rfl, s3, ?_, of_spec (Holds.up (sub.trans s3) h) ei hl fun r H4 s4 h4 n4 => ⟨r, rfl, s3.trans s4, ?_⟩⟩
      · have := hsz x.1; omega
      rw [n4]
      refine rint3_spec (n := ((ofP L x.1).length : Int)) ⟨by omega, by omega⟩ fun H5 s5 => ⟨_, rfl, (s3.trans s4).trans s5, ?_, rint3_spec (hx.2 x.2.1 (by simp [ntI])) fun H6 s6 => ⟨_, rfl, s6, ?_, rint3_spec (hx.2 x.2.2.1 (by simp [ntI])) fun H7 s7 => ⟨_, rfl, s6.trans s7, ?_, rint3_spec (hx.2 x.2.2.2.1 (by simp [ntI])) fun H8 s8 => ⟨_, rfl, (s6.trans s7).trans s8, ?_, rint3_spec (hx.2 x.2.2.2.2 (by simp [ntI])) fun H9 s9 => ⟨_, rfl, ((s6.trans s7).trans s8).trans s9, ?_, rfl, ⟨?_, by omega, by omega, by omega, by omega, A ++ ([x.1, ((ofP L x.1).length : Int)] ++ ntI x.2), ?_, ?_, ?_⟩, by dsimp only; omega⟩⟩⟩⟩⟩
      all_goals try simp only [ByteArray.size_append]
      · have := hsz x.1; have := hsz ((ofP L x.1).length : Int); omega
      · have := hsz x.1; have := hsz ((ofP L x.1).length : Int); have := hsz x.2.1; omega
      · have := hsz x.1; have := hsz ((ofP L x.1).length : Int); have := hsz x.2.1; have := hsz x.2.2.1; omega
      · have := hsz x.1; have := hsz ((ofP L x.1).length : Int); have := hsz x.2.1; have := hsz x.2.2.1; have := hsz x.2.2.2.1; omega
      · have := hsz x.1; have := hsz ((ofP L x.1).length : Int); have := hsz x.2.1; have := hsz x.2.2.1; have := hsz x.2.2.2.1; have := hsz x.2.2.2.2; omega
      · exact ((((((sub.trans s3).trans s4).trans s5).trans s6).trans s7).trans s8).trans s9
      · simp only [nb_append, hA, nb_str (encN_bytes _), encL_app]
        simp [encL, ntI]
      · rw [em, ← hK]; simp
      · rw [em, ← hS]; push_cast; omega
    · rw [c] at hb2
      have c : prevAt L m.toNat = some x.1 := by simpa using hb2.symm
      rw [if_pos c] at hK hS
      refine rint3_spec (hx.2 x.2.1 (by simp [ntI])) fun H6 s6 => ⟨_, rfl, s6, ?_, rint3_spec (hx.2 x.2.2.1 (by simp [ntI])) fun H7 s7 => ⟨_, rfl, s6.trans s7, ?_, rint3_spec (hx.2 x.2.2.2.1 (by simp [ntI])) fun H8 s8 => ⟨_, rfl, (s6.trans s7).trans s8, ?_, rint3_spec (hx.2 x.2.2.2.2 (by simp [ntI])) fun H9 s9 => ⟨_, rfl, ((s6.trans s7).trans s8).trans s9, ?_, rfl, ⟨?_, by omega, by omega, by omega, by omega, A ++ ntI x.2, ?_, ?_, ?_⟩, by dsimp only; omega⟩⟩⟩⟩
      all_goals try simp only [ByteArray.size_append]
      · have := hsz x.2.1; omega
      · have := hsz x.2.1; have := hsz x.2.2.1; omega
      · have := hsz x.2.1; have := hsz x.2.2.1; have := hsz x.2.2.2.1; omega
      · have := hsz x.2.1; have := hsz x.2.2.1; have := hsz x.2.2.2.1; have := hsz x.2.2.2.2; omega
      · exact (((sub.trans s6).trans s7).trans s8).trans s9
      · simp only [nb_append, hA, nb_str (encN_bytes _), encL_app]
        simp [encL, ntI]
      · rw [em, ← hK]; simp
      · rw [em, ← hS]; push_cast; omega
  · have q := of_decide_eq_false q
    have e : L.drop m.toNat = [] := List.drop_eq_nil_of_le (by omega)
    rw [e] at hK hS
    have hK : A = keepS L none L := by
      have : keepS L (prevAt L m.toNat) [] = [] := rfl
      rw [this, List.append_nil] at hK; exact hK
    have hS : many = startS none L := by
      have : startS (prevAt L m.toNat) [] = 0 := rfl
      rw [this] at hS; simpa using hS
    subst hK
    rw [hS]
    have has : a.size = (encL (keepS L none L)).length := by rw [← nb_len, hA]
    have hm1 : (strN (encN (startS none L : Int))).size ≤ 10 := by rw [← nb_len, nb_str (encN_bytes _)]; exact encN_len _
    have hab : nb (strN (encN (startS none L : Int)) ++ a) = encL ((startS none L : Int) :: keepS L none L) := by rw [nb_append, nb_str (encN_bytes _), hA, encL_cons]
    refine rint3_spec (n := (startS none L : Int)) ⟨by omega, by omega⟩ fun H3 s3 => ⟨_, rfl, by omega, rcrc_spec (by rw [ByteArray.size_append]; omega) ⟨_, rfl, ?_⟩⟩
    refine four_spec (crcN_lt _ (nb_byte _)) fun H4 s4 => ⟨_, rfl, ?_, ?_⟩
    · have e4 : (strN (fourN (crcN (nb (strN (encN (startS none L : Int)) ++ a))))).size = 4 := by rw [← nb_len, nb_str (fourN_bytes _)]; rfl
      rw [e4, ByteArray.size_append]; omega
    · have e5 : strN (fourN (crcN (nb (strN (encN (startS none L : Int)) ++ a)))) ++ (strN (encN (startS none L : Int)) ++ a) = strN (sumN (encL ((startS none L : Int) :: keepS L none L)) ++ encL ((startS none L : Int) :: keepS L none L)) := by
        refine nb_inj ?_
        rw [nb_append, nb_str (fourN_bytes _), hab, nb_str (fun b hb => (List.mem_append.1 hb).elim (sumN_bytes _ b) (encL_bytes _ b))]; rfl
      rw [e5]
      exact k H4 ((sub.trans s3).trans s4)
end
end Go.Proofs.Ytkabaoigablphaa

/- Chapter 8: the document's table: New, Cut, Delete, top. -/
namespace Go.Proofs.Ytkabaoigablphaa
open Go Go.HL
set_option maxRecDepth 10000
set_option maxHeartbeats 1600000

theorem flt_take {p : Mk → Bool} {L : List Mk} {i : Nat} {a : Mk} (h : L[i]? = some a) : (L.take (i + 1)).filter p = if p a = true then (L.take i).filter p ++ [a] else (L.take i).filter p := by
  obtain ⟨h1, h2⟩ := List.getElem?_eq_some_iff.1 h
  rw [List.take_succ_eq_append_getElem h1, h2, List.filter_append]
  split
  · rename_i c; rw [List.filter_cons_of_pos c]; rfl
  · rename_i c; rw [List.filter_cons_of_neg c]; simp
/-- The notes ahead of an offset that stand behind another's, of its producer. -/
def relL (start : Int) (x : Mk) (l : List Mk) : List Mk := l.filter fun y => decide (y.1 = x.1) && decide (y.2.2.2.2 < start)
def keepX (start : Int) (x : Mk) (l : List Mk) : Bool := decide (x.2.2.2.2 ≥ start) || ((relL start x l).all (fun y => decide (y.2.1 = x.2.1)) && decide ((relL start x l).length < 5))
def rdelM (start : Int) : List Mk → List Mk
  | [] => []
  | x :: l => if keepX start x l = true then x :: rdelM start l else rdelM start l
theorem rdelM_len (start : Int) (l : List Mk) : (rdelM start l).length ≤ l.length := by
  induction l with
  | nil => exact Nat.le_refl _
  | cons x l ih => unfold rdelM; split <;> simp only [List.length_cons] <;> omega
section
variable {cs : List Chunk} {H : Heap} {K : Value → Heap → Prop}
theorem rnew_spec (h : Holds cs H) (k : ∀ t H', Holds (rtab t [] :: cs) H' → K (.pointer (some ⟨t, 0, none⟩)) H') : FnH Try.prog 23 #[] H K := by
  apply logboomref8_New_fn
  unfold logboomref8_New_vc
  exact h.new fun t H1 h1 => k t H1 (rtab_open.2 ⟨⟨none, 0, 0⟩, (h1.own_nil 83 5).swap⟩)
theorem mpush {o : Sl} {F : List Mk} (a : Mk) {X : Value → Heap → Prop} (h : Holds (ownM o F :: cs) H) (hb : F.length ≤ 200000000) (k : ∀ (r : Sl) H', Holds (ownM r (F ++ [a]) :: cs) H' → X (.slice r.p r.n r.c) H') :
    ∀ q, H q = none → letH (Heap.upd H q (.cells #[.int .i64 a.1, .int .i64 a.2.1, .int .i64 a.2.2.1, .int .i64 a.2.2.2.1, .int .i64 a.2.2.2.2] 83 (0, 0))) fun H2 => runH Try.prog (Builtin.append_ #[79, 79] 79 #[.slice o.p o.n o.c, .slice (some ⟨q, 0, none⟩) 1 1]) H2 X := by
  have hon := (h.own 0 rfl).1
  rw [flat_len eMlen] at hon
  refine Holds.push ok79 h (xs := eM a) (m := 1) rfl rfl (by omega) fun r H3 h3 _ => k r H3 ?_
  show Holds (own 83 5 r ((F ++ [a]).flatMap eM) :: cs) H3
  have e : (F ++ [a]).flatMap eM = F.flatMap eM ++ eM a := by simp
  rw [e]; exact h3
theorem rcut8_spec {t : Nat} {L : List Mk} {c : Int} (h : Holds (rtab t L :: cs) H) (hl : L.length ≤ 100000000) (k : ∀ H', Holds (rtab t (L.filter fun x => decide (x.2.2.2.2 < c)) :: cs) H' → K (.tuple #[]) H') : FnH Try.prog 26 #[.pointer (some ⟨t, 0, none⟩), .int .i64 c] H K := by
  apply logboomref8_Table_Cut_fn
  unfold logboomref8_Table_Cut_vc
  obtain ⟨s, hh⟩ := rtab_open.1 h
  have hn := (hh.own 1 rfl).1
  rw [flat_len eMlen] at hn
  refine ⟨fun o m H1 => 0 ≤ m ∧ m ≤ s.n ∧ Holds (ownM o ((L.take m.toNat).filter fun x => decide (x.2.2.2.2 < c)) :: blk t (.cells #[.slice s.p s.n s.c] 81 (0, 0)) :: ownM s L :: cs) H1, fun _ m _ => (s.n - m).toNat, ⟨Int.le_refl _, by omega, hh.own_nil 83 5⟩, ?_⟩
  rintro o m H1 ⟨m0, m1, h1⟩
  refine ⟨s, h1.cell 1 rfl rfl, br_intro (fun q => ?_) (fun q => ?_)⟩
  · have q := of_decide_eq_true q
    have hR : Recs eM H1 s L := Own.recs eMlen (by decide) (h1.own 2 rfl) (by omega)
    obtain ⟨q1, o1, a, e1, e2, e3⟩ := hR.at_ eMlen (by decide) m0 q
    have hot := flt_take (p := fun x => decide (x.2.2.2.2 < c)) e2
    have em : (m + 1).toNat = m.toNat + 1 := by omega
    rw [wrap64_id (n := m + 1) (by omega) (by omega)]
    refine ⟨s, h1.cell 1 rfl rfl, q1, o1, e1, m0, q, a.2.2.2.2, e3 4 _ rfl, br_intro (fun w => ?_) (fun w => ?_)⟩
    · rw [if_pos w] at hot
      refine ⟨s, h1.cell 1 rfl rfl, q1, o1, e1, m0, q, a.1, e3 0 _ rfl, a.2.1, e3 1 _ rfl, a.2.2.1, e3 2 _ rfl, a.2.2.2.1, e3 3 _ rfl, a.2.2.2.2, e3 4 _ rfl, ?_⟩
      refine mpush a h1 ?_ fun r H3 h3 => ⟨r, rfl, rfl, ⟨by omega, by omega, by rw [em, hot]; exact h3⟩, by dsimp only; omega⟩
      have := List.length_filter_le (fun x : Mk => decide (x.2.2.2.2 < c)) (L.take m.toNat)
      rw [List.length_take] at this; omega
    · rw [if_neg (by rw [w]; simp)] at hot
      exact ⟨rfl, ⟨by omega, by omega, by rw [em, hot]; exact h1⟩, by dsimp only; omega⟩
  · have q := of_decide_eq_false q
    rw [List.take_of_length_le (by omega)] at h1
    exact Holds.store h1 1 rfl (by simp) fun H2 h2 => k H2 (rtab_open.2 ⟨o, (h2.pull 2 rfl).tail.swap⟩)
theorem rel_step {start : Int} {x : Mk} {l : List Mk} {i : Nat} {y : Mk} (h : l[i]? = some y) : relL start x (l.drop i) = if (decide (y.1 = x.1) && decide (y.2.2.2.2 < start)) = true then y :: relL start x (l.drop (i + 1)) else relL start x (l.drop (i + 1)) := by
  obtain ⟨h1, h2⟩ := List.getElem?_eq_some_iff.1 h
  unfold relL
  rw [List.drop_eq_getElem_cons h1, h2]
  split
  · rename_i c; rw [List.filter_cons, if_pos c]
  · rename_i c; rw [List.filter_cons, if_neg c]
theorem rdelete8_spec {t : Nat} {L : List Mk} {c : Int} (h : Holds (rtab t L :: cs) H) (hl : L.length ≤ 100000000) (k : ∀ H', Holds (rtab t (rdelM c L) :: cs) H' → K (.tuple #[]) H') : FnH Try.prog 27 #[.pointer (some ⟨t, 0, none⟩), .int .i64 c] H K := by
  apply logboomref8_Table_Delete_fn
  unfold logboomref8_Table_Delete_vc
  obtain ⟨s, hh⟩ := rtab_open.1 h
  have hn := (hh.own 1 rfl).1
  rw [flat_len eMlen] at hn
  refine ⟨fun o m H1 => 0 ≤ m ∧ m ≤ s.n ∧ ∃ D, Holds (ownM o D :: blk t (.cells #[.slice s.p s.n s.c] 81 (0, 0)) :: ownM s L :: cs) H1 ∧ D ++ rdelM c (L.drop m.toNat) = rdelM c L, fun _ m _ => (s.n - m).toNat, ⟨Int.le_refl _, by omega, [], hh.own_nil 83 5, rfl⟩, ?_⟩
  rintro o m H1 ⟨m0, m1, D, h1, hD⟩
  refine ⟨s, h1.cell 1 rfl rfl, br_intro (fun q => ?_) (fun q => ?_)⟩
  · have q := of_decide_eq_true q
    have hR : Recs eM H1 s L := Own.recs eMlen (by decide) (h1.own 2 rfl) (by omega)
    obtain ⟨q1, o1, a, e1, e2, e3⟩ := hR.at_ eMlen (by decide) m0 q
    have em : (m + 1).toNat = m.toNat + 1 := by omega
    obtain ⟨g1, g2⟩ := List.getElem?_eq_some_iff.1 e2
    have hd : rdelM c (L.drop m.toNat) = if keepX c a (L.drop (m.toNat + 1)) = true then a :: rdelM c (L.drop (m.toNat + 1)) else rdelM c (L.drop (m.toNat + 1)) := by
      rw [List.drop_eq_getElem_cons g1, g2]; rfl
    rw [hd] at hD
    have hDl : D.length ≤ L.length := by
      have := congrArg List.length hD
      rw [List.length_append] at this
      have := rdelM_len c L
      omega
    rw [wrap64_id (n := m + 1) (by omega) (by omega)]
    refine ⟨s, h1.cell 1 rfl rfl, q1, o1, e1, m0, q, a.1, e3 0 _ rfl, a.2.1, e3 1 _ rfl, a.2.2.1, e3 2 _ rfl, a.2.2.2.1, e3 3 _ rfl, a.2.2.2.2, e3 4 _ rfl, ?_⟩
    refine ⟨fun b ot j H2 => H2 = H1 ∧ m + 1 ≤ j ∧ j ≤ s.n ∧ 0 ≤ b ∧ b ≤ j ∧ b + ((relL c a (L.drop j.toNat)).length : Int) = ((relL c a (L.drop (m.toNat + 1))).length : Int) ∧ (!ot && (relL c a (L.drop j.toNat)).all (fun y => decide (y.2.1 = a.2.1))) = (relL c a (L.drop (m.toNat + 1))).all (fun y => decide (y.2.1 = a.2.1)), fun _ _ j _ => (s.n - j).toNat, ⟨rfl, Int.le_refl _, by omega, Int.le_refl _, by omega, by rw [em]; omega, by rw [em]; simp⟩, ?_⟩
    rintro b ot j H2 ⟨rfl, j0, j1, b0, b1, hb, ho⟩
    refine ⟨s, h1.cell 1 rfl rfl, br_intro (fun q2 => ?_) (fun q2 => ?_)⟩
    · have q2 := of_decide_eq_true q2
      obtain ⟨q3, o3, y, f1, f2, f3⟩ := hR.at_ eMlen (by decide) (j := j) (by omega) q2
      have ej : (j + 1).toNat = j.toNat + 1 := by omega
      have hs := rel_step (start := c) (x := a) f2
      rw [wrap64_id (n := j + 1) (by omega) (by omega), wrap64_id (n := b + 1) (by omega) (by omega)]
      refine ⟨s, h1.cell 1 rfl rfl, q3, o3, f1, by omega, q2, y.1, f3 0 _ rfl, y.2.1, f3 1 _ rfl, y.2.2.1, f3 2 _ rfl, y.2.2.2.1, f3 3 _ rfl, y.2.2.2.2, f3 4 _ rfl, br_intro (fun w => ?_) (fun w => br_intro (fun w2 => ?_) (fun w2 => ?_))⟩
      · have w : ¬ y.1 = a.1 := by simpa using w
        rw [if_neg (by simp [w])] at hs
        rw [hs] at hb ho
        exact ⟨rfl, ⟨rfl, by omega, by omega, by omega, by omega, by rw [ej]; exact hb, by rw [ej]; exact ho⟩, by dsimp only; omega⟩
      · have w2 := of_decide_eq_true w2
        rw [if_neg (by rw [decide_eq_false (p := y.2.2.2.2 < c) (by omega)]; simp)] at hs
        rw [hs] at hb ho
        exact ⟨rfl, ⟨rfl, by omega, by omega, by omega, by omega, by rw [ej]; exact hb, by rw [ej]; exact ho⟩, by dsimp only; omega⟩
      · have w : y.1 = a.1 := by simpa using w
        have w2 := of_decide_eq_false w2
        rw [if_pos (by rw [decide_eq_true w, decide_eq_true (p := y.2.2.2.2 < c) (by omega)]; rfl)] at hs
        rw [hs] at hb ho
        rw [List.length_cons] at hb
        rw [List.all_cons] at ho
        refine br_intro (fun w3 => ?_) (fun w3 => ?_)
        · subst w3
          exact ⟨rfl, ⟨rfl, by omega, by omega, by omega, by omega, by rw [ej]; push_cast at hb; omega, by rw [ej, ← ho]; simp⟩, by dsimp only; omega⟩
        · subst w3
          refine ⟨rfl, ⟨rfl, by omega, by omega, by omega, by omega, by rw [ej]; push_cast at hb; omega, ?_⟩, by dsimp only; omega⟩
          rw [ej, ← ho]
          by_cases z : y.2.1 = a.2.1
          · rw [z]; simp
          · rw [decide_eq_false z]
            have : (y.2.1 != a.2.1) = true := by simpa using z
            rw [this]; rfl
    · have q2 := of_decide_eq_false q2
      have e0 : L.drop j.toNat = [] := List.drop_eq_nil_of_le (by omega)
      rw [e0] at hb ho
      have hb : b = ((relL c a (L.drop (m.toNat + 1))).length : Int) := by
        have : relL c a [] = [] := rfl
        rw [this] at hb; simpa using hb
      have ho : (!ot) = (relL c a (L.drop (m.toNat + 1))).all (fun y => decide (y.2.1 = a.2.1)) := by
        have : relL c a [] = [] := rfl
        rw [this] at ho; simpa using ho
      have keepIt : keepX c a (L.drop (m.toNat + 1)) = true → ∀ (r : Sl) H3, Holds (ownM r (D ++ [a]) :: blk t (.cells #[.slice s.p s.n s.c] 81 (0, 0)) :: ownM s L :: cs) H3 → (0 ≤ m + 1 ∧ m + 1 ≤ s.n ∧ ∃ D, Holds (ownM r D :: blk t (.cells #[.slice s.p s.n s.c] 81 (0, 0)) :: ownM s L :: cs) H3 ∧ D ++ rdelM c (L.drop (m + 1).toNat) = rdelM c L) := fun z r H3 h3 => by
        rw [if_pos z] at hD
        exact ⟨by omega, by omega, _, h3, by rw [em, ← hD]; simp⟩
      have dropIt : keepX c a (L.drop (m.toNat + 1)) = false → (0 ≤ m + 1 ∧ m + 1 ≤ s.n ∧ ∃ D, Holds (ownM o D :: blk t (.cells #[.slice s.p s.n s.c] 81 (0, 0)) :: ownM s L :: cs) H2 ∧ D ++ rdelM c (L.drop (m + 1).toNat) = rdelM c L) := fun z => by
        rw [if_neg (by rw [z]; simp)] at hD
        exact ⟨by omega, by omega, _, h1, by rw [em]; exact hD⟩
      unfold keepX at keepIt dropIt
      rw [← ho] at keepIt dropIt
      refine br_intro (fun w => ?_) (fun w => br_intro (fun w2 => br_intro (fun w3 => ?_) (fun w3 => ?_)) (fun w2 => ?_))
      · exact mpush a h1 (by omega) fun r H3 h3 => ⟨r, rfl, rfl, keepIt (by rw [w]; rfl) r H3 h3, by dsimp only; omega⟩
      · have w3 := of_decide_eq_true w3
        exact mpush a h1 (by omega) fun r H3 h3 => ⟨r, rfl, rfl, keepIt (by rw [w2, decide_eq_true (p := (relL c a (L.drop (m.toNat + 1))).length < 5) (by omega)]; simp) r H3 h3, by dsimp only; omega⟩
      · have w3 := of_decide_eq_false w3
        exact ⟨rfl, dropIt (by rw [w, decide_eq_false (p := (relL c a (L.drop (m.toNat + 1))).length < 5) (by omega)]; simp), by dsimp only; omega⟩
      · exact ⟨rfl, dropIt (by rw [w, w2]; rfl), by dsimp only; omega⟩
  · have q := of_decide_eq_false q
    rw [List.drop_eq_nil_of_le (by omega)] at hD
    have hD : D = rdelM c L := by
      have : rdelM c [] = [] := rfl
      rw [this, List.append_nil] at hD; exact hD
    subst hD
    exact Holds.store h1 1 rfl (by simp) fun H2 h2 => k H2 (rtab_open.2 ⟨o, (h2.pull 2 rfl).tail.swap⟩)
end
end Go.Proofs.Ytkabaoigablphaa

/- Chapter 8: the document's table: top, Ask. -/
namespace Go.Proofs.Ytkabaoigablphaa
open Go Go.HL
set_option maxRecDepth 10000
set_option maxHeartbeats 1600000

def maxE (M : List Mk) : Int := M.foldl (fun e m => if m.2.1 > e then m.2.1 else e) (-1)
def topF (M : List Mk) : List Mk := M.filter fun m => decide (m.2.1 = maxE M)
def nextF (F : List Mk) : Int := F.foldl (fun _ m => IntKind.wrap .i64 (m.2.2.1 + m.2.2.2.1)) 0
def last5 (F : List Mk) : List Mk := F.drop (F.length - 5)
theorem fold_take {β : Type} {f : β → Mk → β} {x : β} {M : List Mk} {i : Nat} {a : Mk} (h : M[i]? = some a) : (M.take (i + 1)).foldl f x = f ((M.take i).foldl f x) a := by
  obtain ⟨h1, h2⟩ := List.getElem?_eq_some_iff.1 h
  rw [List.take_succ_eq_append_getElem h1, h2, List.foldl_append]; rfl
section
variable {cs : List Chunk} {H : Heap} {K : Value → Heap → Prop}
theorem top_spec {s : Sl} {M : List Mk} (hR : Recs eM H s M) (hl : M.length ≤ 100000000) (k : ∀ (r : Sl) H', HL.Sub H H' → Recs eM H' r (last5 (topF M)) → K (.tuple #[.int .i64 (maxE M), .slice r.p r.n r.c, .int .i64 (nextF (topF M))]) H') : FnH Try.prog 47 #[.slice s.p s.n s.c] H K := by
  apply logboomref8_top_fn
  unfold logboomref8_top_vc
  have hn := hR.len
  refine ⟨fun e i H1 => H1 = H ∧ 0 ≤ i ∧ i ≤ s.n ∧ e = (M.take i.toNat).foldl (fun e m => if m.2.1 > e then m.2.1 else e) (-1), fun _ i _ => (s.n - i).toNat, ⟨rfl, Int.le_refl _, by omega, rfl⟩, ?_⟩
  rintro e i H1 ⟨rfl, i0, i1, he⟩
  refine br_intro (fun q => ?_) (fun q => ?_)
  · have q := of_decide_eq_true q
    obtain ⟨q1, o1, a, e1, e2, e3⟩ := hR.at_ eMlen (by decide) i0 q
    have ei : (i + 1).toNat = i.toNat + 1 := by omega
    rw [wrap64_id (n := i + 1) (by omega) (by omega)]
    exact ⟨q1, o1, e1, i0, q, a.2.1, e3 1 _ rfl, rfl, ⟨rfl, by omega, by omega, by rw [ei, fold_take e2, ← he]⟩, by dsimp only; omega⟩
  have q := of_decide_eq_false q
  rw [List.take_of_length_le (by omega)] at he
  have he : e = maxE M := he
  subst he
  clear i0 i1 q
  refine ⟨fun o nx j H2 => 0 ≤ j ∧ j ≤ s.n ∧ Holds [ownM o ((M.take j.toNat).filter fun m => decide (m.2.1 = maxE M)), ro H1] H2 ∧ nx = nextF ((M.take j.toNat).filter fun m => decide (m.2.1 = maxE M)), fun _ _ j _ => (s.n - j).toNat, ⟨Int.le_refl _, by omega, (Holds.whole H1).own_nil 83 5, rfl⟩, ?_⟩
  rintro o nx j H2 ⟨j0, j1, h2, hnx⟩
  have sub := h2.sub 1 rfl
  have hon := (h2.own 0 rfl).1
  rw [flat_len eMlen] at hon
  refine br_intro (fun q => ?_) (fun q => ?_)
  · have q := of_decide_eq_true q
    have hR2 := Recs.mono _ _ sub hR
    obtain ⟨q1, o1, a, e1, e2, e3⟩ := hR2.at_ eMlen (by decide) j0 q
    have ej : (j + 1).toNat = j.toNat + 1 := by omega
    have hot := flt_take (p := fun m => decide (m.2.1 = maxE M)) e2
    have hfl := List.length_filter_le (fun m : Mk => decide (m.2.1 = maxE M)) (M.take j.toNat)
    rw [List.length_take] at hfl
    rw [wrap64_id (n := j + 1) (by omega) (by omega)]
    refine ⟨q1, o1, e1, j0, q, a.2.1, e3 1 _ rfl, br_intro (fun w => ?_) (fun w => ?_)⟩
    · have w : a.2.1 = maxE M := by simpa using w
      rw [if_pos (decide_eq_true w)] at hot
      refine ⟨q1, o1, e1, j0, q, a.1, e3 0 _ rfl, a.2.1, e3 1 _ rfl, a.2.2.1, e3 2 _ rfl, a.2.2.2.1, e3 3 _ rfl, a.2.2.2.2, e3 4 _ rfl, ?_⟩
      refine mpush a h2 (by omega) fun r H3 h3 => ?_
      obtain ⟨q3, o3, a', f1, f2, f3⟩ := (Recs.mono _ _ (h3.sub 1 rfl) hR).at_ eMlen (by decide) j0 q
      obtain rfl : a' = a := by rw [e2] at f2; exact (Option.some.inj f2).symm
      refine ⟨r, rfl, q3, o3, f1, j0, q, a'.2.2.1, f3 2 _ rfl, q3, o3, f1, j0, q, a'.2.2.2.1, f3 3 _ rfl, rfl, ⟨by omega, by omega, by rw [ej, hot]; exact h3, ?_⟩, by dsimp only; omega⟩
      rw [ej, hot]
      unfold nextF
      rw [List.foldl_append]; rfl
    · have w : ¬ a.2.1 = maxE M := by simpa using w
      rw [if_neg (by simpa using w)] at hot
      exact ⟨rfl, ⟨by omega, by omega, by rw [ej, hot]; exact h2, by rw [ej, hot]; exact hnx⟩, by dsimp only; omega⟩
  · have q := of_decide_eq_false q
    rw [List.take_of_length_le (by omega)] at h2 hnx hon
    have hnx : nx = nextF (topF M) := hnx
    have h2 : Holds [ownM o (topF M), ro H1] H2 := h2
    have hon : (topF M).length * 5 = o.n * 5 := hon
    have hfl : (topF M).length ≤ M.length := List.length_filter_le _ _
    subst hnx
    have hR2 : Recs eM H2 o (topF M) := Own.recs eMlen (by decide) (h2.own 0 rfl) (by omega)
    refine br_intro (fun w => ?_) (fun w => ?_)
    · have w := of_decide_eq_true w
      rw [wrap64_id (n := (o.n : Int) - 5) (by omega) (by omega)]
      have hf := hR2.from_ eMlen (j := (o.n : Int) - 5) (by omega) (by omega)
      have ed : (topF M).drop ((o.n : Int) - 5).toNat = last5 (topF M) := by
        unfold last5
        congr 1; omega
      rw [ed] at hf
      exact ⟨by omega, by omega, k _ H2 sub hf⟩
    · have w := of_decide_eq_false w
      have ed : last5 (topF M) = topF M := by
        unfold last5
        have : (topF M).length - 5 = 0 := by omega
        rw [this]; rfl
      exact k o H2 sub (by rw [ed]; exact hR2)
/-! ### the document's answer -/
def askT (e : Int) (F : List Mk) (nx epoch seq n : Int) : Int × Int :=
  if epoch > e then (if seq = 0 then (-1, 0) else (-1, 11))
  else if epoch < e then (-1, 13)
  else match F.find? (fun x => decide (x.2.2.1 = seq) && decide (x.2.2.2.1 = n)) with
    | some x => (x.2.2.2.2, 0)
    | none => if seq = nx then (-1, 0) else if seq > nx then (-1, 11) else (-1, 12)
def askR (L : List Mk) (pid epoch seq n : Int) : Int × Int :=
  if inB pid 1000000000 = false ∨ inB epoch 1000000000 = false ∨ inB seq 1000000000 = false ∨ n < 1 ∨ n > 64 ∨ (pid = 0 ∧ (epoch ≠ 0 ∨ seq ≠ 0)) then (-1, 1)
  else if pid = 0 then (-1, 0)
  else if seq > 1000000 - (n - 1) then (-1, 20)
  else askT (maxE (ofP L pid)) (last5 (topF (ofP L pid))) (nextF (topF (ofP L pid))) epoch seq n
theorem find_drop {p : Mk → Bool} {F : List Mk} {i : Nat} {a : Mk} (h : F[i]? = some a) : (F.drop i).find? p = if p a = true then some a else (F.drop (i + 1)).find? p := by
  obtain ⟨h1, h2⟩ := List.getElem?_eq_some_iff.1 h
  rw [List.drop_eq_getElem_cons h1, h2, List.find?_cons]
  cases p a <;> rfl
end
end Go.Proofs.Ytkabaoigablphaa

/- Chapter 8: the document's Ask. -/
namespace Go.Proofs.Ytkabaoigablphaa
open Go Go.HL
set_option maxRecDepth 10000
set_option maxHeartbeats 1600000

section
variable {cs : List Chunk} {H : Heap} {K : Value → Heap → Prop}
theorem rask_spec {t : Nat} {L : List Mk} {pid epoch seq n : Int} {i : Nat} (h : Holds cs H) (ei : cs[i]? = some (rtab t L)) (hl : L.length ≤ 100000000) (k : ∀ H', HL.Sub H H' → K (ansV (askR L pid epoch seq n)) H') :
    FnH Try.prog 25 #[.pointer (some ⟨t, 0, none⟩), .int .i64 pid, .int .i64 epoch, .int .i64 seq, .int .i64 n] H K := by
  apply logboomref8_Table_Ask_fn
  unfold logboomref8_Table_Ask_vc
  unfold askR at k
  refine within39_spec ⟨_, rfl, within39_spec ⟨_, rfl, within39_spec ⟨_, rfl, ?_⟩⟩⟩
  have arg : (inB pid 1000000000 = false ∨ inB epoch 1000000000 = false ∨ inB seq 1000000000 = false ∨ n < 1 ∨ n > 64 ∨ (pid = 0 ∧ (epoch ≠ 0 ∨ seq ≠ 0))) → K (.tuple #[.int .i64 (-1), .int .i64 1]) H := fun z => by
    have k := k H (HL.Sub.refl _)
    rw [if_pos z] at k; exact k
  refine br_intro (fun p => arg (.inl (by simpa using p))) (fun p1 => br_intro (fun p => arg (.inr (.inl (by simpa using p)))) (fun p2 => br_intro (fun p => arg (.inr (.inr (.inl (by simpa using p))))) (fun p3 => br_intro (fun p => arg (.inr (.inr (.inr (.inl (of_decide_eq_true p)))))) (fun p4 => br_intro (fun p => arg (.inr (.inr (.inr (.inr (.inl (of_decide_eq_true p))))))) (fun p5 => ?_)))))
  have p1 : inB pid 1000000000 = true := by simpa using p1
  have p2 : inB epoch 1000000000 = true := by simpa using p2
  have p3 : inB seq 1000000000 = true := by simpa using p3
  have p4 := of_decide_eq_false p4
  have p5 := of_decide_eq_false p5
  refine br_intro (fun p6 => ?_) (fun p6 => ?_)
  · have p6 : pid = 0 := by simpa using p6
    refine br_intro (fun p => arg (.inr (.inr (.inr (.inr (.inr ⟨p6, .inl (by simpa using p)⟩)))))) (fun p7 => br_intro (fun p => arg (.inr (.inr (.inr (.inr (.inr ⟨p6, .inr (by simpa using p)⟩)))))) (fun p8 => br_t (by rw [p6]; rfl) ?_))
    have p7 : epoch = 0 := by simpa using p7
    have p8 : seq = 0 := by simpa using p8
    have k := k H (HL.Sub.refl _)
    rw [if_neg (fun z => by
      rcases z with z | z | z | z | z | z
      · rw [p1] at z; cases z
      · rw [p2] at z; cases z
      · rw [p3] at z; cases z
      · omega
      · omega
      · rcases z.2 with y | y
        · exact y p7
        · exact y p8), if_pos p6] at k
    exact k
  have p6 : ¬ pid = 0 := by simpa using p6
  rw [if_neg (fun z => by
      rcases z with z | z | z | z | z | z
      · rw [p1] at z; cases z
      · rw [p2] at z; cases z
      · rw [p3] at z; cases z
      · omega
      · omega
      · exact p6 z.1), if_neg p6] at k
  rw [wrap64_id (n := n - 1) (by omega) (by omega), wrap64_id (n := 1000000 - (n - 1)) (by omega) (by omega)]
  refine br_f (by simpa using p6) (br_intro (fun p7 => ?_) (fun p7 => ?_))
  · have k := k H (HL.Sub.refl _)
    rw [if_pos (of_decide_eq_true p7)] at k; exact k
  rw [if_neg (of_decide_eq_false p7)] at k
  have hof : (ofP L pid).length ≤ L.length := List.length_filter_le _ _
  refine of_spec h ei hl fun r H4 s4 h4 n4 => ⟨r, rfl, ?_⟩
  refine top_spec (Own.recs eMlen (by decide) (h4.own 0 rfl) (by omega)) (by omega) fun u H5 s5 hR => ⟨_, u, _, rfl, ?_⟩
  have k := k H5 (s4.trans s5)
  generalize maxE (ofP L pid) = e at *
  generalize nextF (topF (ofP L pid)) = nx at *
  generalize last5 (topF (ofP L pid)) = F at *
  unfold askT at k
  refine br_intro (fun w => ?_) (fun w => ?_)
  · rw [if_pos (of_decide_eq_true w)] at k
    refine br_intro (fun w2 => ?_) (fun w2 => ?_)
    · rw [if_neg (by simpa using w2)] at k; exact k
    · rw [if_pos (by simpa using w2)] at k; exact k
  rw [if_neg (of_decide_eq_false w)] at k
  refine br_intro (fun w2 => ?_) (fun w2 => ?_)
  · rw [if_pos (of_decide_eq_true w2)] at k; exact k
  rw [if_neg (of_decide_eq_false w2)] at k
  have hu := hR.len
  have hub := hR.big
  refine ⟨fun j H6 => H6 = H5 ∧ 0 ≤ j ∧ j ≤ u.n ∧ F.find? (fun x => decide (x.2.2.1 = seq) && decide (x.2.2.2.1 = n)) = (F.drop j.toNat).find? (fun x => decide (x.2.2.1 = seq) && decide (x.2.2.2.1 = n)), fun j _ => (u.n - j).toNat, ⟨rfl, Int.le_refl _, by omega, rfl⟩, ?_⟩
  rintro j H6 ⟨rfl, j0, j1, hj⟩
  refine br_intro (fun q => ?_) (fun q => ?_)
  · have q := of_decide_eq_true q
    obtain ⟨q1, o1, a, e1, e2, e3⟩ := hR.at_ eMlen (by decide) j0 q
    have ej : (j + 1).toNat = j.toNat + 1 := by omega
    have hs := find_drop (p := fun x => decide (x.2.2.1 = seq) && decide (x.2.2.2.1 = n)) e2
    rw [hs] at hj
    rw [wrap64_id (n := j + 1) (by omega) (by omega)]
    refine ⟨fun b H7 => H7 = H6 ∧ b = (decide (a.2.2.1 = seq) && decide (a.2.2.2.1 = n)), ⟨q1, o1, e1, j0, q, a.2.2.1, e3 2 _ rfl, br_intro (fun c => ⟨q1, o1, e1, j0, q, a.2.2.2.1, e3 3 _ rfl, rfl, rfl, ?_⟩) (fun c => ⟨rfl, rfl, ?_⟩)⟩, ?_⟩
    · have c : a.2.2.1 = seq := by simpa using c
      rw [decide_eq_true c, Bool.true_and]; rfl
    · have c : ¬ a.2.2.1 = seq := by simpa using c
      rw [decide_eq_false c]; rfl
    rintro b H7 ⟨rfl, hb⟩
    refine br_intro (fun c => ?_) (fun c => ?_)
    · rw [if_pos (by rw [← hb]; exact c)] at hj
      refine ⟨q1, o1, e1, j0, q, a.2.2.2.2, e3 4 _ rfl, ?_⟩
      rw [hj] at k; exact k
    · rw [if_neg (by rw [← hb, c]; simp)] at hj
      exact ⟨rfl, ⟨rfl, by omega, by omega, by rw [ej]; exact hj⟩, by dsimp only; omega⟩
  · have q := of_decide_eq_false q
    rw [List.drop_eq_nil_of_le (by omega)] at hj
    rw [hj] at k
    refine br_intro (fun c => ?_) (fun c => br_intro (fun c2 => ?_) (fun c2 => ?_))
    · have k : K (ansV (if seq = nx then (-1, 0) else if seq > nx then (-1, 11) else (-1, 12))) H6 := k
      rw [if_pos (by simpa using c)] at k; exact k
    · have k : K (ansV (if seq = nx then (-1, 0) else if seq > nx then (-1, 11) else (-1, 12))) H6 := k
      rw [if_neg (by simpa using c), if_pos (of_decide_eq_true c2)] at k; exact k
    · have k : K (ansV (if seq = nx then (-1, 0) else if seq > nx then (-1, 11) else (-1, 12))) H6 := k
      rw [if_neg (by simpa using c), if_neg (of_decide_eq_false c2)] at k; exact k
end
end Go.Proofs.Ytkabaoigablphaa

/- Chapter 8: the document's Right, of a batch of empty records. -/
namespace Go.Proofs.Ytkabaoigablphaa
open Go Go.HL
set_option maxRecDepth 10000
set_option maxHeartbeats 1600000

/-- A batch of so many empty records may be. -/
def ZOk (base pid epoch seq n : Int) : Prop := (0 ≤ pid ∧ pid ≤ 1000000000) ∧ (0 ≤ epoch ∧ epoch ≤ 1000000000) ∧ (0 ≤ seq ∧ seq ≤ 1000000000) ∧ 0 ≤ base ∧ ¬ (pid = 0 ∧ (epoch ≠ 0 ∨ seq ≠ 0)) ∧ 1 ≤ n ∧ n ≤ 64 ∧ base ≤ 1000000000 - (n - 1) ∧ seq ≤ 1000000 - (n - 1)
section
variable {H : Heap} {K : Value → Heap → Prop}
theorem rbody3_spec {base pid epoch seq : Int} {s : Sl} {n : Nat} (hR : Recs eR H s (List.replicate n zr)) (hn : n ≤ 64) (w0 : i64B base) (w1 : i64B pid) (w2 : i64B epoch) (w3 : i64B seq) (k : ∀ (x : ByteArray) H', HL.Sub H H' → x.size ≤ 60 + 3 * n → K (.string x) H') :
    FnH Try.prog 60 #[.agg #[.int .i64 base, .int .i64 0, .int .i64 pid, .int .i64 epoch, .int .i64 seq, .slice s.p s.n s.c]] H K := by
  apply logboomref3_body_fn
  unfold logboomref3_body_vc
  have hl := hR.len
  rw [List.length_replicate] at hl
  have hsz : ∀ n : Int, (strN (encN n)).size ≤ 10 := fun n => by rw [← nb_len, nb_str (encN_bytes n)]; exact encN_len n
  have h0 : (strN (encN 0)).size = 1 := by rw [← nb_len, nb_str (encN_bytes 0)]; rfl
  have z0 : i64B 0 := ⟨by decide, by decide⟩
  have c1 := hsz base; have c2 := hsz 0; have c3 := hsz pid; have c4 := hsz epoch; have c5 := hsz seq; have c6 := hsz (s.n : Int)
  refine rint3_spec w0 fun H1 s1 => ⟨_, rfl, s1, rint3_spec z0 fun H2 s2 => ⟨_, rfl, s1.trans s2, by omega, rint3_spec w1 fun H3 s3 => ⟨_, rfl, (s1.trans s2).trans s3, by rw [ByteArray.size_append]; omega, rint3_spec w2 fun H4 s4 => ⟨_, rfl, ((s1.trans s2).trans s3).trans s4, by simp only [ByteArray.size_append]; omega, rint3_spec w3 fun H5 s5 => ⟨_, rfl, (((s1.trans s2).trans s3).trans s4).trans s5, by simp only [ByteArray.size_append]; omega, rint3_spec (n := (s.n : Int)) ⟨by omega, by omega⟩ fun H6 s6 => ⟨_, rfl, ((((s1.trans s2).trans s3).trans s4).trans s5).trans s6, by simp only [ByteArray.size_append]; omega, ?_⟩⟩⟩⟩⟩⟩
  have sub := ((((s1.trans s2).trans s3).trans s4).trans s5).trans s6
  clear s1 s2 s3 s4 s5 s6
  refine ⟨fun x i H7 => HL.Sub H H7 ∧ 0 ≤ i ∧ i ≤ s.n ∧ (x.size : Int) ≤ 60 + 3 * i, fun _ i _ => (s.n - i).toNat, ⟨sub, Int.le_refl _, by omega, by simp only [ByteArray.size_append]; omega⟩, ?_⟩
  rintro x i H7 ⟨sub, i0, i1, hx⟩
  refine br_intro (fun q => ?_) (fun q => k x H7 sub (by omega))
  have q := of_decide_eq_true q
  obtain ⟨q1, o1, a, e1, e2, e3⟩ := (Recs.mono _ _ sub hR).at_ (k := 3) (fun _ => rfl) (by decide) i0 q
  obtain rfl : a = zr := List.eq_of_mem_replicate (List.mem_of_getElem? e2)
  have es : eB.size = 0 := rfl
  refine ⟨q1, o1, e1, i0, q, eB, e3 0 _ rfl, eB, e3 1 _ rfl, 0, e3 2 _ rfl, rint3_spec z0 fun H8 s8 => ⟨_, rfl, s8, by omega, ?_⟩⟩
  have e0 : ((eB.size : Nat) : Int) = 0 := rfl
  rw [e0, wrap64_id (n := i + 1) (by omega) (by omega)]
  refine rint3_spec z0 fun H9 s9 => ⟨_, rfl, s8.trans s9, by rw [ByteArray.size_append]; omega, by simp only [ByteArray.size_append]; omega, rint3_spec z0 fun H10 s10 => ⟨_, rfl, (s8.trans s9).trans s10, by simp only [ByteArray.size_append]; omega, by simp only [ByteArray.size_append]; omega, rfl, ⟨((sub.trans s8).trans s9).trans s10, by omega, by omega, ?_⟩, by dsimp only; omega⟩⟩
  simp only [ByteArray.size_append]
  omega
theorem rright3_spec {base pid epoch seq : Int} {s : Sl} {n : Nat} (hR : Recs eR H s (List.replicate n zr)) (hn : n ≤ 100) (w0 : i64B base) (w1 : i64B pid) (w2 : i64B epoch) (w3 : i64B seq) (k : ∀ (r : Int) H', HL.Sub H H' → (r = 0 ↔ ZOk base pid epoch seq n) → K (.int .i64 r) H') :
    FnH Try.prog 46 #[.agg #[.int .i64 base, .int .i64 0, .int .i64 pid, .int .i64 epoch, .int .i64 seq, .slice s.p s.n s.c]] H K := by
  apply logboomref3_Right_fn
  unfold logboomref3_Right_vc
  have hl := hR.len
  rw [List.length_replicate] at hl
  refine (Holds.whole H).newS fun q1 H1 s1 h1 => ?_
  have hL : Ints H1 ⟨some ⟨q1, 0, none⟩, 4, 4⟩ [0, pid, epoch, seq] := Holds.litInts (l := [0, pid, epoch, seq]) h1 (by show (4 : Nat) ≤ _; decide)
  have no : ∀ (r : Int) H', HL.Sub H H' → r ≠ 0 → ¬ ZOk base pid epoch seq n → K (.int .i64 r) H' := fun r H' sb hr hz => k r H' sb ⟨fun e => absurd e hr, fun z => absurd z hz⟩
  have hall : ZOk base pid epoch seq n → ∀ j, 0 ≤ [0, pid, epoch, seq].getD j 0 ∧ [0, pid, epoch, seq].getD j 0 ≤ 1000000000 := fun z j => by
    obtain ⟨a, b, c, -⟩ := z
    match j with
    | 0 => exact ⟨Int.le_refl _, by show (0 : Int) ≤ _; decide⟩
    | 1 => exact a
    | 2 => exact b
    | 3 => exact c
    | j + 4 => exact ⟨Int.le_refl _, by show (0 : Int) ≤ _; decide⟩
  refine ⟨fun i H2 => H2 = H1 ∧ 0 ≤ i ∧ i ≤ 4 ∧ ∀ j, j < i.toNat → 0 ≤ [0, pid, epoch, seq].getD j 0 ∧ [0, pid, epoch, seq].getD j 0 ≤ 1000000000, fun i _ => (4 - i).toNat, ⟨rfl, Int.le_refl _, by decide, fun j hj => by simp at hj⟩, ?_⟩
  rintro i H2 ⟨rfl, i0, i1, hj⟩
  refine br_intro (fun q => ?_) (fun q => ?_)
  · have q := of_decide_eq_true q
    obtain ⟨q2, o1, e1, e2, e3, e4⟩ := hL.at_ i0 q
    refine ⟨q2, o1, e1, i0, q, _, e4, br_intro (fun c => no 1 _ s1 (by decide) fun z => ?_) (fun c => ⟨q2, o1, e1, i0, q, _, e4, br_intro (fun c2 => no 1 _ s1 (by decide) fun z => ?_) (fun c2 => ?_)⟩)⟩
    · have := of_decide_eq_true c; have := hall z i.toNat; omega
    · have := of_decide_eq_true c2; have := hall z i.toNat; omega
    · have c := of_decide_eq_false c
      have c2 := of_decide_eq_false c2
      rw [wrap64_id (n := i + 1) (by omega) (by omega)]
      refine ⟨rfl, ⟨rfl, by omega, by omega, fun j hj2 => ?_⟩, by dsimp only; omega⟩
      by_cases e : j = i.toNat
      · subst e; omega
      · exact hj j (by omega)
  have q : ¬ i < 4 := of_decide_eq_false q
  have g1 : 0 ≤ pid ∧ pid ≤ 1000000000 := hj 1 (by omega)
  have g2 : 0 ≤ epoch ∧ epoch ≤ 1000000000 := hj 2 (by omega)
  have g3 : 0 ≤ seq ∧ seq ≤ 1000000000 := hj 3 (by omega)
  clear hj hall hL q i0 i1
  refine br_intro (fun c => no 1 _ s1 (by decide) fun z => ?_) (fun c0 => ?_)
  · have := of_decide_eq_true c; have := z.2.2.2.1; omega
  have c0 := of_decide_eq_false c0
  have hR2 : Recs eR H2 s (List.replicate n zr) := Recs.mono _ _ s1 hR
  have rem : ¬ (pid = 0 ∧ (epoch ≠ 0 ∨ seq ≠ 0)) → ∀ H', HL.Sub H H' → n ≠ 0 → n ≤ 64 → br (decide (base > IntKind.wrap .i64 (1000000000 - IntKind.wrap .i64 ((s.n : Int) - 1)))) (K (.int .i64 20) H') (br (decide (seq > IntKind.wrap .i64 (1000000 - IntKind.wrap .i64 ((s.n : Int) - 1)))) (K (.int .i64 20) H')
      (FnH Try.prog 60 #[.agg #[.int .i64 base, .int .i64 0, .int .i64 pid, .int .i64 epoch, .int .i64 seq, .slice s.p s.n s.c]] H' fun r H5 => ∃ x : ByteArray, r = .string x ∧ br (decide (IntKind.wrap .i64 ((x.size : Int) + 8) > 4096)) (K (.int .i64 2) H5) (K (.int .i64 0) H5))) := fun hp H' sb n0 n64 => by
    rw [wrap64_id (n := (s.n : Int) - 1) (by omega) (by omega), wrap64_id (n := 1000000000 - ((s.n : Int) - 1)) (by omega) (by omega), wrap64_id (n := 1000000 - ((s.n : Int) - 1)) (by omega) (by omega)]
    refine br_intro (fun c => no 20 _ sb (by decide) fun z => ?_) (fun c => br_intro (fun c2 => no 20 _ sb (by decide) fun z => ?_) (fun c2 => ?_))
    · have := of_decide_eq_true c; have := z.2.2.2.2.2.2.2.1; omega
    · have := of_decide_eq_true c2; have := z.2.2.2.2.2.2.2.2; omega
    have c := of_decide_eq_false c
    have c2 := of_decide_eq_false c2
    refine rbody3_spec (Recs.mono _ _ sb hR) n64 w0 w1 w2 w3 fun x H5 s5 hx => ⟨x, rfl, ?_⟩
    rw [wrap64_id (n := (x.size : Int) + 8) (by omega) (by omega)]
    refine br_f (decide_eq_false (by omega)) (k 0 H5 (sb.trans s5) ⟨fun _ => ⟨g1, g2, g3, by omega, hp, by omega, by omega, by omega, by omega⟩, fun _ => rfl⟩)
  refine br_intro (fun c1 => br_intro (fun c2 => no 1 _ s1 (by decide) fun z => ?_) (fun c2 => br_intro (fun c3 => no 1 _ s1 (by decide) fun z => ?_) (fun c3 => ?_))) (fun c1 => ?_)
  · exact z.2.2.2.2.1 ⟨by simpa using c1, .inl (by simpa using c2)⟩
  · exact z.2.2.2.2.1 ⟨by simpa using c1, .inr (by simpa using c3)⟩
  all_goals
    have hp : ¬ (pid = 0 ∧ (epoch ≠ 0 ∨ seq ≠ 0)) := by
      first
        | (have c2 : epoch = 0 := by simpa using c2
           have c3 : seq = 0 := by simpa using c3
           exact fun z => z.2.elim (fun y => y c2) (fun y => y c3))
        | (have c1 : ¬ pid = 0 := by simpa using c1
           exact fun z => c1 z.1)
    refine br_intro (fun c4 => no 1 _ s1 (by decide) fun z => ?_) (fun c4 => ?_)
    · have c4 : (s.n : Int) = 0 := by simpa using c4
      have := z.2.2.2.2.2.1; omega
    have c4 : ¬ (s.n : Int) = 0 := by simpa using c4
    refine ⟨fun i H3 => H3 = H2 ∧ 0 ≤ i ∧ i ≤ s.n, fun i _ => (s.n - i).toNat, ⟨rfl, Int.le_refl _, by omega⟩, ?_⟩
    rintro i H3 ⟨rfl, i0, i1⟩
    refine br_intro (fun q => ?_) (fun q => ?_)
    · have q := of_decide_eq_true q
      obtain ⟨q1, o1, a, e1, e2, e3⟩ := hR2.at_ (k := 3) (fun _ => rfl) (by decide) i0 q
      obtain rfl : a = zr := List.eq_of_mem_replicate (List.mem_of_getElem? e2)
      rw [wrap64_id (n := i + 1) (by omega) (by omega)]
      exact ⟨q1, o1, e1, i0, q, 0, e3 2 _ rfl, br_f rfl ⟨q1, o1, e1, i0, q, 0, e3 2 _ rfl, br_f rfl ⟨rfl, ⟨rfl, by omega, by omega⟩, by dsimp only; omega⟩⟩⟩
    clear i0 i1 q
    refine br_intro (fun c5 => no 3 _ s1 (by decide) fun z => ?_) (fun c5 => ?_)
    · have := of_decide_eq_true c5; have := z.2.2.2.2.2.2.1; omega
    have c5 := of_decide_eq_false c5
    refine ⟨fun i H4 => H4 = H3 ∧ 0 ≤ i ∧ i ≤ s.n, fun i _ => (s.n - i).toNat, ⟨rfl, Int.le_refl _, by omega⟩, ?_⟩
    rintro i H4 ⟨rfl, i0, i1⟩
    refine br_intro (fun q => ?_) (fun q => rem hp H4 s1 (by omega) (by omega))
    have q := of_decide_eq_true q
    obtain ⟨q1, o1, a, e1, e2, e3⟩ := hR2.at_ (k := 3) (fun _ => rfl) (by decide) i0 q
    obtain rfl : a = zr := List.eq_of_mem_replicate (List.mem_of_getElem? e2)
    rw [wrap64_id (n := i + 1) (by omega) (by omega)]
    exact ⟨q1, o1, e1, i0, q, eB, e3 0 _ rfl, br_f rfl ⟨q1, o1, e1, i0, q, eB, e3 1 _ rfl, br_f rfl ⟨rfl, ⟨rfl, by omega, by omega⟩, by dsimp only; omega⟩⟩⟩
end
end Go.Proofs.Ytkabaoigablphaa

/- Chapter 8: the document's Note. -/
namespace Go.Proofs.Ytkabaoigablphaa
open Go Go.HL
set_option maxRecDepth 10000
set_option maxHeartbeats 3200000

def insR (x : Mk) : List Mk → List Mk
  | [] => [x]
  | y :: l => if y.1 > x.1 then x :: y :: l else y :: insR x l
def lastLate (M : List Mk) (base : Int) : Bool := match M[M.length - 1]? with
  | some m => decide (m.2.2.2.2 ≥ base)
  | none => false
def lateR (M : List Mk) (base epoch seq : Int) : Bool := lastLate M base || decide (epoch < maxE M) || (decide (epoch = maxE M) && decide (seq < nextF (topF M)))
theorem insR_drop {x : Mk} {L : List Mk} {i : Nat} {a : Mk} (h : L[i]? = some a) : insR x (L.drop i) = if a.1 > x.1 then x :: L.drop i else a :: insR x (L.drop (i + 1)) := by
  obtain ⟨h1, h2⟩ := List.getElem?_eq_some_iff.1 h
  rw [List.drop_eq_getElem_cons h1, h2]; rfl
theorem insR_len (x : Mk) (L : List Mk) : (insR x L).length = L.length + 1 := by
  induction L with
  | nil => rfl
  | cons y L ih => unfold insR; split <;> simp only [List.length_cons, ih]
section
variable {cs : List Chunk} {H : Heap} {K : Value → Heap → Prop}
theorem ins_loop {t : Nat} {L : List Mk} {b_0 b_1 b_2 b_3 b_4 : Int} {b_5 sl : Sl} {H3 : Heap} (hh : Holds (blk t (.cells #[.slice sl.p sl.n sl.c] 81 (0, 0)) :: ownM sl L :: cs) H3) (hl : L.length ≤ 100000000) (k : ∀ H', Holds (rtab t (insR (b_2, (b_3, b_4, (b_5.n : Int), b_0)) L) :: cs) H' → K (.tuple #[]) H') :
    ∃ I1 : Sl → Bool → Int → Heap → Prop,
    ∃ M1 : Sl → Bool → Int → Heap → Nat,
    I1 ⟨none, 0, 0⟩ false 0 H3 ∧
    ∀ out_1 : Sl,
    ∀ placed_1 : Bool,
    ∀ i_1 : Int,
    ∀ H4 : Heap,
    I1 out_1 placed_1 i_1 H4 →
    ∃ l3 : Sl,
    cellH H4 ⟨t, 0, none⟩ = some (.slice l3.p l3.n l3.c) ∧
    br (decide ((i_1 : Int) < (l3.n : Nat))) (
      br (!placed_1) (
        ∃ l4 : Sl,
        cellH H4 ⟨t, 0, none⟩ = some (.slice l4.p l4.n l4.c) ∧
        ∃ q2 : Nat,
        ∃ o2 : Nat,
        (l4.p : Option Addr) = some ⟨q2, o2, none⟩ ∧
        0 ≤ (i_1 : Int) ∧
        (i_1 : Int) < (l4.n : Nat) ∧
        ∃ n5 : Int,
        cellH H4 ⟨q2, o2 + Int.toNat i_1 * 5, none⟩ = some (.int .i64 n5) ∧
        br (decide ((n5 : Int) > b_2)) (
          ∀ q3 : Nat,
          H4 q3 = none →
          letH (Heap.upd H4 q3 (.cells #[.int .i64 b_2, .int .i64 b_3, .int .i64 b_4, .int .i64 (b_5.n : Nat), .int .i64 b_0] 83 (0, 0))) fun H5 =>
          runH Try.prog (Builtin.append_ #[79, 79] 79 #[.slice out_1.p out_1.n out_1.c, .slice (some ⟨q3, 0, none⟩) 1 1]) H5 fun r4 H6 =>
            ∃ l5 : Sl,
            r4 = .slice l5.p l5.n l5.c ∧
            ∃ l6 : Sl,
            cellH H6 ⟨t, 0, none⟩ = some (.slice l6.p l6.n l6.c) ∧
            ∃ q4 : Nat,
            ∃ o3 : Nat,
            (l6.p : Option Addr) = some ⟨q4, o3, none⟩ ∧
            0 ≤ (i_1 : Int) ∧
            (i_1 : Int) < (l6.n : Nat) ∧
            ∃ n6 : Int,
            cellH H6 ⟨q4, o3 + Int.toNat i_1 * 5, none⟩ = some (.int .i64 n6) ∧
            ∃ n7 : Int,
            cellH H6 ⟨q4, o3 + Int.toNat i_1 * 5 + 1, none⟩ = some (.int .i64 n7) ∧
            ∃ n8 : Int,
            cellH H6 ⟨q4, o3 + Int.toNat i_1 * 5 + 2, none⟩ = some (.int .i64 n8) ∧
            ∃ n9 : Int,
            cellH H6 ⟨q4, o3 + Int.toNat i_1 * 5 + 3, none⟩ = some (.int .i64 n9) ∧
            ∃ n10 : Int,
            cellH H6 ⟨q4, o3 + Int.toNat i_1 * 5 + 4, none⟩ = some (.int .i64 n10) ∧
            ∀ q5 : Nat,
            H6 q5 = none →
            letH (Heap.upd H6 q5 (.cells #[.int .i64 n6, .int .i64 n7, .int .i64 n8, .int .i64 n9, .int .i64 n10] 83 (0, 0))) fun H7 =>
            runH Try.prog (Builtin.append_ #[79, 79] 79 #[.slice l5.p l5.n l5.c, .slice (some ⟨q5, 0, none⟩) 1 1]) H7 fun r5 H8 =>
              ∃ l7 : Sl,
              r5 = .slice l7.p l7.n l7.c ∧
              SelfEq ([.v (.pointer (some ⟨t, 0, none⟩)), .loc 0 0, .loc 1 0], [some (33, [.int .i64 b_0, .int .i64 b_1, .int .i64 b_2, .int .i64 b_3, .int .i64 b_4, .slice b_5.p b_5.n b_5.c]), some (83, [.int .i64 b_2, .int .i64 b_3, .int .i64 b_4, .int .i64 (b_5.n : Nat), .int .i64 b_0])], []) ∧
              I1 l7 true (IntKind.wrap .i64 (i_1 + 1)) H8 ∧
              M1 l7 true (IntKind.wrap .i64 (i_1 + 1)) H8 < M1 out_1 placed_1 i_1 H4)
         (
          ∃ l8 : Sl,
          cellH H4 ⟨t, 0, none⟩ = some (.slice l8.p l8.n l8.c) ∧
          ∃ q6 : Nat,
          ∃ o4 : Nat,
          (l8.p : Option Addr) = some ⟨q6, o4, none⟩ ∧
          0 ≤ (i_1 : Int) ∧
          (i_1 : Int) < (l8.n : Nat) ∧
          ∃ n11 : Int,
          cellH H4 ⟨q6, o4 + Int.toNat i_1 * 5, none⟩ = some (.int .i64 n11) ∧
          ∃ n12 : Int,
          cellH H4 ⟨q6, o4 + Int.toNat i_1 * 5 + 1, none⟩ = some (.int .i64 n12) ∧
          ∃ n13 : Int,
          cellH H4 ⟨q6, o4 + Int.toNat i_1 * 5 + 2, none⟩ = some (.int .i64 n13) ∧
          ∃ n14 : Int,
          cellH H4 ⟨q6, o4 + Int.toNat i_1 * 5 + 3, none⟩ = some (.int .i64 n14) ∧
          ∃ n15 : Int,
          cellH H4 ⟨q6, o4 + Int.toNat i_1 * 5 + 4, none⟩ = some (.int .i64 n15) ∧
          ∀ q7 : Nat,
          H4 q7 = none →
          letH (Heap.upd H4 q7 (.cells #[.int .i64 n11, .int .i64 n12, .int .i64 n13, .int .i64 n14, .int .i64 n15] 83 (0, 0))) fun H9 =>
          runH Try.prog (Builtin.append_ #[79, 79] 79 #[.slice out_1.p out_1.n out_1.c, .slice (some ⟨q7, 0, none⟩) 1 1]) H9 fun r6 H10 =>
            ∃ l9 : Sl,
            r6 = .slice l9.p l9.n l9.c ∧
            SelfEq ([.v (.pointer (some ⟨t, 0, none⟩)), .loc 0 0, .loc 1 0], [some (33, [.int .i64 b_0, .int .i64 b_1, .int .i64 b_2, .int .i64 b_3, .int .i64 b_4, .slice b_5.p b_5.n b_5.c]), some (83, [.int .i64 b_2, .int .i64 b_3, .int .i64 b_4, .int .i64 (b_5.n : Nat), .int .i64 b_0])], []) ∧
            I1 l9 placed_1 (IntKind.wrap .i64 (i_1 + 1)) H10 ∧
            M1 l9 placed_1 (IntKind.wrap .i64 (i_1 + 1)) H10 < M1 out_1 placed_1 i_1 H4))
       (
        ∃ l10 : Sl,
        cellH H4 ⟨t, 0, none⟩ = some (.slice l10.p l10.n l10.c) ∧
        ∃ q8 : Nat,
        ∃ o5 : Nat,
        (l10.p : Option Addr) = some ⟨q8, o5, none⟩ ∧
        0 ≤ (i_1 : Int) ∧
        (i_1 : Int) < (l10.n : Nat) ∧
        ∃ n16 : Int,
        cellH H4 ⟨q8, o5 + Int.toNat i_1 * 5, none⟩ = some (.int .i64 n16) ∧
        ∃ n17 : Int,
        cellH H4 ⟨q8, o5 + Int.toNat i_1 * 5 + 1, none⟩ = some (.int .i64 n17) ∧
        ∃ n18 : Int,
        cellH H4 ⟨q8, o5 + Int.toNat i_1 * 5 + 2, none⟩ = some (.int .i64 n18) ∧
        ∃ n19 : Int,
        cellH H4 ⟨q8, o5 + Int.toNat i_1 * 5 + 3, none⟩ = some (.int .i64 n19) ∧
        ∃ n20 : Int,
        cellH H4 ⟨q8, o5 + Int.toNat i_1 * 5 + 4, none⟩ = some (.int .i64 n20) ∧
        ∀ q9 : Nat,
        H4 q9 = none →
        letH (Heap.upd H4 q9 (.cells #[.int .i64 n16, .int .i64 n17, .int .i64 n18, .int .i64 n19, .int .i64 n20] 83 (0, 0))) fun H11 =>
        runH Try.prog (Builtin.append_ #[79, 79] 79 #[.slice out_1.p out_1.n out_1.c, .slice (some ⟨q9, 0, none⟩) 1 1]) H11 fun r7 H12 =>
          ∃ l11 : Sl,
          r7 = .slice l11.p l11.n l11.c ∧
          SelfEq ([.v (.pointer (some ⟨t, 0, none⟩)), .loc 0 0, .loc 1 0], [some (33, [.int .i64 b_0, .int .i64 b_1, .int .i64 b_2, .int .i64 b_3, .int .i64 b_4, .slice b_5.p b_5.n b_5.c]), some (83, [.int .i64 b_2, .int .i64 b_3, .int .i64 b_4, .int .i64 (b_5.n : Nat), .int .i64 b_0])], []) ∧
          I1 l11 placed_1 (IntKind.wrap .i64 (i_1 + 1)) H12 ∧
          M1 l11 placed_1 (IntKind.wrap .i64 (i_1 + 1)) H12 < M1 out_1 placed_1 i_1 H4))
     (
      br (!placed_1) (
        ∀ q10 : Nat,
        H4 q10 = none →
        letH (Heap.upd H4 q10 (.cells #[.int .i64 b_2, .int .i64 b_3, .int .i64 b_4, .int .i64 (b_5.n : Nat), .int .i64 b_0] 83 (0, 0))) fun H13 =>
        runH Try.prog (Builtin.append_ #[79, 79] 79 #[.slice out_1.p out_1.n out_1.c, .slice (some ⟨q10, 0, none⟩) 1 1]) H13 fun r8 H14 =>
          ∃ l12 : Sl,
          r8 = .slice l12.p l12.n l12.c ∧
          (∃ u, cellH H14 ⟨t, 0, none⟩ = some u) ∧
          frozenH H14 ⟨t, 0, none⟩ = false ∧
          letH (Heap.set H14 ⟨t, 0, none⟩ (.slice l12.p l12.n l12.c)) fun H15 =>
          K (.tuple #[]) H15)
       (
        (∃ u, cellH H4 ⟨t, 0, none⟩ = some u) ∧
        frozenH H4 ⟨t, 0, none⟩ = false ∧
        letH (Heap.set H4 ⟨t, 0, none⟩ (.slice out_1.p out_1.n out_1.c)) fun H16 =>
        K (.tuple #[]) H16)) := by
  have hln := (hh.own 1 rfl).1
  rw [flat_len eMlen] at hln
  generalize hxx : ((b_2, (b_3, b_4, (b_5.n : Int), b_0)) : Mk) = x at k
  have hx1 : b_2 = x.1 := by rw [← hxx]
  refine ⟨fun o placed i H4 => 0 ≤ i ∧ i ≤ sl.n ∧ ∃ D, Holds (ownM o D :: blk t (.cells #[.slice sl.p sl.n sl.c] 81 (0, 0)) :: ownM sl L :: cs) H4 ∧ (if placed = true then D ++ L.drop i.toNat else D ++ insR x (L.drop i.toNat)) = insR x L, fun _ _ i _ => (sl.n - i).toNat, ⟨Int.le_refl _, by omega, [], hh.own_nil 83 5, rfl⟩, ?_⟩
  rintro o placed i H4 ⟨i0, i1, D, h4, hD⟩
  have hil := insR_len x L
  have hDl : D.length ≤ L.length + 1 := by
    have := congrArg List.length hD
    split at this <;> rw [List.length_append] at this <;> omega
  have px : ∀ {o : Sl} {D : List Mk} {H : Heap} {X : Value → Heap → Prop}, Holds (ownM o D :: blk t (.cells #[.slice sl.p sl.n sl.c] 81 (0, 0)) :: ownM sl L :: cs) H → D.length ≤ 200000000 → (∀ (r : Sl) H', Holds (ownM r (D ++ [x]) :: blk t (.cells #[.slice sl.p sl.n sl.c] 81 (0, 0)) :: ownM sl L :: cs) H' → X (.slice r.p r.n r.c) H') →
      ∀ q, H q = none → letH (Heap.upd H q (.cells #[.int .i64 b_2, .int .i64 b_3, .int .i64 b_4, .int .i64 (b_5.n : Nat), .int .i64 b_0] 83 (0, 0))) fun H2 => runH Try.prog (Builtin.append_ #[79, 79] 79 #[.slice o.p o.n o.c, .slice (some ⟨q, 0, none⟩) 1 1]) H2 X := fun h hb kx => by
    have := mpush x h hb kx
    rw [← hxx] at this
    exact this
  refine ⟨sl, h4.cell 1 rfl rfl, br_intro (fun q => ?_) (fun q => ?_)⟩
  · have q := of_decide_eq_true q
    have hR4 : Recs eM H4 sl L := Own.recs eMlen (by decide) (h4.own 2 rfl) (by omega)
    obtain ⟨q5, o5, a, f1, f2, f3⟩ := hR4.at_ eMlen (by decide) i0 q
    have ei : (i + 1).toNat = i.toNat + 1 := by omega
    obtain ⟨g1, g2⟩ := List.getElem?_eq_some_iff.1 f2
    have hdr : L.drop i.toNat = a :: L.drop (i.toNat + 1) := by rw [List.drop_eq_getElem_cons g1, g2]
    have hid := insR_drop (x := x) f2
    rw [wrap64_id (n := i + 1) (by omega) (by omega)]
    refine br_intro (fun pl => ?_) (fun pl => ?_)
    · have pl : placed = false := by simpa using pl
      subst pl
      rw [if_neg (by simp), hid] at hD
      refine ⟨sl, h4.cell 1 rfl rfl, q5, o5, f1, i0, q, a.1, f3 0 _ rfl, br_intro (fun c => ?_) (fun c => ?_)⟩
      · have c := of_decide_eq_true c
        rw [if_pos (by rw [← hx1]; exact c)] at hD
        refine px h4 (by omega) fun r H6 h6 => ?_
        have hR6 : Recs eM H6 sl L := Own.recs eMlen (by decide) (h6.own 2 rfl) (by omega)
        obtain ⟨q6, o6, a', u1, u2, u3⟩ := hR6.at_ eMlen (by decide) i0 q
        obtain rfl : a' = a := by rw [f2] at u2; exact (Option.some.inj u2).symm
        refine ⟨r, rfl, sl, h6.cell 1 rfl rfl, q6, o6, u1, i0, q, a'.1, u3 0 _ rfl, a'.2.1, u3 1 _ rfl, a'.2.2.1, u3 2 _ rfl, a'.2.2.2.1, u3 3 _ rfl, a'.2.2.2.2, u3 4 _ rfl, mpush a' h6 (by rw [List.length_append, List.length_singleton]; omega) fun r2 H8 h8 => ⟨r2, rfl, rfl, ⟨by omega, by omega, _, h8, ?_⟩, by dsimp only; omega⟩⟩
        rw [if_pos rfl, ei, ← hD, hdr]; simp
      · have c := of_decide_eq_false c
        rw [if_neg (by rw [← hx1]; exact c)] at hD
        refine ⟨sl, h4.cell 1 rfl rfl, q5, o5, f1, i0, q, a.1, f3 0 _ rfl, a.2.1, f3 1 _ rfl, a.2.2.1, f3 2 _ rfl, a.2.2.2.1, f3 3 _ rfl, a.2.2.2.2, f3 4 _ rfl, mpush a h4 (by omega) fun r2 H8 h8 => ⟨r2, rfl, rfl, ⟨by omega, by omega, _, h8, ?_⟩, by dsimp only; omega⟩⟩
        rw [if_neg (by simp), ei, ← hD]; simp
    · have pl : placed = true := by simpa using pl
      subst pl
      rw [if_pos rfl, hdr] at hD
      refine ⟨sl, h4.cell 1 rfl rfl, q5, o5, f1, i0, q, a.1, f3 0 _ rfl, a.2.1, f3 1 _ rfl, a.2.2.1, f3 2 _ rfl, a.2.2.2.1, f3 3 _ rfl, a.2.2.2.2, f3 4 _ rfl, mpush a h4 (by omega) fun r2 H8 h8 => ⟨r2, rfl, rfl, ⟨by omega, by omega, _, h8, ?_⟩, by dsimp only; omega⟩⟩
      rw [if_pos rfl, ei, ← hD]; simp
  · have q := of_decide_eq_false q
    rw [List.drop_eq_nil_of_le (by omega)] at hD
    refine br_intro (fun pl => ?_) (fun pl => ?_)
    · have pl : placed = false := by simpa using pl
      subst pl
      rw [if_neg (by simp)] at hD
      have hD : D ++ [x] = insR x L := hD
      refine px h4 (by omega) fun r H6 h6 => ⟨r, rfl, Holds.store h6 1 rfl (by simp) fun H8 h8 => k H8 (rtab_open.2 ⟨r, ?_⟩)⟩
      rw [← hD]
      exact (h8.pull 2 rfl).tail.swap
    · have pl : placed = true := by simpa using pl
      subst pl
      rw [if_pos rfl, List.append_nil] at hD
      refine Holds.store h4 1 rfl (by simp) fun H8 h8 => k H8 (rtab_open.2 ⟨o, ?_⟩)
      rw [← hD]
      exact (h8.pull 2 rfl).tail.swap
theorem rnote_spec {t : Nat} {L : List Mk} {base pid epoch seq : Int} {s : Sl} {n : Nat} (h : Holds (rtab t L :: cs) H) (hl : L.length ≤ 100000000) (hR : Recs eR H s (List.replicate n zr)) (hn : n ≤ 100) (w0 : i64B base) (w1 : i64B pid) (w2 : i64B epoch) (w3 : i64B seq)
    (k0 : (pid = 0 ∨ ¬ ZOk base pid epoch seq n ∨ lateR (ofP L pid) base epoch seq = true) → ∀ H', Holds (rtab t L :: cs) H' → K (.tuple #[]) H')
    (k1 : pid ≠ 0 → ZOk base pid epoch seq n → lateR (ofP L pid) base epoch seq = false → ∀ H', Holds (rtab t (insR (pid, (epoch, seq, (n : Int), base)) L) :: cs) H' → K (.tuple #[]) H') :
    FnH Try.prog 24 #[.pointer (some ⟨t, 0, none⟩), .agg #[.int .i64 base, .int .i64 0, .int .i64 pid, .int .i64 epoch, .int .i64 seq, .slice s.p s.n s.c]] H K := by
  apply logboomref8_Table_Note_fn
  unfold logboomref8_Table_Note_vc
  have hsn := hR.len
  rw [List.length_replicate] at hsn
  refine rright3_spec hR hn w0 w1 w2 w3 fun r H1 s1 hr => ⟨r, rfl, br_intro (fun c => k0 (.inl (by simpa using c)) H1 (Holds.up s1 h)) (fun c => br_intro (fun c2 => k0 (.inr (.inl fun z => ?_)) H1 (Holds.up s1 h)) (fun c2 => ?_))⟩
  · have c2 : ¬ r = 0 := by simpa using c2
    exact c2 (hr.2 z)
  have c : ¬ pid = 0 := by simpa using c
  have c2 : r = 0 := by simpa using c2
  have hz := hr.1 c2
  have h1 := Holds.up s1 h
  have hof : (ofP L pid).length ≤ L.length := List.length_filter_le _ _
  refine of_spec (i := 0) h1 rfl hl fun o H2 s2 h2 n2 => ⟨o, rfl, ?_⟩
  have hM : Recs eM H2 o (ofP L pid) := Own.recs eMlen (by decide) (h2.own 0 rfl) (by omega)
  refine top_spec hM (by omega) fun u H3 s3 _ => ⟨_, u, _, rfl, ?_⟩
  have h3 : Holds (rtab t L :: cs) H3 := Holds.up s3 h2.tail
  have hM3 := Recs.mono _ _ s3 hM
  have late : lateR (ofP L pid) base epoch seq = true → K (.tuple #[]) H3 := fun z => k0 (.inr (.inr z)) H3 h3
  have okk := k1 c hz
  unfold lateR at late okk
  have hlast : o.n > 0 → ∃ m : Mk, (ofP L pid)[(ofP L pid).length - 1]? = some m := fun z => ⟨_, List.getElem?_eq_getElem (by omega)⟩
  obtain ⟨sl, hh⟩ := rtab_open.1 h3
  have hln := (hh.own 1 rfl).1
  rw [flat_len eMlen] at hln
  generalize maxE (ofP L pid) = e at *
  generalize nextF (topF (ofP L pid)) = nx at *
  refine br_intro (fun p => ?_) (fun p => ?_)
  · have p := of_decide_eq_true p
    obtain ⟨m, hm⟩ := hlast (by omega)
    have hll : lastLate (ofP L pid) base = decide (m.2.2.2.2 ≥ base) := by unfold lastLate; rw [hm]
    rw [hll] at late okk
    rw [wrap64_id (n := (o.n : Int) - 1) (by omega) (by omega)]
    obtain ⟨q1, o1, a, e1, e2, e3⟩ := hM3.at_ eMlen (by decide) (j := (o.n : Int) - 1) (by omega) (by omega)
    have ei : ((o.n : Int) - 1).toNat = (ofP L pid).length - 1 := by omega
    obtain rfl : a = m := by rw [ei, hm] at e2; exact (Option.some.inj e2).symm
    refine ⟨q1, o1, e1, by omega, by omega, a.2.2.2.2, e3 4 _ rfl, br_intro (fun v => late (by rw [v]; rfl)) (fun v => ?_)⟩
    rw [v] at late okk
    refine br_intro (fun v2 => late (by rw [v2]; rfl)) (fun v2 => br_intro (fun v3 => br_intro (fun v4 => late (by rw [v4, decide_eq_true (p := epoch = e) (by simpa using v3)]; simp)) (fun v4 => ?_)) (fun v3 => ?_))
    · have okk := okk (by rw [v2, v4]; simp)
      exact ins_loop hh hl (by rw [hsn]; exact okk)
    · have okk := okk (by rw [v2, decide_eq_false (p := epoch = e) (by simpa using v3)]; rfl)
      exact ins_loop hh hl (by rw [hsn]; exact okk)
  · have p := of_decide_eq_false p
    have hll : lastLate (ofP L pid) base = false := by
      unfold lastLate
      rw [List.getElem?_eq_none (by omega)]
    rw [hll] at late okk
    refine br_intro (fun v2 => late (by rw [v2]; rfl)) (fun v2 => br_intro (fun v3 => br_intro (fun v4 => late (by rw [v4, decide_eq_true (p := epoch = e) (by simpa using v3)]; simp)) (fun v4 => ?_)) (fun v3 => ?_))
    · have okk := okk (by rw [v2, v4]; simp)
      exact ins_loop hh hl (by rw [hsn]; exact okk)
    · have okk := okk (by rw [v2, decide_eq_false (p := epoch = e) (by simpa using v3)]; rfl)
      exact ins_loop hh hl (by rw [hsn]; exact okk)
end
end Go.Proofs.Ytkabaoigablphaa
