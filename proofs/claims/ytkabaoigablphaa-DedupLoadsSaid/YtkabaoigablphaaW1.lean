/- Chapter 8: numbers as bytes, and back; the checksum: the code's and the document's. -/
import Derived.Test.YtkabaoigablphaaHlWire
import Derived.Test.YtkabaoigablphaaS1
import Derived.Test.YtkabaoigablphaaV6
namespace Go.Proofs.Ytkabaoigablphaa
open Go Go.HL
set_option maxHeartbeats 1000000
set_option maxRecDepth 10000

theorem u68 : Try.prog.underlying 68 = some (.slice 5) := by kernel_rfl
theorem u5 : Try.prog.underlying 5 = some (.int .u8) := by kernel_rfl
theorem sevens_eq : ∀ (f z : Nat), sevens f (z : Int) = (encD f z).map fun b : Nat => (b : Int) := by
  intro f
  induction f with
  | zero => intro z; rfl
  | succ f ih =>
    intro z
    unfold sevens encD
    by_cases c : z ≥ 128
    · rw [if_pos (by omega), if_pos c, List.map_cons, shr7]
      have e1 : (z : Int) / 128 = ((z / 128 : Nat) : Int) := by omega
      rw [e1, ih, wrap_u8]
      have e2 : (z : Int) % 256 = ((z % 256 : Nat) : Int) := by omega
      rw [e2, or_u8_128 (by omega)]
      congr 2; omega
    · rw [if_neg (by omega), if_neg c, wrap_u8]
      show [(z : Int) % 256] = [(z : Int)]
      congr 1; omega
theorem encInt_eq {n : Int} (hn : i64B n) : encInt n = (encN n).map fun b : Nat => (b : Int) := by
  unfold encInt zig
  rw [zig_code hn.1 hn.2, sevens_eq]; rfl
theorem bv_nat (l : List Nat) : bv (l.map fun b : Nat => (b : Int)) = l.map fun b : Nat => Value.int .u8 (b : Int) := by simp [bv, Function.comp_def]
theorem strV_str {l : List Nat} (h : ∀ b ∈ l, b < 256) : strV (strN l) = l.map fun b : Nat => Value.int .u8 (b : Int) := by rw [strV_nb, nb_str h]
theorem encN_bytes (n : Int) : ∀ b ∈ encN n, b < 256 := encD_bytes 10 _
theorem encN_len (n : Int) : (encN n).length ≤ 10 := encD_len 10 _
/-- Bytes of one's own as a string. -/
theorem toStr {H : Heap} {K : Value → Heap → Prop} {r : Sl} {l : List Nat} (h : Own H 5 1 r (l.map fun b : Nat => Value.int .u8 (b : Int))) (hl : ∀ b ∈ l, b < 256) (k : K (.string (strN l)) H) : runH Try.prog (convert 68 9 (.slice r.p r.n r.c)) H K :=
  runH_toString u68 u9 u5 (own_byts (by rw [strV_str hl]; exact h)) k
theorem int_spec {H : Heap} {K : Value → Heap → Prop} {n : Int} (hn : i64B n) (k : ∀ H', HL.Sub H H' → K (.string (strN (encN n))) H') : FnH Try.prog 41 #[.int .i64 n] H K := by
  apply wire_Int_fn
  unfold wire_Int_vc
  refine appendInt_spec (b := ⟨none, 0, 0⟩) (l := []) ((Holds.whole H).own_nil 5 1) (by decide) fun r H1 h1 n1 => ⟨r, rfl, ?_⟩
  have ho := h1.own 0 rfl
  rw [List.nil_append, encInt_eq hn, bv_nat] at ho
  exact toStr ho (encN_bytes n) ⟨_, rfl, k H1 (h1.sub 1 rfl)⟩
theorem rd_step {f i z : Nat} {b : Nat} {l : List Nat} (h : b < 256) : rd (f + 1) i z (b :: l) = (if i = 9 ∧ b > 1 then ((0 : Int), (0 : Int), (4 : Int)) else if b > 127 then rd f (i + 1) (z + b % 128 * 128 ^ i) l else if i > 0 ∧ b = 0 then (0, 0, 4) else (unzig (z + b % 128 * 128 ^ i), (i : Int) + 1, 0)) := rfl
abbrev trp (t : Int × Int × Int) : Value := .tuple #[.int .i64 t.1, .int .i64 t.2.1, .int .i64 t.2.2]
/-- A digit joins a number. -/
theorem digit {z b i : Nat} (hz : z < 128 ^ i) (hb : b < 256) (hi : i ≤ 9) (h9 : i = 9 → b ≤ 1) :
    orI .u64 (z : Int) (shlI .u64 (IntKind.wrap .u64 (andI .u8 (b : Int) 127)) (IntKind.wrap .i64 (7 * (i : Int)))) = ((z + b % 128 * 128 ^ i : Nat) : Int) ∧ z + b % 128 * 128 ^ i < 18446744073709551616 ∧ (i ≤ 8 → z + b % 128 * 128 ^ i < 128 ^ (i + 1)) := by
  have hp := pow_top hi
  have hpos : 0 < 128 ^ i := Nat.pow_pos (by decide)
  have hlt8 : i ≤ 8 → z + b % 128 * 128 ^ i < 128 ^ (i + 1) := fun h8 => by
    have h1 : b % 128 * 128 ^ i ≤ 127 * 128 ^ i := Nat.mul_le_mul_right _ (by omega)
    rw [Nat.pow_succ]; omega
  have hlt : z + b % 128 * 128 ^ i < 18446744073709551616 := by
    rcases Nat.lt_or_ge i 9 with q | q
    · have := hlt8 (by omega)
      have h3 : 128 ^ (i + 1) ≤ 128 ^ 9 := Nat.pow_le_pow_right (by decide) (by omega)
      have h4 : (128 : Nat) ^ 9 = 9223372036854775808 := by decide
      omega
    · have e : i = 9 := by omega
      subst e
      have h4 : (128 : Nat) ^ 9 = 9223372036854775808 := by decide
      have := h9 rfl
      rw [h4] at hz ⊢
      have : b % 128 = b := by omega
      rw [this]
      have : b * 9223372036854775808 ≤ 1 * 9223372036854775808 := Nat.mul_le_mul_right _ (by omega)
      omega
  refine ⟨?_, hlt, hlt8⟩
  rw [and_u8_127 hb, wrap_u64', wrap64_id (n := 7 * (i : Int)) (by omega) (by omega)]
  have e1 : ((b % 128 : Nat) : Int) % 18446744073709551616 = ((b % 128 : Nat) : Int) := by omega
  rw [e1]
  unfold shlI
  have e2 : IntKind.bits .u64 = 64 := rfl
  have e3 : min (7 * (i : Int)).toNat 64 = 7 * i := by omega
  rw [e2, e3]
  have e4 : (2 : Int) ^ (7 * i) = ((128 ^ i : Nat) : Int) := by
    rw [Int.pow_mul]; push_cast; rfl
  rw [e4, ← Int.natCast_mul, wrap_u64']
  have e5 : ((b % 128 * 128 ^ i : Nat) : Int) % 18446744073709551616 = ((b % 128 * 128 ^ i : Nat) : Int) := by omega
  rw [e5, or_u64 (by omega) (by omega)]
  congr 1
  have e6 : 128 ^ i = 2 ^ (7 * i) := by rw [Nat.pow_mul]
  rw [e6] at hz ⊢
  have := Nat.two_pow_add_eq_or_of_lt hz (b % 128)
  rw [Nat.or_comm, Nat.mul_comm (b % 128), ← this]; omega
theorem readInt_spec {b : ByteArray} {H : Heap} {K : Value → Heap → Prop} (k : K (trp (readN (nb b))) H) : FnH Try.prog 54 #[.string b] H K := by
  apply wire_ReadInt_fn
  unfold wire_ReadInt_vc
  refine ⟨fun z n H1 => H1 = H ∧ ∃ i y : Nat, n = i ∧ z = y ∧ i ≤ 10 ∧ i ≤ b.size ∧ (i ≤ 9 → y < 128 ^ i) ∧ rd (10 - i) i y ((nb b).drop i) = readN (nb b), fun _ n _ => (10 - n).toNat, ⟨rfl, 0, 0, rfl, rfl, by decide, Nat.zero_le _, fun _ => by decide, rfl⟩, ?_⟩
  rintro _ _ H1 ⟨rfl, i, z, rfl, rfl, hi, hib, hz, hrd⟩
  have fin : ∀ t : Int × Int × Int, rd (10 - i) i z ((nb b).drop i) = t → K (trp t) H1 := fun t ht => by rw [← ht, hrd]; exact k
  refine br_intro (fun q => ?_) (fun q => ?_)
  · have q := of_decide_eq_true q
    have hz := hz (by omega)
    obtain ⟨f, hf⟩ : ∃ f, 10 - i = f + 1 := ⟨9 - i, by omega⟩
    have hf2 : 10 - (i + 1) = f := by omega
    rw [hf] at fin hrd
    refine br_intro (fun q2 => ?_) (fun q2 => ?_)
    · have q2 : (i : Int) = b.size := by simpa using q2
      have e : (nb b).drop i = [] := List.drop_eq_nil_of_le (by rw [nb_len]; omega)
      rw [e] at fin
      exact fin (0, 0, 5) rfl
    have q2 : ¬ (i : Int) = b.size := by simpa using q2
    obtain ⟨c, e1, e2, e3⟩ := nb_get (s := b) (i := i) (by omega)
    have hlen : i < (nb b).length := by rw [nb_len]; omega
    have ed : (nb b).drop i = c.toNat :: (nb b).drop (i + 1) := by
      rw [List.drop_eq_getElem_cons hlen]
      congr 1
      rw [List.getElem?_eq_getElem hlen] at e2; exact Option.some.inj e2
    rw [ed] at fin hrd
    rw [rd_step e3] at fin hrd
    have ei : (i : Int).toNat = i := by omega
    have hn1 : IntKind.wrap .i64 ((i : Int) + 1) = ((i + 1 : Nat) : Int) := by rw [wrap64_id (by omega) (by omega)]; omega
    have sh : ∀ {p : Prop}, p → shG (decide (IntKind.wrap .i64 (7 * (i : Int)) < 0)) p := fun {p} hp => by
      rw [wrap64_id (by omega) (by omega), decide_eq_false (by omega)]; exact hp
    have body : (¬ (i = 9 ∧ c.toNat > 1)) → ∀ {p : Prop} (_ : (∀ z' : Nat, orI .u64 (z : Int) (shlI .u64 (IntKind.wrap .u64 (andI .u8 (c.toNat : Int) 127)) (IntKind.wrap .i64 (7 * (i : Int)))) = (z' : Int) → z' < 18446744073709551616 → z' = z + c.toNat % 128 * 128 ^ i → (i ≤ 8 → z' < 128 ^ (i + 1)) → p)), p := fun h9 {p} hp => by
      obtain ⟨d1, d2, d3⟩ := digit (z := z) (b := c.toNat) (i := i) hz e3 (by omega) (fun e => Nat.le_of_not_lt fun z => h9 ⟨e, z⟩)
      exact hp _ d1 d2 rfl d3
    refine br_intro (fun q9 => ?_) (fun q9 => ?_)
    all_goals
      first
        | (refine ⟨by omega, c, by rw [ei]; exact e1, br_intro (fun q1 => ?_) (fun q1 => ?_)⟩
           · have q9 : (i : Int) = 9 := by simpa using q9
             have q1 := of_decide_eq_true q1
             exact fin (0, 0, 4) (by rw [if_pos ⟨by omega, by omega⟩]))
        | skip
    all_goals
      have h9 : ¬ (i = 9 ∧ c.toNat > 1) := fun z => by
        first
          | (have q1 := of_decide_eq_false q1; omega)
          | (have q9 : ¬ (i : Int) = 9 := by simpa using q9
             omega)
      rw [if_neg h9] at fin hrd
      refine ⟨by omega, c, by rw [ei]; exact e1, sh ⟨by omega, c, by rw [ei]; exact e1, body h9 fun z' hz1 hz2 hz3 hz4 => ?_⟩⟩
      rw [hz1, hn1]
      refine br_intro (fun c1 => ?_) (fun c1 => ?_)
      · have c1 := of_decide_eq_true c1
        rw [if_pos (by omega)] at hrd
        exact ⟨rfl, ⟨rfl, i + 1, z', rfl, rfl, by omega, by omega, fun h => hz4 (by omega), by rw [hf2, hz3]; exact hrd⟩, by dsimp only; omega⟩
      · have c1 := of_decide_eq_false c1
        rw [if_neg (by omega)] at fin
        refine ⟨fun bb H2 => H2 = H1 ∧ bb = (decide (i > 0) && decide (c.toNat = 0)), br_intro (fun c2 => ⟨by omega, c, by rw [ei]; exact e1, rfl, rfl, ?_⟩) (fun c2 => ⟨rfl, rfl, ?_⟩), ?_⟩
        · have c2 := of_decide_eq_true c2
          rw [decide_eq_true (show i > 0 by omega), Bool.true_and]
          have : (((c.toNat : Nat) : Int) == 0) = decide (c.toNat = 0) := by
            by_cases z : c.toNat = 0
            · rw [decide_eq_true z, z]; rfl
            · rw [decide_eq_false z]; simpa using z
          exact this
        · have c2 := of_decide_eq_false c2
          rw [decide_eq_false (show ¬ i > 0 by omega)]; rfl
        rintro bb H2 ⟨rfl, hbb⟩
        refine br_intro (fun c3 => ?_) (fun c3 => ?_)
        · rw [c3] at hbb
          have hbb := hbb.symm
          simp only [Bool.and_eq_true, decide_eq_true_eq] at hbb
          exact fin (0, 0, 4) (by rw [if_pos hbb])
        · rw [c3] at hbb
          have hbb := hbb.symm
          simp only [Bool.and_eq_false_iff, decide_eq_false_iff_not] at hbb
          have hno : ¬ (i > 0 ∧ c.toNat = 0) := fun z => hbb.elim (fun y => y z.1) (fun y => y z.2)
          have := fin (unzig z', (i : Int) + 1, 0) (by rw [if_neg hno, hz3])
          rw [unzig_code hz2]
          exact this
  · have q := of_decide_eq_false q
    have e : 10 - i = 0 := by omega
    rw [e] at fin
    exact fin (0, 0, 4) rfl
theorem foldl_take {l : List Nat} {i : Nat} {b : Nat} (h : l[i]? = some b) (c : Nat) : (l.take (i + 1)).foldl byteC c = byteC ((l.take i).foldl byteC c) b := by
  obtain ⟨h1, h2⟩ := List.getElem?_eq_some_iff.1 h
  rw [List.take_succ_eq_append_getElem h1, h2, List.foldl_append]; rfl
theorem foldC_lt {l : List Nat} (h : ∀ b ∈ l, b < 256) : ∀ {c : Nat}, c < 4294967296 → l.foldl byteC c < 4294967296 := by
  induction l with
  | nil => intro c hc; exact hc
  | cons a l ih => intro c hc; exact ih (fun b hb => h b (List.mem_cons_of_mem _ hb)) (byteC_lt hc (h a List.mem_cons_self))
theorem crc_spec {b : ByteArray} {H : Heap} {K : Value → Heap → Prop} (hb : b.size ≤ 9223372036854775807) (k : K (.int .i64 (crcN (nb b))) H) : FnH Try.prog 53 #[.string b] H K := by
  apply wire_Crc_fn
  unfold wire_Crc_vc
  refine ⟨fun c n H1 => H1 = H ∧ 0 ≤ n ∧ n ≤ b.size ∧ c = (((nb b).take n.toNat).foldl byteC 4294967295 : Nat), fun _ n _ => (b.size - n).toNat, ⟨rfl, Int.le_refl _, by omega, rfl⟩, ?_⟩
  rintro _ n H1 ⟨rfl, n0, n1, rfl⟩
  have hlt : ((nb b).take n.toNat).foldl byteC 4294967295 < 4294967296 := foldC_lt (fun x hx => nb_byte b x (List.mem_of_mem_take hx)) (by decide)
  refine br_intro (fun q => ?_) (fun q => ?_)
  · have q := of_decide_eq_true q
    obtain ⟨c, e1, e2, e3⟩ := nb_get (s := b) (i := n.toNat) (by omega)
    have et := foldl_take e2 4294967295
    generalize ((nb b).take n.toNat).foldl byteC 4294967295 = cc at *
    have ew : IntKind.wrap .u32 ((c.toNat : Nat) : Int) = ((c.toNat : Nat) : Int) := by rw [wrap_u32]; omega
    have hx : cc ^^^ c.toNat < 4294967296 := Nat.xor_lt_two_pow (n := 32) (by omega) (by omega)
    refine ⟨n0, c, e1, ?_⟩
    rw [ew, xor_u32 hlt (by omega)]
    refine ⟨fun c2 m H2 => H2 = H1 ∧ 0 ≤ m ∧ m ≤ 8 ∧ c2 = (bitsC m.toNat (cc ^^^ c.toNat) : Nat), fun _ m _ => (8 - m).toNat, ⟨rfl, Int.le_refl _, by decide, rfl⟩, ?_⟩
    rintro _ m H2 ⟨rfl, m0, m1, rfl⟩
    refine br_intro (fun v => ?_) (fun v => ?_)
    · have v := of_decide_eq_true v
      rw [bit_code (bitsC_lt _ hx), wrap64_id (n := m + 1) (by omega) (by omega)]
      have em : (m + 1).toNat = m.toNat + 1 := by omega
      exact ⟨rfl, ⟨rfl, by omega, by omega, by rw [em, bitsC_snoc]⟩, by dsimp only; omega⟩
    · have v := of_decide_eq_false v
      have em : m.toNat = 8 := by omega
      rw [em, wrap64_id (n := n + 1) (by omega) (by omega)]
      have en : (n + 1).toNat = n.toNat + 1 := by omega
      exact ⟨rfl, ⟨rfl, by omega, by omega, by rw [en, et]; rfl⟩, by dsimp only; omega⟩
  · have q := of_decide_eq_false q
    have e : (nb b).take n.toNat = nb b := List.take_of_length_le (by rw [nb_len]; omega)
    rw [e] at hlt ⊢
    have e2 : xorI .u32 4294967295 (((nb b).foldl byteC 4294967295 : Nat) : Int) = ((crcN (nb b) : Nat) : Int) := by
      have := xor_u32 (a := 4294967295) (b := (nb b).foldl byteC 4294967295) (by decide) hlt
      unfold crcN
      rw [Nat.xor_comm]; exact this
    have hc : crcN (nb b) < 4294967296 := Nat.xor_lt_two_pow (n := 32) (by omega) (by decide)
    rw [e2, wrap64_id (by omega) (by omega)]; exact k
end Go.Proofs.Ytkabaoigablphaa
