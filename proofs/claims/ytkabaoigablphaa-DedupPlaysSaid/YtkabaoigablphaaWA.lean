/- Texts of this seat, one behind the other: W1 W2 W3 W4 W5 W6 W7. -/
import Derived.Test.YtkabaoigablphaaHlWire
import Derived.Test.YtkabaoigablphaaS1
import Derived.Test.YtkabaoigablphaaV6
import Derived.Test.YtkabaoigablphaaSrt
import Derived.Test.YtkabaoigablphaaS5
import Derived.Test.YtkabaoigablphaaV5
import Derived.Test.YtkabaoigablphaaS6
import Derived.Test.YtkabaoigablphaaS7
import Derived.Test.YtkabaoigablphaaHlAssoc
import Derived.Test.YtkabaoigablphaaHlSortS

/- Chapter 8: numbers as bytes, and back; the checksum: the code's and the document's. -/
namespace Go.Proofs.Ytkabaoigablphaa
open Go Go.HL
set_option maxHeartbeats 1000000
set_option maxRecDepth 10000

theorem u68 : Try.prog.underlying 68 = some (.slice 5) := by kernel_rfl
theorem u5 : Try.prog.underlying 5 = some (.int .u8) := by kernel_rfl
theorem sevens_eq : ∀ (f z : Nat), sevens f (z : Int) = (encD f z).map fun b : Nat => (b : Int) := by
  intro f
  induction f with
  | zero => intro z; rfl
  | succ f ih =>
    intro z
    unfold sevens encD
    by_cases c : z ≥ 128
    · rw [if_pos (by omega), if_pos c, List.map_cons, shr7]
      have e1 : (z : Int) / 128 = ((z / 128 : Nat) : Int) := by omega
      rw [e1, ih, wrap_u8]
      have e2 : (z : Int) % 256 = ((z % 256 : Nat) : Int) := by omega
      rw [e2, or_u8_128 (by omega)]
      congr 2; omega
    · rw [if_neg (by omega), if_neg c, wrap_u8]
      show [(z : Int) % 256] = [(z : Int)]
      congr 1; omega
theorem encInt_eq {n : Int} (hn : i64B n) : encInt n = (encN n).map fun b : Nat => (b : Int) := by
  unfold encInt zig
  rw [zig_code hn.1 hn.2, sevens_eq]; rfl
theorem bv_nat (l : List Nat) : bv (l.map fun b : Nat => (b : Int)) = l.map fun b : Nat => Value.int .u8 (b : Int) := by simp [bv, Function.comp_def]
theorem strV_str {l : List Nat} (h : ∀ b ∈ l, b < 256) : strV (strN l) = l.map fun b : Nat => Value.int .u8 (b : Int) := by rw [strV_nb, nb_str h]
theorem encN_bytes (n : Int) : ∀ b ∈ encN n, b < 256 := encD_bytes 10 _
theorem encN_len (n : Int) : (encN n).length ≤ 10 := encD_len 10 _
/-- Bytes of one's own as a string. -/
theorem toStr {H : Heap} {K : Value → Heap → Prop} {r : Sl} {l : List Nat} (h : Own H 5 1 r (l.map fun b : Nat => Value.int .u8 (b : Int))) (hl : ∀ b ∈ l, b < 256) (k : K (.string (strN l)) H) : runH Try.prog (convert 68 9 (.slice r.p r.n r.c)) H K :=
  runH_toString u68 u9 u5 (own_byts (by rw [strV_str hl]; exact h)) k
theorem int_spec {H : Heap} {K : Value → Heap → Prop} {n : Int} (hn : i64B n) (k : ∀ H', HL.Sub H H' → K (.string (strN (encN n))) H') : FnH Try.prog 41 #[.int .i64 n] H K := by
  apply wire_Int_fn
  unfold wire_Int_vc
  refine appendInt_spec (b := ⟨none, 0, 0⟩) (l := []) ((Holds.whole H).own_nil 5 1) (by decide) fun r H1 h1 n1 => ⟨r, rfl, ?_⟩
  have ho := h1.own 0 rfl
  rw [List.nil_append, encInt_eq hn, bv_nat] at ho
  exact toStr ho (encN_bytes n) ⟨_, rfl, k H1 (h1.sub 1 rfl)⟩
theorem rd_step {f i z : Nat} {b : Nat} {l : List Nat} (h : b < 256) : rd (f + 1) i z (b :: l) = (if i = 9 ∧ b > 1 then ((0 : Int), (0 : Int), (4 : Int)) else if b > 127 then rd f (i + 1) (z + b % 128 * 128 ^ i) l else if i > 0 ∧ b = 0 then (0, 0, 4) else (unzig (z + b % 128 * 128 ^ i), (i : Int) + 1, 0)) := rfl
abbrev trp (t : Int × Int × Int) : Value := .tuple #[.int .i64 t.1, .int .i64 t.2.1, .int .i64 t.2.2]
/-- A digit joins a number. -/
theorem digit {z b i : Nat} (hz : z < 128 ^ i) (hb : b < 256) (hi : i ≤ 9) (h9 : i = 9 → b ≤ 1) :
    orI .u64 (z : Int) (shlI .u64 (IntKind.wrap .u64 (andI .u8 (b : Int) 127)) (IntKind.wrap .i64 (7 * (i : Int)))) = ((z + b % 128 * 128 ^ i : Nat) : Int) ∧ z + b % 128 * 128 ^ i < 18446744073709551616 ∧ (i ≤ 8 → z + b % 128 * 128 ^ i < 128 ^ (i + 1)) := by
  have hp := pow_top hi
  have hpos : 0 < 128 ^ i := Nat.pow_pos (by decide)
  have hlt8 : i ≤ 8 → z + b % 128 * 128 ^ i < 128 ^ (i + 1) := fun h8 => by
    have h1 : b % 128 * 128 ^ i ≤ 127 * 128 ^ i := Nat.mul_le_mul_right _ (by omega)
    rw [Nat.pow_succ]; omega
  have hlt : z + b % 128 * 128 ^ i < 18446744073709551616 := by
    rcases Nat.lt_or_ge i 9 with q | q
    · have := hlt8 (by omega)
      have h3 : 128 ^ (i + 1) ≤ 128 ^ 9 := Nat.pow_le_pow_right (by decide) (by omega)
      have h4 : (128 : Nat) ^ 9 = 9223372036854775808 := by decide
      omega
    · have e : i = 9 := by omega
      subst e
      have h4 : (128 : Nat) ^ 9 = 9223372036854775808 := by decide
      have := h9 rfl
      rw [h4] at hz ⊢
      have : b % 128 = b := by omega
      rw [this]
      have : b * 9223372036854775808 ≤ 1 * 9223372036854775808 := Nat.mul_le_mul_right _ (by omega)
      omega
  refine ⟨?_, hlt, hlt8⟩
  rw [and_u8_127 hb, wrap_u64', wrap64_id (n := 7 * (i : Int)) (by omega) (by omega)]
  have e1 : ((b % 128 : Nat) : Int) % 18446744073709551616 = ((b % 128 : Nat) : Int) := by omega
  rw [e1]
  unfold shlI
  have e2 : IntKind.bits .u64 = 64 := rfl
  have e3 : min (7 * (i : Int)).toNat 64 = 7 * i := by omega
  rw [e2, e3]
  have e4 : (2 : Int) ^ (7 * i) = ((128 ^ i : Nat) : Int) := by
    rw [Int.pow_mul]; push_cast; rfl
  rw [e4, ← Int.natCast_mul, wrap_u64']
  have e5 : ((b % 128 * 128 ^ i : Nat) : Int) % 18446744073709551616 = ((b % 128 * 128 ^ i : Nat) : Int) := by omega
  rw [e5, or_u64 (by omega) (by omega)]
  congr 1
  have e6 : 128 ^ i = 2 ^ (7 * i) := by rw [Nat.pow_mul]
  rw [e6] at hz ⊢
  have := Nat.two_pow_add_eq_or_of_lt hz (b % 128)
  rw [Nat.or_comm, Nat.mul_comm (b % 128), ← this]; omega
theorem readInt_spec {b : ByteArray} {H : Heap} {K : Value → Heap → Prop} (k : K (trp (readN (nb b))) H) : FnH Try.prog 54 #[.string b] H K := by
  apply wire_ReadInt_fn
  unfold wire_ReadInt_vc
  refine ⟨fun z n H1 => H1 = H ∧ ∃ i y : Nat, n = i ∧ z = y ∧ i ≤ 10 ∧ i ≤ b.size ∧ (i ≤ 9 → y < 128 ^ i) ∧ rd (10 - i) i y ((nb b).drop i) = readN (nb b), fun _ n _ => (10 - n).toNat, ⟨rfl, 0, 0, rfl, rfl, by decide, Nat.zero_le _, fun _ => by decide, rfl⟩, ?_⟩
  rintro _ _ H1 ⟨rfl, i, z, rfl, rfl, hi, hib, hz, hrd⟩
  have fin : ∀ t : Int × Int × Int, rd (10 - i) i z ((nb b).drop i) = t → K (trp t) H1 := fun t ht => by rw [← ht, hrd]; exact k
  refine br_intro (fun q => ?_) (fun q => ?_)
  · have q := of_decide_eq_true q
    have hz := hz (by omega)
    obtain ⟨f, hf⟩ : ∃ f, 10 - i = f + 1 := ⟨9 - i, by omega⟩
    have hf2 : 10 - (i + 1) = f := by omega
    rw [hf] at fin hrd
    refine br_intro (fun q2 => ?_) (fun q2 => ?_)
    · have q2 : (i : Int) = b.size := by simpa using q2
      have e : (nb b).drop i = [] := List.drop_eq_nil_of_le (by rw [nb_len]; omega)
      rw [e] at fin
      exact fin (0, 0, 5) rfl
    have q2 : ¬ (i : Int) = b.size := by simpa using q2
    obtain ⟨c, e1, e2, e3⟩ := nb_get (s := b) (i := i) (by omega)
    have hlen : i < (nb b).length := by rw [nb_len]; omega
    have ed : (nb b).drop i = c.toNat :: (nb b).drop (i + 1) := by
      rw [List.drop_eq_getElem_cons hlen]
      congr 1
      rw [List.getElem?_eq_getElem hlen] at e2; exact Option.some.inj e2
    rw [ed] at fin hrd
    rw [rd_step e3] at fin hrd
    have ei : (i : Int).toNat = i := by omega
    have hn1 : IntKind.wrap .i64 ((i : Int) + 1) = ((i + 1 : Nat) : Int) := by rw [wrap64_id (by omega) (by omega)]; omega
    have sh : ∀ {p : Prop}, p → shG (decide (IntKind.wrap .i64 (7 * (i : Int)) < 0)) p := fun {p} hp => by
      rw [wrap64_id (by omega) (by omega), decide_eq_false (by omega)]; exact hp
    have body : (¬ (i = 9 ∧ c.toNat > 1)) → ∀ {p : Prop} (_ : (∀ z' : Nat, orI .u64 (z : Int) (shlI .u64 (IntKind.wrap .u64 (andI .u8 (c.toNat : Int) 127)) (IntKind.wrap .i64 (7 * (i : Int)))) = (z' : Int) → z' < 18446744073709551616 → z' = z + c.toNat % 128 * 128 ^ i → (i ≤ 8 → z' < 128 ^ (i + 1)) → p)), p := fun h9 {p} hp => by
      obtain ⟨d1, d2, d3⟩ := digit (z := z) (b := c.toNat) (i := i) hz e3 (by omega) (fun e => Nat.le_of_not_lt fun z => h9 ⟨e, z⟩)
      exact hp _ d1 d2 rfl d3
    refine br_intro (fun q9 => ?_) (fun q9 => ?_)
    all_goals
      first
        | (refine ⟨by omega, c, by rw [ei]; exact e1, br_intro (fun q1 => ?_) (fun q1 => ?_)⟩
           · have q9 : (i : Int) = 9 := by simpa using q9
             have q1 := of_decide_eq_true q1
             exact fin (0, 0, 4) (by rw [if_pos ⟨by omega, by omega⟩]))
        | skip
    all_goals
      have h9 : ¬ (i = 9 ∧ c.toNat > 1) := fun z => by
        first
          | (have q1 := of_decide_eq_false q1; omega)
          | (have q9 : ¬ (i : Int) = 9 := by simpa using q9
             omega)
      rw [if_neg h9] at fin hrd
      refine ⟨by omega, c, by rw [ei]; exact e1, sh ⟨by omega, c, by rw [ei]; exact e1, body h9 fun z' hz1 hz2 hz3 hz4 => ?_⟩⟩
      rw [hz1, hn1]
      refine br_intro (fun c1 => ?_) (fun c1 => ?_)
      · have c1 := of_decide_eq_true c1
        rw [if_pos (by omega)] at hrd
        exact ⟨rfl, ⟨rfl, i + 1, z', rfl, rfl, by omega, by omega, fun h => hz4 (by omega), by rw [hf2, hz3]; exact hrd⟩, by dsimp only; omega⟩
      · have c1 := of_decide_eq_false c1
        rw [if_neg (by omega)] at fin
        refine ⟨fun bb H2 => H2 = H1 ∧ bb = (decide (i > 0) && decide (c.toNat = 0)), br_intro (fun c2 => ⟨by omega, c, by rw [ei]; exact e1, rfl, rfl, ?_⟩) (fun c2 => ⟨rfl, rfl, ?_⟩), ?_⟩
        · have c2 := of_decide_eq_true c2
          rw [decide_eq_true (show i > 0 by omega), Bool.true_and]
          have : (((c.toNat : Nat) : Int) == 0) = decide (c.toNat = 0) := by
            by_cases z : c.toNat = 0
            · rw [decide_eq_true z, z]; rfl
            · rw [decide_eq_false z]; simpa using z
          exact this
        · have c2 := of_decide_eq_false c2
          rw [decide_eq_false (show ¬ i > 0 by omega)]; rfl
        rintro bb H2 ⟨rfl, hbb⟩
        refine br_intro (fun c3 => ?_) (fun c3 => ?_)
        · rw [c3] at hbb
          have hbb := hbb.symm
          simp only [Bool.and_eq_true, decide_eq_true_eq] at hbb
          exact fin (0, 0, 4) (by rw [if_pos hbb])
        · rw [c3] at hbb
          have hbb := hbb.symm
          simp only [Bool.and_eq_false_iff, decide_eq_false_iff_not] at hbb
          have hno : ¬ (i > 0 ∧ c.toNat = 0) := fun z => hbb.elim (fun y => y z.1) (fun y => y z.2)
          have := fin (unzig z', (i : Int) + 1, 0) (by rw [if_neg hno, hz3])
          rw [unzig_code hz2]
          exact this
  · have q := of_decide_eq_false q
    have e : 10 - i = 0 := by omega
    rw [e] at fin
    exact fin (0, 0, 4) rfl
theorem foldl_take {l : List Nat} {i : Nat} {b : Nat} (h : l[i]? = some b) (c : Nat) : (l.take (i + 1)).foldl byteC c = byteC ((l.take i).foldl byteC c) b := by
  obtain ⟨h1, h2⟩ := List.getElem?_eq_some_iff.1 h
  rw [List.take_succ_eq_append_getElem h1, h2, List.foldl_append]; rfl
theorem foldC_lt {l : List Nat} (h : ∀ b ∈ l, b < 256) : ∀ {c : Nat}, c < 4294967296 → l.foldl byteC c < 4294967296 := by
  induction l with
  | nil => intro c hc; exact hc
  | cons a l ih => intro c hc; exact ih (fun b hb => h b (List.mem_cons_of_mem _ hb)) (byteC_lt hc (h a List.mem_cons_self))
theorem crc_spec {b : ByteArray} {H : Heap} {K : Value → Heap → Prop} (hb : b.size ≤ 9223372036854775807) (k : K (.int .i64 (crcN (nb b))) H) : FnH Try.prog 53 #[.string b] H K := by
  apply wire_Crc_fn
  unfold wire_Crc_vc
  refine ⟨fun c n H1 => H1 = H ∧ 0 ≤ n ∧ n ≤ b.size ∧ c = (((nb b).take n.toNat).foldl byteC 4294967295 : Nat), fun _ n _ => (b.size - n).toNat, ⟨rfl, Int.le_refl _, by omega, rfl⟩, ?_⟩
  rintro _ n H1 ⟨rfl, n0, n1, rfl⟩
  have hlt : ((nb b).take n.toNat).foldl byteC 4294967295 < 4294967296 := foldC_lt (fun x hx => nb_byte b x (List.mem_of_mem_take hx)) (by decide)
  refine br_intro (fun q => ?_) (fun q => ?_)
  · have q := of_decide_eq_true q
    obtain ⟨c, e1, e2, e3⟩ := nb_get (s := b) (i := n.toNat) (by omega)
    have et := foldl_take e2 4294967295
    generalize ((nb b).take n.toNat).foldl byteC 4294967295 = cc at *
    have ew : IntKind.wrap .u32 ((c.toNat : Nat) : Int) = ((c.toNat : Nat) : Int) := by rw [wrap_u32]; omega
    have hx : cc ^^^ c.toNat < 4294967296 := Nat.xor_lt_two_pow (n := 32) (by omega) (by omega)
    refine ⟨n0, c, e1, ?_⟩
    rw [ew, xor_u32 hlt (by omega)]
    refine ⟨fun c2 m H2 => H2 = H1 ∧ 0 ≤ m ∧ m ≤ 8 ∧ c2 = (bitsC m.toNat (cc ^^^ c.toNat) : Nat), fun _ m _ => (8 - m).toNat, ⟨rfl, Int.le_refl _, by decide, rfl⟩, ?_⟩
    rintro _ m H2 ⟨rfl, m0, m1, rfl⟩
    refine br_intro (fun v => ?_) (fun v => ?_)
    · have v := of_decide_eq_true v
      rw [bit_code (bitsC_lt _ hx), wrap64_id (n := m + 1) (by omega) (by omega)]
      have em : (m + 1).toNat = m.toNat + 1 := by omega
      exact ⟨rfl, ⟨rfl, by omega, by omega, by rw [em, bitsC_snoc]⟩, by dsimp only; omega⟩
    · have v := of_decide_eq_false v
      have em : m.toNat = 8 := by omega
      rw [em, wrap64_id (n := n + 1) (by omega) (by omega)]
      have en : (n + 1).toNat = n.toNat + 1 := by omega
      exact ⟨rfl, ⟨rfl, by omega, by omega, by rw [en, et]; rfl⟩, by dsimp only; omega⟩
  · have q := of_decide_eq_false q
    have e : (nb b).take n.toNat = nb b := List.take_of_length_le (by rw [nb_len]; omega)
    rw [e] at hlt ⊢
    have e2 : xorI .u32 4294967295 (((nb b).foldl byteC 4294967295 : Nat) : Int) = ((crcN (nb b) : Nat) : Int) := by
      have := xor_u32 (a := 4294967295) (b := (nb b).foldl byteC 4294967295) (by decide) hlt
      unfold crcN
      rw [Nat.xor_comm]; exact this
    have hc : crcN (nb b) < 4294967296 := Nat.xor_lt_two_pow (n := 32) (by omega) (by decide)
    rw [e2, wrap64_id (by omega) (by omega)]; exact k
end Go.Proofs.Ytkabaoigablphaa

/- Chapter 8: a table as bytes: its checksum, the numbers put behind one another. -/
namespace Go.Proofs.Ytkabaoigablphaa
open Go Go.HL
set_option maxRecDepth 10000
set_option maxHeartbeats 1600000

/-- Bytes as cells. -/
abbrev byV (l : List Nat) : List Value := l.map fun b : Nat => Value.int .u8 (b : Int)
abbrev ownY (s : Sl) (l : List Nat) : Chunk := own 5 1 s (byV l)
theorem noTups_by (l : List Nat) : noTups (byV l) = true := by
  induction l with
  | nil => rfl
  | cons a l ih => exact ih
def encL (L : List Int) : List Nat := L.flatMap encN
theorem encL_app (a b : List Int) : encL (a ++ b) = encL a ++ encL b := by simp [encL]
theorem encL_bytes (L : List Int) : ∀ b ∈ encL L, b < 256 := fun b hb => by
  obtain ⟨n, _, h⟩ := List.mem_flatMap.1 hb
  exact encN_bytes n b h
def sumN (l : List Nat) : List Nat := [crcN l / 16777216 % 256, crcN l / 65536 % 256, crcN l / 256 % 256, crcN l % 256]
theorem sumN_bytes (l : List Nat) : ∀ b ∈ sumN l, b < 256 := by
  intro b hb
  simp only [sumN, List.mem_cons, List.not_mem_nil, or_false] at hb
  omega
theorem crcN_lt (l : List Nat) (hl : ∀ b ∈ l, b < 256) : crcN l < 4294967296 := Nat.xor_lt_two_pow (n := 32) (foldC_lt hl (by decide)) (by decide)
theorem shr_n (c : Nat) (k : Nat) (hk : k < 64) : shrI .i64 (c : Int) k = ((c / 2 ^ k : Nat) : Int) := by
  have e : shrI .i64 (c : Int) k = (c : Int).fdiv ((2 : Int) ^ k) := by
    have h2 : min k IntKind.i64.bits = k := Nat.min_eq_left (by have : IntKind.i64.bits = 64 := rfl; omega)
    unfold shrI; simp [h2]
  rw [e, Int.fdiv_eq_ediv_of_nonneg _ (by exact Int.le_of_lt (Int.pow_pos (by decide)))]
  simp
section
variable {cs : List Chunk} {H : Heap} {K : Value → Heap → Prop}
theorem sum_spec {b : Sl} {l : List Nat} {i : Nat} (h : Holds cs H) (ei : cs[i]? = some (ownY b l)) (hl : ∀ x ∈ l, x < 256) (hb : l.length ≤ 268435456) (k : ∀ (r : Sl) H', HL.Sub H H' → Holds (ownY r (sumN l) :: cs) H' → r.n = 4 → K (.slice r.p r.n r.c) H') :
    FnH Try.prog 35 #[.slice b.p b.n b.c] H K := by
  apply dedup_sum_fn
  unfold dedup_sum_vc
  refine toStr (h.own i ei) hl ⟨_, rfl, crc_spec ?_ ⟨_, rfl, ?_⟩⟩
  · have : (strN l).size = l.length := by rw [← nb_len, nb_str hl]
    omega
  rw [nb_str hl]
  have hc := crcN_lt l hl
  refine h.newS fun q H1 s1 h1 => k ⟨some ⟨q, 0, none⟩, 4, 4⟩ H1 s1 (h1.head fun A hA => ⟨rfl, Nat.le_refl _, .inr ⟨q, _, rfl, hA, rfl, ?_⟩⟩) rfl
  have e1 : ∀ k : Nat, k < 64 → IntKind.wrap .u8 (shrI .i64 (crcN l : Int) k) = ((crcN l / 2 ^ k % 256 : Nat) : Int) := fun k hk => by
    rw [shr_n _ _ hk, wrap_u8]; omega
  have ea : IntKind.wrap .u8 (shrI .i64 (crcN l : Int) 24) = ((crcN l / 16777216 % 256 : Nat) : Int) := e1 24 (by decide)
  have eb : IntKind.wrap .u8 (shrI .i64 (crcN l : Int) 16) = ((crcN l / 65536 % 256 : Nat) : Int) := e1 16 (by decide)
  have ec : IntKind.wrap .u8 (shrI .i64 (crcN l : Int) 8) = ((crcN l / 256 % 256 : Nat) : Int) := e1 8 (by decide)
  have ed : IntKind.wrap .u8 (crcN l : Int) = ((crcN l % 256 : Nat) : Int) := by rw [wrap_u8]; omega
  rw [ea, eb, ec, ed]
  intro i hi
  have z : i = 0 ∨ i = 1 ∨ i = 2 ∨ i = 3 := by simp [sumN] at hi; omega
  rcases z with rfl | rfl | rfl | rfl <;> rfl
theorem put_spec {q : Nat} {s l : Sl} {B : List Nat} {L : List Int} {c0 : Chunk} {i : Nat} (h : Holds (blk q (.cells #[.slice s.p s.n s.c] 68 (0, 0)) :: ownY s B :: cs) H) (g : Gives c0 fun A => Ints A l L) (ei : cs[i]? = some c0) (hw : ∀ n ∈ L, i64B n) (hb : B.length + (encL L).length ≤ 268435456)
    (k : ∀ (r : Sl) H', Holds (blk q (.cells #[.slice r.p r.n r.c] 68 (0, 0)) :: ownY r (B ++ encL L) :: cs) H' → K (.tuple #[]) H') : FnH Try.prog 40 #[.slice l.p l.n l.c, .pointer (some ⟨q, 0, none⟩)] H K := by
  apply dedup_Table_Keep_1_fn
  unfold dedup_Table_Keep_1_vc
  have hI := g.at_ h (i + 2) (by simpa using ei)
  have hn := hI.len
  have hbg := hI.big
  refine ⟨fun m H => 0 ≤ m ∧ m ≤ l.n ∧ ∃ r : Sl, Holds (blk q (.cells #[.slice r.p r.n r.c] 68 (0, 0)) :: ownY r (B ++ encL (L.take m.toNat)) :: cs) H, fun m _ => (l.n - m).toNat,
    ⟨Int.le_refl _, by omega, s, by simpa [encL] using h⟩, ?_⟩
  rintro m H1 ⟨m0, m1, r, h1⟩
  refine br_intro (fun c => ?_) (fun c => ?_)
  · have c := of_decide_eq_true c
    obtain ⟨q1, o1, e1, e2, e3, e4⟩ := (g.at_ h1 (i + 2) (by simpa using ei)).at_ m0 c
    have hlt : m.toNat < L.length := by omega
    have ex : L.getD m.toNat 0 = L[m.toNat] := by rw [List.getD_eq_getElem?_getD, List.getElem?_eq_getElem hlt]; rfl
    have et : L.take (m + 1).toNat = L.take m.toNat ++ [L[m.toNat]] := by
      have : (m + 1).toNat = m.toNat + 1 := by omega
      rw [this, List.take_succ_eq_append_getElem hlt]
    rw [ex] at e4
    have hx := hw _ (List.getElem_mem hlt)
    generalize L[m.toNat] = x at *
    have hlen : (encL (L.take (m + 1).toNat)).length ≤ (encL L).length := by
      have : encL L = encL (L.take (m + 1).toNat) ++ encL (L.drop (m + 1).toNat) := by rw [← encL_app, List.take_append_drop]
      rw [this, List.length_append]; omega
    rw [et, encL_app] at hlen
    have ex2 : encL [x] = encN x := by simp [encL]
    rw [ex2, List.length_append] at hlen
    have hrn := (h1.own 1 rfl).1
    simp only [List.length_map, List.length_append, Nat.mul_one] at hrn
    have hsz : (strN (encN x)).size = (encN x).length := by rw [← nb_len, nb_str (encN_bytes x)]
    refine ⟨q1, o1, e1, e2, e3, _, e4, r, h1.cell 0 rfl rfl, int_spec hx fun H2 s2 => ⟨_, rfl, s2, ?_⟩⟩
    have h2 : Holds (blk q (.cells #[.slice r.p r.n r.c] 68 (0, 0)) :: ownY r (B ++ encL (L.take m.toNat)) :: cs) H2 := Holds.up s2 h1
    refine Holds.appendStr ok68 u9 h2.swap (by omega) fun r2 H3 h3 n3 => ⟨r2, rfl, ?_⟩
    rw [strV_str (encN_bytes x)] at h3
    refine Holds.store h3.swap 0 rfl (by simp) fun H4 h4 => ⟨rfl, ⟨by rw [wrap64_id (by omega) (by omega)]; omega, by rw [wrap64_id (by omega) (by omega)]; omega, r2, ?_⟩, ?_⟩
    · rw [wrap64_id (n := m + 1) (by omega) (by omega), et, encL_app, ex2, ← List.append_assoc]
      unfold ownY byV
      rw [List.map_append]
      exact h4
    · rw [wrap64_id (n := m + 1) (by omega) (by omega)]; dsimp only; omega
  · have c := of_decide_eq_false c
    rw [List.take_of_length_le (by omega)] at h1
    exact k r H1 h1
end
end Go.Proofs.Ytkabaoigablphaa

/- Chapter 8: Keep. -/
namespace Go.Proofs.Ytkabaoigablphaa
open Go Go.HL
set_option maxRecDepth 10000
set_option maxHeartbeats 1600000

/-! ### what Keep writes -/
def ntI (x : Nt) : List Int := [x.1, x.2.1, x.2.2.1, x.2.2.2]
def rowI (p : Int × List Nt) : List Int := [p.1, (p.2.length : Int)] ++ p.2.flatMap ntI
def bodyI (S : Tb) : List Int := (S.length : Int) :: S.flatMap rowI
def keepN (S : Tb) : List Nat := sumN (encL (bodyI S)) ++ encL (bodyI S)
def keysS (T : Tb) : List Int := (T.map Prod.fst).mergeSort fun x y => decide (x ≤ y)
def sortT (T : Tb) : Tb := (keysS T).map fun k => (k, (lookL T k).getD [])
theorem keepN_bytes (S : Tb) : ∀ b ∈ keepN S, b < 256 := fun b hb => (List.mem_append.1 hb).elim (sumN_bytes _ b) (encL_bytes _ b)
/-- What may be written: numbers of 64 bits. -/
def WfT (T : Tb) : Prop := ∀ p ∈ T, i64B p.1 ∧ ∀ x ∈ p.2, ∀ n ∈ ntI x, i64B n
theorem encN_pos (n : Int) : 0 < (encN n).length := by
  unfold encN encD
  split <;> simp
theorem encL_len : ∀ (L : List Int), L.length ≤ (encL L).length
  | [] => Nat.le_refl _
  | n :: L => by
    have := encL_len L
    have := encN_pos n
    have e : encL (n :: L) = encN n ++ encL L := rfl
    rw [e, List.length_append, List.length_cons]; omega
theorem keysS_perm (T : Tb) : (keysS T).Perm (T.map Prod.fst) := List.mergeSort_perm _ _
theorem sortT_len (T : Tb) : (sortT T).length = T.length := by
  unfold sortT
  rw [List.length_map, (keysS_perm T).length_eq, List.length_map]
theorem flat_rowI_take {S : Tb} {m : Nat} {p : Int × List Nt} (h : S[m]? = some p) : (S.take (m + 1)).flatMap rowI = (S.take m).flatMap rowI ++ ([p.1, (p.2.length : Int)] ++ p.2.flatMap ntI) := by
  obtain ⟨h1, h2⟩ := List.getElem?_eq_some_iff.1 h
  rw [List.take_succ_eq_append_getElem h1, h2, List.flatMap_append]; simp [rowI]
theorem flat_ntI_take {l : List Nt} {m : Nat} {x : Nt} (h : l[m]? = some x) : (l.take (m + 1)).flatMap ntI = (l.take m).flatMap ntI ++ ntI x := by
  obtain ⟨h1, h2⟩ := List.getElem?_eq_some_iff.1 h
  rw [List.take_succ_eq_append_getElem h1, h2, List.flatMap_append]; simp
theorem lit_gives {q T : Nat} {l : List Int} (hb : l.length ≤ 9223372036854775807) : Gives (blk q (.cells (l.map (Value.int .i64)).toArray T (0, 0))) (fun A => Ints A ⟨some ⟨q, 0, none⟩, l.length, l.length⟩ l) :=
  ⟨blk_mono _ _, fun A hA => ⟨rfl, hb, Nat.le_refl _, CellsAt.block hA fun i hi => by simp at hi; simp [hi]⟩⟩
section
variable {cs : List Chunk} {H : Heap} {K : Value → Heap → Prop}
/-- The buffer: a variable that holds a slice of bytes. -/
def buf (q : Nat) (B : List Nat) : Chunk := fun H => ∃ s : Sl, Holds [blk q (.cells #[.slice s.p s.n s.c] 68 (0, 0)), ownY s B] H
theorem buf_open {q : Nat} {B : List Nat} : Holds (buf q B :: cs) H ↔ ∃ s : Sl, Holds (blk q (.cells #[.slice s.p s.n s.c] 68 (0, 0)) :: ownY s B :: cs) H := by
  constructor
  · intro h
    obtain ⟨s, h⟩ := Holds.ex.1 h
    exact ⟨s, Holds.flat.1 h⟩
  · rintro ⟨s, h⟩
    exact Holds.ex.2 ⟨s, Holds.flat.2 h⟩
/-- A literal's numbers are put behind the buffer. -/
theorem lit_put {q : Nat} {B : List Nat} (L : List Int) {X : Value → Heap → Prop} (h : Holds (buf q B :: cs) H) (hw : ∀ n ∈ L, i64B n) (hb : B.length + (encL L).length ≤ 268435456)
    (k : ∀ H', Holds (buf q (B ++ encL L) :: cs) H' → X (.tuple #[]) H') :
    ∀ q2, H q2 = none → letH (Heap.upd H q2 (.cells (L.map (Value.int .i64)).toArray 3 (0, 0))) fun H2 => FnH Try.prog 40 #[.slice (some ⟨q2, 0, none⟩) L.length L.length, .pointer (some ⟨q, 0, none⟩)] H2 X :=
  h.newS fun q2 H2 _ h2 => by
    have hl := encL_len L
    obtain ⟨s, h3⟩ := buf_open.1 h2.swap
    exact put_spec (l := ⟨some ⟨q2, 0, none⟩, L.length, L.length⟩) (i := 0) h3 (lit_gives (by omega)) rfl hw hb fun r H4 h4 => k H4 (buf_open.2 ⟨r, (h4.pull 2 rfl).tail⟩)
theorem keep_spec {t : Nat} {T : Tb} (h : Holds (tab t T :: cs) H) (hw : WfT T) (hb : (encL (bodyI (sortT T))).length ≤ 100000000) (k : ∀ H', Holds (tab t T :: cs) H' → K (.string (strN (keepN (sortT T)))) H') :
    FnH Try.prog 21 #[.pointer (some ⟨t, 0, none⟩)] H K := by
  apply dedup_Table_Keep_fn
  unfold dedup_Table_Keep_vc
  have hbl := encL_len (bodyI (sortT T))
  have hSl := sortT_len T
  have hbody : bodyI (sortT T) = ((sortT T).length : Int) :: (sortT T).flatMap rowI := rfl
  have hTl : T.length ≤ 100000000 := by
    have : (sortT T).length ≤ ((sortT T).flatMap rowI).length := by
      generalize sortT T = S
      induction S with
      | nil => exact Nat.le_refl _
      | cons a S ih => rw [List.flatMap_cons, List.length_append, List.length_cons]; have : 2 ≤ (rowI a).length := by simp [rowI]
                       omega
    have h5 := congrArg List.length hbody
    rw [List.length_cons] at h5
    omega
  refine h.newS fun q H1 s1 h1 => ?_
  obtain ⟨mb, ps, ⟨eT, hN⟩, h2⟩ := tab_open.1 h1.swap
  have e1 : (tmap ps).length = T.length := by rw [← eT]; simp [tmap, tmod]
  refine ⟨some mb, h2.cell 0 rfl rfl, h2.lenM 1 rfl ?_⟩
  have h3 : Holds (buf q [] :: blk t (.cells #[.map (some mb)] 55 (0, 0)) :: mp mb encI (tmap ps) :: Holds (ps.map hown) :: cs) H1 := buf_open.2 ⟨⟨none, 0, 0⟩, ((h2.own_nil 5 1).pull 4 rfl)⟩
  have hpre : ∀ L1 L2, bodyI (sortT T) = L1 ++ L2 → (encL L1).length ≤ 100000000 := fun L1 L2 e => by
    rw [e, encL_app, List.length_append] at hb; omega
  refine lit_put [((tmap ps).length : Int)] h3 (by rw [e1]; intro n hn; simp at hn; subst hn; exact ⟨by omega, by omega⟩) ?_ fun H4 h4 => ⟨rfl, ?_⟩
  · have := encN_len ((tmap ps).length : Int)
    have e : encL [((tmap ps).length : Int)] = encN ((tmap ps).length : Int) := by simp [encL]
    rw [e, List.length_nil]; omega
  refine ⟨some mb, h4.cell 1 rfl rfl, keys_spec (h4.pull 2 rfl) fun q3 H5 h5 => ⟨_, rfl, sorted_spec h5 (by rw [keys_tmap, eT]; exact hN) (by rw [e1]; omega) ?_ fun s H6 h6 => ⟨s, rfl, ?_⟩⟩⟩
  · intro x hx
    rw [keys_tmap, eT] at hx
    obtain ⟨p, hp, rfl⟩ := List.mem_map.1 hx
    exact (hw p hp).1
  rw [keys_tmap, eT] at h6
  have h7 : Holds (buf q (encL [((sortT T).length : Int)]) :: own 3 1 s ((keysS T).map (Value.int .i64)) :: mp mb encI (tmap ps) :: blk t (.cells #[.map (some mb)] 55 (0, 0)) :: Holds (ps.map hown) :: cs) H6 := by
    have := h6.pull 2 rfl
    rw [e1, ← hSl] at this
    exact this
  have hkl : (keysS T).length = T.length := by rw [(keysS_perm T).length_eq, List.length_map]
  have hsn : s.n = T.length := by
    have := (h7.own 1 rfl).1
    rw [List.length_map, hkl] at this; omega
  refine ⟨fun m H => 0 ≤ m ∧ m ≤ s.n ∧ Holds (buf q (encL (((sortT T).length : Int) :: ((sortT T).take m.toNat).flatMap rowI)) :: own 3 1 s ((keysS T).map (Value.int .i64)) :: mp mb encI (tmap ps) :: blk t (.cells #[.map (some mb)] 55 (0, 0)) :: Holds (ps.map hown) :: cs) H, fun m _ => (s.n - m).toNat,
    ⟨Int.le_refl _, by omega, h7⟩, ?_⟩
  clear h h1 h2 h3 h4 h5 h6 h7
  rintro m H7 ⟨m0, m1, h7⟩
  refine br_intro (fun c => ?_) (fun c => ?_)
  · have c := of_decide_eq_true c
    have hI : Ints H7 s (keysS T) := (h7.own 1 rfl).ints (by omega)
    obtain ⟨q4, o1, f1, f2, f3, f4⟩ := hI.at_ m0 c
    have hlt : m.toNat < (keysS T).length := by omega
    have ex : (keysS T).getD m.toNat 0 = (keysS T)[m.toNat] := by rw [List.getD_eq_getElem?_getD, List.getElem?_eq_getElem hlt]; rfl
    rw [ex] at f4
    have hS : (sortT T)[m.toNat]? = some ((keysS T)[m.toNat], (lookL T (keysS T)[m.toNat]).getD []) := by
      unfold sortT
      rw [List.getElem?_map, List.getElem?_eq_getElem hlt]; rfl
    have hmem : (keysS T)[m.toNat] ∈ T.map Prod.fst := (keysS_perm T).mem_iff.1 (List.getElem_mem hlt)
    generalize (keysS T)[m.toNat] = x at *
    obtain ⟨l, hl⟩ : ∃ l, lookL T x = some l := by
      obtain ⟨w, hw⟩ := idxL_mem hmem
      exact ⟨w.2, by unfold lookL; rw [hw]; rfl⟩
    rw [hl] at hS
    have hS : (sortT T)[m.toNat]? = some (x, l) := hS
    obtain ⟨v, hv⟩ : ∃ v, lookL (tmap ps) x = some v := by
      rw [← eT] at hl
      unfold lookL at hl ⊢
      rw [idx_tmod] at hl
      rw [idx_tmap]
      cases e : idxL ps x with
      | none => rw [e] at hl; cases hl
      | some w => exact ⟨_, rfl⟩
    obtain ⟨j, sl, l2, g1, rfl, g2, g3⟩ := look_held hv
    obtain rfl : l2 = l := by rw [eT, hl] at g3; exact (Option.some.inj g3).symm
    have hTm : (x, l2) ∈ T := by
      obtain ⟨w, hw2⟩ := lookL_idx hl
      exact List.mem_of_getElem? (idxL_get hw2)
    have hwl := hw _ hTm
    have hcut := flat_rowI_take hS
    have hfin : ∀ L2 L3, [x, (l2.length : Int)] ++ l2.flatMap ntI = L2 ++ L3 → (encL ((((sortT T).length : Int) :: ((sortT T).take m.toNat).flatMap rowI) ++ L2)).length ≤ 100000000 := fun L2 L3 e => by
      refine hpre _ (L3 ++ ((sortT T).drop (m.toNat + 1)).flatMap rowI) ?_
      have : (sortT T).flatMap rowI = ((sortT T).take (m.toNat + 1)).flatMap rowI ++ ((sortT T).drop (m.toNat + 1)).flatMap rowI := by rw [← List.flatMap_append, List.take_append_drop]
      rw [hbody, this, hcut, e]; simp
    have hl2 : l2.length ≤ 100000000 := by
      have h1 := hfin _ [] (by rw [List.append_nil])
      have h2 := encL_len ((((sortT T).length : Int) :: ((sortT T).take m.toNat).flatMap rowI) ++ ([x, (l2.length : Int)] ++ l2.flatMap ntI))
      have h3 : (l2.flatMap ntI).length = 4 * l2.length := by
        rw [List.length_flatMap]
        have : l2.map (fun a => (ntI a).length) = l2.map fun _ => 4 := by rfl
        rw [this, List.map_const', List.sum_replicate_nat]; omega
      simp only [List.length_append, List.length_cons, h3] at h2
      omega
    have rd : ∀ {H : Heap} {B : List Nat}, Holds (buf q B :: own 3 1 s ((keysS T).map (Value.int .i64)) :: mp mb encI (tmap ps) :: blk t (.cells #[.map (some mb)] 55 (0, 0)) :: Holds (ps.map hown) :: cs) H → Recs eN H sl l2 := fun h => by
      have h4 := Holds.read (h.read 4 rfl (Holds.mono _)) j (by rw [List.getElem?_map, g1]; rfl) (hown_mono (x, sl, l2))
      exact Own.recs eNlen (by decide) h4 (by show l2.length ≤ _; omega)
    have hln : sl.n = l2.length := (rd h7).len
    refine ⟨q4, o1, f1, f2, f3, x, f4, some mb, h7.cell 3 rfl rfl, runH_lookup1 u53 kint z56 (h7.map 2 rfl) (k := x) ?_⟩
    rw [hv]
    refine ⟨sl, rfl, ?_⟩
    rw [hln]
    refine lit_put [x, (l2.length : Int)] h7 (by intro n hn; simp at hn; rcases hn with rfl | rfl; exact hwl.1; exact ⟨by omega, by omega⟩) ?_ fun H8 h8 => ⟨rfl, some mb, h8.cell 3 rfl rfl, runH_lookup1 u53 kint z56 (h8.map 2 rfl) (k := x) ?_⟩
    · have := hfin _ _ rfl
      rw [encL_app, List.length_append] at this; omega
    rw [hv]
    refine ⟨sl, rfl, ?_⟩
    rw [← encL_app] at h8
    refine ⟨fun i H => 0 ≤ i ∧ i ≤ sl.n ∧ Holds (buf q (encL ((((sortT T).length : Int) :: ((sortT T).take m.toNat).flatMap rowI) ++ ([x, (l2.length : Int)] ++ (l2.take i.toNat).flatMap ntI))) :: own 3 1 s ((keysS T).map (Value.int .i64)) :: mp mb encI (tmap ps) :: blk t (.cells #[.map (some mb)] 55 (0, 0)) :: Holds (ps.map hown) :: cs) H, fun i _ => (sl.n - i).toNat,
      ⟨Int.le_refl _, by omega, h8⟩, ?_⟩
    clear h7 h8
    rintro i H9 ⟨i0, i1, h9⟩
    refine br_intro (fun c2 => ?_) (fun c2 => ?_)
    · have c2 := of_decide_eq_true c2
      obtain ⟨q5, o2, y, k1, k2, k3⟩ := (rd h9).at_ eNlen (by decide) i0 c2
      have hy := hwl.2 y (List.mem_of_getElem? k2)
      have hk := flat_ntI_take k2
      refine ⟨q5, o2, k1, i0, c2, y.1, k3 0 _ rfl, y.2.1, k3 1 _ rfl, y.2.2.1, k3 2 _ rfl, y.2.2.2, k3 3 _ rfl, ?_⟩
      have ei : (i + 1).toNat = i.toNat + 1 := by omega
      refine lit_put (ntI y) h9 hy ?_ fun H10 h10 => ⟨rfl, rfl, ⟨by rw [wrap64_id (by omega) (by omega)]; omega, by rw [wrap64_id (by omega) (by omega)]; omega, ?_⟩, ?_⟩
      · have := hfin ([x, (l2.length : Int)] ++ (l2.take (i.toNat + 1)).flatMap ntI) ((l2.drop (i.toNat + 1)).flatMap ntI) (by rw [List.append_assoc, ← List.flatMap_append, List.take_append_drop])
        rw [hk, ← List.append_assoc, ← List.append_assoc, encL_app, List.length_append, List.append_assoc] at this
        omega
      · rw [wrap64_id (n := i + 1) (by omega) (by omega), ei, hk]
        rw [← encL_app] at h10
        simp only [List.append_assoc] at h10 ⊢
        exact h10
      · rw [wrap64_id (n := i + 1) (by omega) (by omega)]; dsimp only; omega
    · have c2 := of_decide_eq_false c2
      have em : (m + 1).toNat = m.toNat + 1 := by omega
      rw [List.take_of_length_le (l := l2) (by omega)] at h9
      refine ⟨rfl, ⟨by rw [wrap64_id (by omega) (by omega)]; omega, by rw [wrap64_id (by omega) (by omega)]; omega, ?_⟩, ?_⟩
      · rw [wrap64_id (n := m + 1) (by omega) (by omega), em, hcut]
        exact h9
      · rw [wrap64_id (n := m + 1) (by omega) (by omega)]; dsimp only; omega
  · have c := of_decide_eq_false c
    rw [List.take_of_length_le (by omega)] at h7
    rw [← hbody] at h7
    obtain ⟨r, h8⟩ := buf_open.1 h7
    refine ⟨r, h8.cell 0 rfl rfl, r, h8.cell 0 rfl rfl, sum_spec (i := 1) h8 rfl (encL_bytes _) (by omega) fun r2 H9 s9 h9 n9 => ⟨r2, rfl, s9, ?_⟩⟩
    have hr : r.n = (encL (bodyI (sortT T))).length := by
      have := (h8.own 1 rfl).1
      simp only [List.length_map, Nat.mul_one] at this; exact this.symm
    refine Holds.append ok68 ok68.under h9 (h9.own 2 rfl).cells (by rw [List.length_map, hr, Nat.mul_one]) (noTups_by _) (by omega) fun r3 H10 h10 n10 => ⟨r3, rfl, ?_⟩
    have ho := h10.own 0 rfl
    rw [← List.map_append] at ho
    refine toStr ho (keepN_bytes (sortT T)) ⟨_, rfl, k H10 (tab_open.2 ⟨mb, ps, ⟨eT, hN⟩, ?_⟩)⟩
    have h11 := (h10.tail.tail.tail).tail
    exact h11.swap
end
end Go.Proofs.Ytkabaoigablphaa

/- Chapter 8: reading: the plain reading of a table's bytes; a reader; notes. -/
namespace Go.Proofs.Ytkabaoigablphaa
open Go Go.HL
set_option maxRecDepth 10000
set_option maxHeartbeats 1600000

/-! ### the plain reading -/
def rest (l : List Nat) : List Nat := l.drop (readN l).2.1.toNat
def was0 : Nt := (0, 0, 0, -1)
def NtOk (was x : Nt) : Prop := 1 ≤ x.2.2.1 ∧ x.2.2.1 ≤ 64 ∧ (0 ≤ x.1 ∧ x.1 ≤ 1000000000) ∧ (0 ≤ x.2.1 ∧ x.2.1 ≤ 1000000 - x.2.2.1 + 1) ∧ (0 ≤ x.2.2.2 ∧ x.2.2.2 ≤ 1000000000 - x.2.2.1 + 1) ∧ was.2.2.2 < x.2.2.2 ∧ was.1 ≤ x.1 ∧ (x.1 = was.1 → was.2.1 + was.2.2.1 ≤ x.2.1)
instance (was x : Nt) : Decidable (NtOk was x) := by unfold NtOk; infer_instance
def ntR (l : List Nat) : Nt := ((readN l).1, (readN (rest l)).1, (readN (rest (rest l))).1, (readN (rest (rest (rest l)))).1)
def ntGood (l : List Nat) : Prop := (readN l).2.2 = 0 ∧ (readN (rest l)).2.2 = 0 ∧ (readN (rest (rest l))).2.2 = 0 ∧ (readN (rest (rest (rest l)))).2.2 = 0
instance (l : List Nat) : Decidable (ntGood l) := by unfold ntGood; infer_instance
def rest4 (l : List Nat) : List Nat := rest (rest (rest (rest l)))
def notesR : Nat → Nt → List Nat → Option (List Nt × List Nat)
  | 0, _, l => some ([], l)
  | n + 1, was, l => if ntGood l ∧ NtOk was (ntR l) then (notesR n (ntR l) (rest4 l)).map fun p => (ntR l :: p.1, p.2) else none
theorem notesR_succ (n : Nat) (was : Nt) (l : List Nat) : notesR (n + 1) was l = if ntGood l ∧ NtOk was (ntR l) then (notesR n (ntR l) (rest4 l)).map fun p => (ntR l :: p.1, p.2) else none := rfl
def keyOk (last : Int) (l : List Nat) : Prop := (readN l).2.2 = 0 ∧ (readN (rest l)).2.2 = 0 ∧ last < (readN l).1 ∧ (readN l).1 ≤ 1000000000 ∧ 1 ≤ (readN (rest l)).1
instance (last : Int) (l : List Nat) : Decidable (keyOk last l) := by unfold keyOk; infer_instance
def tabR : Nat → Int → List Nat → Option (Tb × List Nat)
  | 0, _, l => some ([], l)
  | m + 1, last, l => if keyOk last l then
      match notesR (readN (rest l)).1.toNat was0 (rest (rest l)) with
      | none => none
      | some q => (tabR m (readN l).1 q.2).map fun p => (((readN l).1, q.1) :: p.1, p.2)
    else none
def endR : Option (Tb × List Nat) → Option Tb
  | some (T, []) => some T
  | _ => none
def loadM (l : List Nat) : Option Tb := if (readN l).2.2 = 0 ∧ 0 ≤ (readN l).1 then endR (tabR (readN l).1.toNat 0 (rest l)) else none
/-! ### a read leaves less -/
theorem rest_bytes {l : List Nat} (h : ∀ b ∈ l, b < 256) : ∀ b ∈ rest l, b < 256 := fun b hb => h b (List.mem_of_mem_drop hb)
theorem rest_le (l : List Nat) : (rest l).length ≤ l.length := by unfold rest; rw [List.length_drop]; omega
theorem rest_lt {l : List Nat} (hl : ∀ b ∈ l, b < 256) (h : (readN l).2.2 = 0) : (rest l).length < l.length := by
  obtain ⟨r, h1, h2, h3, -⟩ := read_ok (n := (readN l).1) (k := (readN l).2.1) hl (by rw [← h])
  unfold rest
  rw [List.length_drop, h2]
  have := congrArg List.length h1
  rw [List.length_append] at this
  omega
theorem read_k (l : List Nat) (hl : ∀ b ∈ l, b < 256) : 0 ≤ (readN l).2.1 ∧ (readN l).2.1 ≤ l.length := by
  have h := rd_k 10 0 0 l
  refine ⟨h.1, ?_⟩
  by_cases e : (readN l).2.2 = 0
  · obtain ⟨r, h1, h2, h3, -⟩ := read_ok (n := (readN l).1) (k := (readN l).2.1) hl (by rw [← e])
    have := congrArg List.length h1
    rw [List.length_append] at this
    omega
  · have := (h.2 e).1
    have e2 : (readN l).2.1 = 0 := this
    omega
theorem read_bad {l : List Nat} (h : (readN l).2.2 ≠ 0) : (readN l).1 = 0 := ((rd_k 10 0 0 l).2 h).2
/-! ### the reader -/
abbrev rdr (r : Nat) (s : ByteArray) (ok : Bool) : Chunk := blk r (.cells #[.string s, .bool ok] 73 (0, 0))
def nx (s : ByteArray) : ByteArray := s.extract (readN (nb s)).2.1.toNat s.size
theorem nb_nx (s : ByteArray) : nb (nx s) = rest (nb s) := by
  unfold nx rest
  rw [nb_extract, List.take_of_length_le (by rw [nb_len]; exact Nat.le_refl _)]
section
variable {cs : List Chunk} {H : Heap} {K : Value → Heap → Prop}
theorem held_undo {b : Nat} {o : Obj} (h : Holds (blk b o :: cs) H) : H b = some o ∧ Holds cs (H.del b) := by
  refine ⟨h.get 0 rfl, ?_⟩
  obtain ⟨A, B, e, d, p, q⟩ := h
  refine Holds.up (fun x y hx => ?_) q
  have hne : x ≠ b := by
    rintro rfl
    have := d x y hx
    rw [show A x = some o from p] at this; cases this
  rw [Heap.del_ne _ hne, e]
  exact Heap.join_right d hx
theorem rint_spec {r : Nat} {s : ByteArray} {ok : Bool} (h : Holds (rdr r s ok :: cs) H) (k : ∀ H', Holds (rdr r (nx s) (ok && decide ((readN (nb s)).2.2 = 0)) :: cs) H' → K (.int .i64 (readN (nb s)).1) H') : FnH Try.prog 36 #[.pointer (some ⟨r, 0, none⟩)] H K := by
  apply dedup_reader_int_fn
  unfold dedup_reader_int_vc
  obtain ⟨k0, k1⟩ := read_k (nb s) (nb_byte s)
  rw [nb_len] at k1
  refine ⟨s, h.cell 0 rfl rfl, readInt_spec ⟨_, _, _, rfl, fun H2 => Holds (rdr r s (ok && decide ((readN (nb s)).2.2 = 0)) :: cs) H2, ⟨ok, h.cell 0 rfl rfl, br_intro (fun q => ?_) (fun q => ?_)⟩, fun H4 h4 => ?_⟩⟩
  · subst q
    refine Holds.store h 0 rfl (by simp) fun H2 h2 => ⟨rfl, ?_⟩
    have e : (true && decide ((readN (nb s)).2.2 = 0)) = ((readN (nb s)).2.2 == 0) := by rw [Bool.true_and]; rfl
    rw [e]; exact h2
  · subst q
    exact Holds.store h 0 rfl (by simp) fun H2 h2 => ⟨rfl, h2⟩
  · exact ⟨s, h4.cell 0 rfl rfl, k0, k1, Holds.store h4 0 rfl (by simp) fun H5 h5 => k H5 h5⟩
/-- The reader lent for one call. -/
theorem rint_lent {s : ByteArray} {ok : Bool} {X : Int → ByteArray → Bool → Heap → Prop} (h : Holds cs H) (k : ∀ H', Holds cs H' → X (readN (nb s)).1 (nx s) (ok && decide ((readN (nb s)).2.2 = 0)) H') :
    ∀ q, H q = none → FnH Try.prog 36 #[.pointer (some ⟨q, 0, none⟩)] (Heap.upd H q (.cells #[.string s, .bool ok] 73 (0, 0))) fun r H' => ∃ n : Int, r = .int .i64 n ∧ ∃ s2 : ByteArray, ∃ b : Bool, H' q = some (.cells #[.string s2, .bool b] 73 (0, 0)) ∧ letH (Heap.del H' q) fun H2 => X n s2 b H2 :=
  fun q hq => rint_spec (h.add hq _) fun H' h' => ⟨_, rfl, _, _, (held_undo h').1, letH_intro fun H2 g => k H2 (by rw [g]; exact (held_undo h').2)⟩
/-! ### notes -/
theorem notes_spec {r : Nat} {s : ByteArray} {n : Int} (h : Holds (rdr r s true :: cs) H) (hn : 1 ≤ n) (hn2 : n ≤ 9223372036854775807) (hs : s.size ≤ 100000000)
    (k0 : notesR n.toNat was0 (nb s) = none → ∀ s' ok' H', Holds (rdr r s' ok' :: cs) H' → K (.slice none 0 0) H')
    (k1 : ∀ N l, notesR n.toNat was0 (nb s) = some (N, l) → ∀ (sl : Sl) s' H', nb s' = l → 0 < sl.n → Holds (ownN sl N :: rdr r s' true :: cs) H' → K (.slice sl.p sl.n sl.c) H') :
    FnH Try.prog 37 #[.pointer (some ⟨r, 0, none⟩), .int .i64 n] H K := by
  apply dedup_reader_notes_fn
  unfold dedup_reader_notes_vc
  refine ⟨fun m sl a b c d H => 0 ≤ m ∧ m ≤ n ∧ (0 ≤ b ∧ b ≤ 1000001 ∧ 0 ≤ c ∧ c ≤ 64) ∧ (m = n ∨ 0 < sl.n) ∧ ∃ D s', Holds (ownN sl D :: rdr r s' true :: cs) H ∧ D.length * 4 + s'.size ≤ s.size ∧ notesR n.toNat was0 (nb s) = (notesR m.toNat (a, b, c, d) (nb s')).map fun p => (D ++ p.1, p.2),
    fun m _ _ _ _ _ _ => m.toNat, ⟨by omega, Int.le_refl _, ⟨by decide, by decide, by decide, by decide⟩, .inl rfl, [], s, h.own_nil 62 4, by simp, ?_⟩, ?_⟩
  · show _ = (notesR n.toNat was0 (nb s)).map _
    cases notesR n.toNat was0 (nb s) <;> rfl
  rintro m sl a b c d H1 ⟨m0, m1, ⟨b0, b1, c0, c1⟩, hsl, D, s', h1, hD, hR⟩
  refine br_intro (fun q => ?_) (fun q => ?_)
  · have q := of_decide_eq_true q
    have em : m.toNat = (m - 1).toNat + 1 := by omega
    rw [em] at hR
    rw [notesR_succ] at hR
    refine rint_spec h1.swap fun H2 h2 => ⟨_, rfl, rint_spec h2 fun H3 h3 => ⟨_, rfl, rint_spec h3 fun H4 h4 => ⟨_, rfl, rint_spec h4 fun H5 h5 => ⟨_, rfl, ?_⟩⟩⟩⟩
    clear h1 h2 h3 h4
    rw [nb_nx, nb_nx, nb_nx, nb_nx, nb_nx, nb_nx] at *
    have e4 : nb (nx (nx (nx (nx s')))) = rest4 (nb s') := by rw [nb_nx, nb_nx, nb_nx, nb_nx]; rfl
    have hbs := nb_byte s'
    generalize nx (nx (nx (nx s'))) = s4 at *
    have hgood : (((true && decide ((readN (nb s')).2.2 = 0)) && decide ((readN (rest (nb s'))).2.2 = 0)) && decide ((readN (rest (rest (nb s')))).2.2 = 0) && decide ((readN (rest (rest (rest (nb s'))))).2.2 = 0)) = decide (ntGood (nb s')) := by
      unfold ntGood
      rw [Bool.eq_iff_iff]
      simp only [Bool.true_and, Bool.and_eq_true, decide_eq_true_eq, and_assoc]
      exact decide_eq_true_iff.symm
    rw [hgood] at h5
    have hlen : ntGood (nb s') → s4.size + 4 ≤ s'.size := fun ⟨g1, g2, g3, g4⟩ => by
      have t1 := rest_lt hbs g1
      have t2 := rest_lt (rest_bytes hbs) g2
      have t3 := rest_lt (rest_bytes (rest_bytes hbs)) g3
      have t4 := rest_lt (rest_bytes (rest_bytes (rest_bytes hbs))) g4
      have := congrArg List.length e4
      unfold rest4 at this
      rw [nb_len] at this t1
      omega
    have hx : ntR (nb s') = ((readN (nb s')).1, (readN (rest (nb s'))).1, (readN (rest (rest (nb s')))).1, (readN (rest (rest (rest (nb s'))))).1) := rfl
    generalize (readN (nb s')).1 = x1 at *
    generalize (readN (rest (nb s'))).1 = x2 at *
    generalize (readN (rest (rest (nb s')))).1 = x3 at *
    generalize (readN (rest (rest (rest (nb s'))))).1 = x4 at *
    rw [hx] at hR
    have bad : ¬ (ntGood (nb s') ∧ NtOk (a, b, c, d) (x1, x2, x3, x4)) → K (.slice none 0 0) H5 := fun z => by
      rw [if_neg z] at hR
      exact k0 hR _ _ H5 (h5.swap.tail)
    have hb5 : cellH H5 ⟨r, 0 + 1, none⟩ = some (.bool (decide (ntGood (nb s')))) := h5.cell 0 rfl rfl
    refine ⟨fun okb H9 => H9 = H5 ∧ (okb = true → ntGood (nb s') ∧ 1 ≤ x3 ∧ x3 ≤ 64 ∧ (0 ≤ x1 ∧ x1 ≤ 1000000000) ∧ (0 ≤ x2 ∧ x2 ≤ 1000000 - x3 + 1) ∧ (0 ≤ x4 ∧ x4 ≤ 1000000000 - x3 + 1)) ∧ (okb = false → ¬ (ntGood (nb s') ∧ NtOk (a, b, c, d) (x1, x2, x3, x4))), ⟨_, hb5, ?_⟩, ?_⟩
    · have no : ∀ {P : Prop}, ¬ P → ((ntGood (nb s') ∧ NtOk (a, b, c, d) (x1, x2, x3, x4)) → P) → ((false = true → ntGood (nb s') ∧ 1 ≤ x3 ∧ x3 ≤ 64 ∧ (0 ≤ x1 ∧ x1 ≤ 1000000000) ∧ (0 ≤ x2 ∧ x2 ≤ 1000000 - x3 + 1) ∧ (0 ≤ x4 ∧ x4 ≤ 1000000000 - x3 + 1)) ∧ (false = false → ¬ (ntGood (nb s') ∧ NtOk (a, b, c, d) (x1, x2, x3, x4)))) := fun hp hi => ⟨fun z => (by cases z), fun _ z => hp (hi z)⟩
      refine br_intro (fun p1 => br_intro (fun p2 => br_intro (fun p3 => ?_) (fun p3 => ⟨rfl, rfl, no (of_decide_eq_false p3) fun z => z.2.2.1⟩)) (fun p2 => ⟨rfl, rfl, no (of_decide_eq_false p2) fun z => z.2.1⟩)) (fun p1 => ⟨rfl, rfl, no (of_decide_eq_false p1) fun z => z.1⟩)
      have p1 := of_decide_eq_true p1
      have p2 := of_decide_eq_true p2
      have p3 := of_decide_eq_true p3
      rw [wrap64_id (n := 1000000 - x3) (by omega) (by omega), wrap64_id (n := 1000000 - x3 + 1) (by omega) (by omega), wrap64_id (n := 1000000000 - x3) (by omega) (by omega), wrap64_id (n := 1000000000 - x3 + 1) (by omega) (by omega)]
      have inb : ∀ {u v : Int} {w : Bool}, inB u v = w → (w = true → 0 ≤ u ∧ u ≤ v) ∧ (w = false → ¬ (0 ≤ u ∧ u ≤ v)) := fun {u v w} e => by
        unfold inB at e
        subst e
        simp
      refine within8_spec ⟨_, rfl, br_intro (fun p4 => within8_spec ⟨_, rfl, br_intro (fun p5 => within8_spec ⟨_, rfl, ?_⟩) (fun p5 => ⟨rfl, rfl, no ((inb p5).2 rfl) fun z => z.2.2.2.2.1⟩)⟩) (fun p4 => ⟨rfl, rfl, no ((inb p4).2 rfl) fun z => z.2.2.2.1⟩)⟩
      refine ⟨rfl, rfl, fun p6 => ⟨p1, p2, p3, (inb p4).1 rfl, (inb p5).1 rfl, (inb p6).1 rfl⟩, fun p6 z => (inb p6).2 rfl z.2.2.2.2.2.1⟩
    rintro okb H9 ⟨rfl, ho1, ho2⟩
    refine br_intro (fun p => bad (ho2 (by simpa using p))) (fun p => ?_)
    obtain ⟨g0, g1, g2, g3, g4, g5⟩ := ho1 (by simpa using p)
    have hl4 := hlen g0
    rw [wrap64_id (n := b + c) (by omega) (by omega), wrap64_id (n := m - 1) (by omega) (by omega)]
    refine br_intro (fun p1 => bad fun z => ?_) (fun p1 => br_intro (fun p2 => bad fun z => ?_) (fun p2 => ?_))
    · have := of_decide_eq_true p1
      have := z.2.2.2.2.2.2.1
      dsimp only at this; omega
    · have := of_decide_eq_true p2
      have := z.2.2.2.2.2.2.2.1
      dsimp only at this; omega
    have p1 := of_decide_eq_false p1
    have p2 := of_decide_eq_false p2
    have hDn : sl.n = D.length := by
      have := (h5.own 1 rfl).1
      rw [flat_len eNlen] at this; omega
    have hgo : NtOk (a, b, c, d) (x1, x2, x3, x4) → ∀ (l1 : Sl) H11, Holds (ownN l1 (D ++ [(x1, x2, x3, x4)]) :: rdr r s4 true :: cs) H11 → 0 < l1.n → (0 ≤ m - 1 ∧ m - 1 ≤ n ∧ (0 ≤ x2 ∧ x2 ≤ 1000001 ∧ 0 ≤ x3 ∧ x3 ≤ 64) ∧ (m - 1 = n ∨ 0 < l1.n) ∧ ∃ D s', Holds (ownN l1 D :: rdr r s' true :: cs) H11 ∧ D.length * 4 + s'.size ≤ s.size ∧ notesR n.toNat was0 (nb s) = (notesR (m - 1).toNat (x1, x2, x3, x4) (nb s')).map fun p => (D ++ p.1, p.2)) := fun z l1 H11 h11 hl1 => by
      refine ⟨by omega, by omega, ⟨g4.1, by omega, by omega, g2⟩, .inr hl1, _, s4, h11, by rw [List.length_append, List.length_singleton]; omega, ?_⟩
      rw [if_pos ⟨g0, z⟩, ← e4] at hR
      rw [hR]
      cases notesR (m - 1).toNat (x1, x2, x3, x4) (nb s4) with
      | none => rfl
      | some p => simp
    have hgt : decide (ntGood (nb s')) = true := decide_eq_true g0
    rw [hgt] at h5
    have st : ∀ q, H9 q = none → HL.Sub H9 (H9.upd q (.cells #[.int .i64 x1, .int .i64 x2, .int .i64 x3, .int .i64 x4] 62 (0, 0))) ∧ ∀ (X : Value → Heap → Prop), (∀ (l1 : Sl) H11, Holds (ownN l1 (D ++ [(x1, x2, x3, x4)]) :: rdr r s4 true :: cs) H11 → 0 < l1.n → X (.slice l1.p l1.n l1.c) H11) → runH Try.prog (Builtin.append_ #[56, 56] 56 #[.slice sl.p sl.n sl.c, .slice (some ⟨q, 0, none⟩) 1 1]) (H9.upd q (.cells #[.int .i64 x1, .int .i64 x2, .int .i64 x3, .int .i64 x4] 62 (0, 0))) X := fun q hq => by
      refine ⟨HL.Sub.new hq _, fun X kX => ?_⟩
      have hp := Holds.push ok56 (ty := 56) (T := 62) h5.swap (xs := eN (x1, x2, x3, x4)) (m := 1) rfl rfl (by omega) (K := X) (fun l1 H11 h11 n11 => kX l1 H11 ?_ (by omega)) q hq
      · exact hp
      have e : (D ++ [(x1, x2, x3, x4)]).flatMap eN = D.flatMap eN ++ eN (x1, x2, x3, x4) := by simp
      show Holds (own 62 4 l1 ((D ++ [(x1, x2, x3, x4)]).flatMap eN) :: _) H11
      rw [e]; exact h11
    have me : (m - 1).toNat < m.toNat := by omega
    refine br_intro (fun p3 => br_intro (fun p4 => bad fun z => ?_) (fun p4 => ?_)) (fun p3 => ?_)
    · have := of_decide_eq_true p4
      have := z.2.2.2.2.2.2.2.2 (by simpa using p3)
      dsimp only at this; omega
    · have p4 := of_decide_eq_false p4
      have z : NtOk (a, b, c, d) (x1, x2, x3, x4) := ⟨g1, g2, g3, g4, g5, by dsimp only; omega, by dsimp only; omega, fun _ => by dsimp only; omega⟩
      refine ⟨fun q hq => letH_intro fun H10 g => ?_, HL.Sub.refl _, fun q hq => letH_intro fun H10 g => ?_⟩ <;> subst g <;> obtain ⟨t1, t2⟩ := st q hq
      · exact ⟨t1, t2 _ fun l1 H11 h11 hl1 => ⟨l1, rfl, rfl, hgo z l1 H11 h11 hl1, me⟩, t1, t2 _ fun l1 H11 h11 hl1 => ⟨l1, rfl, rfl, hgo z l1 H11 h11 hl1, me⟩⟩
      · exact ⟨t1, t2 _ fun l1 H11 h11 hl1 => ⟨l1, rfl, rfl, hgo z l1 H11 h11 hl1, me⟩⟩
    · have p3 : ¬ x1 = a := by simpa using p3
      have z : NtOk (a, b, c, d) (x1, x2, x3, x4) := ⟨g1, g2, g3, g4, g5, by dsimp only; omega, by dsimp only; omega, fun e => absurd e p3⟩
      refine ⟨fun q hq => letH_intro fun H10 g => ?_, HL.Sub.refl _, fun q hq => letH_intro fun H10 g => ?_⟩ <;> subst g <;> obtain ⟨t1, t2⟩ := st q hq
      · exact ⟨t1, t2 _ fun l1 H11 h11 hl1 => ⟨l1, rfl, rfl, hgo z l1 H11 h11 hl1, me⟩, t1, t2 _ fun l1 H11 h11 hl1 => ⟨l1, rfl, rfl, hgo z l1 H11 h11 hl1, me⟩⟩
      · exact ⟨t1, t2 _ fun l1 H11 h11 hl1 => ⟨l1, rfl, rfl, hgo z l1 H11 h11 hl1, me⟩⟩
  · have q := of_decide_eq_false q
    have e : m.toNat = 0 := by omega
    rw [e] at hR
    have hR : notesR n.toNat was0 (nb s) = some (D ++ [], nb s') := hR
    rw [List.append_nil] at hR
    exact k1 D _ hR sl s' H1 rfl (hsl.resolve_left (by omega)) h1
end
end Go.Proofs.Ytkabaoigablphaa

/- Chapter 8: Load. -/
namespace Go.Proofs.Ytkabaoigablphaa
open Go Go.HL
set_option maxRecDepth 10000
set_option maxHeartbeats 1600000

theorem tabR_succ (m : Nat) (last : Int) (l : List Nat) : tabR (m + 1) last l = if keyOk last l then
      match notesR (readN (rest l)).1.toNat was0 (rest (rest l)) with
      | none => none
      | some q => (tabR m (readN l).1 q.2).map fun p => (((readN l).1, q.1) :: p.1, p.2)
    else none := rfl
theorem read_in (l : List Nat) (hl : ∀ b ∈ l, b < 256) : i64B (readN l).1 := by
  by_cases e : (readN l).2.2 = 0
  · obtain ⟨r, h1, h2, h3, h4, h5⟩ := read_ok (n := (readN l).1) (k := (readN l).2.1) hl (by rw [← e])
    exact ⟨h4, h5⟩
  · rw [read_bad e]; exact ⟨by decide, by decide⟩
theorem notesR_len : ∀ {n : Nat} {was : Nt} {l : List Nat} {N : List Nt} {r : List Nat}, notesR n was l = some (N, r) → r.length ≤ l.length := by
  intro n
  induction n with
  | zero =>
    intro was l N r h
    simp only [notesR, Option.some.injEq, Prod.mk.injEq] at h
    rw [h.2]; exact Nat.le_refl _
  | succ n ih =>
    intro was l N r h
    rw [notesR_succ] at h
    split at h
    · obtain ⟨q, hq, e⟩ := Option.map_eq_some_iff.1 h
      simp only [Prod.mk.injEq] at e
      have := ih (N := q.1) (r := q.2) hq
      rw [← e.2]
      have h1 := rest_le l
      have h2 := rest_le (rest l)
      have h3 := rest_le (rest (rest l))
      have h4 := rest_le (rest (rest (rest l)))
      unfold rest4 at this
      omega
    · cases h
section
variable {cs : List Chunk} {H : Heap} {K : Value → Heap → Prop}
theorem sumS_spec {b : Sl} {s : ByteArray} (h : Holds cs H) (hB : byts b s H) (hb : s.size ≤ 268435456) (k : ∀ (r : Sl) H', HL.Sub H H' → Holds (ownY r (sumN (nb s)) :: cs) H' → r.n = 4 → K (.slice r.p r.n r.c) H') :
    FnH Try.prog 35 #[.slice b.p b.n b.c] H K := by
  apply dedup_sum_fn
  unfold dedup_sum_vc
  refine runH_toString u68 u9 u5 hB ⟨_, rfl, crc_spec (by omega) ⟨_, rfl, ?_⟩⟩
  have hc := crcN_lt (nb s) (nb_byte s)
  refine h.newS fun q H1 s1 h1 => k ⟨some ⟨q, 0, none⟩, 4, 4⟩ H1 s1 (h1.head fun A hA => ⟨rfl, Nat.le_refl _, .inr ⟨q, _, rfl, hA, rfl, ?_⟩⟩) rfl
  have e1 : ∀ k : Nat, k < 64 → IntKind.wrap .u8 (shrI .i64 (crcN (nb s) : Int) k) = ((crcN (nb s) / 2 ^ k % 256 : Nat) : Int) := fun k hk => by
    rw [shr_n _ _ hk, wrap_u8]; omega
  have ea : IntKind.wrap .u8 (shrI .i64 (crcN (nb s) : Int) 24) = ((crcN (nb s) / 16777216 % 256 : Nat) : Int) := e1 24 (by decide)
  have eb : IntKind.wrap .u8 (shrI .i64 (crcN (nb s) : Int) 16) = ((crcN (nb s) / 65536 % 256 : Nat) : Int) := e1 16 (by decide)
  have ec : IntKind.wrap .u8 (shrI .i64 (crcN (nb s) : Int) 8) = ((crcN (nb s) / 256 % 256 : Nat) : Int) := e1 8 (by decide)
  have ed : IntKind.wrap .u8 (crcN (nb s) : Int) = ((crcN (nb s) % 256 : Nat) : Int) := by rw [wrap_u8]; omega
  rw [ea, eb, ec, ed]
  intro i hi
  have z : i = 0 ∨ i = 1 ∨ i = 2 ∨ i = 3 := by simp [sumN] at hi; omega
  rcases z with rfl | rfl | rfl | rfl <;> rfl
/-- A new producer's notes are put into the table. -/
theorem tab_add {t : Nat} {D : Tb} {pid : Int} {r : Sl} {N : List Nt} {X : Unit → Heap → Prop} (hno : pid ∉ D.map Prod.fst) (h : Holds (ownN r N :: tab t D :: cs) H) (k : ∀ H', Holds (tab t (D ++ [(pid, N)]) :: cs) H' → X () H') :
    ∃ m1 : Option Nat, cellH H ⟨t, 0, none⟩ = some (.map m1) ∧ runH Try.prog (Instr.mapUpdate 53 (.map m1) (.int .i64 pid) (.slice r.p r.n r.c)) H X := by
  obtain ⟨mb, ps, ⟨eT, hN⟩, h2⟩ := tab_open.1 h.swap
  refine ⟨some mb, h2.cell 0 rfl rfl, Holds.update (k := pid) h2 1 rfl u53 kint fun H' h' => k H' (tab_open.2 ⟨mb, ps ++ [(pid, r, N)], ⟨?_, ?_⟩, ?_⟩)⟩
  · rw [← eT]; simp [tmod]
  · rw [List.map_append, List.nodup_append]
    refine ⟨hN, by simp, fun a ha b hb => ?_⟩
    simp only [List.map_cons, List.map_nil, List.mem_singleton] at hb
    subst hb
    rintro rfl
    exact hno ha
  · have hno2 : idxL (tmap ps) pid = none := by
      cases e : idxL (tmap ps) pid with
      | none => rfl
      | some w =>
        have := List.mem_map_of_mem (f := Prod.fst) (List.mem_of_getElem? (idxL_get e))
        rw [keys_tmap, eT] at this
        exact absurd this hno
    have e3 : tmap (ps ++ [(pid, r, N)]) = putL (tmap ps) pid (.slice r.p r.n r.c) := by rw [putL_none hno2]; simp [tmap]
    rw [e3]
    have h3 : Holds (ownN r N :: Holds (ps.map hown) :: blk t (.cells #[.map (some mb)] 55 (0, 0)) :: mp mb encI (putL (tmap ps) pid (.slice r.p r.n r.c)) :: cs) H' := by
      have h4 : Holds (blk t (.cells #[.map (some mb)] 55 (0, 0)) :: mp mb encI (putL (tmap ps) pid (.slice r.p r.n r.c)) :: Holds (ps.map hown) :: ownN r N :: cs) H' := h'
      exact ((h4.pull 2 rfl).pull 3 rfl)
    have h5 := Holds.more (f := hown) (a := (pid, r, N)) h3
    exact h5.down 2
/-- notes with the reader lent. -/
theorem notesL {s : ByteArray} {n : Int} {X : Sl → ByteArray → Bool → Heap → Prop} (h : Holds cs H) (q : Nat) (hq : H q = none) (hn : 1 ≤ n) (hn2 : n ≤ 9223372036854775807) (hs : s.size ≤ 100000000)
    (k0 : notesR n.toNat was0 (nb s) = none → ∀ s' ok' H', Holds cs H' → X ⟨none, 0, 0⟩ s' ok' H')
    (k1 : ∀ N l, notesR n.toNat was0 (nb s) = some (N, l) → ∀ (sl : Sl) s' H', nb s' = l → 0 < sl.n → Holds (ownN sl N :: cs) H' → X sl s' true H') :
    FnH Try.prog 37 #[.pointer (some ⟨q, 0, none⟩), .int .i64 n] (Heap.upd H q (.cells #[.string s, .bool true] 73 (0, 0))) fun r H' => ∃ l : Sl, r = .slice l.p l.n l.c ∧ ∃ s2 : ByteArray, ∃ b : Bool, H' q = some (.cells #[.string s2, .bool b] 73 (0, 0)) ∧ letH (Heap.del H' q) fun H2 => X l s2 b H2 :=
  notes_spec (h.add hq _) hn hn2 hs (fun z s' ok' H' h' => ⟨⟨none, 0, 0⟩, rfl, s', ok', (held_undo h').1, letH_intro fun H2 g => k0 z s' ok' H2 (by rw [g]; exact (held_undo h').2)⟩)
    fun N l z sl s' H' e hn h' => ⟨sl, rfl, s', true, (held_undo h'.swap).1, letH_intro fun H2 g => k1 N l z sl s' H2 e hn (by rw [g]; exact (held_undo h'.swap).2)⟩
theorem load_spec {s : ByteArray} (h : Holds cs H) (hs : s.size ≤ 100000000)
    (k5 : s.size < 4 → K (.tuple #[.pointer none, .int .i64 5]) H)
    (k6 : ¬ s.size < 4 → ¬ sumN ((nb s).drop 4) = (nb s).take 4 → ∀ H', Holds cs H' → K (.tuple #[.pointer none, .int .i64 6]) H')
    (k4 : ¬ s.size < 4 → sumN ((nb s).drop 4) = (nb s).take 4 → loadM ((nb s).drop 4) = none → ∀ H', Holds cs H' → K (.tuple #[.pointer none, .int .i64 4]) H')
    (k : ∀ T, ¬ s.size < 4 → sumN ((nb s).drop 4) = (nb s).take 4 → loadM ((nb s).drop 4) = some T → ∀ t H', Holds (tab t T :: cs) H' → K (.tuple #[.pointer (some ⟨t, 0, none⟩), .int .i64 0]) H') :
    FnH Try.prog 19 #[.string s] H K := by
  apply dedup_Load_fn
  unfold dedup_Load_vc
  refine br_intro (fun q => k5 (by have := of_decide_eq_true q; omega)) (fun q => ?_)
  have q : ¬ s.size < 4 := by have := of_decide_eq_false q; omega
  have en : nb (s.extract (Int.toNat 4) (Int.toNat (s.size : Int))) = (nb s).drop 4 := by
    rw [nb_extract, List.take_of_length_le (by rw [nb_len]; omega)]; rfl
  refine ⟨by decide, by omega, by decide, by omega, Holds.toBytes u9 u68 u5 h fun l1 H1 s1 h1 => ⟨l1, rfl, sumS_spec h1 (h1.read 0 rfl byts_mono) ?_ fun l2 H2 s2 h2 _ => ⟨l2, rfl, toStr (h2.own 0 rfl) (sumN_bytes _) ⟨_, rfl, ?_⟩⟩⟩⟩
  · rw [← nb_len, en, List.length_drop, nb_len]; omega
  have hc : Holds cs H2 := h2.tail.tail
  clear h2
  rw [en, str_eq]
  have e0 : nb (s.extract (Int.toNat 0) (Int.toNat 4)) = (nb s).take 4 := by rw [nb_extract]; rfl
  refine br_intro (fun q2 => k6 q ?_ H2 hc) (fun q2 => ?_)
  · have q2 : ¬ strN (sumN ((nb s).drop 4)) = s.extract (Int.toNat 0) (Int.toNat 4) := by simpa using q2
    intro e
    exact q2 (nb_inj (by rw [nb_str (sumN_bytes _), e0]; exact e))
  have q2 : strN (sumN ((nb s).drop 4)) = s.extract (Int.toNat 0) (Int.toNat 4) := by simpa using q2
  have q2 : sumN ((nb s).drop 4) = (nb s).take 4 := by rw [← nb_str (sumN_bytes ((nb s).drop 4)), q2, e0]
  have k4 := k4 q q2
  have k := fun T => k T q q2
  have hsz : (s.extract (Int.toNat 4) (Int.toNat (s.size : Int))).size ≤ 100000000 := by rw [← nb_len, en, List.length_drop, nb_len]; omega
  rw [← en] at k k4
  generalize s.extract (Int.toNat 4) (Int.toNat (s.size : Int)) = s0 at *
  clear k5 k6 e0 en q2 h1 s1 s2
  refine ⟨by decide, by omega, new_spec hc fun t H4 h4 => ⟨_, rfl, rint_lent h4 fun H5 h5 => ?_⟩⟩
  have r0 : ∀ s, (rest (nb s)).length ≤ s.size := fun s => by rw [← nb_len]; exact rest_le _
  have hin := read_in (nb s0) (nb_byte s0)
  have en0 : nb (nx s0) = rest (nb s0) := nb_nx s0
  have hsz1 : (nx s0).size ≤ 100000000 := by rw [← nb_len, en0]; have := r0 s0; omega
  have hlM : loadM (nb s0) = if (readN (nb s0)).2.2 = 0 ∧ 0 ≤ (readN (nb s0)).1 then endR (tabR (readN (nb s0)).1.toNat 0 (rest (nb s0))) else none := rfl
  by_cases g : ¬ ((readN (nb s0)).2.2 = 0 ∧ 0 ≤ (readN (nb s0)).1)
  · rw [if_neg g] at hlM
    refine ⟨fun m _ s ok H => Holds (tab t [] :: cs) H ∧ m = (readN (nb s0)).1 ∧ ok = decide ((readN (nb s0)).2.2 = 0), fun _ _ _ _ _ => 0, ⟨h5, rfl, by simp⟩, ?_⟩
    rintro m last s ok H7 ⟨h7, rfl, rfl⟩
    by_cases g1 : (readN (nb s0)).2.2 = 0
    · have g2 : ¬ 0 ≤ (readN (nb s0)).1 := fun z => g ⟨g1, z⟩
      refine br_f (decide_eq_false (by omega)) (br_f (by simp [g1]) (br_intro (fun _ => k4 hlM H7 h7.tail) (fun _ => br_t (decide_eq_true (by omega)) (k4 hlM H7 h7.tail))))
    · have := read_bad g1
      exact br_f (decide_eq_false (by omega)) (br_t (by simp [g1]) (k4 hlM H7 h7.tail))
  have g := Decidable.not_not.1 g
  rw [if_pos g, ← en0] at hlM
  obtain ⟨g1, g2⟩ := g
  have g3 : (true && decide ((readN (nb s0)).2.2 = 0)) = true := by simp [g1]
  rw [g3]
  generalize (readN (nb s0)).1 = m0 at *
  generalize nx s0 = s1 at *
  rw [hlM] at k k4
  clear hlM g1 g3 en0 hsz
  refine ⟨fun m last s ok H => 0 ≤ m ∧ m ≤ m0 ∧ ok = true ∧ s.size ≤ 100000000 ∧ ∃ D, Holds (tab t D :: cs) H ∧ 0 ≤ last ∧ (∀ x ∈ D.map Prod.fst, x ≤ last) ∧ endR (tabR m0.toNat 0 (nb s1)) = endR ((tabR m.toNat last (nb s)).map fun p => (D ++ p.1, p.2)), fun m _ _ _ _ => m.toNat,
    ⟨g2, Int.le_refl _, rfl, hsz1, [], h5, Int.le_refl _, by simp, ?_⟩, ?_⟩
  · cases tabR m0.toNat 0 (nb s1) <;> rfl
  rintro m last s ok H7 ⟨m1, m2, rfl, hs, D, h7, hl, hD, hR⟩
  refine br_intro (fun c => br_t rfl ?_) (fun c => br_f rfl ?_)
  · have c := of_decide_eq_true c
    have em : m.toNat = (m - 1).toNat + 1 := by omega
    rw [em, tabR_succ] at hR
    refine rint_lent h7 fun H8 h8 => rint_lent h8 fun H9 h9 => ?_
    have hp := read_in (nb s) (nb_byte s)
    have hp2 := read_in (nb (nx s)) (nb_byte _)
    have e2 : nb (nx (nx s)) = rest (rest (nb s)) := by rw [nb_nx, nb_nx]
    have hs2 : (nx (nx s)).size ≤ 100000000 := by
      rw [← nb_len, e2]
      have := rest_le (rest (nb s)); have := r0 s; omega
    have eb : ((true && decide ((readN (nb s)).2.2 = 0)) && decide ((readN (nb (nx s))).2.2 = 0)) = decide ((readN (nb s)).2.2 = 0 ∧ (readN (nb (nx s))).2.2 = 0) := by
      rw [Bool.eq_iff_iff]; simp
    have bad : ¬ keyOk last (nb s) → K (.tuple #[.pointer none, .int .i64 4]) H9 := fun z => by
      rw [if_neg z] at hR
      exact k4 hR H9 h9.tail
    have good : keyOk last (nb s) → endR (tabR m0.toNat 0 (nb s1)) = endR ((match notesR (readN (nb (nx s))).1.toNat was0 (nb (nx (nx s))) with
        | none => none
        | some q => (tabR (m - 1).toNat (readN (nb s)).1 q.2).map fun p : Tb × List Nat => (((readN (nb s)).1, q.1) :: p.1, p.2)).map fun p : Tb × List Nat => (D ++ p.1, p.2)) := fun z => by
      rw [if_pos z] at hR
      rw [e2, nb_nx]; exact hR
    have kk : keyOk last (nb s) ↔ ((readN (nb s)).2.2 = 0 ∧ (readN (nb (nx s))).2.2 = 0 ∧ last < (readN (nb s)).1 ∧ (readN (nb s)).1 ≤ 1000000000 ∧ 1 ≤ (readN (nb (nx s))).1) := by
      unfold keyOk; rw [nb_nx]
    rw [eb]
    clear eb r0
    have z2 := fun e => read_bad (l := nb (nx s)) e
    have z1 := fun e => read_bad (l := nb s) e
    clear hR
    generalize (readN (nb (nx s))).2.2 = y2 at *
    generalize (readN (nb s)).2.2 = y1 at *
    generalize (readN (nb (nx s))).1 = n at *
    generalize (readN (nb s)).1 = pid at *
    generalize nx (nx s) = s2 at *
    generalize keyOk last (nb s) = kO at *
    refine br_intro (fun p => bad fun z => ?_) (fun p => br_intro (fun p2 => bad fun z => ?_) (fun p2 => br_intro (fun p3 => bad fun z => ?_) (fun p3 => ?_)))
    · have := of_decide_eq_true p; have := (kk.1 z).2.2.1; omega
    · have := of_decide_eq_true p2; have := (kk.1 z).2.2.2.1; omega
    · have := of_decide_eq_true p3; have := (kk.1 z).2.2.2.2; omega
    have p := of_decide_eq_false p
    have p2 := of_decide_eq_false p2
    have p3 := of_decide_eq_false p3
    have y1z : y1 = 0 := Decidable.byContradiction fun e => by have := z1 e; omega
    have y2z : y2 = 0 := Decidable.byContradiction fun e => by have := z2 e; omega
    have hR := good (kk.2 ⟨y1z, y2z, by omega, by omega, by omega⟩)
    have et : decide (y1 = 0 ∧ y2 = 0) = true := decide_eq_true ⟨y1z, y2z⟩
    rw [et]
    refine fun q4 hq4 => notesL h9 q4 hq4 (by omega) hp2.2 hs2 (fun z _ _ H13 h13 => ?_) fun N l z sl s6 H13 e6 hn13 h13 => ?_
    · rw [z] at hR
      exact br_t rfl (k4 hR H13 h13.tail)
    · rw [z] at hR
      have hR : endR (tabR m0.toNat 0 (nb s1)) = endR (((tabR (m - 1).toNat pid l).map fun p : Tb × List Nat => ((pid, N) :: p.1, p.2)).map fun p : Tb × List Nat => (D ++ p.1, p.2)) := hR
      have hno : pid ∉ D.map Prod.fst := fun hm => by have := hD pid hm; omega
      obtain ⟨bq, _, hpq, -⟩ := (h13.own 0 rfl).some_ hn13
      refine br_f (by rw [hpq]; rfl) (ptrm_intro rfl ?_)
      refine tab_add hno h13 fun H14 h14 => ?_
      have hin2 := hin.2
      rw [wrap64_id (n := m - 1) (by omega) (by omega)]
      have hl6 := notesR_len z
      rw [← e6, nb_len, nb_len] at hl6
      refine ⟨rfl, ⟨by omega, by omega, rfl, by omega, D ++ [(pid, N)], h14, by omega, fun x hx => ?_, ?_⟩, by dsimp only; omega⟩
      · rw [List.map_append] at hx
        rcases List.mem_append.1 hx with y | y
        · have := hD x y; omega
        · simp only [List.map_cons, List.map_nil, List.mem_singleton] at y; omega
      · rw [hR, e6]
        cases tabR (m - 1).toNat pid l with
        | none => rfl
        | some p => simp
  · have c := of_decide_eq_false c
    have em : m.toNat = 0 := by omega
    rw [em] at hR
    have hR : endR (tabR m0.toNat 0 (nb s1)) = endR (some (D ++ [], nb s)) := hR
    rw [List.append_nil] at hR
    rw [str_eq]
    refine br_intro (fun p => k4 ?_ H7 h7.tail) (fun p => br_f (decide_eq_false (by omega)) (k D ?_ t H7 h7))
    · have p : ¬ s = ⟨#[]⟩ := by simpa using p
      cases e : nb s with
      | nil => exact absurd (nb_inj (by rw [e]; rfl)) p
      | cons a l => rw [hR, e]; rfl
    · have p : s = ⟨#[]⟩ := by simpa using p
      subst p
      exact hR
end
end Go.Proofs.Ytkabaoigablphaa

/- Chapter 8: what is written is read, what is read was written. -/
namespace Go.Proofs.Ytkabaoigablphaa
open Go Go.HL
set_option maxRecDepth 10000

def Chain : Nt → List Nt → Prop
  | _, [] => True
  | was, x :: l => NtOk was x ∧ Chain x l
def KeysOk : Int → Tb → Prop
  | _, [] => True
  | last, p :: T => (last < p.1 ∧ p.1 ≤ 1000000000 ∧ p.2 ≠ [] ∧ Chain was0 p.2) ∧ KeysOk p.1 T
theorem encL_cons (n : Int) (L : List Int) : encL (n :: L) = encN n ++ encL L := rfl
theorem rd1 {n : Int} (h : i64B n) (r : List Nat) : (readN (encN n ++ r)).1 = n ∧ (readN (encN n ++ r)).2.2 = 0 ∧ rest (encN n ++ r) = r := by
  have e := read_enc h.1 h.2 r
  unfold rest
  rw [e]
  refine ⟨rfl, rfl, ?_⟩
  have : Int.toNat ((encN n).length : Int) = (encN n).length := by omega
  dsimp only
  rw [this, List.drop_left]
theorem rd2 {l : List Nat} (hl : ∀ b ∈ l, b < 256) (h : (readN l).2.2 = 0) : l = encN (readN l).1 ++ rest l := by
  obtain ⟨r, h1, h2, -⟩ := read_ok (n := (readN l).1) (k := (readN l).2.1) hl (by rw [← h])
  unfold rest
  rw [h2]
  have : Int.toNat ((encN (readN l).1).length : Int) = (encN (readN l).1).length := by omega
  rw [this]
  conv => lhs; rw [h1]
  congr 1
  conv => rhs; rw [h1]
  rw [List.drop_left']
  rw [← h1]
theorem ntI4 (x : Nt) (r : List Nat) : encL (ntI x) ++ r = encN x.1 ++ (encN x.2.1 ++ (encN x.2.2.1 ++ (encN x.2.2.2 ++ r))) := by
  simp [encL, ntI]
theorem nt_rd {x : Nt} (h : ∀ n ∈ ntI x, i64B n) (r : List Nat) : ntGood (encL (ntI x) ++ r) ∧ ntR (encL (ntI x) ++ r) = x ∧ rest4 (encL (ntI x) ++ r) = r := by
  rw [ntI4]
  obtain ⟨a1, a2, a3⟩ := rd1 (n := x.1) (h _ (by simp [ntI])) (encN x.2.1 ++ (encN x.2.2.1 ++ (encN x.2.2.2 ++ r)))
  obtain ⟨b1, b2, b3⟩ := rd1 (n := x.2.1) (h _ (by simp [ntI])) (encN x.2.2.1 ++ (encN x.2.2.2 ++ r))
  obtain ⟨c1, c2, c3⟩ := rd1 (n := x.2.2.1) (h _ (by simp [ntI])) (encN x.2.2.2 ++ r)
  obtain ⟨d1, d2, d3⟩ := rd1 (n := x.2.2.2) (h _ (by simp [ntI])) r
  unfold ntGood ntR rest4
  rw [a3, b3, c3, d3, a1, b1, c1, d1, a2, b2, c2, d2]
  exact ⟨⟨rfl, rfl, rfl, rfl⟩, rfl, rfl⟩
theorem nt_rd2 {l : List Nat} (hl : ∀ b ∈ l, b < 256) (h : ntGood l) : l = encL (ntI (ntR l)) ++ rest4 l := by
  obtain ⟨h1, h2, h3, h4⟩ := h
  rw [ntI4]
  have e1 := rd2 hl h1
  have e2 := rd2 (rest_bytes hl) h2
  have e3 := rd2 (rest_bytes (rest_bytes hl)) h3
  have e4 := rd2 (rest_bytes (rest_bytes (rest_bytes hl))) h4
  show l = encN (readN l).1 ++ (encN (readN (rest l)).1 ++ (encN (readN (rest (rest l))).1 ++ (encN (readN (rest (rest (rest l)))).1 ++ rest (rest (rest (rest l))))))
  rw [← e4, ← e3, ← e2, ← e1]
theorem ok_i64 {was x : Nt} (h : NtOk was x) : ∀ n ∈ ntI x, i64B n := by
  obtain ⟨h1, h2, h3, h4, h5, -⟩ := h
  intro n hn
  simp only [ntI, List.mem_cons, List.not_mem_nil, or_false] at hn
  unfold i64B
  rcases hn with rfl | rfl | rfl | rfl <;> omega
theorem notesR_ok : ∀ {n : Nat} {was : Nt} {l : List Nat} {N : List Nt} {r : List Nat}, (∀ b ∈ l, b < 256) → notesR n was l = some (N, r) → l = encL (N.flatMap ntI) ++ r ∧ N.length = n ∧ Chain was N := by
  intro n
  induction n with
  | zero =>
    intro was l N r _ h
    simp only [notesR, Option.some.injEq, Prod.mk.injEq] at h
    obtain ⟨rfl, rfl⟩ := h
    exact ⟨rfl, rfl, trivial⟩
  | succ n ih =>
    intro was l N r hl h
    rw [notesR_succ] at h
    split at h
    · rename_i g
      obtain ⟨q, hq, e⟩ := Option.map_eq_some_iff.1 h
      simp only [Prod.mk.injEq] at e
      obtain ⟨rfl, rfl⟩ := e
      obtain ⟨i1, i2, i3⟩ := ih (N := q.1) (r := q.2) (rest_bytes (rest_bytes (rest_bytes (rest_bytes hl)))) hq
      refine ⟨?_, by rw [List.length_cons, i2], g.2, i3⟩
      rw [List.flatMap_cons, encL_app, List.append_assoc, ← i1]
      exact nt_rd2 hl g.1
    · cases h
theorem notesR_enc : ∀ {N : List Nt} {was : Nt} (r : List Nat), Chain was N → notesR N.length was (encL (N.flatMap ntI) ++ r) = some (N, r) := by
  intro N
  induction N with
  | nil => intro was r _; rfl
  | cons x N ih =>
    intro was r h
    rw [List.length_cons, notesR_succ, List.flatMap_cons, encL_app, List.append_assoc]
    obtain ⟨g1, g2, g3⟩ := nt_rd (ok_i64 h.1) (encL (N.flatMap ntI) ++ r)
    rw [g2, g3, if_pos ⟨g1, h.1⟩, ih r h.2]; rfl
theorem rowI_enc (p : Int × List Nt) (r : List Nat) : encL (rowI p) ++ r = encN p.1 ++ (encN (p.2.length : Int) ++ (encL (p.2.flatMap ntI) ++ r)) := by
  have : rowI p = p.1 :: (p.2.length : Int) :: p.2.flatMap ntI := rfl
  rw [this, encL_cons, encL_cons]; simp
theorem tabR_ok : ∀ {m : Nat} {last : Int} {l : List Nat} {T : Tb} {r : List Nat}, (∀ b ∈ l, b < 256) → tabR m last l = some (T, r) → l = encL (T.flatMap rowI) ++ r ∧ T.length = m ∧ KeysOk last T := by
  intro m
  induction m with
  | zero =>
    intro last l T r _ h
    simp only [tabR, Option.some.injEq, Prod.mk.injEq] at h
    obtain ⟨rfl, rfl⟩ := h
    exact ⟨rfl, rfl, trivial⟩
  | succ m ih =>
    intro last l T r hl h
    rw [tabR_succ] at h
    split at h
    · rename_i g
      obtain ⟨g1, g2, g3, g4, g5⟩ := g
      split at h
      · cases h
      · rename_i N hN
        obtain ⟨q, hq, e⟩ := Option.map_eq_some_iff.1 h
        simp only [Prod.mk.injEq] at e
        obtain ⟨rfl, rfl⟩ := e
        have hl2 := rest_bytes (rest_bytes hl)
        obtain ⟨i1, i2, i3⟩ := notesR_ok (N := N.1) (r := N.2) hl2 hN
        have hl3 : ∀ b ∈ N.2, b < 256 := fun b hb => hl2 b (by rw [i1]; exact List.mem_append_right _ hb)
        obtain ⟨j1, j2, j3⟩ := ih (T := q.1) (r := q.2) hl3 hq
        refine ⟨?_, by rw [List.length_cons, j2], ⟨g3, g4, fun e => ?_, i3⟩, j3⟩
        · rw [List.flatMap_cons, encL_app, List.append_assoc, ← j1, rowI_enc]
          dsimp only
          have e5 : ((N.1.length : Nat) : Int) = (readN (rest l)).1 := by rw [i2]; omega
          rw [e5, ← i1, ← rd2 (rest_bytes hl) g2, ← rd2 hl g1]
        · dsimp only at e
          rw [e] at i2
          simp only [List.length_nil] at i2
          omega
    · cases h
theorem tabR_enc : ∀ {T : Tb} {last : Int} (r : List Nat), 0 ≤ last → KeysOk last T → (∀ p ∈ T, p.2.length ≤ 100000000) → tabR T.length last (encL (T.flatMap rowI) ++ r) = some (T, r) := by
  intro T
  induction T with
  | nil => intro last r _ _ _; rfl
  | cons p T ih =>
    intro last r h0 h hs
    have hp := hs p List.mem_cons_self
    obtain ⟨⟨h1, h2, h3, h4⟩, h5⟩ := h
    rw [List.length_cons, tabR_succ, List.flatMap_cons, encL_app, List.append_assoc, rowI_enc]
    obtain ⟨a1, a2, a3⟩ := rd1 (n := p.1) (by unfold i64B; omega) (encN (p.2.length : Int) ++ (encL (p.2.flatMap ntI) ++ (encL (T.flatMap rowI) ++ r)))
    obtain ⟨b1, b2, b3⟩ := rd1 (n := (p.2.length : Int)) (by unfold i64B; omega) (encL (p.2.flatMap ntI) ++ (encL (T.flatMap rowI) ++ r))
    have hne : 0 < p.2.length := List.length_pos_iff.2 h3
    rw [if_pos (by unfold keyOk; rw [a3, a1, a2, b1, b2]; exact ⟨rfl, rfl, h1, h2, by omega⟩), a3, b3, b1, a1]
    have e : Int.toNat (p.2.length : Int) = p.2.length := by omega
    rw [e, notesR_enc _ h4]
    dsimp only
    rw [ih r (by omega) h5 fun q hq => hs q (List.mem_cons_of_mem _ hq)]; rfl
theorem loadM_ok {l : List Nat} {T : Tb} (hl : ∀ b ∈ l, b < 256) (h : loadM l = some T) : l = encL (bodyI T) ∧ KeysOk 0 T := by
  unfold loadM at h
  split at h
  · rename_i g
    cases e : tabR (readN l).1.toNat 0 (rest l) with
    | none => rw [e] at h; cases h
    | some q =>
      obtain ⟨T2, r⟩ := q
      rw [e] at h
      cases r with
      | cons a r => cases h
      | nil =>
        have h : some T2 = some T := h
        obtain rfl := Option.some.inj h
        obtain ⟨i1, i2, i3⟩ := tabR_ok (rest_bytes hl) e
        rw [List.append_nil] at i1
        refine ⟨?_, i3⟩
        have e1 : bodyI T2 = (T2.length : Int) :: T2.flatMap rowI := rfl
        have e2 : ((T2.length : Nat) : Int) = (readN l).1 := by rw [i2]; omega
        rw [e1, encL_cons, ← i1, e2]
        exact rd2 hl g.1
  · cases h
theorem loadM_enc {T : Tb} (h : KeysOk 0 T) (hs : ∀ p ∈ T, p.2.length ≤ 100000000) (hT : T.length ≤ 100000000) : loadM (encL (bodyI T)) = some T := by
  have e1 : encL (bodyI T) = encN (T.length : Int) ++ (encL (T.flatMap rowI) ++ []) := by rw [List.append_nil]; rfl
  obtain ⟨a1, a2, a3⟩ := rd1 (n := (T.length : Int)) (by unfold i64B; omega) (encL (T.flatMap rowI) ++ [])
  unfold loadM
  rw [e1, a1, a2, a3, if_pos ⟨rfl, by omega⟩]
  have e : Int.toNat (T.length : Int) = T.length := by omega
  rw [e, tabR_enc _ (Int.le_refl _) h hs]; rfl
/-- What stands in the rows is written as it is. -/
theorem KeysOk.sorted : ∀ {T : Tb} {last : Int}, KeysOk last T → T.Pairwise (fun p q => p.1 < q.1) ∧ ∀ p ∈ T, last < p.1 := by
  intro T
  induction T with
  | nil => intro last _; exact ⟨List.Pairwise.nil, by simp⟩
  | cons p T ih =>
    intro last h
    obtain ⟨h1, h2⟩ := ih h.2
    refine ⟨List.pairwise_cons.2 ⟨h2, h1⟩, fun q hq => ?_⟩
    rcases List.mem_cons.1 hq with rfl | hq
    · exact h.1.1
    · have := h2 q hq; have := h.1.1; omega
theorem KeysOk.keys {T : Tb} {last : Int} (h : KeysOk last T) : (T.map Prod.fst).Nodup := by
  refine List.Pairwise.imp (R := fun a b : Int => a < b) (fun h => by omega) ?_
  exact List.pairwise_map.2 h.sorted.1
theorem sortT_id {T : Tb} {last : Int} (h : KeysOk last T) : sortT T = T := by
  have hs : (T.map Prod.fst).Pairwise fun a b => decide (a ≤ b) = true := List.pairwise_map.2 (h.sorted.1.imp fun h => decide_eq_true (by omega))
  have e : keysS T = T.map Prod.fst := List.mergeSort_of_pairwise hs
  unfold sortT
  rw [e, List.map_map]
  refine List.ext_getElem? fun i => ?_
  rw [List.getElem?_map]
  cases hi : T[i]? with
  | none => rfl
  | some p =>
    have hm := List.mem_of_getElem? hi
    have := (lookL_iff h.keys (k := p.1) (v := p.2)).2 hm
    show some (p.1, (lookL T p.1).getD []) = some p
    rw [this]; rfl
theorem Chain.wf : ∀ {N : List Nt} {was : Nt}, Chain was N → ∀ x ∈ N, ∀ n ∈ ntI x, i64B n := by
  intro N
  induction N with
  | nil => intro was _ x hx; simp at hx
  | cons a N ih =>
    intro was h x hx
    rcases List.mem_cons.1 hx with rfl | hx
    · exact ok_i64 h.1
    · exact ih h.2 x hx
theorem KeysOk.wf : ∀ {T : Tb} {last : Int}, 0 ≤ last → KeysOk last T → WfT T := by
  intro T
  induction T with
  | nil => intro last _ _ p hp; simp at hp
  | cons a T ih =>
    intro last h0 h p hp
    have h1 := h.1
    rcases List.mem_cons.1 hp with rfl | hp
    · exact ⟨by unfold i64B; omega, Chain.wf h1.2.2.2⟩
    · exact ih (by omega) h.2 p hp
end Go.Proofs.Ytkabaoigablphaa

/- Chapter 8: Keep turns nothing that was there. -/
namespace Go.Proofs.Ytkabaoigablphaa
open Go Go.HL Go.RowKit Go.Maps Go.Shelf
set_option maxRecDepth 10000
set_option maxHeartbeats 1600000

section
variable {cs : List Chunk} {H : Heap} {K : Value → Heap → Prop}
theorem sortedS_spec {q b : Nat} {l : List (Int × Value)} (h : Holds cs H) (hq : H q = some (.cells #[.map (some b)] 53 (0, 0))) (hm : MapR H b (fun n : Int => Value.int .i64 n) l) (hn : (l.map Prod.fst).Nodup) (hlen : l.length ≤ 268435456)
    (hwf : ∀ x ∈ l.map Prod.fst, -9223372036854775808 ≤ x ∧ x ≤ 9223372036854775807)
    (k : ∀ (s : Sl) H', HL.Sub H H' → Holds (HL.own 3 1 s (((l.map Prod.fst).mergeSort fun x y => decide (x ≤ y)).map (Value.int .i64)) :: cs) H' → K (.slice s.p s.n s.c) H') :
    FnH Try.prog 42 #[.func (.func 59) #[] #[.pointer (some ⟨q, 0, none⟩)]] H K :=
  sortedInt_fnS (g := 59) (kt := 3) (by kernel_rfl)
    (fun Bm b nn D0 w hBm hm hown => AnyZI.keys_gives (ρ := Try.keysA_ren) { Try.keysA with } Fence.wide _ trivial rfl (by omega) Bm b nn D0 w hBm hm hown)
    (fun lb S N w hN hNb hseq => (callsIn_wide (n := 5)).1 (AnyZI.sorted_in Try.sortedA Fence.wide 5 trivial trivial trivial trivial rfl (by omega) (sortsA _) (enters_of Try.func58 (by kernel_rfl) rfl) 59 lb trivial (enters_of Try.func59 (by kernel_rfl) rfl) S N hN hNb w hseq))
    h hq hm hn hlen hwf k
theorem keepR_spec {t : Nat} {T : Tb} (h : tab t T H) (hw : WfT T) (hb : (encL (bodyI (sortT T))).length ≤ 100000000) (k : ∀ H', HL.Sub H H' → K (.string (strN (keepN (sortT T)))) H') :
    FnH Try.prog 21 #[.pointer (some ⟨t, 0, none⟩)] H K := by
  apply dedup_Table_Keep_fn
  unfold dedup_Table_Keep_vc
  have hbl := encL_len (bodyI (sortT T))
  have hSl := sortT_len T
  have hbody : bodyI (sortT T) = ((sortT T).length : Int) :: (sortT T).flatMap rowI := rfl
  have hTl : T.length ≤ 100000000 := by
    have : (sortT T).length ≤ ((sortT T).flatMap rowI).length := by
      generalize sortT T = S
      induction S with
      | nil => exact Nat.le_refl _
      | cons a S ih => rw [List.flatMap_cons, List.length_append, List.length_cons]; have : 2 ≤ (rowI a).length := by simp [rowI]
                       omega
    have h5 := congrArg List.length hbody
    rw [List.length_cons] at h5
    omega
  obtain ⟨⟨mb, ps⟩, ⟨eT, hN⟩, hh⟩ := h
  dsimp only at eT hN hh
  refine (Holds.whole H).newS fun q H1 s1 h1 => ?_
  have h2 := Holds.up (h1.sub 1 rfl) hh
  have e1 : (tmap ps).length = T.length := by rw [← eT]; simp [tmap, tmod]
  refine ⟨some mb, h2.cell 0 rfl rfl, h2.lenM 1 rfl ?_⟩
  have h3 : Holds (buf q [] :: [ro H]) H1 := buf_open.2 ⟨⟨none, 0, 0⟩, (h1.own_nil 5 1).swap⟩
  have hpre : ∀ L1 L2, bodyI (sortT T) = L1 ++ L2 → (encL L1).length ≤ 100000000 := fun L1 L2 e => by
    rw [e, encL_app, List.length_append] at hb; omega
  refine lit_put [((tmap ps).length : Int)] h3 (by rw [e1]; intro n hn; simp at hn; subst hn; exact ⟨by omega, by omega⟩) ?_ fun H4 h4 => ⟨rfl, ?_⟩
  · have := encN_len ((tmap ps).length : Int)
    have e : encL [((tmap ps).length : Int)] = encN ((tmap ps).length : Int) := by simp [encL]
    rw [e, List.length_nil]; omega
  refine ⟨some mb, (Holds.up (h4.sub 1 rfl) hh).cell 0 rfl rfl, keys_spec h4 fun q3 H5 h5 => ⟨_, rfl, sortedS_spec h5 (h5.get 0 rfl) ((Holds.up (h5.sub 2 rfl) hh).map 1 rfl) (by rw [keys_tmap, eT]; exact hN) (by rw [e1]; omega) ?_ fun s H6 _ h6 => ⟨s, rfl, ?_⟩⟩⟩
  · intro x hx
    rw [keys_tmap, eT] at hx
    obtain ⟨p, hp, rfl⟩ := List.mem_map.1 hx
    exact (hw p hp).1
  rw [keys_tmap, eT] at h6
  have h7 : Holds (buf q (encL [((sortT T).length : Int)]) :: own 3 1 s ((keysS T).map (Value.int .i64)) :: [ro H]) H6 := by
    have := ((h6.pull 1 rfl).tail).swap
    rw [e1, ← hSl] at this
    exact this
  have hkl : (keysS T).length = T.length := by rw [(keysS_perm T).length_eq, List.length_map]
  have hsn : s.n = T.length := by
    have := (h7.own 1 rfl).1
    rw [List.length_map, hkl] at this; omega
  refine ⟨fun m H' => 0 ≤ m ∧ m ≤ s.n ∧ Holds (buf q (encL (((sortT T).length : Int) :: ((sortT T).take m.toNat).flatMap rowI)) :: own 3 1 s ((keysS T).map (Value.int .i64)) :: [ro H]) H', fun m _ => (s.n - m).toNat,
    ⟨Int.le_refl _, by omega, h7⟩, ?_⟩
  clear h1 h2 h3 h4 h5 h6 h7
  rintro m H7 ⟨m0, m1, h7⟩
  refine br_intro (fun c => ?_) (fun c => ?_)
  · have c := of_decide_eq_true c
    have hI : Ints H7 s (keysS T) := (h7.own 1 rfl).ints (by omega)
    obtain ⟨q4, o1, f1, f2, f3, f4⟩ := hI.at_ m0 c
    have hlt : m.toNat < (keysS T).length := by omega
    have ex : (keysS T).getD m.toNat 0 = (keysS T)[m.toNat] := by rw [List.getD_eq_getElem?_getD, List.getElem?_eq_getElem hlt]; rfl
    rw [ex] at f4
    have hS : (sortT T)[m.toNat]? = some ((keysS T)[m.toNat], (lookL T (keysS T)[m.toNat]).getD []) := by
      unfold sortT
      rw [List.getElem?_map, List.getElem?_eq_getElem hlt]; rfl
    have hmem : (keysS T)[m.toNat] ∈ T.map Prod.fst := (keysS_perm T).mem_iff.1 (List.getElem_mem hlt)
    generalize (keysS T)[m.toNat] = x at *
    obtain ⟨l, hl⟩ : ∃ l, lookL T x = some l := by
      obtain ⟨w, hw⟩ := idxL_mem hmem
      exact ⟨w.2, by unfold lookL; rw [hw]; rfl⟩
    rw [hl] at hS
    have hS : (sortT T)[m.toNat]? = some (x, l) := hS
    obtain ⟨v, hv⟩ : ∃ v, lookL (tmap ps) x = some v := by
      rw [← eT] at hl
      unfold lookL at hl ⊢
      rw [idx_tmod] at hl
      rw [idx_tmap]
      cases e : idxL ps x with
      | none => rw [e] at hl; cases hl
      | some w => exact ⟨_, rfl⟩
    obtain ⟨j, sl, l2, g1, rfl, g2, g3⟩ := look_held hv
    obtain rfl : l2 = l := by rw [eT, hl] at g3; exact (Option.some.inj g3).symm
    have hTm : (x, l2) ∈ T := by
      obtain ⟨w, hw2⟩ := lookL_idx hl
      exact List.mem_of_getElem? (idxL_get hw2)
    have hwl := hw _ hTm
    have hcut := flat_rowI_take hS
    have hfin : ∀ L2 L3, [x, (l2.length : Int)] ++ l2.flatMap ntI = L2 ++ L3 → (encL ((((sortT T).length : Int) :: ((sortT T).take m.toNat).flatMap rowI) ++ L2)).length ≤ 100000000 := fun L2 L3 e => by
      refine hpre _ (L3 ++ ((sortT T).drop (m.toNat + 1)).flatMap rowI) ?_
      have : (sortT T).flatMap rowI = ((sortT T).take (m.toNat + 1)).flatMap rowI ++ ((sortT T).drop (m.toNat + 1)).flatMap rowI := by rw [← List.flatMap_append, List.take_append_drop]
      rw [hbody, this, hcut, e]; simp
    have hl2 : l2.length ≤ 100000000 := by
      have h1 := hfin _ [] (by rw [List.append_nil])
      have h2 := encL_len ((((sortT T).length : Int) :: ((sortT T).take m.toNat).flatMap rowI) ++ ([x, (l2.length : Int)] ++ l2.flatMap ntI))
      have h3 : (l2.flatMap ntI).length = 4 * l2.length := by
        rw [List.length_flatMap]
        have : l2.map (fun a => (ntI a).length) = l2.map fun _ => 4 := by rfl
        rw [this, List.map_const', List.sum_replicate_nat]; omega
      simp only [List.length_append, List.length_cons, h3] at h2
      omega
    have rd : ∀ {H' : Heap} {B : List Nat}, Holds (buf q B :: own 3 1 s ((keysS T).map (Value.int .i64)) :: [ro H]) H' → Recs eN H' sl l2 := fun h => by
      have h4 := Holds.read ((Holds.up (h.sub 2 rfl) hh).read 2 rfl (Holds.mono _)) j (by rw [List.getElem?_map, g1]; rfl) (hown_mono (x, sl, l2))
      exact Own.recs eNlen (by decide) h4 (by show l2.length ≤ _; omega)
    have hln : sl.n = l2.length := (rd h7).len
    refine ⟨q4, o1, f1, f2, f3, x, f4, some mb, (Holds.up (h7.sub 2 rfl) hh).cell 0 rfl rfl, runH_lookup1 u53 kint z56 ((Holds.up (h7.sub 2 rfl) hh).map 1 rfl) (k := x) ?_⟩
    rw [hv]
    refine ⟨sl, rfl, ?_⟩
    rw [hln]
    refine lit_put [x, (l2.length : Int)] h7 (by intro n hn; simp at hn; rcases hn with rfl | rfl; exact hwl.1; exact ⟨by omega, by omega⟩) ?_ fun H8 h8 => ⟨rfl, some mb, (Holds.up (h8.sub 2 rfl) hh).cell 0 rfl rfl, runH_lookup1 u53 kint z56 ((Holds.up (h8.sub 2 rfl) hh).map 1 rfl) (k := x) ?_⟩
    · have := hfin _ _ rfl
      rw [encL_app, List.length_append] at this; omega
    rw [hv]
    refine ⟨sl, rfl, ?_⟩
    rw [← encL_app] at h8
    refine ⟨fun i H' => 0 ≤ i ∧ i ≤ sl.n ∧ Holds (buf q (encL ((((sortT T).length : Int) :: ((sortT T).take m.toNat).flatMap rowI) ++ ([x, (l2.length : Int)] ++ (l2.take i.toNat).flatMap ntI))) :: own 3 1 s ((keysS T).map (Value.int .i64)) :: [ro H]) H', fun i _ => (sl.n - i).toNat,
      ⟨Int.le_refl _, by omega, h8⟩, ?_⟩
    clear h7 h8
    rintro i H9 ⟨i0, i1, h9⟩
    refine br_intro (fun c2 => ?_) (fun c2 => ?_)
    · have c2 := of_decide_eq_true c2
      obtain ⟨q5, o2, y, k1, k2, k3⟩ := (rd h9).at_ eNlen (by decide) i0 c2
      have hy := hwl.2 y (List.mem_of_getElem? k2)
      have hk := flat_ntI_take k2
      refine ⟨q5, o2, k1, i0, c2, y.1, k3 0 _ rfl, y.2.1, k3 1 _ rfl, y.2.2.1, k3 2 _ rfl, y.2.2.2, k3 3 _ rfl, ?_⟩
      have ei : (i + 1).toNat = i.toNat + 1 := by omega
      refine lit_put (ntI y) h9 hy ?_ fun H10 h10 => ⟨rfl, rfl, ⟨by rw [wrap64_id (by omega) (by omega)]; omega, by rw [wrap64_id (by omega) (by omega)]; omega, ?_⟩, ?_⟩
      · have := hfin ([x, (l2.length : Int)] ++ (l2.take (i.toNat + 1)).flatMap ntI) ((l2.drop (i.toNat + 1)).flatMap ntI) (by rw [List.append_assoc, ← List.flatMap_append, List.take_append_drop])
        rw [hk, ← List.append_assoc, ← List.append_assoc, encL_app, List.length_append, List.append_assoc] at this
        omega
      · rw [wrap64_id (n := i + 1) (by omega) (by omega), ei, hk]
        rw [← encL_app] at h10
        simp only [List.append_assoc] at h10 ⊢
        exact h10
      · rw [wrap64_id (n := i + 1) (by omega) (by omega)]; dsimp only; omega
    · have c2 := of_decide_eq_false c2
      have em : (m + 1).toNat = m.toNat + 1 := by omega
      rw [List.take_of_length_le (l := l2) (by omega)] at h9
      refine ⟨rfl, ⟨by rw [wrap64_id (by omega) (by omega)]; omega, by rw [wrap64_id (by omega) (by omega)]; omega, ?_⟩, ?_⟩
      · rw [wrap64_id (n := m + 1) (by omega) (by omega), em, hcut]
        exact h9
      · rw [wrap64_id (n := m + 1) (by omega) (by omega)]; dsimp only; omega
  · have c := of_decide_eq_false c
    rw [List.take_of_length_le (by omega)] at h7
    rw [← hbody] at h7
    obtain ⟨r, h8⟩ := buf_open.1 h7
    refine ⟨r, h8.cell 0 rfl rfl, r, h8.cell 0 rfl rfl, sum_spec (i := 1) h8 rfl (encL_bytes _) (by omega) fun r2 H9 s9 h9 n9 => ⟨r2, rfl, s9, ?_⟩⟩
    have hr : r.n = (encL (bodyI (sortT T))).length := by
      have := (h8.own 1 rfl).1
      simp only [List.length_map, Nat.mul_one] at this; exact this.symm
    refine Holds.append ok68 ok68.under h9 (h9.own 2 rfl).cells (by rw [List.length_map, hr, Nat.mul_one]) (noTups_by _) (by omega) fun r3 H10 h10 n10 => ⟨r3, rfl, ?_⟩
    have ho := h10.own 0 rfl
    rw [← List.map_append] at ho
    exact toStr ho (keepN_bytes (sortT T)) ⟨_, rfl, k H10 (h10.sub 4 rfl)⟩
end
end Go.Proofs.Ytkabaoigablphaa
