import Derived.Test.YthldclmeojkboaaGreatDoorHlBytes
import Derived.KernelRfl
namespace Go.HL
open Go
set_option linter.unusedVariables false
set_option maxRecDepth 10000
theorem wrap_u8 (n : Int) : IntKind.wrap .u8 n = n % 256 := by kernel_rfl
theorem wrap_u32 (n : Int) : IntKind.wrap .u32 n = n % 4294967296 := by kernel_rfl
theorem wrap_u64' (n : Int) : IntKind.wrap .u64 n = n % 18446744073709551616 := by kernel_rfl
theorem ofInt_nat (w a : Nat) : (BitVec.ofInt w (a : Int)).toNat = a % 2 ^ w := by simp
theorem xor_u32 {a b : Nat} (ha : a < 4294967296) (hb : b < 4294967296) : xorI .u32 (a : Int) (b : Int) = ((a ^^^ b : Nat) : Int) := by
  unfold xorI
  have e : IntKind.bits .u32 = 32 := rfl
  rw [e, BitVec.toNat_xor, ofInt_nat, ofInt_nat, Nat.mod_eq_of_lt (show a < 2 ^ 32 by omega), Nat.mod_eq_of_lt (show b < 2 ^ 32 by omega), wrap_u32]
  have : a ^^^ b < 2 ^ 32 := Nat.xor_lt_two_pow (by omega) (by omega)
  omega
theorem and_u32 {a b : Nat} (ha : a < 4294967296) (hb : b < 4294967296) : andI .u32 (a : Int) (b : Int) = ((a &&& b : Nat) : Int) := by
  unfold andI
  have e : IntKind.bits .u32 = 32 := rfl
  rw [e, BitVec.toNat_and, ofInt_nat, ofInt_nat, Nat.mod_eq_of_lt (show a < 2 ^ 32 by omega), Nat.mod_eq_of_lt (show b < 2 ^ 32 by omega), wrap_u32]
  have : a &&& b ≤ a := Nat.and_le_left
  omega
theorem or_u64 {a b : Nat} (ha : a < 18446744073709551616) (hb : b < 18446744073709551616) : orI .u64 (a : Int) (b : Int) = ((a ||| b : Nat) : Int) := by
  unfold orI
  have e : IntKind.bits .u64 = 64 := rfl
  rw [e, BitVec.toNat_or, ofInt_nat, ofInt_nat, Nat.mod_eq_of_lt (show a < 2 ^ 64 by omega), Nat.mod_eq_of_lt (show b < 2 ^ 64 by omega), wrap_u64']
  have : a ||| b < 2 ^ 64 := Nat.or_lt_two_pow (by omega) (by omega)
  omega
theorem and_u64_one {a : Nat} (ha : a < 18446744073709551616) : andI .u64 (a : Int) 1 = ((a % 2 : Nat) : Int) := by
  unfold andI
  have e : IntKind.bits .u64 = 64 := rfl
  have e1 : BitVec.ofInt 64 1 = BitVec.ofInt 64 ((1 : Nat) : Int) := rfl
  rw [e, e1, BitVec.toNat_and, ofInt_nat, ofInt_nat, Nat.mod_eq_of_lt (show a < 2 ^ 64 by omega), wrap_u64']
  have : a &&& (1 % 2 ^ 64) = a % 2 := by
    have : 1 % 2 ^ 64 = 1 := by decide
    rw [this, Nat.and_one_is_mod]
  rw [this]; omega
theorem and_u8_127 {a : Nat} (ha : a < 256) : andI .u8 (a : Int) 127 = ((a % 128 : Nat) : Int) := by
  have key : ∀ n : Fin 256, andI .u8 (n.val : Int) 127 = ((n.val % 128 : Nat) : Int) := by decide +kernel
  exact key ⟨a, ha⟩
theorem or_u8_128 {a : Nat} (ha : a < 256) : orI .u8 (a : Int) 128 = ((a % 128 + 128 : Nat) : Int) := by
  have key : ∀ n : Fin 256, orI .u8 (n.val : Int) 128 = ((n.val % 128 + 128 : Nat) : Int) := by decide +kernel
  exact key ⟨a, ha⟩
theorem wrap_i64 (n : Int) : IntKind.wrap .i64 n = if n % 18446744073709551616 ≥ 9223372036854775808 then n % 18446744073709551616 - 18446744073709551616 else n % 18446744073709551616 := by
  have e : IntKind.wrap .i64 n = if (true && decide (n % 18446744073709551616 ≥ 9223372036854775808)) = true then n % 18446744073709551616 - 18446744073709551616 else n % 18446744073709551616 := by kernel_rfl
  rw [e]; simp
theorem ofInt_int (n : Int) : ((BitVec.ofInt 64 n).toNat : Int) = n % 18446744073709551616 := by
  rw [BitVec.toNat_ofInt]
  have : ((2 ^ 64 : Nat) : Int) = 18446744073709551616 := by decide
  rw [this]; omega
theorem xor_i64_zero {a : Int} (h0 : -9223372036854775808 ≤ a) (h1 : a ≤ 9223372036854775807) : xorI .i64 a 0 = a := by
  unfold xorI
  have e : IntKind.bits .i64 = 64 := rfl
  have e0 : BitVec.ofInt 64 0 = 0#64 := rfl
  rw [e, e0, BitVec.xor_zero, wrap_i64, ofInt_int]
  split <;> omega
theorem xor_i64_neg {a : Int} (h0 : -9223372036854775808 ≤ a) (h1 : a ≤ 9223372036854775807) : xorI .i64 a (-1) = -1 - a := by
  unfold xorI
  have e : IntKind.bits .i64 = 64 := rfl
  have e0 : BitVec.ofInt 64 (-1) = BitVec.allOnes 64 := by decide
  rw [e, e0, BitVec.xor_allOnes, wrap_i64, BitVec.toNat_not]
  have := ofInt_int a
  have hlt : (BitVec.ofInt 64 a).toNat < 2 ^ 64 := (BitVec.ofInt 64 a).isLt
  have e2 : (2 : Nat) ^ 64 = 18446744073709551616 := by decide
  rw [e2] at *
  split <;> omega
def zigN (n : Int) : Nat := if n < 0 then 2 * (-(n + 1)).toNat + 1 else 2 * n.toNat
def unzig (z : Nat) : Int := if z % 2 = 1 then -((z / 2 : Nat) : Int) - 1 else ((z / 2 : Nat) : Int)
theorem unzig_zig (n : Int) : unzig (zigN n) = n := by
  unfold unzig zigN
  split <;> split <;> omega
theorem zig_lt {n : Int} (h0 : -9223372036854775808 ≤ n) (h1 : n ≤ 9223372036854775807) : zigN n < 18446744073709551616 := by
  unfold zigN; split <;> omega
theorem zig_code {n : Int} (h0 : -9223372036854775808 ≤ n) (h1 : n ≤ 9223372036854775807) : IntKind.wrap .u64 (xorI .i64 (shlI .i64 n 1) (shrI .i64 n 63)) = (zigN n : Int) := by
  have e1 : shlI .i64 n 1 = IntKind.wrap .i64 (n * 2) := by kernel_rfl
  have e2 : shrI .i64 n 63 = n.fdiv 9223372036854775808 := by kernel_rfl
  rw [e1, e2, Int.fdiv_eq_ediv_of_nonneg _ (by decide)]
  have b0 : -9223372036854775808 ≤ IntKind.wrap .i64 (n * 2) ∧ IntKind.wrap .i64 (n * 2) ≤ 9223372036854775807 := by rw [wrap_i64]; split <;> omega
  by_cases c : n < 0
  · have e3 : n / 9223372036854775808 = -1 := by omega
    rw [e3, xor_i64_neg b0.1 b0.2, wrap_u64', wrap_i64]
    unfold zigN
    rw [if_pos c]
    split <;> omega
  · have e3 : n / 9223372036854775808 = 0 := by omega
    rw [e3, xor_i64_zero b0.1 b0.2, wrap_u64', wrap_i64]
    unfold zigN
    rw [if_neg c]
    split <;> omega
theorem unzig_code {z : Nat} (h : z < 18446744073709551616) : xorI .i64 (IntKind.wrap .i64 (shrI .u64 (z : Int) 1)) (IntKind.wrap .i64 (0 - IntKind.wrap .i64 (andI .u64 (z : Int) 1))) = unzig z := by
  have e1 : shrI .u64 (z : Int) 1 = (z : Int).fdiv 2 := by kernel_rfl
  rw [e1, Int.fdiv_eq_ediv_of_nonneg _ (by decide), and_u64_one h]
  have e2 : IntKind.wrap .i64 ((z : Int) / 2) = (z : Int) / 2 := by rw [wrap_i64]; split <;> omega
  rw [e2]
  unfold unzig
  rcases Nat.mod_two_eq_zero_or_one z with c | c
  · have e3 : IntKind.wrap .i64 (0 - IntKind.wrap .i64 ((z % 2 : Nat) : Int)) = 0 := by rw [c]; kernel_rfl
    rw [e3, xor_i64_zero (by omega) (by omega), if_neg (by omega)]; omega
  · have e3 : IntKind.wrap .i64 (0 - IntKind.wrap .i64 ((z % 2 : Nat) : Int)) = -1 := by rw [c]; kernel_rfl
    rw [e3, xor_i64_neg (by omega) (by omega), if_pos c]; omega
def encD : Nat → Nat → List Nat
  | 0, _ => []
  | f + 1, z => if z ≥ 128 then (z % 128 + 128) :: encD f (z / 128) else [z]
def encN (n : Int) : List Nat := encD 10 (zigN n)
def rd : Nat → Nat → Nat → List Nat → Int × Int × Int
  | 0, _, _, _ => (0, 0, 4)
  | f + 1, i, z, l => match l with
    | [] => (0, 0, 5)
    | b :: l => if i = 9 ∧ b > 1 then (0, 0, 4)
      else if b > 127 then rd f (i + 1) (z + b % 128 * 128 ^ i) l
      else if i > 0 ∧ b = 0 then (0, 0, 4)
      else (unzig (z + b % 128 * 128 ^ i), (i : Int) + 1, 0)
def readN (l : List Nat) : Int × Int × Int := rd 10 0 0 l
theorem encD_bytes : ∀ (f z : Nat), ∀ b ∈ encD f z, b < 256 := by
  intro f
  induction f with
  | zero => intro z b hb; simp [encD] at hb
  | succ f ih =>
    intro z b hb
    unfold encD at hb
    split at hb
    · rcases List.mem_cons.1 hb with e | e
      · rw [e]; omega
      · exact ih _ b e
    · simp only [List.mem_singleton] at hb
      rw [hb]; omega
theorem encD_len : ∀ (f z : Nat), (encD f z).length ≤ f := by
  intro f
  induction f with
  | zero => intro z; exact Nat.le_refl _
  | succ f ih =>
    intro z
    unfold encD
    split
    · have := ih (z / 128); simp only [List.length_cons]; omega
    · simp
theorem pow_top {i : Nat} (h : i ≤ 9) : 128 ^ i * 2 ^ (64 - 7 * i) = 18446744073709551616 := by
  have e : 128 ^ i = 2 ^ (7 * i) := by rw [Nat.pow_mul]
  rw [e, ← Nat.pow_add, show 7 * i + (64 - 7 * i) = 64 by omega]
theorem rd_enc : ∀ (f i z0 y : Nat) (r : List Nat), f + i = 10 → 0 < f → y * 128 ^ i < 18446744073709551616 → (i = 0 ∨ 0 < y) → rd f i z0 (encD f y ++ r) = (unzig (z0 + y * 128 ^ i), (i : Int) + (encD f y).length, 0) := by
  intro f
  induction f with
  | zero => intro i z0 y r _ h; exact absurd h (Nat.lt_irrefl _)
  | succ f ih =>
    intro i z0 y r hf _ hy h0
    have h9 : i = 9 → y ≤ 1 := fun e => by
      subst e
      have : (128 : Nat) ^ 9 = 9223372036854775808 := by decide
      rw [this] at hy; omega
    by_cases c : y ≥ 128
    · have hi : i ≠ 9 := fun e => by have := h9 e; omega
      have e1 : encD (f + 1) y = (y % 128 + 128) :: encD f (y / 128) := by
        show (if y ≥ 128 then _ else _) = _
        rw [if_pos c]
      have e2 : rd (f + 1) i z0 ((y % 128 + 128) :: (encD f (y / 128) ++ r)) = rd f (i + 1) (z0 + (y % 128 + 128) % 128 * 128 ^ i) (encD f (y / 128) ++ r) := by
        show (if i = 9 ∧ y % 128 + 128 > 1 then _ else if y % 128 + 128 > 127 then _ else _) = _
        rw [if_neg (fun z => hi z.1), if_pos (by omega)]
      have e3 : y / 128 * 128 ^ (i + 1) = y / 128 * 128 * 128 ^ i := by rw [Nat.pow_succ]; rw [Nat.mul_assoc, Nat.mul_comm 128]
      have e4 : y * 128 ^ i = y / 128 * 128 ^ (i + 1) + y % 128 * 128 ^ i := by
        rw [e3, ← Nat.add_mul]; congr 1; omega
      have hf0 : 0 < f := by omega
      rw [e1, List.cons_append, e2, ih (i + 1) _ (y / 128) r (by omega) hf0 (by omega) (.inr (by omega))]
      have e5 : (y % 128 + 128) % 128 = y % 128 := by omega
      rw [e5, List.length_cons]
      have e6 : z0 + y % 128 * 128 ^ i + y / 128 * 128 ^ (i + 1) = z0 + y * 128 ^ i := by omega
      rw [e6]
      congr 2
      push_cast; omega
    · have e1 : encD (f + 1) y = [y] := by
        show (if y ≥ 128 then _ else _) = _
        rw [if_neg c]
      rw [e1]
      show (if i = 9 ∧ y > 1 then _ else if y > 127 then _ else if i > 0 ∧ y = 0 then _ else _) = _
      rw [if_neg (fun z => by have := h9 z.1; omega), if_neg (by omega), if_neg (fun z => by omega)]
      have e5 : y % 128 = y := by omega
      rw [e5]; rfl
theorem read_enc {n : Int} (h0 : -9223372036854775808 ≤ n) (h1 : n ≤ 9223372036854775807) (r : List Nat) : readN (encN n ++ r) = (n, ((encN n).length : Int), 0) := by
  unfold readN encN
  rw [rd_enc 10 0 0 (zigN n) r rfl (by decide) (by have := zig_lt h0 h1; omega) (.inl rfl)]
  simp [unzig_zig]
def bitC (c : Nat) : Nat := if c % 2 = 1 then (c / 2) ^^^ 2197175160 else c / 2
def bitsC : Nat → Nat → Nat
  | 0, c => c
  | n + 1, c => bitsC n (bitC c)
def byteC (c b : Nat) : Nat := bitsC 8 (c ^^^ b)
def crcN (l : List Nat) : Nat := (l.foldl byteC 4294967295) ^^^ 4294967295
theorem bitC_lt {c : Nat} (h : c < 4294967296) : bitC c < 4294967296 := by
  unfold bitC
  split
  · exact Nat.xor_lt_two_pow (n := 32) (by omega) (by decide)
  · omega
theorem bitsC_lt : ∀ (n : Nat) {c : Nat}, c < 4294967296 → bitsC n c < 4294967296 := by
  intro n
  induction n with
  | zero => intro c h; exact h
  | succ n ih => intro c h; exact ih (bitC_lt h)
theorem bitsC_snoc : ∀ (n c : Nat), bitsC (n + 1) c = bitC (bitsC n c) := by
  intro n
  induction n with
  | zero => intro c; rfl
  | succ n ih => intro c; show bitsC (n + 1) (bitC c) = _; rw [ih]; rfl
theorem byteC_lt {c b : Nat} (h : c < 4294967296) (hb : b < 256) : byteC c b < 4294967296 := bitsC_lt 8 (Nat.xor_lt_two_pow (n := 32) (by omega) (by omega))
theorem bit_code {c : Nat} (h : c < 4294967296) : xorI .u32 (shrI .u32 (c : Int) 1) (andI .u32 2197175160 (IntKind.wrap .u32 (0 - andI .u32 (c : Int) 1))) = (bitC c : Int) := by
  have e1 : shrI .u32 (c : Int) 1 = (c : Int).fdiv 2 := by kernel_rfl
  have e2 : andI .u32 (c : Int) 1 = ((c % 2 : Nat) : Int) := by
    have := and_u32 h (show 1 < 4294967296 by decide)
    rw [Nat.and_one_is_mod] at this; exact this
  rw [e1, Int.fdiv_eq_ediv_of_nonneg _ (by decide), e2]
  have e3 : (c : Int) / 2 = ((c / 2 : Nat) : Int) := by omega
  rw [e3]
  unfold bitC
  rcases Nat.mod_two_eq_zero_or_one c with z | z
  · have e4 : andI .u32 2197175160 (IntKind.wrap .u32 (0 - ((c % 2 : Nat) : Int))) = ((0 : Nat) : Int) := by rw [z]; kernel_rfl
    rw [e4, if_neg (by omega), xor_u32 (by omega) (by decide), Nat.xor_zero]
  · have e4 : andI .u32 2197175160 (IntKind.wrap .u32 (0 - ((c % 2 : Nat) : Int))) = ((2197175160 : Nat) : Int) := by rw [z]; kernel_rfl
    rw [e4, if_pos z, xor_u32 (by omega) (by decide)]
def nb (s : ByteArray) : List Nat := s.data.toList.map UInt8.toNat
theorem nb_byte (s : ByteArray) : ∀ b ∈ nb s, b < 256 := fun b hb => by
  obtain ⟨x, -, rfl⟩ := List.mem_map.1 hb
  exact x.toNat_lt
theorem nb_len (s : ByteArray) : (nb s).length = s.size := by simp [nb]
theorem nb_at {s : ByteArray} {i : Nat} {c : UInt8} (h : s[i]? = some c) : (nb s)[i]? = some c.toNat := by
  have : s.data.toList[i]? = some c := by rw [Array.getElem?_toList]; exact h
  simp [nb, this]
theorem nb_get {s : ByteArray} {i : Nat} (h : i < s.size) : ∃ c : UInt8, s[i]? = some c ∧ (nb s)[i]? = some c.toNat ∧ c.toNat < 256 := by
  have h2 : s[i]? = some s[i] := by simp [h]
  exact ⟨s[i], h2, nb_at h2, (s[i]).toNat_lt⟩
theorem nb_inj {s t : ByteArray} (h : nb s = nb t) : s = t := by
  refine Go.WideShapes.bytes_inj ?_
  have key : ∀ l m : List UInt8, l.map UInt8.toNat = m.map UInt8.toNat → l = m := by
    intro l
    induction l with
    | nil => intro m h; cases m with
      | nil => rfl
      | cons b m => simp at h
    | cons a l ih =>
      intro m h
      cases m with
      | nil => simp at h
      | cons b m =>
        simp only [List.map_cons, List.cons.injEq] at h
        rw [UInt8.toNat_inj.1 h.1, ih m h.2]
  exact key _ _ h
theorem nb_extract (s : ByteArray) (i j : Nat) : nb (s.extract i j) = ((nb s).take j).drop i := by
  simp [nb, List.map_drop, List.map_take, List.drop_take]
def strN (l : List Nat) : ByteArray := ⟨(l.map UInt8.ofNat).toArray⟩
theorem nb_str {l : List Nat} (h : ∀ b ∈ l, b < 256) : nb (strN l) = l := by
  show ((l.map UInt8.ofNat).toArray.toList).map UInt8.toNat = l
  rw [List.toList_toArray, List.map_map]
  have : ∀ l : List Nat, (∀ b ∈ l, b < 256) → l.map (UInt8.toNat ∘ UInt8.ofNat) = l := by
    intro l
    induction l with
    | nil => intro _; rfl
    | cons a l ih =>
      intro h
      rw [List.map_cons, ih fun b hb => h b (List.mem_cons_of_mem _ hb)]
      congr 1
      have := h a List.mem_cons_self
      show (UInt8.ofNat a).toNat = a
      simp; omega
  exact this l h
theorem strV_nb (s : ByteArray) : strV s = (nb s).map fun b : Nat => Value.int .u8 (b : Int) := by simp [strV, nb, Function.comp_def]
end Go.HL
