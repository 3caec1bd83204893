import Derived.Test.YthldclmeojkboaaGreatDoorF1
import Derived.Test.YthldclmeojkboaaGreatDoorHlLaw
import Derived.Test.YthldclmeojkboaaGreatDoorHlAppend
import Derived.Test.YthldclmeojkboaaGreatDoorHlBytes
import Derived.Test.YthldclmeojkboaaGreatDoorHlWire
import Derived.Test.YthldclmeojkboaaGreatDoorLays
import Derived.Test.YthldclmeojkboaaGreatDoorHlSorted
import Derived.Test.YthldclmeojkboaaGreatDoorHlAssoc
import Derived.Sort.Walk0
import Derived.Test.YthldclmeojkboaaGreatDoorVp
import Derived.Laws.StructEq
namespace Go.Proofs.YthldclmeojkboaaGreatDoor
open Go.HL
set_option maxHeartbeats 400000
set_option maxRecDepth 10000
def i64B (n : Int) : Prop := -9223372036854775808 ≤ n ∧ n ≤ 9223372036854775807
theorem okBy : ElemOK Tryz.prog 119 5 1 := ElemOK.of (by kernel_rfl)
theorem uStr : Tryz.prog.underlying 9 = some .string := by kernel_rfl
abbrev bv (l : List Int) : List Value := l.map (Value.int .u8)
def sevens : Nat → Int → List Int
  | 0, _ => []
  | k + 1, z => if z ≥ 128 then orI .u8 (IntKind.wrap .u8 z) 128 :: sevens k (shrI .u64 z 7) else [IntKind.wrap .u8 z]
def zig (n : Int) : Int := IntKind.wrap .u64 (xorI .i64 (shlI .i64 n 1) (shrI .i64 n 63))
def encInt (n : Int) : List Int := sevens 10 (zig n)
theorem wrap_u64 (n : Int) : 0 ≤ IntKind.wrap .u64 n ∧ IntKind.wrap .u64 n < 18446744073709551616 := by
  have e : IntKind.wrap .u64 n = n % 18446744073709551616 := by kernel_rfl
  rw [e]; omega
theorem shr7 (z : Int) : shrI .u64 z 7 = z / 128 := by
  have e : shrI .u64 z 7 = z.fdiv 128 := by kernel_rfl
  rw [e, Int.fdiv_eq_ediv_of_nonneg _ (by decide)]
theorem bv_app (l m : List Int) : bv (l ++ m) = bv l ++ bv m := by simp [bv]
theorem appendInt_spec {cs : List Chunk} {H : Heap} {b : Sl} {l : List Int} {n : Int} {K : Value → Heap → Prop} (h : Holds (own 5 1 b (bv l) :: cs) H) (hb : b.n ≤ 200000000)
    (k : ∀ (r : Sl) H', Holds (own 5 1 r (bv (l ++ encInt n)) :: cs) H' → r.n = b.n + (encInt n).length → K (.slice r.p r.n r.c) H') : FnH Tryz.prog 141 #[.slice b.p b.n b.c, .int .i64 n] H K := by
  apply wire_appendInt_fn
  unfold wire_appendInt_vc
  obtain ⟨z0, z1⟩ := wrap_u64 (xorI .i64 (shlI .i64 n 1) (shrI .i64 n 63))
  unfold encInt zig at k
  generalize IntKind.wrap .u64 (xorI .i64 (shlI .i64 n 1) (shrI .i64 n 63)) = z at *
  have hl := (h.own 0 rfl).1
  simp only [List.length_map, Nat.mul_one] at hl
  refine ⟨fun c y H1 => ∃ (j : Nat) (m : List Int), 0 < j ∧ j ≤ 10 ∧ 0 ≤ y ∧ y < 128 ^ j ∧ m ++ sevens j y = l ++ sevens 10 z ∧ m.length ≤ l.length + (10 - j) ∧ Holds (own 5 1 c (bv m) :: cs) H1, fun _ y _ => y.toNat,
    ⟨10, l, by decide, by decide, z0, by omega, rfl, by omega, h⟩, ?_⟩
  rintro c y H1 ⟨j, m, j0, j1, y0, y1, em, hm, h1⟩
  have hc := (h1.own 0 rfl).1
  simp only [List.length_map, Nat.mul_one] at hc
  obtain ⟨i, rfl⟩ : ∃ i, j = i + 1 := ⟨j - 1, by omega⟩
  refine br_intro (fun q => ?_) (fun q => ?_)
  · have q := of_decide_eq_true q
    refine Holds.push okBy h1 (m := 1) rfl rfl (by omega) fun r H3 h3 n3 => ⟨r, rfl, rfl, ⟨i, m ++ [orI .u8 (IntKind.wrap .u8 y) 128], ?_, by omega, ?_, ?_, ?_, by simp; omega, ?_⟩, ?_⟩
    · refine Nat.pos_of_ne_zero fun e => ?_
      subst e
      simp at y1; omega
    · rw [shr7]; omega
    · rw [shr7]
      have e : (128 : Int) ^ (i + 1) = 128 ^ i * 128 := Int.pow_succ ..
      rw [e] at y1
      exact Int.ediv_lt_of_lt_mul (by decide) y1
    · rw [← em]
      have : sevens (i + 1) y = orI .u8 (IntKind.wrap .u8 y) 128 :: sevens i (shrI .u64 y 7) := by
        show (if y ≥ 128 then _ else _) = _
        rw [if_pos q]
      rw [this]; simp
    · rw [bv_app]; exact h3
    · dsimp only; rw [shr7]; omega
  · have q := of_decide_eq_false q
    have : sevens (i + 1) y = [IntKind.wrap .u8 y] := by
      show (if y ≥ 128 then _ else _) = _
      rw [if_neg q]
    rw [this] at em
    refine Holds.push okBy h1 (m := 1) rfl rfl (by omega) fun r H3 h3 n3 => ⟨r, rfl, k r H3 ?_ ?_⟩
    · rw [← em, bv_app]; exact h3
    · have := congrArg List.length em
      simp at this
      omega
end Go.Proofs.YthldclmeojkboaaGreatDoor
namespace Go.Proofs.YthldclmeojkboaaGreatDoor
open Go Go.HL
set_option maxHeartbeats 1000000
set_option maxRecDepth 10000
theorem uBy : Tryz.prog.underlying 119 = some (.slice 5) := by kernel_rfl
theorem uByte : Tryz.prog.underlying 5 = some (.int .u8) := by kernel_rfl
theorem sevens_eq : ∀ (f z : Nat), sevens f (z : Int) = (encD f z).map fun b : Nat => (b : Int) := by
  intro f
  induction f with
  | zero => intro z; rfl
  | succ f ih =>
    intro z
    unfold sevens encD
    by_cases c : z ≥ 128
    · rw [if_pos (by omega), if_pos c, List.map_cons, shr7]
      have e1 : (z : Int) / 128 = ((z / 128 : Nat) : Int) := by omega
      rw [e1, ih, wrap_u8]
      have e2 : (z : Int) % 256 = ((z % 256 : Nat) : Int) := by omega
      rw [e2, or_u8_128 (by omega)]
      congr 2; omega
    · rw [if_neg (by omega), if_neg c, wrap_u8]
      show [(z : Int) % 256] = [(z : Int)]
      congr 1; omega
theorem encInt_eq {n : Int} (hn : i64B n) : encInt n = (encN n).map fun b : Nat => (b : Int) := by
  unfold encInt zig
  rw [zig_code hn.1 hn.2, sevens_eq]; rfl
theorem bv_nat (l : List Nat) : bv (l.map fun b : Nat => (b : Int)) = l.map fun b : Nat => Value.int .u8 (b : Int) := by simp [bv, Function.comp_def]
theorem strV_str {l : List Nat} (h : ∀ b ∈ l, b < 256) : strV (strN l) = l.map fun b : Nat => Value.int .u8 (b : Int) := by rw [strV_nb, nb_str h]
theorem encN_bytes (n : Int) : ∀ b ∈ encN n, b < 256 := encD_bytes 10 _
theorem encN_len (n : Int) : (encN n).length ≤ 10 := encD_len 10 _
theorem toStr {H : Heap} {K : Value → Heap → Prop} {r : Sl} {l : List Nat} (h : Own H 5 1 r (l.map fun b : Nat => Value.int .u8 (b : Int))) (hl : ∀ b ∈ l, b < 256) (k : K (.string (strN l)) H) : runH Tryz.prog (convert 119 9 (.slice r.p r.n r.c)) H K :=
  runH_toString uBy uStr uByte (own_byts (by rw [strV_str hl]; exact h)) k
theorem int_spec {H : Heap} {K : Value → Heap → Prop} {n : Int} (hn : i64B n) (k : ∀ H', HL.Sub H H' → K (.string (strN (encN n))) H') : FnH Tryz.prog 87 #[.int .i64 n] H K := by
  apply wire_Int_fn
  unfold wire_Int_vc
  refine appendInt_spec (b := ⟨none, 0, 0⟩) (l := []) ((Holds.whole H).own_nil 5 1) (by decide) fun r H1 h1 n1 => ⟨r, rfl, ?_⟩
  have ho := h1.own 0 rfl
  rw [List.nil_append, encInt_eq hn, bv_nat] at ho
  exact toStr ho (encN_bytes n) ⟨_, rfl, k H1 (h1.sub 1 rfl)⟩
theorem rd_step {f i z : Nat} {b : Nat} {l : List Nat} (h : b < 256) : rd (f + 1) i z (b :: l) = (if i = 9 ∧ b > 1 then ((0 : Int), (0 : Int), (4 : Int)) else if b > 127 then rd f (i + 1) (z + b % 128 * 128 ^ i) l else if i > 0 ∧ b = 0 then (0, 0, 4) else (unzig (z + b % 128 * 128 ^ i), (i : Int) + 1, 0)) := rfl
abbrev trp (t : Int × Int × Int) : Value := .tuple #[.int .i64 t.1, .int .i64 t.2.1, .int .i64 t.2.2]
theorem digit {z b i : Nat} (hz : z < 128 ^ i) (hb : b < 256) (hi : i ≤ 9) (h9 : i = 9 → b ≤ 1) :
    orI .u64 (z : Int) (shlI .u64 (IntKind.wrap .u64 (andI .u8 (b : Int) 127)) (IntKind.wrap .i64 (7 * (i : Int)))) = ((z + b % 128 * 128 ^ i : Nat) : Int) ∧ z + b % 128 * 128 ^ i < 18446744073709551616 ∧ (i ≤ 8 → z + b % 128 * 128 ^ i < 128 ^ (i + 1)) := by
  have hp := pow_top hi
  have hpos : 0 < 128 ^ i := Nat.pow_pos (by decide)
  have hlt8 : i ≤ 8 → z + b % 128 * 128 ^ i < 128 ^ (i + 1) := fun h8 => by
    have h1 : b % 128 * 128 ^ i ≤ 127 * 128 ^ i := Nat.mul_le_mul_right _ (by omega)
    rw [Nat.pow_succ]; omega
  have hlt : z + b % 128 * 128 ^ i < 18446744073709551616 := by
    rcases Nat.lt_or_ge i 9 with q | q
    · have := hlt8 (by omega)
      have h3 : 128 ^ (i + 1) ≤ 128 ^ 9 := Nat.pow_le_pow_right (by decide) (by omega)
      have h4 : (128 : Nat) ^ 9 = 9223372036854775808 := by decide
      omega
    · have e : i = 9 := by omega
      subst e
      have h4 : (128 : Nat) ^ 9 = 9223372036854775808 := by decide
      have := h9 rfl
      rw [h4] at hz ⊢
      have : b % 128 = b := by omega
      rw [this]
      have : b * 9223372036854775808 ≤ 1 * 9223372036854775808 := Nat.mul_le_mul_right _ (by omega)
      omega
  refine ⟨?_, hlt, hlt8⟩
  rw [and_u8_127 hb, wrap_u64', wrap64_id (n := 7 * (i : Int)) (by omega) (by omega)]
  have e1 : ((b % 128 : Nat) : Int) % 18446744073709551616 = ((b % 128 : Nat) : Int) := by omega
  rw [e1]
  unfold shlI
  have e2 : IntKind.bits .u64 = 64 := rfl
  have e3 : min (7 * (i : Int)).toNat 64 = 7 * i := by omega
  rw [e2, e3]
  have e4 : (2 : Int) ^ (7 * i) = ((128 ^ i : Nat) : Int) := by
    rw [Int.pow_mul]; push_cast; rfl
  rw [e4, ← Int.natCast_mul, wrap_u64']
  have e5 : ((b % 128 * 128 ^ i : Nat) : Int) % 18446744073709551616 = ((b % 128 * 128 ^ i : Nat) : Int) := by omega
  rw [e5, or_u64 (by omega) (by omega)]
  congr 1
  have e6 : 128 ^ i = 2 ^ (7 * i) := by rw [Nat.pow_mul]
  rw [e6] at hz ⊢
  have := Nat.two_pow_add_eq_or_of_lt hz (b % 128)
  rw [Nat.or_comm, Nat.mul_comm (b % 128), ← this]; omega
theorem readInt_spec {b : ByteArray} {H : Heap} {K : Value → Heap → Prop} (k : K (trp (readN (nb b))) H) : FnH Tryz.prog 145 #[.string b] H K := by
  apply wire_ReadInt_fn
  unfold wire_ReadInt_vc
  refine ⟨fun z n H1 => H1 = H ∧ ∃ i y : Nat, n = i ∧ z = y ∧ i ≤ 10 ∧ i ≤ b.size ∧ (i ≤ 9 → y < 128 ^ i) ∧ rd (10 - i) i y ((nb b).drop i) = readN (nb b), fun _ n _ => (10 - n).toNat, ⟨rfl, 0, 0, rfl, rfl, by decide, Nat.zero_le _, fun _ => by decide, rfl⟩, ?_⟩
  rintro _ _ H1 ⟨rfl, i, z, rfl, rfl, hi, hib, hz, hrd⟩
  have fin : ∀ t : Int × Int × Int, rd (10 - i) i z ((nb b).drop i) = t → K (trp t) H1 := fun t ht => by rw [← ht, hrd]; exact k
  refine br_intro (fun q => ?_) (fun q => ?_)
  · have q := of_decide_eq_true q
    have hz := hz (by omega)
    obtain ⟨f, hf⟩ : ∃ f, 10 - i = f + 1 := ⟨9 - i, by omega⟩
    have hf2 : 10 - (i + 1) = f := by omega
    rw [hf] at fin hrd
    refine br_intro (fun q2 => ?_) (fun q2 => ?_)
    · have q2 : (i : Int) = b.size := by simpa using q2
      have e : (nb b).drop i = [] := List.drop_eq_nil_of_le (by rw [nb_len]; omega)
      rw [e] at fin
      exact fin (0, 0, 5) rfl
    have q2 : ¬ (i : Int) = b.size := by simpa using q2
    obtain ⟨c, e1, e2, e3⟩ := nb_get (s := b) (i := i) (by omega)
    have hlen : i < (nb b).length := by rw [nb_len]; omega
    have ed : (nb b).drop i = c.toNat :: (nb b).drop (i + 1) := by
      rw [List.drop_eq_getElem_cons hlen]
      congr 1
      rw [List.getElem?_eq_getElem hlen] at e2; exact Option.some.inj e2
    rw [ed] at fin hrd
    rw [rd_step e3] at fin hrd
    have ei : (i : Int).toNat = i := by omega
    have hn1 : IntKind.wrap .i64 ((i : Int) + 1) = ((i + 1 : Nat) : Int) := by rw [wrap64_id (by omega) (by omega)]; omega
    have sh : ∀ {p : Prop}, p → shG (decide (IntKind.wrap .i64 (7 * (i : Int)) < 0)) p := fun {p} hp => by
      rw [wrap64_id (by omega) (by omega), decide_eq_false (by omega)]; exact hp
    have body : (¬ (i = 9 ∧ c.toNat > 1)) → ∀ {p : Prop} (_ : (∀ z' : Nat, orI .u64 (z : Int) (shlI .u64 (IntKind.wrap .u64 (andI .u8 (c.toNat : Int) 127)) (IntKind.wrap .i64 (7 * (i : Int)))) = (z' : Int) → z' < 18446744073709551616 → z' = z + c.toNat % 128 * 128 ^ i → (i ≤ 8 → z' < 128 ^ (i + 1)) → p)), p := fun h9 {p} hp => by
      obtain ⟨d1, d2, d3⟩ := digit (z := z) (b := c.toNat) (i := i) hz e3 (by omega) (fun e => Nat.le_of_not_lt fun z => h9 ⟨e, z⟩)
      exact hp _ d1 d2 rfl d3
    refine br_intro (fun q9 => ?_) (fun q9 => ?_)
    all_goals
      first
        | (refine ⟨by omega, c, by rw [ei]; exact e1, br_intro (fun q1 => ?_) (fun q1 => ?_)⟩
           · have q9 : (i : Int) = 9 := by simpa using q9
             have q1 := of_decide_eq_true q1
             exact fin (0, 0, 4) (by rw [if_pos ⟨by omega, by omega⟩]))
        | skip
    all_goals
      have h9 : ¬ (i = 9 ∧ c.toNat > 1) := fun z => by
        first
          | (have q1 := of_decide_eq_false q1; omega)
          | (have q9 : ¬ (i : Int) = 9 := by simpa using q9
             omega)
      rw [if_neg h9] at fin hrd
      refine ⟨by omega, c, by rw [ei]; exact e1, sh ⟨by omega, c, by rw [ei]; exact e1, body h9 fun z' hz1 hz2 hz3 hz4 => ?_⟩⟩
      rw [hz1, hn1]
      refine br_intro (fun c1 => ?_) (fun c1 => ?_)
      · have c1 := of_decide_eq_true c1
        rw [if_pos (by omega)] at hrd
        exact ⟨rfl, ⟨rfl, i + 1, z', rfl, rfl, by omega, by omega, fun h => hz4 (by omega), by rw [hf2, hz3]; exact hrd⟩, by dsimp only; omega⟩
      · have c1 := of_decide_eq_false c1
        rw [if_neg (by omega)] at fin
        refine ⟨fun bb H2 => H2 = H1 ∧ bb = (decide (i > 0) && decide (c.toNat = 0)), br_intro (fun c2 => ⟨by omega, c, by rw [ei]; exact e1, rfl, rfl, ?_⟩) (fun c2 => ⟨rfl, rfl, ?_⟩), ?_⟩
        · have c2 := of_decide_eq_true c2
          rw [decide_eq_true (show i > 0 by omega), Bool.true_and]
          have : (((c.toNat : Nat) : Int) == 0) = decide (c.toNat = 0) := by
            by_cases z : c.toNat = 0
            · rw [decide_eq_true z, z]; rfl
            · rw [decide_eq_false z]; simpa using z
          exact this
        · have c2 := of_decide_eq_false c2
          rw [decide_eq_false (show ¬ i > 0 by omega)]; rfl
        rintro bb H2 ⟨rfl, hbb⟩
        refine br_intro (fun c3 => ?_) (fun c3 => ?_)
        · rw [c3] at hbb
          have hbb := hbb.symm
          simp only [Bool.and_eq_true, decide_eq_true_eq] at hbb
          exact fin (0, 0, 4) (by rw [if_pos hbb])
        · rw [c3] at hbb
          have hbb := hbb.symm
          simp only [Bool.and_eq_false_iff, decide_eq_false_iff_not] at hbb
          have hno : ¬ (i > 0 ∧ c.toNat = 0) := fun z => hbb.elim (fun y => y z.1) (fun y => y z.2)
          have := fin (unzig z', (i : Int) + 1, 0) (by rw [if_neg hno, hz3])
          rw [unzig_code hz2]
          exact this
  · have q := of_decide_eq_false q
    have e : 10 - i = 0 := by omega
    rw [e] at fin
    exact fin (0, 0, 4) rfl
theorem foldl_take {l : List Nat} {i : Nat} {b : Nat} (h : l[i]? = some b) (c : Nat) : (l.take (i + 1)).foldl byteC c = byteC ((l.take i).foldl byteC c) b := by
  obtain ⟨h1, h2⟩ := List.getElem?_eq_some_iff.1 h
  rw [List.take_succ_eq_append_getElem h1, h2, List.foldl_append]; rfl
theorem foldC_lt {l : List Nat} (h : ∀ b ∈ l, b < 256) : ∀ {c : Nat}, c < 4294967296 → l.foldl byteC c < 4294967296 := by
  induction l with
  | nil => intro c hc; exact hc
  | cons a l ih => intro c hc; exact ih (fun b hb => h b (List.mem_cons_of_mem _ hb)) (byteC_lt hc (h a List.mem_cons_self))
theorem crc_spec {b : ByteArray} {H : Heap} {K : Value → Heap → Prop} (hb : b.size ≤ 9223372036854775807) (k : K (.int .i64 (crcN (nb b))) H) : FnH Tryz.prog 100 #[.string b] H K := by
  apply wire_Crc_fn
  unfold wire_Crc_vc
  refine ⟨fun c n H1 => H1 = H ∧ 0 ≤ n ∧ n ≤ b.size ∧ c = (((nb b).take n.toNat).foldl byteC 4294967295 : Nat), fun _ n _ => (b.size - n).toNat, ⟨rfl, Int.le_refl _, by omega, rfl⟩, ?_⟩
  rintro _ n H1 ⟨rfl, n0, n1, rfl⟩
  have hlt : ((nb b).take n.toNat).foldl byteC 4294967295 < 4294967296 := foldC_lt (fun x hx => nb_byte b x (List.mem_of_mem_take hx)) (by decide)
  refine br_intro (fun q => ?_) (fun q => ?_)
  · have q := of_decide_eq_true q
    obtain ⟨c, e1, e2, e3⟩ := nb_get (s := b) (i := n.toNat) (by omega)
    have et := foldl_take e2 4294967295
    generalize ((nb b).take n.toNat).foldl byteC 4294967295 = cc at *
    have ew : IntKind.wrap .u32 ((c.toNat : Nat) : Int) = ((c.toNat : Nat) : Int) := by rw [wrap_u32]; omega
    have hx : cc ^^^ c.toNat < 4294967296 := Nat.xor_lt_two_pow (n := 32) (by omega) (by omega)
    refine ⟨n0, c, e1, ?_⟩
    rw [ew, xor_u32 hlt (by omega)]
    refine ⟨fun c2 m H2 => H2 = H1 ∧ 0 ≤ m ∧ m ≤ 8 ∧ c2 = (bitsC m.toNat (cc ^^^ c.toNat) : Nat), fun _ m _ => (8 - m).toNat, ⟨rfl, Int.le_refl _, by decide, rfl⟩, ?_⟩
    rintro _ m H2 ⟨rfl, m0, m1, rfl⟩
    refine br_intro (fun v => ?_) (fun v => ?_)
    · have v := of_decide_eq_true v
      rw [bit_code (bitsC_lt _ hx), wrap64_id (n := m + 1) (by omega) (by omega)]
      have em : (m + 1).toNat = m.toNat + 1 := by omega
      exact ⟨rfl, ⟨rfl, by omega, by omega, by rw [em, bitsC_snoc]⟩, by dsimp only; omega⟩
    · have v := of_decide_eq_false v
      have em : m.toNat = 8 := by omega
      rw [em, wrap64_id (n := n + 1) (by omega) (by omega)]
      have en : (n + 1).toNat = n.toNat + 1 := by omega
      exact ⟨rfl, ⟨rfl, by omega, by omega, by rw [en, et]; rfl⟩, by dsimp only; omega⟩
  · have q := of_decide_eq_false q
    have e : (nb b).take n.toNat = nb b := List.take_of_length_le (by rw [nb_len]; omega)
    rw [e] at hlt ⊢
    have e2 : xorI .u32 4294967295 (((nb b).foldl byteC 4294967295 : Nat) : Int) = ((crcN (nb b) : Nat) : Int) := by
      have := xor_u32 (a := 4294967295) (b := (nb b).foldl byteC 4294967295) (by decide) hlt
      unfold crcN
      rw [Nat.xor_comm]; exact this
    have hc : crcN (nb b) < 4294967296 := Nat.xor_lt_two_pow (n := 32) (by omega) (by decide)
    rw [e2, wrap64_id (by omega) (by omega)]; exact k
end Go.Proofs.YthldclmeojkboaaGreatDoor
namespace Go.Proofs.YthldclmeojkboaaGreatDoor
open Go Go.HL
set_option maxRecDepth 10000
set_option maxHeartbeats 1600000
abbrev byV (l : List Nat) : List Value := l.map fun b : Nat => Value.int .u8 (b : Int)
abbrev ownY (s : Sl) (l : List Nat) : Chunk := own 5 1 s (byV l)
theorem crcN_lt (l : List Nat) (hl : ∀ b ∈ l, b < 256) : crcN l < 4294967296 := Nat.xor_lt_two_pow (n := 32) (foldC_lt hl (by decide)) (by decide)
theorem shr_n (c : Nat) (k : Nat) (hk : k < 64) : shrI .i64 (c : Int) k = ((c / 2 ^ k : Nat) : Int) := by
  have e : shrI .i64 (c : Int) k = (c : Int).fdiv ((2 : Int) ^ k) := by
    have h2 : min k IntKind.i64.bits = k := Nat.min_eq_left (by have : IntKind.i64.bits = 64 := rfl; omega)
    unfold shrI; simp [h2]
  rw [e, Int.fdiv_eq_ediv_of_nonneg _ (by exact Int.le_of_lt (Int.pow_pos (by decide)))]
  simp
section
variable {cs : List Chunk} {H : Heap} {K : Value → Heap → Prop}
end
end Go.Proofs.YthldclmeojkboaaGreatDoor
namespace Go.Proofs.YthldclmeojkboaaGreatDoor
open Go Go.HL
def rest (l : List Nat) : List Nat := l.drop (readN l).2.1.toNat
def nx (s : ByteArray) : ByteArray := s.extract (readN (nb s)).2.1.toNat s.size
section
variable {cs : List Chunk} {H : Heap} {K : Value → Heap → Prop}
end
end Go.Proofs.YthldclmeojkboaaGreatDoor
namespace Go.Proofs.YthldclmeojkboaaGreatDoor
open Go Go.HL
set_option maxRecDepth 10000
set_option maxHeartbeats 1600000
def fourN (c : Nat) : List Nat := [c / 16777216 % 256, c / 65536 % 256, c / 256 % 256, c % 256]
theorem fourN_bytes (c : Nat) : ∀ b ∈ fourN c, b < 256 := by
  intro b hb
  simp only [fourN, List.mem_cons, List.not_mem_nil, or_false] at hb
  omega
section
variable {cs : List Chunk} {H : Heap} {K : Value → Heap → Prop}
end
end Go.Proofs.YthldclmeojkboaaGreatDoor
namespace Go.Proofs.YthldclmeojkboaaGreatDoor
open Go Go.HL
set_option maxRecDepth 10000
set_option maxHeartbeats 1600000
section
variable {cs : List Chunk} {H : Heap} {K : Value → Heap → Prop}
end
end Go.Proofs.YthldclmeojkboaaGreatDoor
namespace Go.Proofs.YthldclmeojkboaaGreatDoor
open Go Go.HL Go.RowKit Go.Maps Go.Shelf
set_option maxRecDepth 10000
set_option maxHeartbeats 800000
theorem sortsA (m : Nat) : AnyZ.SortsIn Tryz.prog Tryz.sortedA_ren Fence.wide m :=
  ⟨fun blk off cap ss W hH hblk hsz => callsIn_wide.2 (AnyM.slices_Sort_string Tryz.sortA blk off cap ss W hH hblk hsz),
   fun p cap W => callsIn_wide.2 (AnyM.slices_Sort_string_none Tryz.sortA p cap W)⟩
abbrev encS : ByteArray → Value := fun s => .string s
theorem keys_spec {cs : List Chunk} {H : Heap} {b : Nat} {K : Value → Heap → Prop} (h : HL.Holds cs H) (k : ∀ q H', HL.Holds (blk q (.cells #[.map (some b)] 102 (0, 0)) :: cs) H' → K (.func (.func 136) #[] #[.pointer (some ⟨q, 0, none⟩)]) H') :
    FnH Tryz.prog 83 #[.map (some b)] H K :=
  keys_fn (T := 102) (g := 136) (fun w => (callsIn_wide (n := 5)).1 (AnyZ.keys_in Tryz.keysA Fence.wide 5 trivial rfl (some b) w)) h k
theorem sorted_spec {cs : List Chunk} {H : Heap} {q b : Nat} {l : List (ByteArray × Value)} {K : Value → Heap → Prop} (h : HL.Holds (blk q (.cells #[.map (some b)] 102 (0, 0)) :: mp b encS l :: cs) H) (hn : (l.map Prod.fst).Nodup) (hlen : l.length ≤ 268435456)
    (hwf : ∀ x ∈ l.map Prod.fst, x.size ≤ 9223372036854775807)
    (k : ∀ (s : Sl) H', HL.Holds (HL.own 9 1 s ((((l.map Prod.fst).map fun x => x.data.toList).mergeSort fun x y => decide (x ≤ y)).map Go.Proofs.encStr) :: mp b encS l :: cs) H' → K (.slice s.p s.n s.c) H') :
    FnH Tryz.prog 82 #[.func (.func 136) #[] #[.pointer (some ⟨q, 0, none⟩)]] H K :=
  sortedStr_fn (g := 136) (kt := 9) (by kernel_rfl)
    (fun Bm b nn D0 w hBm hm hown => AnyZ.keys_gives (ρ := Tryz.keysA_ren) { Tryz.keysA with } Fence.wide _ trivial rfl (by omega) Bm b nn D0 w hBm hm hown)
    (fun lb S N w hN hNb hseq => (callsIn_wide (n := 5)).1 (AnyZ.sorted_in Tryz.sortedA Fence.wide 5 trivial trivial trivial trivial rfl (by omega) (sortsA _) (enters_of Tryz.func135 (by kernel_rfl) rfl) 136 lb trivial (enters_of Tryz.func136 (by kernel_rfl) rfl) S N hN hNb w hseq))
    h hn hlen hwf k
theorem trim_fn {s cutset : ByteArray} {H : Heap} {K : Value → Heap → Prop} (hs : s.size ≤ 9223372036854775807) (hcs : cutset.size < 4294967281) (ha : ∀ (j : Nat) (b : UInt8), cutset.data.toList[j]? = some b → b.toNat < 128)
    (k : K (.string ⟨(Lib.trimS s.data.toList cutset.data.toList).toArray⟩) H) : FnH Tryz.prog 178 #[.string s, .string cutset] H K :=
  FnH.of_below (fun w => Any.strings_Trim_laid Tryz.lays160 (by kernel_rfl) s cutset w hs hcs ha) k
theorem dropWhile_all {α : Type} {p : α → Bool} : ∀ {l : List α}, l.dropWhile p = [] ↔ ∀ a ∈ l, p a = true := by
  intro l
  induction l with
  | nil => simp
  | cons a l ih =>
    rw [List.dropWhile_cons]
    split
    · rename_i q; rw [ih]; simp [q]
    · rename_i q; simp [q]
theorem dropWhile_first {α : Type} {p : α → Bool} : ∀ {l : List α} {a : α} {t : List α}, l.dropWhile p = a :: t → p a = false := by
  intro l
  induction l with
  | nil => intro a t h; simp at h
  | cons b l ih =>
    intro a t h
    rw [List.dropWhile_cons] at h
    split at h
    · exact ih h
    · rename_i q
      simp only [List.cons.injEq] at h
      rw [← h.1]; simpa using q
theorem trim_nil {l cs : List UInt8} : Lib.trimS l cs = [] ↔ (l.all fun b => cs.contains b) = true := by
  unfold Lib.trimS Lib.trimLeftS Lib.trimRightS
  rw [dropWhile_all, List.all_eq_true]
  constructor
  · intro h
    have h1 : (l.reverse.dropWhile fun x => cs.contains x) = [] := by
      cases e : l.reverse.dropWhile fun x => cs.contains x with
      | nil => rfl
      | cons a t =>
        have := h a (by rw [e]; simp)
        have h2 : cs.contains a = false := by
          exact dropWhile_first e
        rw [h2] at this; cases this
    have := dropWhile_all.1 h1
    intro a ha
    exact this a (by simpa using ha)
  · intro h
    have : (l.reverse.dropWhile fun x => cs.contains x) = [] := dropWhile_all.2 fun a ha => h a (by simpa using ha)
    rw [this]; simp
theorem bytes_nil (s : ByteArray) : (s.toList == (⟨#[]⟩ : ByteArray).toList) = decide (s.size = 0) := by
  rw [ByteArray.toList_eq, ByteArray.toList_eq]
  have : s.size = s.data.toList.length := (Array.length_toList).symm
  have e2 : (⟨#[]⟩ : ByteArray).data.toList = [] := rfl
  rw [this, e2]
  cases s.data.toList with
  | nil => rfl
  | cons a l => rw [decide_eq_false (by simp)]; rfl
def nameCut : List UInt8 := [97, 98, 99, 100, 101, 102, 103, 104, 105, 106, 107, 108, 109, 110, 111, 112, 113, 114, 115, 116, 117, 118, 119, 120, 121, 122, 48, 49, 50, 51, 52, 53, 54, 55, 56, 57, 45, 46]
def namedB (s : ByteArray) : Bool := decide (s.size ≠ 0) && decide (s.size ≤ 64) && s.data.toList.all fun b => nameCut.contains b
theorem named_spec {s : ByteArray} {H : Heap} {K : Value → Heap → Prop} (k : K (.bool (namedB s)) H) : FnH Tryz.prog 161 #[.string s] H K := by
  apply disk_named_fn
  unfold disk_named_vc
  rw [bytes_nil]
  unfold namedB at k
  refine br_intro (fun q => br_intro (fun q2 => ?_) (fun q2 => ?_)) (fun q => ?_)
  · have q : ¬ s.size = 0 := by simpa using q
    have q2 := of_decide_eq_true q2
    rw [decide_eq_true q, decide_eq_true (show s.size ≤ 64 by omega)] at k
    refine trim_fn (by omega) (by decide) (fun j b hj => ?_) ⟨_, rfl, ?_⟩
    · have hm := List.mem_of_getElem? hj
      have : ∀ b ∈ nameCut, b.toNat < 128 := by decide
      exact this b hm
    · rw [bytes_nil]
      have e : ((⟨(Lib.trimS s.data.toList nameCut).toArray⟩ : ByteArray).size = 0) ↔ (s.data.toList.all fun b => nameCut.contains b) = true := by
        rw [← trim_nil]
        show ((Lib.trimS s.data.toList nameCut).toArray.size = 0) ↔ _
        simp
      have e2 : decide ((⟨(Lib.trimS s.data.toList nameCut).toArray⟩ : ByteArray).size = 0) = (s.data.toList.all fun b => nameCut.contains b) := by
        rw [Bool.eq_iff_iff, decide_eq_true_eq]; exact e
      show K (.bool (decide ((⟨(Lib.trimS s.data.toList nameCut).toArray⟩ : ByteArray).size = 0))) H
      rw [e2]
      simpa using k
  · have q2 := of_decide_eq_false q2
    rw [decide_eq_false (show ¬ s.size ≤ 64 by omega)] at k; simpa using k
  · have q : s.size = 0 := by simpa using q
    rw [decide_eq_false (show ¬ s.size ≠ 0 by simp [q])] at k; simpa using k
theorem namedB_size {s : ByteArray} (h : namedB s = true) : s.size ≤ 64 := by
  unfold namedB at h
  simp only [Bool.and_eq_true, decide_eq_true_eq] at h
  exact h.1.2
def ltB (x y : ByteArray) : Bool := Op.bytesLess x.toList y.toList
theorem ltB_iff {x y : ByteArray} : ltB x y = true ↔ x.data.toList < y.data.toList := by
  unfold ltB
  rw [Go.Proofs.bytesLess_eq, ByteArray.toList_eq, ByteArray.toList_eq, decide_eq_true_eq]
theorem ltB_ok : LtOK ltB where
  irr a := by
    cases e : ltB a a with
    | false => rfl
    | true => exact absurd (ltB_iff.1 e) (List.lt_irrefl _)
  trans a b c h1 h2 := ltB_iff.2 (List.lt_trans (ltB_iff.1 h1) (ltB_iff.1 h2))
  tri a b h := by
    by_cases q : ltB a b = true
    · exact .inl q
    · right
      refine ltB_iff.2 ?_
      have h1 : ¬ a.data.toList < b.data.toList := fun z => q (ltB_iff.2 z)
      have h2 : b.data.toList ≤ a.data.toList := List.not_lt.1 h1
      rcases List.le_iff_lt_or_eq.1 h2 with z | z
      · exact z
      · exact absurd (Go.WideShapes.bytes_inj z).symm h
abbrev Fi := ByteArray × Int
abbrev Fs := List (ByteArray × Fi)
abbrev fiV (f : Fi) : Value := .agg #[.string f.1, .int .i64 f.2]
abbrev fmap (fs : Fs) : List (ByteArray × Value) := fs.map fun p => (p.1, fiV p.2)
def f0 : Fi := (⟨#[]⟩, 0)
def useF (F : Fs) : Int := sumL (fun f : Fi => (f.1.size : Int)) F
abbrev getF (F : Fs) (n : ByteArray) : Fi := (lookL F n).getD f0
structure DkB (size : Int) (F : Fs) : Prop where
  s0 : 1 ≤ size
  s1 : size ≤ 16777216
  sorted : SortedL ltB F
  use : useF F ≤ size
  few : F.length ≤ 256
  names : ∀ p ∈ F, namedB p.1 = true
  safe : ∀ p ∈ F, 0 ≤ p.2.2 ∧ p.2.2 ≤ p.2.1.size
def dsk (d : Nat) (size : Int) (F : Fs) : Chunk := fun H => ∃ q : Nat × Fs, (DkB size F ∧ q.2.Perm F) ∧ HL.Holds [blk d (.cells #[.int .i64 size, .int .i64 (useF F), .map (some q.1)] 104 (0, 0)), mp q.1 encS (fmap q.2)] H
theorem dsk_mono {d : Nat} {size : Int} {F : Fs} : Mono (dsk d size F) := fun _ _ hs ⟨q, e, h⟩ => ⟨q, e, h.up hs⟩
theorem dsk_open {cs : List Chunk} {H : Heap} {d : Nat} {size : Int} {F : Fs} : HL.Holds (dsk d size F :: cs) H ↔ ∃ mb fs, (DkB size F ∧ List.Perm fs F) ∧ HL.Holds (blk d (.cells #[.int .i64 size, .int .i64 (useF F), .map (some mb)] 104 (0, 0)) :: mp mb encS (fmap fs) :: cs) H := by
  constructor
  · intro h
    obtain ⟨q, h⟩ := Holds.ex.1 h
    obtain ⟨e, h⟩ := Holds.pure.1 h
    exact ⟨q.1, q.2, e, Holds.flat.1 h⟩
  · rintro ⟨mb, ps, e, h⟩
    exact Holds.ex.2 ⟨(mb, ps), Holds.pure.2 ⟨e, Holds.flat.2 h⟩⟩
theorem look_fmap {fs : Fs} {n : ByteArray} : lookL (fmap fs) n = (lookL fs n).map fiV := lookL_map (f := fiV)
theorem useF_cons (a : ByteArray × Fi) (F : Fs) : useF (a :: F) = (a.2.1.size : Int) + useF F := by simp [useF, sumL]
theorem useF_nonneg (F : Fs) : 0 ≤ useF F := by
  induction F with
  | nil => exact Int.le_refl _
  | cons p F ih => rw [useF_cons]; omega
theorem useF_le {F : Fs} {p : ByteArray × Fi} (h : p ∈ F) : (p.2.1.size : Int) ≤ useF F := by
  induction F with
  | nil => simp at h
  | cons a F ih =>
    have h0 := useF_nonneg F
    rw [useF_cons]
    rcases List.mem_cons.1 h with q | q
    · subst q; omega
    · have := ih q; omega
theorem useF_ins {F : Fs} (hs : SortedL ltB F) (n : ByteArray) (f : Fi) : useF (insL ltB F n f) = useF F - (getF F n).1.size + f.1.size := by
  have := sumL_ins ltB_ok (f := fun f : Fi => (f.1.size : Int)) hs (k := n) (v := f) (d := f0) rfl
  unfold useF; rw [this]
theorem useF_del {F : Fs} (hs : SortedL ltB F) (n : ByteArray) : useF (delL F n) = useF F - (getF F n).1.size := by
  have := sumL_del (f := fun f : Fi => (f.1.size : Int)) (hs.nodup ltB_ok) (k := n) (d := f0) rfl
  unfold useF; rw [this]
theorem getF_mem {F : Fs} {n : ByteArray} {f : Fi} (h : lookL F n = some f) : (n, f) ∈ F := by
  obtain ⟨i, hi⟩ := lookL_idx h
  exact List.mem_of_getElem? (idxL_get hi)
theorem DkB.get {size : Int} {F : Fs} (h : DkB size F) (n : ByteArray) : ((getF F n).1.size : Int) ≤ useF F ∧ 0 ≤ (getF F n).2 ∧ (getF F n).2 ≤ (getF F n).1.size := by
  have h0 := useF_nonneg F
  unfold getF
  cases e : lookL F n with
  | none => exact ⟨h0, Int.le_refl _, Int.le_refl _⟩
  | some f => exact ⟨useF_le (getF_mem e), h.safe _ (getF_mem e)⟩
theorem isN_of {α : Type} {o : Option α} (h : (!o.isSome) = true) : o = none := by cases o <;> simp_all
theorem isS_of {α : Type} {o : Option α} (h : (!o.isSome) = false) : ¬ o = none := by cases o <;> simp_all
theorem uDkMap : Tryz.prog.underlying 102 = some (.map 9 101) := by kernel_rfl
theorem kstr : KeyOK Tryz.prog 9 encS := KeyOK.str (by kernel_rfl)
theorem zDkFile : zeroT Tryz.prog 101 = some (fiV f0) := by kernel_rfl
theorem getV {F fs : Fs} (hp : List.Perm fs F) (hn : (F.map Prod.fst).Nodup) (n : ByteArray) : (lookL (fmap fs) n).getD (fiV f0) = fiV (getF F n) := by
  rw [look_fmap, look_perm hp ((hp.map Prod.fst).nodup_iff.2 hn)]
  unfold getF
  cases lookL F n <;> rfl
theorem hasV {F fs : Fs} (hp : List.Perm fs F) (hn : (F.map Prod.fst).Nodup) (n : ByteArray) : (lookL (fmap fs) n).isSome = (lookL F n).isSome := by
  rw [look_fmap, look_perm hp ((hp.map Prod.fst).nodup_iff.2 hn)]
  cases lookL F n <;> rfl
theorem free_spec {cs : List Chunk} {H : Heap} {d : Nat} {size : Int} {F : Fs} {i : Nat} {K : Value → Heap → Prop} (h : HL.Holds cs H) (ei : cs[i]? = some (dsk d size F)) (k : K (.int .i64 (size - useF F)) H) : FnH Tryz.prog 138 #[.pointer (some ⟨d, 0, none⟩)] H K := by
  apply disk_Disk_Free_fn
  unfold disk_Disk_Free_vc
  obtain ⟨⟨mb, fs⟩, ⟨hB, hp⟩, hh⟩ := h.read i ei dsk_mono
  refine ⟨size, hh.cell 0 rfl rfl, _, hh.cell 0 rfl rfl, ?_⟩
  have h0 := useF_nonneg F
  have := hB.use; have := hB.s1
  rw [wrap64_id (by omega) (by omega)]; exact k
end Go.Proofs.YthldclmeojkboaaGreatDoor
namespace Go.Proofs.YthldclmeojkboaaGreatDoor
open Go Go.HL
set_option maxRecDepth 10000
set_option maxHeartbeats 800000
section
variable {cs : List Chunk} {H : Heap} {d : Nat} {size : Int} {F : Fs} {K : Value → Heap → Prop} {n b : ByteArray}
theorem put_spec {f : Fi} (h : Holds (dsk d size F :: cs) H) (hb : DkB size (insL ltB F n f)) (k : ∀ H', Holds (dsk d size (insL ltB F n f) :: cs) H' → K (.tuple #[]) H') :
    FnH Tryz.prog 41 #[.pointer (some ⟨d, 0, none⟩), .string n, fiV f] H K := by
  apply disk_Disk_put_fn
  unfold disk_Disk_put_vc
  obtain ⟨mb, fs, ⟨hB, hp⟩, h⟩ := dsk_open.1 h
  have hn := hB.sorted.nodup ltB_ok
  refine ⟨_, h.cell 0 rfl rfl, some mb, h.cell 0 rfl rfl, runH_lookup1 uDkMap kstr zDkFile (h.map 1 rfl) (k := n) ?_⟩
  rw [getV hp hn]
  have g := hB.get n
  have h0 := useF_nonneg F
  have h1 := hB.use; have h2 := hB.s1
  have eu := useF_ins hB.sorted n f
  have h3 := hb.use
  have h4 := useF_nonneg (insL ltB F n f)
  refine ⟨_, _, rfl, HL.Sub.refl _, ?_⟩
  rw [wrap64_id (n := (f.1.size : Int) - ((getF F n).1.size : Int)) (by omega) (by omega), wrap64_id (by omega) (by omega)]
  have e1 : useF F + ((f.1.size : Int) - ((getF F n).1.size : Int)) = useF (insL ltB F n f) := by omega
  rw [e1]
  refine Holds.store h 0 rfl (by simp) fun H1 h1 => ⟨some mb, h1.cell 0 rfl rfl, Holds.update h1 1 rfl uDkMap kstr fun H2 h2 => k H2 (dsk_open.2 ⟨mb, putL fs n f, ⟨hb, put_ins ltB_ok hp hB.sorted n f⟩, ?_⟩)⟩
  have e2 : fmap (putL fs n f) = putL (fmap fs) n (fiV f) := (putL_map (f := fiV)).symm
  rw [e2]; exact h2
def roomC (F : Fs) (n : ByteArray) : Int := if namedB n = false then 1 else if lookL F n = none ∧ F.length ≥ 256 then 3 else 0
theorem room_spec {i : Nat} (h : Holds cs H) (ei : cs[i]? = some (dsk d size F)) (k : K (.int .i64 (roomC F n)) H) : FnH Tryz.prog 137 #[.pointer (some ⟨d, 0, none⟩), .string n] H K := by
  apply disk_Disk_room_fn
  unfold disk_Disk_room_vc
  obtain ⟨⟨mb, fs⟩, ⟨hB, hp⟩, hh⟩ := h.read i ei dsk_mono
  have hn := hB.sorted.nodup ltB_ok
  unfold roomC at k
  refine named_spec ⟨_, rfl, br_intro (fun q => ?_) (fun q => ?_)⟩
  · rw [if_pos (by simpa using q)] at k; exact k
  rw [if_neg (by simpa using q)] at k
  refine ⟨some mb, hh.cell 0 rfl rfl, runH_lookup uDkMap kstr zDkFile (hh.map 1 rfl) (k := n) ?_⟩
  rw [getV hp hn, hasV hp hn]
  refine ⟨_, _, _, rfl, br_intro (fun q2 => ?_) (fun q2 => ?_)⟩
  · have q2 : lookL F n = none := isN_of q2
    refine ⟨some mb, hh.cell 0 rfl rfl, Holds.lenM hh 1 rfl ?_⟩
    have el : (fmap fs).length = F.length := by rw [List.length_map]; exact hp.length_eq
    rw [el]
    refine br_intro (fun q3 => ?_) (fun q3 => ?_)
    · have q3 := of_decide_eq_true q3
      rw [if_pos ⟨q2, by omega⟩] at k; exact k
    · have q3 := of_decide_eq_false q3
      rw [if_neg (fun z => by omega)] at k; exact k
  · have q2 : ¬ lookL F n = none := isS_of q2
    rw [if_neg (fun z => q2 z.1)] at k; exact k
theorem read_spec {i : Nat} (h : Holds cs H) (ei : cs[i]? = some (dsk d size F)) (k : K (.tuple #[.string (getF F n).1, .int .i64 (if lookL F n = none then 8 else 0)]) H) : FnH Tryz.prog 62 #[.pointer (some ⟨d, 0, none⟩), .string n] H K := by
  apply disk_Disk_Read_fn
  unfold disk_Disk_Read_vc
  obtain ⟨⟨mb, fs⟩, ⟨hB, hp⟩, hh⟩ := h.read i ei dsk_mono
  have hn := hB.sorted.nodup ltB_ok
  refine ⟨some mb, hh.cell 0 rfl rfl, runH_lookup uDkMap kstr zDkFile (hh.map 1 rfl) (k := n) ?_⟩
  rw [getV hp hn, hasV hp hn]
  refine ⟨_, _, _, rfl, br_intro (fun q => ?_) (fun q => ?_)⟩
  · have q : lookL F n = none := isN_of q
    unfold getF at k
    rw [if_pos q, q] at k; exact k
  · have q : ¬ lookL F n = none := isS_of q
    rw [if_neg q] at k; exact k
theorem size_spec {i : Nat} (h : Holds cs H) (ei : cs[i]? = some (dsk d size F)) (k : K (.int .i64 (getF F n).1.size) H) : FnH Tryz.prog 139 #[.pointer (some ⟨d, 0, none⟩), .string n] H K := by
  apply disk_Disk_Size_fn
  unfold disk_Disk_Size_vc
  obtain ⟨⟨mb, fs⟩, ⟨hB, hp⟩, hh⟩ := h.read i ei dsk_mono
  refine ⟨some mb, hh.cell 0 rfl rfl, runH_lookup1 uDkMap kstr zDkFile (hh.map 1 rfl) (k := n) ?_⟩
  rw [getV hp (hB.sorted.nodup ltB_ok)]
  exact ⟨_, _, rfl, k⟩
theorem dnew_spec (h : Holds cs H) (k0 : (size < 1 ∨ size > 16777216) → K (.tuple #[.pointer none, .int .i64 1]) H) (k : 1 ≤ size → size ≤ 16777216 → ∀ d H', Holds (dsk d size [] :: cs) H' → K (.tuple #[.pointer (some ⟨d, 0, none⟩), .int .i64 0]) H') : FnH Tryz.prog 24 #[.int .i64 size] H K := by
  apply disk_New_fn
  unfold disk_New_vc
  refine br_intro (fun q => k0 (.inl (of_decide_eq_true q))) (fun q => br_intro (fun q2 => k0 (.inr (of_decide_eq_true q2))) (fun q2 => ?_))
  have q := of_decide_eq_false q
  have q2 := of_decide_eq_false q2
  refine h.newMap encS fun mb H1 h1 => h1.new fun d H2 h2 => k (by omega) (by omega) d H2 (dsk_open.2 ⟨mb, [], ⟨⟨by omega, by omega, List.Pairwise.nil, ?_, by simp, by simp, by simp⟩, List.Perm.refl _⟩, h2⟩)
  show (0 : Int) ≤ size
  omega
theorem DkB.ins (hB : DkB size F) {f : Fi} (hn : namedB n = true) (hlen : lookL F n = none → F.length < 256) (hu : useF F - (getF F n).1.size + f.1.size ≤ size) (hs : 0 ≤ f.2 ∧ f.2 ≤ f.1.size) : DkB size (insL ltB F n f) := by
  refine ⟨hB.s0, hB.s1, insL_sorted ltB_ok hB.sorted, by rw [useF_ins hB.sorted]; exact hu, ?_, fun p hp => ?_, fun p hp => ?_⟩
  · have hp := (insL_perm ltB_ok hB.sorted (k := n) (v := f)).length_eq
    rw [List.length_cons] at hp
    cases e : lookL F n with
    | none =>
      have := hlen e
      have h2 : (delL F n).length ≤ F.length := delL_sub.length_le
      omega
    | some v =>
      have : (delL F n).length < F.length := by
        obtain ⟨i, hi⟩ := lookL_idx e
        rw [delL_erase hi]
        have := (List.getElem?_eq_some_iff.1 (idxL_get hi)).1
        rw [List.length_eraseIdx]; split <;> omega
      have := hB.few
      omega
  · rcases insL_keys hp with e | e
    · rw [e]; exact hn
    · exact hB.names p e
  · rcases insL_keys hp with e | e
    · rw [e]; exact hs
    · exact hB.safe p e
theorem DkB.del (hB : DkB size F) : DkB size (delL F n) :=
  ⟨hB.s0, hB.s1, delL_sorted hB.sorted, by rw [useF_del hB.sorted]; have := hB.use; omega, Nat.le_trans delL_sub.length_le hB.few, fun p hp => hB.names p (delL_sub.subset hp), fun p hp => hB.safe p (delL_sub.subset hp)⟩
theorem DkB.named (hB : DkB size F) {f : Fi} (h : lookL F n = some f) : namedB n = true := hB.names _ (getF_mem h)
theorem roomC_ok (h : roomC F n = 0) : namedB n = true ∧ (lookL F n = none → F.length < 256) := by
  unfold roomC at h
  split at h
  · cases h
  · rename_i q
    split at h
    · cases h
    · rename_i q2
      refine ⟨by simpa using q, fun e => ?_⟩
      have : ¬ F.length ≥ 256 := fun z => q2 ⟨e, z⟩
      omega
def fitN (size : Int) (F : Fs) (b : ByteArray) : Int := if size - useF F < b.size then size - useF F else b.size
def appF (size : Int) (F : Fs) (n b : ByteArray) : Fi := ((getF F n).1 ++ b.extract 0 (fitN size F b).toNat, (getF F n).2)
def appC (size : Int) (F : Fs) (n b : ByteArray) : Int := if roomC F n ≠ 0 then roomC F n else if fitN size F b < b.size then 7 else 0
def appM (size : Int) (F : Fs) (n b : ByteArray) : Fs := if roomC F n ≠ 0 then F else insL ltB F n (appF size F n b)
theorem fitN_in (hB : DkB size F) (b : ByteArray) : 0 ≤ fitN size F b ∧ fitN size F b ≤ b.size ∧ fitN size F b ≤ size - useF F := by
  have := hB.use
  unfold fitN
  split <;> omega
theorem ext_size {b : ByteArray} {m : Nat} (h : m ≤ b.size) : (b.extract 0 m).size = m := by
  rw [ByteArray.size_extract]; omega
theorem app_ok (hB : DkB size F) (h : roomC F n = 0) : DkB size (insL ltB F n (appF size F n b)) := by
  obtain ⟨h1, h2⟩ := roomC_ok h
  obtain ⟨f1, f2, f3⟩ := fitN_in hB b
  have g := hB.get n
  have es : ((appF size F n b).1.size : Int) = (getF F n).1.size + fitN size F b := by
    unfold appF
    rw [ByteArray.size_append, ext_size (by omega)]; omega
  refine hB.ins h1 h2 (by omega) ⟨g.2.1, ?_⟩
  have : (appF size F n b).2 = (getF F n).2 := rfl
  omega
theorem append_spec (h : Holds (dsk d size F :: cs) H) (hb : b.size ≤ 9223372036854775807) (k : ∀ H', Holds (dsk d size (appM size F n b) :: cs) H' → K (.int .i64 (appC size F n b)) H') : FnH Tryz.prog 143 #[.pointer (some ⟨d, 0, none⟩), .string n, .string b] H K := by
  apply disk_Disk_Append_fn
  unfold disk_Disk_Append_vc
  obtain ⟨mb, fs, ⟨hB, hp⟩, h'⟩ := dsk_open.1 h
  have hn := hB.sorted.nodup ltB_ok
  unfold appC appM at k
  refine room_spec (i := 0) h rfl ⟨_, rfl, br_intro (fun q => ?_) (fun q => ?_)⟩
  · have q : roomC F n ≠ 0 := by simpa using q
    rw [if_pos q, if_pos q] at k; exact k H h
  have q : roomC F n = 0 := by simpa using q
  rw [if_neg (fun z => z q), if_neg (fun z => z q)] at k
  refine ⟨some mb, h'.cell 0 rfl rfl, runH_lookup1 uDkMap kstr zDkFile (h'.map 1 rfl) (k := n) ?_⟩
  rw [getV hp hn]
  refine ⟨_, _, rfl, free_spec (i := 0) h rfl ⟨_, rfl, ?_⟩⟩
  have ef : (if size - useF F < (b.size : Int) then size - useF F else (b.size : Int)) = fitN size F b := rfl
  rw [ef]
  obtain ⟨f1, f2, f3⟩ := fitN_in hB b
  have g := hB.get n
  have := hB.use; have := hB.s1
  have hs := hB.s1
  refine ⟨f1, f2, ?_, put_spec (f := appF size F n b) h (app_ok hB q) fun H1 h1 => ⟨rfl, br_intro (fun q2 => ?_) (fun q2 => ?_)⟩⟩
  · have : (b.extract (Int.toNat 0) (Int.toNat (fitN size F b))).size = (fitN size F b).toNat := ext_size (by omega)
    rw [this]; omega
  · rw [if_pos (of_decide_eq_true q2)] at k; exact k H1 h1
  · rw [if_neg (of_decide_eq_false q2)] at k; exact k H1 h1
def synM (F : Fs) (n : ByteArray) : Fs := if lookL F n = none then F else insL ltB F n ((getF F n).1, ((getF F n).1.size : Int))
theorem sync_spec (h : Holds (dsk d size F :: cs) H) (k : ∀ H', Holds (dsk d size (synM F n) :: cs) H' → K (.int .i64 (if lookL F n = none then 8 else 0)) H') : FnH Tryz.prog 144 #[.pointer (some ⟨d, 0, none⟩), .string n] H K := by
  apply disk_Disk_Sync_fn
  unfold disk_Disk_Sync_vc
  obtain ⟨mb, fs, ⟨hB, hp⟩, h'⟩ := dsk_open.1 h
  have hn := hB.sorted.nodup ltB_ok
  refine ⟨some mb, h'.cell 0 rfl rfl, runH_lookup uDkMap kstr zDkFile (h'.map 1 rfl) (k := n) ?_⟩
  rw [getV hp hn, hasV hp hn]
  unfold synM at k
  refine ⟨_, _, _, rfl, br_intro (fun q => ?_) (fun q => ?_)⟩
  · have q : lookL F n = none := isN_of q
    rw [if_pos q, if_pos q] at k; exact k H h
  · have q : ¬ lookL F n = none := isS_of q
    rw [if_neg q, if_neg q] at k
    obtain ⟨f, hf⟩ := Option.ne_none_iff_exists'.1 q
    have := hB.use
    exact put_spec (f := ((getF F n).1, ((getF F n).1.size : Int))) h (hB.ins (hB.named hf) (fun e => absurd e q) (by dsimp only; omega) ⟨by dsimp only; omega, Int.le_refl _⟩) fun H1 h1 => ⟨rfl, k H1 h1⟩
def cutC (F : Fs) (n : ByteArray) (m : Int) : Int := if lookL F n = none then 8 else if m < 0 ∨ m > (getF F n).1.size then 1 else 0
def cutM (F : Fs) (n : ByteArray) (m : Int) : Fs := if cutC F n m ≠ 0 then F else insL ltB F n ((getF F n).1.extract 0 m.toNat, if m < (getF F n).2 then m else (getF F n).2)
theorem cut_spec {m : Int} (h : Holds (dsk d size F :: cs) H) (k : ∀ H', Holds (dsk d size (cutM F n m) :: cs) H' → K (.int .i64 (cutC F n m)) H') : FnH Tryz.prog 102 #[.pointer (some ⟨d, 0, none⟩), .string n, .int .i64 m] H K := by
  apply disk_Disk_Cut_fn
  unfold disk_Disk_Cut_vc
  obtain ⟨mb, fs, ⟨hB, hp⟩, h'⟩ := dsk_open.1 h
  have hn := hB.sorted.nodup ltB_ok
  refine ⟨some mb, h'.cell 0 rfl rfl, runH_lookup uDkMap kstr zDkFile (h'.map 1 rfl) (k := n) ?_⟩
  rw [getV hp hn, hasV hp hn]
  have bad : ∀ c : Int, c ≠ 0 → cutC F n m = c → K (.int .i64 c) H := fun c c0 e => by
    have k := k H (by unfold cutM; rw [if_pos (by rw [e]; exact c0)]; exact h)
    rw [e] at k; exact k
  refine ⟨_, _, _, rfl, br_intro (fun q => ?_) (fun q => br_intro (fun q2 => ?_) (fun q2 => br_intro (fun q3 => ?_) (fun q3 => ?_)))⟩
  · have q : lookL F n = none := isN_of q
    exact bad 8 (by decide) (by unfold cutC; rw [if_pos q])
  · have q : ¬ lookL F n = none := isS_of q
    exact bad 1 (by decide) (by unfold cutC; rw [if_neg q, if_pos (.inl (of_decide_eq_true q2))])
  · have q : ¬ lookL F n = none := isS_of q
    exact bad 1 (by decide) (by unfold cutC; rw [if_neg q, if_pos (.inr (of_decide_eq_true q3))])
  · have q : ¬ lookL F n = none := isS_of q
    have q2 := of_decide_eq_false q2
    have q3 := of_decide_eq_false q3
    have e : cutC F n m = 0 := by unfold cutC; rw [if_neg q, if_neg (fun z => z.elim q2 q3)]
    unfold cutM at k
    rw [e, if_neg (fun z => z rfl)] at k
    obtain ⟨f, hf⟩ := Option.ne_none_iff_exists'.1 q
    have := hB.use
    have g := hB.get n
    have es : ((getF F n).1.extract 0 m.toNat).size = m.toNat := ext_size (by omega)
    refine ⟨by omega, by omega, put_spec (f := ((getF F n).1.extract 0 m.toNat, if m < (getF F n).2 then m else (getF F n).2)) h (hB.ins (hB.named hf) (fun e => absurd e q) ?_ ?_) fun H1 h1 => ⟨rfl, k H1 h1⟩⟩
    · dsimp only; rw [es]; omega
    · dsimp only; rw [es]; split <;> omega
def repC (size : Int) (F : Fs) (n b : ByteArray) : Int := if roomC F n ≠ 0 then roomC F n else if (b.size : Int) > size - useF F + (getF F n).1.size then 7 else 0
def repM (size : Int) (F : Fs) (n b : ByteArray) : Fs := if repC size F n b ≠ 0 then F else insL ltB F n (b, (b.size : Int))
theorem replace_spec (h : Holds (dsk d size F :: cs) H) (k : ∀ H', Holds (dsk d size (repM size F n b) :: cs) H' → K (.int .i64 (repC size F n b)) H') : FnH Tryz.prog 85 #[.pointer (some ⟨d, 0, none⟩), .string n, .string b] H K := by
  apply disk_Disk_Replace_fn
  unfold disk_Disk_Replace_vc
  obtain ⟨mb, fs, ⟨hB, hp⟩, h'⟩ := dsk_open.1 h
  have bad : repC size F n b ≠ 0 → K (.int .i64 (repC size F n b)) H := fun c0 => k H (by unfold repM; rw [if_pos c0]; exact h)
  have er : roomC F n ≠ 0 → repC size F n b = roomC F n := fun q => by unfold repC; rw [if_pos q]
  refine room_spec (i := 0) h rfl ⟨_, rfl, br_intro (fun q => ?_) (fun q => ?_)⟩
  · have q : roomC F n ≠ 0 := by simpa using q
    have bad := bad (by rw [er q]; exact q)
    rw [er q] at bad; exact bad
  have q : roomC F n = 0 := by simpa using q
  obtain ⟨h1, h2⟩ := roomC_ok q
  have := hB.use; have := hB.s1; have := useF_nonneg F
  have g := hB.get n
  refine free_spec (i := 0) h rfl ⟨_, rfl, size_spec (i := 0) h rfl ⟨_, rfl, ?_⟩⟩
  rw [wrap64_id (by omega) (by omega)]
  refine br_intro (fun q2 => ?_) (fun q2 => ?_)
  · have q2 := of_decide_eq_true q2
    have e : repC size F n b = 7 := by unfold repC; rw [if_neg (fun z => z q), if_pos q2]
    rw [e] at bad; exact bad (by decide)
  · have q2 := of_decide_eq_false q2
    have e : repC size F n b = 0 := by unfold repC; rw [if_neg (fun z => z q), if_neg q2]
    unfold repM at k
    rw [e, if_neg (fun z => z rfl)] at k
    exact put_spec (f := (b, (b.size : Int))) h (hB.ins h1 h2 (by dsimp only; omega) ⟨by dsimp only; omega, Int.le_refl _⟩) fun H1 h1 => ⟨rfl, k H1 h1⟩
end
end Go.Proofs.YthldclmeojkboaaGreatDoor
namespace Go.Proofs.YthldclmeojkboaaGreatDoor
open Go Go.HL
set_option maxRecDepth 10000
set_option maxHeartbeats 800000
abbrev eS : ByteArray → List Value := fun s => [.string s]
theorem eSlen : ∀ x, (eS x).length = 1 := fun _ => rfl
abbrev ownS (s : Sl) (l : List ByteArray) : Chunk := own 9 1 s (l.flatMap eS)
theorem Recs.getS {H : Heap} {s : Sl} {l : List ByteArray} (h : Recs eS H s l) {j : Int} (h0 : 0 ≤ j) (h1 : j < s.n) : ∃ q o a, s.p = some ⟨q, o, none⟩ ∧ l[j.toNat]? = some a ∧ cellH H ⟨q, o + j.toNat, none⟩ = some (.string a) := by
  obtain ⟨q, o, a, e1, e2, e3⟩ := h.at_ eSlen (by decide) h0 h1
  have := e3 0 _ rfl
  rw [Nat.mul_one] at this
  exact ⟨q, o, a, e1, e2, this⟩
theorem encStr_of (s : ByteArray) : Go.Proofs.encStr s.data.toList = .string s := by simp [Go.Proofs.encStr]
section
variable {cs : List Chunk} {H : Heap} {d : Nat} {size : Int} {F : Fs} {K : Value → Heap → Prop} {n b : ByteArray}
theorem sorted_names {F fs : Fs} (hp : List.Perm fs F) (hs : SortedL ltB F) : ((((fmap fs).map Prod.fst).map fun x => x.data.toList).mergeSort fun x y => decide (x ≤ y)).map Go.Proofs.encStr = (F.map Prod.fst).flatMap eS := by
  have e1 : (fmap fs).map Prod.fst = fs.map Prod.fst := by simp [fmap, Function.comp_def]
  rw [e1]
  have e2 : ((fs.map Prod.fst).map fun x => x.data.toList).mergeSort (fun x y => decide (x ≤ y)) = ((F.map Prod.fst).map fun x => x.data.toList).mergeSort fun x y => decide (x ≤ y) :=
    mergeSort_of_perm ((hp.map Prod.fst).map _)
  rw [e2]
  have e3 : ((F.map Prod.fst).map fun x => x.data.toList).mergeSort (fun x y => decide (x ≤ y)) = (F.map Prod.fst).map fun x => x.data.toList := by
    refine List.mergeSort_of_pairwise ?_
    rw [List.map_map, List.pairwise_map]
    refine hs.imp fun {a b} hab => ?_
    simp only [Function.comp_def, decide_eq_true_eq]
    exact List.le_of_lt (ltB_iff.1 hab)
  rw [e3, List.map_map]
  have e4 : (Go.Proofs.encStr ∘ fun x : ByteArray => x.data.toList) = fun x => Value.string x := by
    funext x; exact encStr_of x
  rw [e4]
  induction F.map Prod.fst with
  | nil => rfl
  | cons a l ih => rw [List.map_cons, ih]; rfl
theorem names_spec (h : Holds (dsk d size F :: cs) H) (k : ∀ (s : Sl) H', Holds (ownS s (F.map Prod.fst) :: dsk d size F :: cs) H' → K (.slice s.p s.n s.c) H') : FnH Tryz.prog 40 #[.pointer (some ⟨d, 0, none⟩)] H K := by
  apply disk_Disk_Names_fn
  unfold disk_Disk_Names_vc
  obtain ⟨mb, fs, ⟨hB, hp⟩, h'⟩ := dsk_open.1 h
  have hnd : ((fmap fs).map Prod.fst).Nodup := by
    have e1 : (fmap fs).map Prod.fst = fs.map Prod.fst := by simp [fmap, Function.comp_def]
    rw [e1]; exact (hp.map Prod.fst).nodup_iff.2 (hB.sorted.nodup ltB_ok)
  have hlen : (fmap fs).length = F.length := by rw [List.length_map]; exact hp.length_eq
  have hf := hB.few
  refine ⟨some mb, h'.cell 0 rfl rfl, keys_spec (h'.swap) fun q H1 h1 => ⟨⟨_, _, _⟩, rfl, sorted_spec h1 hnd (by omega) (fun x hx => ?_) fun s H2 h2 => ⟨s, rfl, k s H2 ?_⟩⟩⟩
  · have e1 : (fmap fs).map Prod.fst = fs.map Prod.fst := by simp [fmap, Function.comp_def]
    rw [e1] at hx
    obtain ⟨p, hp', rfl⟩ := List.mem_map.1 hx
    have := namedB_size (hB.names p (hp.mem_iff.1 hp'))
    omega
  · rw [sorted_names hp hB.sorted] at h2
    have h3 : Holds (blk d (.cells #[.int .i64 size, .int .i64 (useF F), .map (some mb)] 104 (0, 0)) :: mp mb encS (fmap fs) :: ownS s (F.map Prod.fst) :: cs) H2 := (h2.pull 2 rfl).perm ((List.Perm.swap _ _ _).cons _)
    exact (dsk_open.2 ⟨mb, fs, ⟨hB, hp⟩, h3⟩).swap
def crashF : List Int → Fs → Fs
  | _, [] => []
  | L, p :: F => if (p.2.1.size : Int) - p.2.2 = 0 then p :: crashF L F
    else (p.1, p.2.1.extract 0 (p.2.2 + pickI (L.headD 0) ((p.2.1.size : Int) - p.2.2 + 1)).toNat, p.2.2 + pickI (L.headD 0) ((p.2.1.size : Int) - p.2.2 + 1)) :: crashF (L.drop 1) F
theorem crashF_cons (L : List Int) (p : ByteArray × Fi) (F : Fs) : crashF L (p :: F) = if (p.2.1.size : Int) - p.2.2 = 0 then p :: crashF L F
    else (p.1, p.2.1.extract 0 (p.2.2 + pickI (L.headD 0) ((p.2.1.size : Int) - p.2.2 + 1)).toNat, p.2.2 + pickI (L.headD 0) ((p.2.1.size : Int) - p.2.2 + 1)) :: crashF (L.drop 1) F := rfl
theorem ins_mid {D R : Fs} {p : ByteArray × Fi} (hs : SortedL ltB (D ++ p :: R)) (v : Fi) : insL ltB (D ++ p :: R) p.1 v = D ++ (p.1, v) :: R := by
  induction D with
  | nil => show insL ltB (p :: R) p.1 v = _; unfold insL; rw [if_pos rfl]; rfl
  | cons x D ih =>
    obtain ⟨h1, h2⟩ := List.pairwise_cons.1 hs
    have hx : ltB x.1 p.1 = true := h1 p (by simp)
    show insL ltB (x :: (D ++ p :: R)) p.1 v = _
    unfold insL
    rw [if_neg (fun e => ltB_ok.ne hx e.symm), if_neg (by rw [ltB_ok.asymm hx]; simp), ih h2]; rfl
theorem look_mid {D R : Fs} {p : ByteArray × Fi} (hs : SortedL ltB (D ++ p :: R)) : lookL (D ++ p :: R) p.1 = some p.2 := (lookL_iff (hs.nodup ltB_ok)).2 (by simp)
theorem crash_spec {keep : Sl} {L : List Int} {c0 : Chunk} {i : Nat} (h : Holds (dsk d size F :: cs) H) (g : Gives c0 fun A => Ints A keep L) (ei : cs[i]? = some c0) (hw : ∀ n ∈ L, -9223372036854775808 ≤ n ∧ n ≤ 9223372036854775807)
    (k : ∀ H', Holds (dsk d size (crashF L F) :: cs) H' → K (.tuple #[]) H') : FnH Tryz.prog 12 #[.pointer (some ⟨d, 0, none⟩), .slice keep.p keep.n keep.c] H K := by
  apply disk_Disk_Crash_fn
  unfold disk_Disk_Crash_vc
  refine names_spec h fun s H1 h1 => ⟨s, rfl, ?_⟩
  have hlenF : s.n = F.length := by
    have := (h1.own 0 rfl).1
    rw [flat_len eSlen, List.length_map] at this; omega
  have hfew : F.length ≤ 256 := by
    obtain ⟨mb, fs, ⟨hB, hp⟩, -⟩ := dsk_open.1 h
    exact hB.few
  refine ⟨fun kp m H => ∃ D L', Holds (ownS s (F.map Prod.fst) :: dsk d size (D ++ F.drop m.toNat) :: cs) H ∧ Gives c0 (fun A => Ints A kp L') ∧ (∀ n ∈ L', -9223372036854775808 ≤ n ∧ n ≤ 9223372036854775807) ∧ 0 ≤ m ∧ m ≤ s.n ∧ crashF L F = D ++ crashF L' (F.drop m.toNat), fun _ m _ => (s.n - m).toNat,
    ⟨[], L, h1, g, hw, Int.le_refl _, by omega, rfl⟩, ?_⟩
  rintro kp m H2 ⟨D, L', h2, g2, hw2, m0, m1, hc⟩
  refine br_intro (fun q => ?_) (fun q => ?_)
  · have q := of_decide_eq_true q
    have hm : m.toNat < F.length := by omega
    have hR : Recs eS H2 s (F.map Prod.fst) := Own.recs eSlen (by decide) (h2.own 0 rfl) (by rw [List.length_map]; omega)
    obtain ⟨q1, o1, a, e1, e2, e3⟩ := Recs.getS hR m0 q
    have ed := List.drop_eq_getElem_cons hm
    generalize hp : F[m.toNat] = p at ed
    have ea : a = p.1 := by
      rw [List.getElem?_map, List.getElem?_eq_getElem hm, hp] at e2
      exact (Option.some.inj e2).symm
    subst ea
    have em : (m + 1).toNat = m.toNat + 1 := by omega
    rw [ed] at h2 hc
    obtain ⟨mb, fs, ⟨hB, hp2⟩, h3⟩ := dsk_open.1 h2.swap
    have hn := hB.sorted.nodup ltB_ok
    have hlook := look_mid hB.sorted
    have hsafe := hB.safe p (by simp)
    have huse := useF_le (F := D ++ p :: F.drop (m.toNat + 1)) (p := p) (by simp)
    have hB1 := hB.use
    have hB2 := hB.s1
    refine ⟨q1, o1, e1, m0, q, _, e3, some mb, h3.cell 0 rfl rfl, runH_lookup1 uDkMap kstr zDkFile (h3.map 1 rfl) (k := p.1) ?_⟩
    rw [getV hp2 hn]
    have eg : getF (D ++ p :: F.drop (m.toNat + 1)) p.1 = p.2 := by unfold getF; rw [hlook]; rfl
    rw [eg]
    refine ⟨_, _, rfl, ?_⟩
    rw [wrap64_id (n := (p.2.1.size : Int) - p.2.2) (by omega) (by omega), wrap64_id (n := m + 1) (by omega) (by omega)]
    rw [crashF_cons] at hc
    refine br_intro (fun q2 => ?_) (fun q2 => ?_)
    · rw [if_pos (by simpa using q2)] at hc
      refine ⟨rfl, ⟨D ++ [p], L', ?_, g2, hw2, by omega, by omega, ?_⟩, by dsimp only; omega⟩
      · rw [em, List.append_assoc]; exact h2
      · rw [em, hc]; simp
    rw [if_neg (by simpa using q2)] at hc
    have q2 : ¬ (p.2.1.size : Int) - p.2.2 = 0 := by simpa using q2
    rw [wrap64_id (n := (p.2.1.size : Int) - p.2.2 + 1) (by omega) (by omega)]
    have stepK : ∀ (x : Int) (kp2 : Sl), Gives c0 (fun A => Ints A kp2 (L'.drop 1)) → x = L'.headD 0 → (-9223372036854775808 ≤ x ∧ x ≤ 9223372036854775807) → ∀ {X : Heap → Prop}, (∀ H5, (∃ D2 L2, Holds (ownS s (F.map Prod.fst) :: dsk d size (D2 ++ F.drop (m + 1).toNat) :: cs) H5 ∧ Gives c0 (fun A => Ints A kp2 L2) ∧ (∀ n ∈ L2, -9223372036854775808 ≤ n ∧ n ≤ 9223372036854775807) ∧ 0 ≤ m + 1 ∧ m + 1 ≤ s.n ∧ crashF L F = D2 ++ crashF L2 (F.drop (m + 1).toNat)) → X H5) →
        ∀ y : Int, y = pickI x ((p.2.1.size : Int) - p.2.2 + 1) → (p.2.1.size : Int) - p.2.2 + 1 ≠ 0 ∧ 0 ≤ IntKind.wrap .i64 (p.2.2 + y) ∧ IntKind.wrap .i64 (p.2.2 + y) ≤ (p.2.1.size : Int) ∧
          FnH Tryz.prog 41 #[.pointer (some ⟨d, 0, none⟩), .string p.1, .agg #[.string (p.2.1.extract (Int.toNat 0) (Int.toNat (IntKind.wrap .i64 (p.2.2 + y)))), .int .i64 (IntKind.wrap .i64 (p.2.2 + y))]] H2 fun r H5 => r = .tuple #[] ∧ X H5 := fun x kp2 g3 hx hxw X hX y hy => by
      obtain ⟨y0, y1⟩ := pickI_in (c := x) (n := (p.2.1.size : Int) - p.2.2 + 1) (by omega) hxw.1 hxw.2
      rw [← hy] at y0 y1
      rw [wrap64_id (by omega) (by omega)]
      refine ⟨by omega, by omega, by omega, put_spec (F := D ++ p :: F.drop (m.toNat + 1)) (f := (p.2.1.extract 0 (p.2.2 + y).toNat, p.2.2 + y)) h2.swap (hB.ins (hB.names p (by simp)) (fun e => by rw [hlook] at e; cases e) ?_ ?_) fun H5 h5 => ⟨rfl, hX H5 ⟨D ++ [(p.1, p.2.1.extract 0 (p.2.2 + y).toNat, p.2.2 + y)], L'.drop 1, ?_, g3, fun n hn => hw2 n (List.mem_of_mem_drop hn), by omega, by omega, ?_⟩⟩⟩
      · rw [eg]; dsimp only; rw [ext_size (by omega)]; omega
      · dsimp only; rw [ext_size (by omega)]; omega
      · rw [ins_mid hB.sorted] at h5
        rw [em, List.append_assoc]; exact h5.swap
      · rw [em, hc, hy, hx]; simp
    have hnil : Ints H2 kp L' := g2.at_ h2 (i + 2) (by simpa using ei)
    have hkl := hnil.len
    refine br_intro (fun q3 => ?_) (fun q3 => ?_)
    · have q3 := of_decide_eq_true q3
      obtain ⟨q5, o5, f1, f2, f3, f4⟩ := hnil.at_ (j := 0) (Int.le_refl _) q3
      have hd : L'.getD (Int.toNat 0) 0 = L'.headD 0 := by cases L' <;> rfl
      have hmem : L'.headD 0 ∈ L' := by
        cases L' with
        | nil => simp at hkl; omega
        | cons x l => exact List.mem_cons_self
      have hx := hw2 _ hmem
      have g3 : Gives c0 (fun A => Ints A (kp.from_ 1 1) (L'.drop 1)) := ⟨g2.mono, fun A hA => (g2.give A hA).from_ (by decide) (by omega)⟩
      rw [hd] at f4
      refine ⟨q5, o5, f1, f2, f3, _, f4, by decide, by omega, br_intro (fun q4 => ?_) (fun q4 => ?_)⟩
      · exact stepK (L'.headD 0) (kp.from_ 1 1) g3 rfl hx (fun H5 z => ⟨rfl, z, by dsimp only; omega⟩) _ (by unfold pickI; rw [if_pos (of_decide_eq_true q4)])
      · exact stepK (L'.headD 0) (kp.from_ 1 1) g3 rfl hx (fun H5 z => ⟨rfl, z, by dsimp only; omega⟩) _ (by unfold pickI; rw [if_neg (of_decide_eq_false q4)])
    · have q3 := of_decide_eq_false q3
      have e0 : L' = [] := List.length_eq_zero_iff.1 (by omega)
      subst e0
      refine br_intro (fun q4 => by have := of_decide_eq_true q4; omega) (fun q4 => ?_)
      exact stepK 0 kp g2 rfl (by omega) (fun H5 z => ⟨rfl, z, by dsimp only; omega⟩) _ (by unfold pickI; rw [if_neg (by omega)])
  · have q := of_decide_eq_false q
    have e : F.drop m.toNat = [] := List.drop_eq_nil_of_le (by omega)
    rw [e] at hc h2
    have e2 : crashF L' [] = [] := by cases L' <;> rfl
    rw [e2, List.append_nil] at hc
    rw [List.append_nil] at h2
    rw [hc] at k
    exact k H2 h2.tail
end
end Go.Proofs.YthldclmeojkboaaGreatDoor
namespace Go.Proofs.YthldclmeojkboaaGreatDoor
open Go Go.HL
set_option maxRecDepth 10000
abbrev nLog : ByteArray := ⟨#[114, 46, 108, 111, 103]⟩
abbrev nSnap : ByteArray := ⟨#[114, 46, 115, 110, 97, 112]⟩
abbrev nTerm : ByteArray := ⟨#[114, 46, 116, 101, 114, 109]⟩
def optF (n : ByteArray) : Option ByteArray → Fs
  | none => []
  | some b => [(n, (b, (b.size : Int)))]
def mkL (x : Fi) (b c : Option ByteArray) : Fs := (nLog, x) :: (optF nSnap b ++ optF nTerm c)
def mkF (a b c : Option ByteArray) : Fs := optF nLog a ++ (optF nSnap b ++ optF nTerm c)
def sz (o : Option ByteArray) : Int := match o with | none => 0 | some b => (b.size : Int)
theorem mkL_eq (x : ByteArray) (b c : Option ByteArray) : mkL (x, (x.size : Int)) b c = mkF (some x) b c := rfl
theorem nLS : ¬ nLog = nSnap := by decide
theorem nLT : ¬ nLog = nTerm := by decide
theorem nST : ¬ nSnap = nTerm := by decide
theorem lLS : ltB nLog nSnap = true := by decide +kernel
theorem lLT : ltB nLog nTerm = true := by decide +kernel
theorem lST : ltB nSnap nTerm = true := by decide +kernel
theorem lSL : ltB nSnap nLog = false := by decide +kernel
theorem lTL : ltB nTerm nLog = false := by decide +kernel
theorem lTS : ltB nTerm nSnap = false := by decide +kernel
theorem look_nil3 (n : ByteArray) : lookL ([] : Fs) n = none := rfl
theorem look_hit (n : ByteArray) (x : Fi) (F : Fs) : lookL ((n, x) :: F) n = some x := lookL_cons_eq
theorem look_miss {n m : ByteArray} (h : ¬ n = m) (x : Fi) (F : Fs) : lookL ((m, x) :: F) n = lookL F n := lookL_cons_ne h
theorem look_log (a b c : Option ByteArray) : lookL (mkF a b c) nLog = a.map fun x => (x, (x.size : Int)) := by
  cases a <;> cases b <;> cases c <;> simp [mkF, optF, look_hit, look_miss nLS, look_miss nLT, look_nil3]
theorem look_snap (a b c : Option ByteArray) : lookL (mkF a b c) nSnap = b.map fun x => (x, (x.size : Int)) := by
  cases a <;> cases b <;> cases c <;> simp [mkF, optF, look_hit, look_miss (fun z => nLS z.symm), look_miss nST, look_nil3]
theorem look_term (a b c : Option ByteArray) : lookL (mkF a b c) nTerm = c.map fun x => (x, (x.size : Int)) := by
  cases a <;> cases b <;> cases c <;> simp [mkF, optF, look_hit, look_miss (fun z => nLT z.symm), look_miss (fun z => nST z.symm), look_nil3]
theorem useF_nil3 : useF ([] : Fs) = 0 := rfl
theorem use_mk (a b c : Option ByteArray) : useF (mkF a b c) = sz a + sz b + sz c := by
  cases a <;> cases b <;> cases c <;> simp [mkF, optF, useF_cons, useF_nil3, sz] <;> omega
theorem len_mk (a b c : Option ByteArray) : (mkF a b c).length ≤ 3 := by
  cases a <;> cases b <;> cases c <;> simp [mkF, optF]
theorem ins_hit (n : ByteArray) (x y : Fi) (F : Fs) : insL ltB ((n, x) :: F) n y = (n, y) :: F := by rw [insL]; exact if_pos rfl
theorem ins_less {n m : ByteArray} (h : ¬ n = m) (hl : ltB n m = true) (x y : Fi) (F : Fs) : insL ltB ((m, x) :: F) n y = (n, y) :: (m, x) :: F := by rw [insL, if_neg h, if_pos hl]
theorem ins_more {n m : ByteArray} (h : ¬ n = m) (hl : ltB n m = false) (x y : Fi) (F : Fs) : insL ltB ((m, x) :: F) n y = (m, x) :: insL ltB F n y := by rw [insL, if_neg h, if_neg (by rw [hl]; decide)]
theorem ins_nil3 (n : ByteArray) (y : Fi) : insL ltB ([] : Fs) n y = [(n, y)] := rfl
theorem ins_log (a b c : Option ByteArray) (y : Fi) : insL ltB (mkF a b c) nLog y = mkL y b c := by
  cases a <;> cases b <;> cases c <;> simp [mkF, mkL, optF, ins_hit, ins_nil3, ins_less nLS lLS, ins_less nLT lLT]
theorem ins_logL (x y : Fi) (b c : Option ByteArray) : insL ltB (mkL x b c) nLog y = mkL y b c := ins_hit _ _ _ _
theorem ins_snap (a b c : Option ByteArray) (y : ByteArray) : insL ltB (mkF a b c) nSnap (y, (y.size : Int)) = mkF a (some y) c := by
  cases a <;> cases b <;> cases c <;> simp [mkF, optF, ins_hit, ins_nil3, ins_more (fun z => nLS z.symm) lSL, ins_less nST lST]
theorem ins_term (a b c : Option ByteArray) (y : ByteArray) : insL ltB (mkF a b c) nTerm (y, (y.size : Int)) = mkF a b (some y) := by
  cases a <;> cases b <;> cases c <;> simp [mkF, optF, ins_hit, ins_nil3, ins_more (fun z => nLT z.symm) lTL, ins_more (fun z => nST z.symm) lTS]
theorem crash_hit (K : List Int) (n b : ByteArray) (F : Fs) : crashF K ((n, (b, (b.size : Int))) :: F) = (n, (b, (b.size : Int))) :: crashF K F := by
  rw [crashF_cons, if_pos (by simp)]
theorem crash_nil3 (K : List Int) : crashF K ([] : Fs) = [] := by unfold crashF; rfl
theorem crash_mk (K : List Int) (a b c : Option ByteArray) : crashF K (mkF a b c) = mkF a b c := by
  cases a <;> cases b <;> cases c <;> simp [mkF, optF, crash_hit, crash_nil3]
theorem named3 : namedB nLog = true ∧ namedB nSnap = true ∧ namedB nTerm = true := by decide +kernel
theorem room_mk {n : ByteArray} (h : namedB n = true) (a b c : Option ByteArray) : roomC (mkF a b c) n = 0 := by
  have := len_mk a b c
  unfold roomC
  rw [if_neg (by rw [h]; simp), if_neg (by rintro ⟨-, z⟩; omega)]
theorem get_log (a b c : Option ByteArray) : ((getF (mkF a b c) nLog).1.size : Int) = sz a := by
  unfold getF
  rw [look_log]
  cases a <;> rfl
theorem get_snap (a b c : Option ByteArray) : ((getF (mkF a b c) nSnap).1.size : Int) = sz b := by
  unfold getF
  rw [look_snap]
  cases b <;> rfl
theorem get_term (a b c : Option ByteArray) : ((getF (mkF a b c) nTerm).1.size : Int) = sz c := by
  unfold getF
  rw [look_term]
  cases c <;> rfl
theorem rep_log (size : Int) (a b c : Option ByteArray) (x : ByteArray) : repC size (mkF a b c) nLog x = (if (x.size : Int) > size - sz b - sz c then 7 else 0) ∧ repM size (mkF a b c) nLog x = (if (x.size : Int) > size - sz b - sz c then mkF a b c else mkF (some x) b c) := by
  have e : repC size (mkF a b c) nLog x = (if (x.size : Int) > size - sz b - sz c then 7 else 0) := by
    unfold repC
    rw [room_mk named3.1, if_neg (by simp), use_mk, get_log]
    have : size - (sz a + sz b + sz c) + sz a = size - sz b - sz c := by omega
    rw [this]
  refine ⟨e, ?_⟩
  unfold repM
  rw [e, ins_log, mkL_eq]
  split <;> simp_all
theorem rep_snap (size : Int) (a b c : Option ByteArray) (x : ByteArray) : repC size (mkF a b c) nSnap x = (if (x.size : Int) > size - sz a - sz c then 7 else 0) ∧ repM size (mkF a b c) nSnap x = (if (x.size : Int) > size - sz a - sz c then mkF a b c else mkF a (some x) c) := by
  have e : repC size (mkF a b c) nSnap x = (if (x.size : Int) > size - sz a - sz c then 7 else 0) := by
    unfold repC
    rw [room_mk named3.2.1, if_neg (by simp), use_mk, get_snap]
    have : size - (sz a + sz b + sz c) + sz b = size - sz a - sz c := by omega
    rw [this]
  refine ⟨e, ?_⟩
  unfold repM
  rw [e, ins_snap]
  split <;> simp_all
theorem rep_term (size : Int) (a b c : Option ByteArray) (x : ByteArray) : repC size (mkF a b c) nTerm x = (if (x.size : Int) > size - sz a - sz b then 7 else 0) ∧ repM size (mkF a b c) nTerm x = (if (x.size : Int) > size - sz a - sz b then mkF a b c else mkF a b (some x)) := by
  have e : repC size (mkF a b c) nTerm x = (if (x.size : Int) > size - sz a - sz b then 7 else 0) := by
    unfold repC
    rw [room_mk named3.2.2, if_neg (by simp), use_mk, get_term]
    have : size - (sz a + sz b + sz c) + sz c = size - sz a - sz b := by omega
    rw [this]
  refine ⟨e, ?_⟩
  unfold repM
  rw [e, ins_term]
  split <;> simp_all
theorem cut_log {a b c : Option ByteArray} {x : ByteArray} {m : Int} (ha : a = some x) (h0 : 0 ≤ m) (h1 : m ≤ x.size) : cutC (mkF a b c) nLog m = 0 ∧ cutM (mkF a b c) nLog m = mkF (some (x.extract 0 m.toNat)) b c := by
  subst ha
  have hl := look_log (some x) b c
  have hg : getF (mkF (some x) b c) nLog = (x, (x.size : Int)) := by unfold getF; rw [hl]; rfl
  have e : cutC (mkF (some x) b c) nLog m = 0 := by
    unfold cutC
    rw [hl, hg, if_neg (by simp), if_neg (by dsimp only; omega)]
  refine ⟨e, ?_⟩
  unfold cutM
  rw [e, if_neg (by simp), hg, ins_log, ← mkL_eq]
  have es : ((x.extract 0 m.toNat).size : Int) = m := by rw [ByteArray.size_extract]; omega
  rw [es]
  dsimp only
  congr 2
  split <;> omega
theorem app_log {size : Int} {a b c : Option ByteArray} {s : ByteArray} (h : (s.size : Int) ≤ size - (sz a + sz b + sz c)) : appC size (mkF a b c) nLog s = 0 ∧ synM (appM size (mkF a b c) nLog s) nLog = mkF (some (a.getD ⟨#[]⟩ ++ s)) b c := by
  have hf : fitN size (mkF a b c) s = s.size := by
    unfold fitN
    rw [use_mk]
    split <;> omega
  have hs : s.extract 0 ((s.size : Int)).toNat = s := by rw [Int.toNat_natCast]; exact ByteArray.extract_zero_size
  refine ⟨?_, ?_⟩
  · unfold appC
    rw [room_mk named3.1, if_neg (by simp), hf, if_neg (by omega)]
  · have ea : appM size (mkF a b c) nLog s = mkL (appF size (mkF a b c) nLog s) b c := by
      unfold appM
      rw [room_mk named3.1, if_neg (by simp), ins_log]
    have hl : lookL (mkL (appF size (mkF a b c) nLog s) b c) nLog = some (appF size (mkF a b c) nLog s) := look_hit _ _ _
    have hg : getF (mkL (appF size (mkF a b c) nLog s) b c) nLog = appF size (mkF a b c) nLog s := by unfold getF; rw [hl]; rfl
    rw [ea]
    unfold synM
    rw [hl, hg, if_neg (by simp), ins_logL]
    have e : (appF size (mkF a b c) nLog s).1 = a.getD ⟨#[]⟩ ++ s := by
      unfold appF getF
      rw [hf, hs, look_log]
      cases a <;> rfl
    rw [e]; rfl
end Go.Proofs.YthldclmeojkboaaGreatDoor
namespace Go.Proofs.YthldclmeojkboaaGreatDoor
open Go Go.HL
set_option maxHeartbeats 800000
set_option maxRecDepth 10000
abbrev En := Int × Int × ByteArray
abbrev eE : En → List Value := fun e => [.int .i64 e.1, .int .i64 e.2.1, .string e.2.2]
theorem eElen : ∀ a, (eE a).length = 3 := fun _ => rfl
theorem okEn : ElemOK Tryz.prog 29 51 3 := ElemOK.of (by kernel_rfl)
theorem noTups_eE (l : List En) : noTups (l.flatMap eE) = true := by
  induction l with
  | nil => rfl
  | cons a l ih => exact ih
abbrev ownE (s : Sl) (l : List En) : Chunk := own 51 3 s (l.flatMap eE)
section
variable {H : Heap} {K : Value → Heap → Prop}
theorem eclone_spec {cs : List Chunk} {s : Sl} {l : List En} (h : HL.Holds cs H) (hR : Recs eE H s l) (hb : l.length ≤ 1000000) (k : ∀ (r : Sl) H', HL.Sub H H' → HL.Holds (ownE r l :: cs) H' → K (.slice r.p r.n r.c) H') : FnH Tryz.prog 95 #[.slice s.p s.n s.c] H K := by
  apply slices_Clone_Lapi_Entry_api_Entry_fn
  unfold slices_Clone_Lapi_Entry_api_Entry_vc
  have hl := hR.len
  refine br_intro (fun q => ?_) (fun q => ?_)
  · have hp : s.p = none := Option.isNone_iff_eq_none.1 q
    have e0 : l = [] := by
      cases l with
      | nil => rfl
      | cons a l =>
        have := hR.cells 0 (by simp)
        obtain ⟨b, o, e1, -⟩ := this
        rw [hp] at e1; cases e1
    subst e0
    exact k ⟨none, 0, 0⟩ H (HL.Sub.refl _) (h.own_nil 51 3)
  · have hW := Holds.whole H
    intro q1 hq1
    refine letH_intro fun H1 g1 => ?_
    have s1 : HL.Sub H H1 := by rw [g1]; exact HL.Sub.new hq1 _
    have h1 : HL.Holds [blk q1 (.cells #[] 51 (0, 0)), ro H] H1 := by rw [g1]; exact hW.add hq1 _
    have h2 : HL.Holds [own 51 3 ⟨some ⟨q1, 0, none⟩, 0, 0⟩ [], ro H] H1 := h1.head fun A hA => ⟨by simp, Nat.le_refl _, .inr ⟨q1, #[], rfl, hA, by simp, fun i hi => by simp at hi⟩⟩
    refine Holds.append (s := ⟨some ⟨q1, 0, none⟩, 0, 0⟩) okEn okEn.under h2 (hR.cells.sub s1) (by rw [flat_len eElen, hl]) (noTups_eE _) (by show 0 + s.n ≤ _; omega) fun r H' h' n' => ⟨r, rfl, k r H' (h'.sub 1 rfl) ?_⟩
    have h3 : HL.Holds (HL.Holds cs :: [ownE r l]) H' := (h'.swap.head (d := HL.Holds cs) fun A hA => h.up hA)
    exact ((Holds.flat.1 h3).perm List.perm_append_comm)
end
end Go.Proofs.YthldclmeojkboaaGreatDoor
namespace Go.Proofs.YthldclmeojkboaaGreatDoor
open Go Go.HL
set_option maxHeartbeats 1600000
set_option maxRecDepth 10000
theorem strN_app (a b : List Nat) : strN a ++ strN b = strN (a ++ b) := by
  unfold strN
  cases h : (⟨(a.map UInt8.ofNat).toArray⟩ : ByteArray) ++ ⟨(b.map UInt8.ofNat).toArray⟩ with
  | mk d =>
    have := congrArg ByteArray.data h
    simp at this
    rw [← this]; simp
theorem strN_nb (s : ByteArray) : strN (nb s) = s := nb_inj (nb_str (nb_byte s))
theorem strN_size {l : List Nat} (h : ∀ b ∈ l, b < 256) : (strN l).size = l.length := by rw [← nb_len, nb_str h]
theorem or_add {x y m i : Nat} (hm : 2 ^ i = m) (h : y < m) : (x * m) ||| y = x * m + y := by
  subst hm
  rw [← Nat.shiftLeft_eq, Nat.shiftLeft_add_eq_or_of_lt h]
theorem or64 {a b : Nat} (ha : a < 9223372036854775808) (hb : b < 9223372036854775808) : orI .i64 (a : Int) (b : Int) = ((a ||| b : Nat) : Int) := by
  have h : a ||| b < 9223372036854775808 := Nat.or_lt_two_pow (n := 63) ha hb
  have e : (BitVec.ofInt IntKind.i64.bits (a : Int) ||| BitVec.ofInt IntKind.i64.bits (b : Int)).toNat = a ||| b := by
    rw [BitVec.toNat_or, ofInt_nat, ofInt_nat]
    have h64 : 2 ^ IntKind.i64.bits = 18446744073709551616 := rfl
    rw [h64, Nat.mod_eq_of_lt (by omega), Nat.mod_eq_of_lt (by omega)]
  unfold orI
  rw [e]
  exact wrap64_id (by omega) (by omega)
theorem shl64 {a k m : Nat} (hm : 2 ^ k = m) (hk : k < 64) (h : a * m < 9223372036854775808) : shlI .i64 (a : Int) (k : Nat) = ((a * m : Nat) : Int) := by
  have h2 : min k IntKind.i64.bits = k := Nat.min_eq_left (by have : IntKind.i64.bits = 64 := rfl; omega)
  unfold shlI
  rw [Int.toNat_natCast, h2]
  have e : (a : Int) * 2 ^ k = ((a * m : Nat) : Int) := by rw [← hm]; simp
  rw [e]
  exact wrap64_id (by omega) (by omega)
theorem k_a {a : Nat} (ha : a < 256) : a * 16777216 < 9223372036854775808 := by omega
theorem k_b {b : Nat} (hb : b < 256) : b * 65536 < 9223372036854775808 := by omega
theorem k_c {c : Nat} (hc : c < 256) : c * 256 < 9223372036854775808 := by omega
theorem k_d {d : Nat} (hd : d < 256) : d < 9223372036854775808 := by omega
theorem k_b2 {b : Nat} (hb : b < 256) : b * 65536 < 16777216 := by omega
theorem k_c2 {c : Nat} (hc : c < 256) : c * 256 < 65536 := by omega
theorem k_ab {a b : Nat} (ha : a < 256) (hb : b < 256) : (a * 256 + b) * 65536 < 9223372036854775808 := by omega
theorem k_abc {a b c : Nat} (ha : a < 256) (hb : b < 256) (hc : c < 256) : ((a * 256 + b) * 256 + c) * 256 < 9223372036854775808 := by omega
theorem k_e4 (a b : Nat) : a * 16777216 + b * 65536 = (a * 256 + b) * 65536 := by omega
theorem k_e5 (m c : Nat) : m * 65536 + c * 256 = (m * 256 + c) * 256 := by omega
theorem k_e7 (a b c d : Nat) : ((a * 256 + b) * 256 + c) * 256 + d = a * 16777216 + b * 65536 + c * 256 + d := by omega
theorem k_w {a : Nat} (ha : a < 256) : IntKind.wrap .i64 (a : Int) = a := wrap64_id (by omega) (by omega)
theorem fourth_val {a b c d : Nat} (ha : a < 256) (hb : b < 256) (hc : c < 256) (hd : d < 256) :
    orI .i64 (orI .i64 (orI .i64 (shlI .i64 (IntKind.wrap .i64 (a : Int)) 24) (shlI .i64 (IntKind.wrap .i64 (b : Int)) 16)) (shlI .i64 (IntKind.wrap .i64 (c : Int)) 8)) (IntKind.wrap .i64 (d : Int)) = ((a * 16777216 + b * 65536 + c * 256 + d : Nat) : Int) := by
  rw [k_w ha, k_w hb, k_w hc, k_w hd]
  have e1 : shlI .i64 (a : Int) 24 = ((a * 16777216 : Nat) : Int) := shl64 (k := 24) rfl (by decide) (k_a ha)
  have e2 : shlI .i64 (b : Int) 16 = ((b * 65536 : Nat) : Int) := shl64 (k := 16) rfl (by decide) (k_b hb)
  have e3 : shlI .i64 (c : Int) 8 = ((c * 256 : Nat) : Int) := shl64 (k := 8) rfl (by decide) (k_c hc)
  have f1 : a * 16777216 ||| b * 65536 = a * 16777216 + b * 65536 := or_add (i := 24) rfl (k_b2 hb)
  have f2 : (a * 256 + b) * 65536 ||| c * 256 = (a * 256 + b) * 65536 + c * 256 := or_add (i := 16) rfl (k_c2 hc)
  have f3 : ((a * 256 + b) * 256 + c) * 256 ||| d = ((a * 256 + b) * 256 + c) * 256 + d := or_add (i := 8) rfl hd
  rw [e1, e2, e3, or64 (k_a ha) (k_b hb), f1, k_e4, or64 (k_ab ha hb) (k_c hc), f2, k_e5, or64 (k_abc ha hb hc) (k_d hd), f3, k_e7]
theorem nb_get {s : ByteArray} {i v : Nat} (h : (nb s)[i]? = some v) : ∃ c : UInt8, s[i]? = some c ∧ c.toNat = v := by
  unfold nb at h
  rw [List.getElem?_map] at h
  cases e : s.data.toList[i]? with
  | none => rw [e] at h; cases h
  | some c =>
    rw [e] at h
    refine ⟨c, ?_, by simpa using h⟩
    rw [Array.getElem?_toList] at e; exact e
abbrev sumd (l : List Nat) : List Nat := fourN (crcN l) ++ l
theorem sumd_bytes {l : List Nat} (h : ∀ b ∈ l, b < 256) : ∀ b ∈ sumd l, b < 256 := fun b hb => by
  rcases List.mem_append.1 hb with w | w
  · exact fourN_bytes _ b w
  · exact h b w
theorem sumd_len (l : List Nat) : (sumd l).length = 4 + l.length := by simp [sumd, fourN]; omega
def bodyN (x : En) : List Nat := encN x.1 ++ (encN x.2.1 ++ (encN (x.2.2.size : Nat) ++ nb x.2.2))
theorem app_bytes {l m : List Nat} (h : ∀ b ∈ l, b < 256) (g : ∀ b ∈ m, b < 256) : ∀ b ∈ l ++ m, b < 256 := fun b hb => by
  rcases List.mem_append.1 hb with w | w
  · exact h b w
  · exact g b w
theorem bodyN_bytes (x : En) : ∀ b ∈ bodyN x, b < 256 := app_bytes (encN_bytes _) (app_bytes (encN_bytes _) (app_bytes (encN_bytes _) (nb_byte _)))
theorem bodyN_len (x : En) : (bodyN x).length ≤ 30 + x.2.2.size := by
  have h1 := encN_len x.1
  have h2 := encN_len x.2.1
  have h3 := encN_len (x.2.2.size : Nat)
  unfold bodyN
  rw [List.length_append, List.length_append, List.length_append, nb_len]
  omega
def entN (x : En) : List Nat := fourN (bodyN x).length ++ sumd (bodyN x)
theorem entN_bytes (x : En) : ∀ b ∈ entN x, b < 256 := app_bytes (fourN_bytes _) (sumd_bytes (bodyN_bytes x))
theorem entN_len (x : En) : (entN x).length = 8 + (bodyN x).length := by simp [entN, sumd, fourN]; omega
section
variable {cs : List Chunk} {H : Heap} {K : Value → Heap → Prop}
theorem four9_spec {c : Nat} (hc : c < 4294967296) (k : ∀ H', HL.Sub H H' → K (.string (strN (fourN c))) H') : FnH Tryz.prog 140 #[.int .i64 (c : Int)] H K := by
  apply raftlog_four_fn
  unfold raftlog_four_vc
  refine (Holds.whole H).newS fun q H1 s1 h1 => ?_
  have e1 : ∀ k : Nat, k < 64 → IntKind.wrap .u8 (shrI .i64 (c : Int) k) = ((c / 2 ^ k % 256 : Nat) : Int) := fun k hk => by
    rw [shr_n _ _ hk, wrap_u8]; omega
  have ea : IntKind.wrap .u8 (shrI .i64 (c : Int) 24) = ((c / 16777216 % 256 : Nat) : Int) := e1 24 (by decide)
  have eb : IntKind.wrap .u8 (shrI .i64 (c : Int) 16) = ((c / 65536 % 256 : Nat) : Int) := e1 16 (by decide)
  have ec : IntKind.wrap .u8 (shrI .i64 (c : Int) 8) = ((c / 256 % 256 : Nat) : Int) := e1 8 (by decide)
  have ed : IntKind.wrap .u8 (c : Int) = ((c % 256 : Nat) : Int) := by rw [wrap_u8]; omega
  rw [ea, eb, ec, ed] at h1
  have ho : Own H1 5 1 ⟨some ⟨q, 0, none⟩, 4, 4⟩ (byV (fourN c)) := ⟨rfl, Nat.le_refl _, .inr ⟨q, _, rfl, h1.get 0 rfl, rfl, fun i hi => by
    have z : i = 0 ∨ i = 1 ∨ i = 2 ∨ i = 3 := by simp [fourN] at hi; omega
    rcases z with rfl | rfl | rfl | rfl <;> rfl⟩⟩
  exact toStr (r := ⟨some ⟨q, 0, none⟩, 4, 4⟩) ho (fourN_bytes _) ⟨_, rfl, k H1 s1⟩
theorem fourth9_spec {s : ByteArray} {c : Nat} {r : List Nat} (hs : nb s = fourN c ++ r) (hc : c < 4294967296) (k : K (.int .i64 (c : Int)) H) : FnH Tryz.prog 99 #[.string s] H K := by
  apply raftlog_fourth_fn
  unfold raftlog_fourth_vc
  obtain ⟨c1, a1, b1⟩ := nb_get (s := s) (i := 0) (v := c / 16777216 % 256) (by rw [hs]; rfl)
  obtain ⟨c2, a2, b2⟩ := nb_get (s := s) (i := 1) (v := c / 65536 % 256) (by rw [hs]; rfl)
  obtain ⟨c3, a3, b3⟩ := nb_get (s := s) (i := 2) (v := c / 256 % 256) (by rw [hs]; rfl)
  obtain ⟨c4, a4, b4⟩ := nb_get (s := s) (i := 3) (v := c % 256) (by rw [hs]; rfl)
  refine ⟨by decide, c1, a1, by decide, c2, a2, by decide, c3, a3, by decide, c4, a4, ?_⟩
  rw [b1, b2, b3, b4, fourth_val (Nat.mod_lt _ (by decide)) (Nat.mod_lt _ (by decide)) (Nat.mod_lt _ (by decide)) (Nat.mod_lt _ (by decide))]
  have e : c / 16777216 % 256 * 16777216 + c / 65536 % 256 * 65536 + c / 256 % 256 * 256 + c % 256 = c := by omega
  rw [e]; exact k
theorem summed9_spec {s : ByteArray} (hs : s.size ≤ 268435456) (k : ∀ H', HL.Sub H H' → K (.string (strN (sumd (nb s)))) H') : FnH Tryz.prog 86 #[.string s] H K := by
  apply raftlog_summed_fn
  unfold raftlog_summed_vc
  refine crc_spec (by omega) ⟨_, rfl, four9_spec (crcN_lt _ (nb_byte _)) fun H1 s1 => ⟨_, rfl, ?_, ?_⟩⟩
  · rw [strN_size (fourN_bytes _)]; simp [fourN]; omega
  · have := k H1 s1
    rw [← strN_app, strN_nb] at this; exact this
theorem sumd_ext {l : List Nat} (h : ∀ b ∈ l, b < 256) : (strN (sumd l)).extract 4 (strN (sumd l)).size = strN l := by
  refine nb_inj ?_
  rw [nb_extract, nb_str (sumd_bytes h), nb_str h, List.take_of_length_le (by rw [strN_size (sumd_bytes h)]; exact Nat.le_refl _)]
  rfl
theorem unsummed9_spec {l : List Nat} (hl : ∀ b ∈ l, b < 256) (hsz : l.length ≤ 268435456) (k : ∀ H', HL.Sub H H' → K (.tuple #[.string (strN l), .int .i64 0]) H') : FnH Tryz.prog 63 #[.string (strN (sumd l))] H K := by
  apply raftlog_unsummed_fn
  unfold raftlog_unsummed_vc
  have hs : (strN (sumd l)).size = 4 + l.length := by rw [strN_size (sumd_bytes hl), sumd_len]
  have ex : (strN (sumd l)).extract (Int.toNat 4) (Int.toNat ((strN (sumd l)).size : Nat)) = strN l := sumd_ext hl
  rw [ex]
  refine br_f (decide_eq_false (by omega)) ⟨by decide, by omega, fourth9_spec (r := l) (nb_str (sumd_bytes hl)) (crcN_lt _ hl) ⟨_, rfl, HL.Sub.refl _, crc_spec (by rw [strN_size hl]; omega) ⟨_, rfl, HL.Sub.refl _, ?_⟩⟩⟩
  rw [nb_str hl]
  exact br_f (by simp) ⟨by decide, by omega, k H (HL.Sub.refl _)⟩
theorem body9_spec {x : En} (h1 : i64B x.1) (h2 : i64B x.2.1) (h3 : x.2.2.size ≤ 268435456) (k : ∀ H', HL.Sub H H' → K (.string (strN (bodyN x))) H') : FnH Tryz.prog 146 #[.agg #[.int .i64 x.1, .int .i64 x.2.1, .string x.2.2]] H K := by
  apply raftlog_body_fn
  unfold raftlog_body_vc
  have l1 := encN_len x.1
  have l2 := encN_len x.2.1
  have l3 := encN_len (x.2.2.size : Nat)
  have z1 := strN_size (encN_bytes x.1)
  have z2 := strN_size (encN_bytes x.2.1)
  have z3 := strN_size (encN_bytes (x.2.2.size : Nat))
  refine int_spec h1 fun H1 s1 => ⟨_, rfl, s1, int_spec h2 fun H2 s2 => ⟨_, rfl, s1.trans s2, by omega, int_spec (n := (x.2.2.size : Nat)) ⟨by omega, by omega⟩ fun H3 s3 => ⟨_, rfl, (s1.trans s2).trans s3, by rw [ByteArray.size_append]; omega, by rw [ByteArray.size_append, ByteArray.size_append]; omega, ?_⟩⟩⟩
  have := k H3 ((s1.trans s2).trans s3)
  unfold bodyN at this
  rw [← strN_app, ← strN_app, ← strN_app, strN_nb] at this
  rw [ByteArray.append_assoc, ByteArray.append_assoc]
  exact this
theorem within9_spec {n least : Int} (h0 : least ≤ n) (h1 : n ≤ 1000000000) (k : K (.bool true) H) : FnH Tryz.prog 84 #[.int .i64 n, .int .i64 least] H K := by
  apply raftlog_within_fn
  unfold raftlog_within_vc
  refine br_t (decide_eq_true h0) ?_
  rw [decide_eq_true h1]; exact k
end
end Go.Proofs.YthldclmeojkboaaGreatDoor
namespace Go.Proofs.YthldclmeojkboaaGreatDoor
open Go Go.HL
set_option maxHeartbeats 1600000
set_option maxRecDepth 10000
theorem ext_skip {p X : List Nat} (hp : ∀ b ∈ p, b < 256) (hX : ∀ b ∈ X, b < 256) {i j : Nat} (hi : i = p.length) (hj : j = p.length + X.length) : (strN (p ++ X)).extract i j = strN X := by
  refine nb_inj ?_
  rw [nb_extract, nb_str (app_bytes hp hX), nb_str hX, List.take_of_length_le (by rw [List.length_append]; omega), hi, List.drop_left]
theorem ext_mid {p X r : List Nat} (hp : ∀ b ∈ p, b < 256) (hX : ∀ b ∈ X, b < 256) (hr : ∀ b ∈ r, b < 256) {i j : Nat} (hi : i = p.length) (hj : j = p.length + X.length) : (strN (p ++ (X ++ r))).extract i j = strN X := by
  refine nb_inj ?_
  have e : p ++ (X ++ r) = (p ++ X) ++ r := by simp
  rw [nb_extract, nb_str (app_bytes hp (app_bytes hX hr)), nb_str hX, e, hj, ← List.length_append, List.take_left, hi, List.drop_left]
theorem app_size {p X : List Nat} (hp : ∀ b ∈ p, b < 256) (hX : ∀ b ∈ X, b < 256) : (strN (p ++ X)).size = p.length + X.length := by rw [strN_size (app_bytes hp hX), List.length_append]
section
variable {cs : List Chunk} {H : Heap} {K : Value → Heap → Prop}
theorem numbers9_spec {a b least : Int} {r : List Nat} (hr : ∀ b ∈ r, b < 256) (hl : -1000000000 ≤ least) (a0 : least ≤ a) (a1 : a ≤ 1000000000) (b0 : least ≤ b) (b1 : b ≤ 1000000000) (hsz : r.length ≤ 268435456) (k : K (.tuple #[.int .i64 a, .int .i64 b, .string (strN r), .bool true]) H) :
    FnH Tryz.prog 97 #[.string (strN (encN a ++ (encN b ++ r))), .int .i64 least] H K := by
  apply raftlog_numbers_fn
  unfold raftlog_numbers_vc
  have ea := encN_bytes a
  have eb := encN_bytes b
  have la := encN_len a
  have lb := encN_len b
  have hs : (strN (encN a ++ (encN b ++ r))).size = (encN a).length + ((encN b).length + r.length) := by rw [app_size ea (app_bytes eb hr), List.length_append]
  refine readInt_spec ?_
  rw [nb_str (app_bytes ea (app_bytes eb hr)), read_enc (by omega) (by omega)]
  have e1 : (strN (encN a ++ (encN b ++ r))).extract (Int.toNat ((encN a).length : Nat)) (Int.toNat ((strN (encN a ++ (encN b ++ r))).size : Nat)) = strN (encN b ++ r) := ext_skip ea (app_bytes eb hr) (by simp) (by rw [hs, List.length_append]; simp; omega)
  refine ⟨a, ((encN a).length : Int), 0, rfl, br_f rfl ⟨by omega, by omega, ?_⟩⟩
  rw [e1]
  refine readInt_spec ?_
  rw [nb_str (app_bytes eb hr), read_enc (by omega) (by omega)]
  refine ⟨b, ((encN b).length : Int), 0, rfl, ?_⟩
  rw [wrap64_id (n := ((encN a).length : Int) + ((encN b).length : Int)) (by omega) (by omega), if_neg (by omega)]
  have e2 : (strN (encN a ++ (encN b ++ r))).extract (Int.toNat (((encN a).length : Int) + ((encN b).length : Int))) (Int.toNat ((strN (encN a ++ (encN b ++ r))).size : Nat)) = strN r := by
    have e : encN a ++ (encN b ++ r) = (encN a ++ encN b) ++ r := by simp
    rw [hs, e]
    exact ext_skip (app_bytes ea eb) hr (by rw [List.length_append]; omega) (by rw [List.length_append]; omega)
  rw [e2]
  exact ⟨by omega, by omega, br_t rfl (within9_spec a0 a1 ⟨_, rfl, HL.Sub.refl _, br_t rfl (within9_spec b0 b1 ⟨_, rfl, HL.Sub.refl _, k⟩)⟩)⟩
theorem text9_spec {t : ByteArray} {most : Int} (ht : (t.size : Int) ≤ most) (hm : most ≤ 268435456) (k : K (.tuple #[.string t, .bool true]) H) : FnH Tryz.prog 98 #[.string (strN (encN (t.size : Nat) ++ nb t)), .int .i64 most] H K := by
  apply raftlog_text_fn
  unfold raftlog_text_vc
  have ea := encN_bytes (t.size : Nat)
  have la := encN_len (t.size : Nat)
  have hs : (strN (encN (t.size : Nat) ++ nb t)).size = (encN (t.size : Nat)).length + t.size := by rw [app_size ea (nb_byte t), nb_len]
  refine readInt_spec ?_
  rw [nb_str (app_bytes ea (nb_byte t)), read_enc (by omega) (by omega)]
  have e1 : (strN (encN (t.size : Nat) ++ nb t)).extract (Int.toNat ((encN (t.size : Nat)).length : Nat)) (Int.toNat ((strN (encN (t.size : Nat) ++ nb t)).size : Nat)) = t := by
    rw [ext_skip ea (nb_byte t) (by simp) (by rw [hs, nb_len]; omega), strN_nb]
  refine ⟨(t.size : Nat), ((encN (t.size : Nat)).length : Int), 0, rfl, br_f rfl (br_f (decide_eq_false (by omega)) (br_f (decide_eq_false (by omega)) ?_))⟩
  rw [wrap64_id (n := ((strN (encN (t.size : Nat) ++ nb t)).size : Int) - ((encN (t.size : Nat)).length : Int)) (by omega) (by omega), e1]
  refine br_f ?_ ⟨by omega, by omega, k⟩
  have : ((strN (encN (t.size : Nat) ++ nb t)).size : Int) - ((encN (t.size : Nat)).length : Int) = (t.size : Int) := by omega
  rw [this]; simp
def EnOk (x : En) : Prop := (1 ≤ x.1 ∧ x.1 ≤ 1000000000) ∧ (1 ≤ x.2.1 ∧ x.2.1 ≤ 1000000000) ∧ x.2.2.size ≤ 2048
theorem one9_spec {x : En} {r : List Nat} (hx : EnOk x) (hr : ∀ b ∈ r, b < 256) (hsz : r.length ≤ 268435456) (k : ∀ H', HL.Sub H H' → K (.tuple #[.agg #[.int .i64 x.1, .int .i64 x.2.1, .string x.2.2], .int .i64 ((entN x).length : Nat), .int .i64 0]) H') :
    FnH Tryz.prog 101 #[.string (strN (entN x ++ r))] H K := by
  apply raftlog_one_fn
  unfold raftlog_one_vc
  obtain ⟨⟨x0, x1⟩, ⟨y0, y1⟩, z⟩ := hx
  have lb := bodyN_len x
  have le := entN_len x
  have eb := entN_bytes x
  have hs : (strN (entN x ++ r)).size = 8 + (bodyN x).length + r.length := by rw [app_size eb hr, le]
  have hn : nb (strN (entN x ++ r)) = fourN (bodyN x).length ++ (sumd (bodyN x) ++ r) := by rw [nb_str (app_bytes eb hr)]; simp [entN]
  refine br_f (decide_eq_false (by omega)) (fourth9_spec hn (by omega) ⟨_, rfl, br_f (decide_eq_false (by omega)) ?_⟩)
  rw [wrap64_id (n := 8 + (((bodyN x).length : Nat) : Int)) (by omega) (by omega)]
  have e1 : (strN (entN x ++ r)).extract (Int.toNat 4) (Int.toNat (8 + (((bodyN x).length : Nat) : Int))) = strN (sumd (bodyN x)) := by
    have e : entN x ++ r = fourN (bodyN x).length ++ (sumd (bodyN x) ++ r) := by simp [entN]
    rw [e]
    exact ext_mid (fourN_bytes _) (sumd_bytes (bodyN_bytes x)) hr rfl (by rw [sumd_len]; simp [fourN]; omega)
  refine br_f (decide_eq_false (by omega)) ⟨by omega, by omega, by decide, by omega, ?_⟩
  rw [e1]
  refine unsummed9_spec (bodyN_bytes x) (by omega) fun H1 s1 => ⟨_, _, rfl, br_f rfl ?_⟩
  refine numbers9_spec (a := x.1) (b := x.2.1) (r := encN (x.2.2.size : Nat) ++ nb x.2.2) (app_bytes (encN_bytes _) (nb_byte _)) (by decide) x0 x1 y0 y1 ?_ ⟨_, _, _, _, rfl, text9_spec (by omega) (by decide) ⟨_, _, rfl, br_f rfl (br_f rfl ?_)⟩⟩
  · have := encN_len (x.2.2.size : Nat)
    rw [List.length_append, nb_len]; omega
  · have := k H1 s1
    have el : (((entN x).length : Nat) : Int) = 8 + (((bodyN x).length : Nat) : Int) := by omega
    rw [el] at this; exact this
theorem ents_bytes (l : List En) : ∀ b ∈ l.flatMap entN, b < 256 := fun b hb => by
  obtain ⟨e, -, h⟩ := List.mem_flatMap.1 hb
  exact entN_bytes e b h
theorem ents_len {l : List En} (h : ∀ x ∈ l, x.2.2.size ≤ 2048) : (l.flatMap entN).length ≤ l.length * 2086 := by
  induction l with
  | nil => simp
  | cons x l ih =>
    have h1 := bodyN_len x
    have h2 := h x (by simp)
    have h3 := ih fun y hy => h y (List.mem_cons_of_mem _ hy)
    rw [List.flatMap_cons, List.length_append, entN_len, List.length_cons]
    omega
end
end Go.Proofs.YthldclmeojkboaaGreatDoor
namespace Go.Proofs.YthldclmeojkboaaGreatDoor
open Go Go.HL
set_option maxHeartbeats 1600000
set_option maxRecDepth 10000
structure RS where
  term : Int
  vote : Int
  index : Int
  snapped : Int
  data : ByteArray
  l : List En
def lgc (c d : Nat) (st : RS) : Chunk := fun H => ∃ s : Sl, HL.Holds [blk c (.cells #[.int .i64 st.term, .int .i64 st.vote, .int .i64 st.index, .int .i64 st.snapped, .string st.data, .slice s.p s.n s.c, .pointer (some ⟨d, 0, none⟩), .string ⟨#[114]⟩] 89 (0, 0)), ownE s st.l] H
theorem lgc_mono {c d : Nat} {st : RS} : Mono (lgc c d st) := fun _ _ hs ⟨q, h⟩ => ⟨q, h.up hs⟩
theorem lgc_open {cs : List Chunk} {H : Heap} {c d : Nat} {st : RS} : HL.Holds (lgc c d st :: cs) H ↔ ∃ s : Sl, HL.Holds (blk c (.cells #[.int .i64 st.term, .int .i64 st.vote, .int .i64 st.index, .int .i64 st.snapped, .string st.data, .slice s.p s.n s.c, .pointer (some ⟨d, 0, none⟩), .string ⟨#[114]⟩] 89 (0, 0)) :: ownE s st.l :: cs) H := Holds.open
def lastX (st : RS) : Int × Int := match st.l.getLast? with | some x => (x.2.1, x.1) | none => (st.index, st.snapped)
def atX (st : RS) (i : Int) : Option En := if i ≤ st.index then none else st.l[(i - st.index - 1).toNat]?
section
variable {cs : List Chunk} {H : Heap} {K : Value → Heap → Prop}
theorem bytes9_spec {s : Sl} {l : List En} (h : Recs eE H s l) (hi : ∀ x ∈ l, i64B x.1 ∧ i64B x.2.1 ∧ x.2.2.size ≤ 2048) (hl : l.length ≤ 100000) (k : ∀ H', HL.Sub H H' → K (.string (strN (l.flatMap entN))) H') : FnH Tryz.prog 103 #[.slice s.p s.n s.c] H K := by
  apply raftlog_bytes_fn
  unfold raftlog_bytes_vc
  have hn := h.len
  refine ⟨fun b i H' => 0 ≤ i ∧ i ≤ s.n ∧ HL.Holds [ownY b ((l.take i.toNat).flatMap entN), ro H] H', fun _ i _ => (s.n - i).toNat, ⟨Int.le_refl _, by omega, (Holds.whole H).own_nil 5 1⟩, ?_⟩
  rintro b i H1 ⟨i0, i1, h1⟩
  have hR := Recs.mono _ _ (h1.sub 1 rfl) h
  have hb := (h1.own 0 rfl).1
  simp only [List.length_map, Nat.mul_one] at hb
  have hlen := ents_len (l := l.take i.toNat) fun x hx => (hi x (List.mem_of_mem_take hx)).2.2
  rw [List.length_take] at hlen
  refine br_intro (fun w => ?_) (fun w => ?_)
  · have w := of_decide_eq_true w
    obtain ⟨q, o, x, x1, x2, x3⟩ := hR.at_ eElen (by decide) i0 w
    obtain ⟨b1, b2, b3⟩ := hi x (List.mem_of_getElem? x2)
    have lb := bodyN_len x
    have zb := strN_size (bodyN_bytes x)
    refine ⟨q, o, x1, i0, w, _, x3 0 _ rfl, _, x3 1 _ rfl, _, x3 2 _ rfl, body9_spec b1 b2 (by omega) fun H2 s2 => ⟨_, rfl, ?_⟩⟩
    rw [zb]
    refine four9_spec (by omega) fun H3 s3 => ⟨_, rfl, ?_⟩
    have z4 : (strN (fourN (bodyN x).length)).size = 4 := by rw [strN_size (fourN_bytes _)]; rfl
    refine Holds.appendStr okBy uStr (h1.up (s2.trans s3)) (by rw [z4]; omega) fun r H4 h4 n4 => ⟨r, rfl, ?_⟩
    rw [z4] at n4
    refine summed9_spec (s := strN (bodyN x)) (by omega) fun H5 s5 => ⟨_, rfl, ?_⟩
    rw [nb_str (bodyN_bytes x)]
    have z5 : (strN (sumd (bodyN x))).size = 4 + (bodyN x).length := by rw [strN_size (sumd_bytes (bodyN_bytes x)), sumd_len]
    refine Holds.appendStr okBy uStr (h4.up s5) (by rw [z5]; omega) fun r2 H6 h6 n6 => ⟨r2, rfl, rfl, ?_⟩
    rw [wrap64_id (n := i + 1) (by omega) (by omega)]
    refine ⟨⟨by omega, by omega, ?_⟩, by dsimp only; omega⟩
    rw [take_step i0 x2, List.flatMap_append]
    rw [strV_str (fourN_bytes _), strV_str (sumd_bytes (bodyN_bytes x))] at h6
    have e : byV ((l.take i.toNat).flatMap entN ++ [x].flatMap entN) = byV ((l.take i.toNat).flatMap entN) ++ byV (fourN (bodyN x).length) ++ byV (sumd (bodyN x)) := by simp [entN]
    show HL.Holds [own 5 1 r2 (byV _), ro H] H6
    rw [e]; exact h6
  · have w := of_decide_eq_false w
    rw [List.take_of_length_le (by omega)] at h1
    exact toStr (r := b) (h1.own 0 rfl) (ents_bytes l) ⟨_, rfl, k H1 (h1.sub 1 rfl)⟩
theorem lgc_recs {c d : Nat} {st : RS} {s : Sl} {H : Heap} (hl : st.l.length ≤ 100000) (h : HL.Holds [blk c (.cells #[.int .i64 st.term, .int .i64 st.vote, .int .i64 st.index, .int .i64 st.snapped, .string st.data, .slice s.p s.n s.c, .pointer (some ⟨d, 0, none⟩), .string ⟨#[114]⟩] 89 (0, 0)), ownE s st.l] H) : Recs eE H s st.l := Own.recs eElen (by decide) (h.own 1 rfl) (by omega)
theorem last9_spec {c d i : Nat} {st : RS} (h : HL.Holds cs H) (ei : cs[i]? = some (lgc c d st)) (hl : st.l.length ≤ 100000) (k : K (.tuple #[.int .i64 (lastX st).1, .int .i64 (lastX st).2]) H) : FnH Tryz.prog 33 #[.pointer (some ⟨c, 0, none⟩)] H K := by
  apply raftlog_state_Last_fn
  unfold raftlog_state_Last_vc
  obtain ⟨s, hc⟩ := h.read i ei lgc_mono
  have hR := lgc_recs hl hc
  have hn := hR.len
  have c5 : cellH H ⟨c, 0 + 5, none⟩ = some (.slice s.p s.n s.c) := hc.cell 0 rfl rfl
  unfold lastX at k
  refine ⟨s, c5, br_intro (fun q => ?_) (fun q => ?_)⟩
  · have q := of_decide_eq_true q
    rw [wrap64_id (n := (s.n : Int) - 1) (by omega) (by omega)]
    obtain ⟨b, o, x, e1, e2, e3⟩ := hR.at_ eElen (by decide) (j := (s.n : Int) - 1) (by omega) (by omega)
    have el : st.l.getLast? = some x := by
      rw [List.getLast?_eq_getElem?, ← e2]; congr 1; omega
    rw [el] at k
    exact ⟨s, c5, b, o, e1, by omega, by omega, _, e3 1 _ rfl, s, c5, b, o, e1, by omega, by omega, _, e3 0 _ rfl, k⟩
  · have q := of_decide_eq_false q
    have e : st.l = [] := List.eq_nil_of_length_eq_zero (by omega)
    have el : st.l.getLast? = none := by rw [e]; rfl
    rw [el] at k
    exact ⟨_, hc.cell 0 rfl rfl, _, hc.cell 0 rfl rfl, k⟩
theorem at9_spec {c d i : Nat} {st : RS} {x : Int} (h : HL.Holds cs H) (ei : cs[i]? = some (lgc c d st)) (hl : st.l.length ≤ 100000) (h0 : 0 ≤ st.index) (h1 : st.index ≤ 1000000000) (hx : x ≤ 9223372036854775807)
    (k0 : atX st x = none → K (.tuple #[.agg #[.int .i64 0, .int .i64 0, .string (⟨#[]⟩ : ByteArray)], .bool false]) H) (k1 : ∀ e, atX st x = some e → K (.tuple #[.agg #[.int .i64 e.1, .int .i64 e.2.1, .string e.2.2], .bool true]) H) : FnH Tryz.prog 94 #[.pointer (some ⟨c, 0, none⟩), .int .i64 x] H K := by
  apply raftlog_state_At_fn
  unfold raftlog_state_At_vc
  obtain ⟨s, hc⟩ := h.read i ei lgc_mono
  have hR := lgc_recs hl hc
  have hn := hR.len
  have c5 : cellH H ⟨c, 0 + 5, none⟩ = some (.slice s.p s.n s.c) := hc.cell 0 rfl rfl
  unfold atX at k0 k1
  refine ⟨_, hc.cell 0 rfl rfl, _, hc.cell 0 rfl rfl, br_intro (fun q => ?_) (fun q => ⟨s, c5, ?_⟩)⟩
  · have q := of_decide_eq_true q
    rw [if_pos q] at k0; exact k0 rfl
  · have q := of_decide_eq_false q
    rw [if_neg q] at k0 k1
    rw [wrap64_id (n := x - st.index) (by omega) (by omega), wrap64_id (n := x - st.index - 1) (by omega) (by omega)]
    refine br_intro (fun w => ?_) (fun w => ?_)
    · have w := of_decide_eq_true w
      exact k0 (List.getElem?_eq_none (by omega))
    · have w := of_decide_eq_false w
      obtain ⟨b, o, e, e1, e2, e3⟩ := hR.at_ eElen (by decide) (j := x - st.index - 1) (by omega) (by omega)
      exact ⟨s, c5, b, o, e1, by omega, by omega, _, e3 0 _ rfl, _, e3 1 _ rfl, _, e3 2 _ rfl, k1 e e2⟩
end
end Go.Proofs.YthldclmeojkboaaGreatDoor
namespace Go.Proofs.YthldclmeojkboaaGreatDoor
open Go Go.HL
set_option maxHeartbeats 1600000
set_option maxRecDepth 10000
def fromX (st : RS) (i m : Int) : List En := if atX st i = none ∨ m < 1 then [] else (st.l.drop (i - st.index - 1).toNat).take m.toNat
def enC (after : Int) (i : Nat) (p : Option En) (x : En) : Int := if x.2.1 ≠ after + 1 + i ∨ x.2.1 > 1000000000 ∨ ¬ (1 ≤ x.1 ∧ x.1 ≤ 1000000000) ∨ (∃ y, p = some y ∧ x.1 < y.1) then 1 else if x.2.2.size > 2048 then 2 else 0
def rightX (after : Int) : Nat → Option En → List En → Int
  | _, _, [] => 0
  | i, p, x :: l => if enC after i p x ≠ 0 then enC after i p x else rightX after (i + 1) (some x) l
theorem nd_t {p : Prop} [Decidable p] (h : (!decide p) = true) : ¬ p := fun z => by rw [decide_eq_true z] at h; cases h
theorem nd_f {p : Prop} [Decidable p] (h : (!decide p) = false) : p := Decidable.byContradiction fun z => by rw [decide_eq_false z] at h; cases h
section
variable {cs : List Chunk} {H : Heap} {K : Value → Heap → Prop}
theorem from9_spec {c d i : Nat} {st : RS} {x m : Int} (h : HL.Holds cs H) (ei : cs[i]? = some (lgc c d st)) (hl : st.l.length ≤ 100000) (h0 : 0 ≤ st.index) (h1 : st.index ≤ 1000000000) (hx : x ≤ 9223372036854775807)
    (k : ∀ (r : Sl) H', HL.Sub H H' → HL.Holds (ownE r (fromX st x m) :: cs) H' → K (.slice r.p r.n r.c) H') : FnH Tryz.prog 57 #[.pointer (some ⟨c, 0, none⟩), .int .i64 x, .int .i64 m] H K := by
  apply raftlog_state_From_fn
  unfold raftlog_state_From_vc
  have nil : fromX st x m = [] → K (.slice none 0 0) H := fun e => by
    rw [e] at k
    exact k ⟨none, 0, 0⟩ H (HL.Sub.refl _) (h.own_nil 51 3)
  obtain ⟨s, hc⟩ := h.read i ei lgc_mono
  have hR := lgc_recs hl hc
  have hn := hR.len
  have hcap := hR.cap
  have c5 : cellH H ⟨c, 0 + 5, none⟩ = some (.slice s.p s.n s.c) := hc.cell 0 rfl rfl
  refine at9_spec h ei hl h0 h1 hx (fun e => ⟨_, _, _, _, rfl, br_t rfl (nil ?_)⟩) fun e he => ⟨_, _, _, _, rfl, br_f rfl (br_intro (fun q => nil ?_) (fun q => ⟨s, c5, _, hc.cell 0 rfl rfl, ?_⟩))⟩
  · unfold fromX; rw [if_pos (.inl e)]
  · have q := of_decide_eq_true q
    unfold fromX; rw [if_pos (.inr q)]
  have q := of_decide_eq_false q
  unfold fromX at k
  rw [if_neg (by rintro (z | z); (rw [he] at z; cases z); exact q z)] at k
  have hi : ¬ x ≤ st.index := fun z => by unfold atX at he; rw [if_pos z] at he; cases he
  have hj : (x - st.index - 1).toNat < st.l.length := by
    unfold atX at he; rw [if_neg hi] at he
    exact (List.getElem?_eq_some_iff.1 he).1
  rw [wrap64_id (n := x - st.index) (by omega) (by omega), wrap64_id (n := x - st.index - 1) (by omega) (by omega)]
  have hkk : ∃ kk : Int, x - st.index - 1 = kk := ⟨_, rfl⟩
  obtain ⟨kk, hkk⟩ := hkk
  rw [hkk] at hj k ⊢
  have hmm : ∃ mm : Int, (if ((Int.toNat (((s.n : Nat) : Int) - kk) : Nat) : Int) < m then ((Int.toNat (((s.n : Nat) : Int) - kk) : Nat) : Int) else m) = mm := ⟨_, rfl⟩
  obtain ⟨mm, hmm⟩ := hmm
  rw [hmm]
  have hf := hR.from_ eElen (j := kk) (by omega) (by omega)
  have m0 : 0 ≤ mm := by rw [← hmm]; split <;> omega
  have m1 : mm ≤ ((s.from_ kk 3).n : Int) := by
    show mm ≤ ((Int.toNat (((s.n : Nat) : Int) - kk) : Nat) : Int)
    rw [← hmm]; split <;> omega
  have hu := hf.upto eElen (j := mm) m0 m1
  have em : (st.l.drop kk.toNat).take mm.toNat = (st.l.drop kk.toNat).take m.toNat := by
    rw [← hmm]
    split
    · rw [List.take_of_length_le (by rw [List.length_drop]; omega), List.take_of_length_le (by rw [List.length_drop]; omega)]
    · rfl
  rw [em] at hu
  exact ⟨by omega, by omega, by omega, by omega, eclone_spec (s := (s.from_ kk 3).upto mm 3) h hu (by rw [List.length_take, List.length_drop]; omega) fun r H' s' h' => ⟨r, rfl, k r H' s' h'⟩⟩
theorem right9_spec {s : Sl} {l : List En} {after : Int} (h : Recs eE H s l) (ha : 0 ≤ after) (hb : after ≤ 1000000000) (hl : l.length ≤ 1000000) (k : K (.int .i64 (rightX after 0 none l)) H) : FnH Tryz.prog 142 #[.int .i64 after, .slice s.p s.n s.c] H K := by
  apply raftlog_right_fn
  unfold raftlog_right_vc
  have hn := h.len
  refine ⟨fun i H' => H' = H ∧ 0 ≤ i ∧ i ≤ s.n ∧ rightX after 0 none l = rightX after i.toNat (if i = 0 then none else l[(i - 1).toNat]?) (l.drop i.toNat), fun i _ => (s.n - i).toNat, ⟨rfl, Int.le_refl _, by omega, rfl⟩, ?_⟩
  rintro i H1 ⟨rfl, i0, i1, he⟩
  refine br_intro (fun w => ?_) (fun w => ?_)
  · have w := of_decide_eq_true w
    obtain ⟨q, o, x, x1, x2, x3⟩ := h.at_ eElen (by decide) i0 w
    have hx := (List.getElem?_eq_some_iff.1 x2)
    obtain ⟨hx1, hx2⟩ := hx
    rw [List.drop_eq_getElem_cons hx1, hx2] at he
    obtain ⟨p, hp⟩ : ∃ p, (if i = 0 then none else l[(i - 1).toNat]?) = p := ⟨_, rfl⟩
    rw [hp] at he
    have ew : IntKind.wrap .i64 (IntKind.wrap .i64 (after + 1) + i) = after + 1 + i := by
      rw [wrap64_id (n := after + 1) (by omega) (by omega)]
      exact wrap64_id (by omega) (by omega)
    rw [ew, wrap64_id (n := i + 1) (by omega) (by omega)]
    have t1 : (i + 1).toNat = i.toNat + 1 := by omega
    have t2 : (i + 1 - 1).toNat = i.toNat := by omega
    have t3 : ¬ i + 1 = 0 := by omega
    have t4 : 0 ≤ i + 1 := by omega
    have t5 : i + 1 ≤ s.n := by omega
    have t6 : ((s.n : Int) - (i + 1)).toNat < ((s.n : Int) - i).toNat := by omega
    refine ⟨q, o, x1, i0, w, _, x3 0 _ rfl, _, x3 1 _ rfl, _, x3 2 _ rfl, fun b H' => H' = H1 ∧ (b = true ↔ (x.2.1 ≠ after + 1 + (i.toNat : Nat) ∨ x.2.1 > 1000000000 ∨ ¬ (1 ≤ x.1 ∧ x.1 ≤ 1000000000) ∨ (∃ y, p = some y ∧ x.1 < y.1))), ?_, ?_⟩
    · have hi : ((i.toNat : Nat) : Int) = i := by omega
      rw [hi]
      refine br_intro (fun u => ⟨rfl, rfl, ?_⟩) (fun u => br_intro (fun u2 => ⟨rfl, rfl, ?_⟩) (fun u2 => ?_))
      · have u : ¬ x.2.1 = after + 1 + i := by simpa using u
        exact ⟨fun _ => .inl u, fun _ => rfl⟩
      · exact ⟨fun _ => .inr (.inl (of_decide_eq_true u2)), fun _ => rfl⟩
      · have u : x.2.1 = after + 1 + i := by simpa using u
        have u2 := of_decide_eq_false u2
        apply raftlog_within_fn
        unfold raftlog_within_vc
        refine br_intro (fun v => ⟨_, rfl, HL.Sub.refl _, br_intro (fun v2 => ⟨rfl, rfl, ?_⟩) (fun v2 => br_intro (fun v3 => ?_) (fun v3 => ⟨rfl, rfl, ?_⟩))⟩) (fun v => ⟨_, rfl, HL.Sub.refl _, br_t rfl ⟨rfl, rfl, ?_⟩⟩)
        · have v2 : ¬ x.1 ≤ 1000000000 := nd_t v2
          exact ⟨fun _ => .inr (.inr (.inl fun z => v2 z.2)), fun _ => rfl⟩
        · have v := of_decide_eq_true v
          have v2 : x.1 ≤ 1000000000 := nd_f v2
          have v3 := of_decide_eq_true v3
          rw [wrap64_id (n := i - 1) (by omega) (by omega)]
          obtain ⟨q', o', y, y1, y2, y3⟩ := h.at_ eElen (by decide) (j := i - 1) (by omega) (by omega)
          rw [if_neg (by omega), y2] at hp
          refine ⟨q', o', y1, by omega, by omega, _, y3 0 _ rfl, rfl, rfl, ?_⟩
          rw [← hp, decide_eq_true_eq]
          constructor
          · intro z; exact .inr (.inr (.inr ⟨y, rfl, z⟩))
          · rintro (z | z | z | ⟨y', z1, z2⟩)
            · exact absurd u z
            · exact absurd z u2
            · exact absurd ⟨v, v2⟩ z
            · cases z1; exact z2
        · have v := of_decide_eq_true v
          have v2 : x.1 ≤ 1000000000 := nd_f v2
          have v3 := of_decide_eq_false v3
          rw [if_pos (by omega)] at hp
          rw [← hp]
          constructor
          · intro z; cases z
          · rintro (z | z | z | ⟨y', z1, z2⟩)
            · exact absurd u z
            · exact absurd z u2
            · exact absurd ⟨v, v2⟩ z
            · cases z1
        · have v := of_decide_eq_false v
          exact ⟨fun _ => .inr (.inr (.inl fun z => v z.1)), fun _ => rfl⟩
    · rintro b H3 ⟨rfl, hbb⟩
      have hc : rightX after i.toNat p (x :: l.drop (i.toNat + 1)) = if enC after i.toNat p x ≠ 0 then enC after i.toNat p x else rightX after (i.toNat + 1) (some x) (l.drop (i.toNat + 1)) := rfl
      rw [hc] at he
      refine br_intro (fun u => ?_) (fun u => br_intro (fun u2 => ?_) (fun u2 => ⟨rfl, ⟨rfl, t4, t5, ?_⟩, t6⟩))
      · have e1 : enC after i.toNat p x = 1 := by unfold enC; rw [if_pos (hbb.1 u)]
        rw [e1, if_pos (by decide)] at he
        rw [he] at k; exact k
      · have u2 := of_decide_eq_true u2
        have e1 : enC after i.toNat p x = 2 := by
          unfold enC
          rw [if_neg (fun z => by rw [hbb.2 z] at u; cases u), if_pos (by clear hbb; omega)]
        rw [e1, if_pos (by decide)] at he
        rw [he] at k; exact k
      · have u2 := of_decide_eq_false u2
        have e1 : enC after i.toNat p x = 0 := by
          unfold enC
          rw [if_neg (fun z => by rw [hbb.2 z] at u; cases u), if_neg (by clear hbb; omega)]
        rw [e1, if_neg (by decide)] at he
        rw [he, t1, if_neg t3, t2, x2]
  · have w := of_decide_eq_false w
    rw [List.drop_eq_nil_of_le (by omega)] at he
    have e0 : ∀ p, rightX after i.toNat p [] = 0 := fun _ => rfl
    rw [he, e0] at k; exact k
end
end Go.Proofs.YthldclmeojkboaaGreatDoor
namespace Go.Proofs.YthldclmeojkboaaGreatDoor
open Go Go.HL
set_option maxHeartbeats 1600000
set_option maxRecDepth 10000
def termB (t v : Int) : ByteArray := strN (sumd (encN t ++ encN v))
abbrev inX (n least : Int) : Prop := least ≤ n ∧ n ≤ 1000000000
def turnX (size : Int) (F : Fs) (st : RS) (t v : Int) : Int × Fs × RS :=
  if ¬ (inX t 0 ∧ inX v 0) then (1, F, st) else if t < st.term then (13, F, st) else if t = st.term ∧ v = st.vote then (0, F, st)
  else if t = st.term ∧ st.vote ≠ 0 then (19, F, st) else if repC size F nTerm (termB t v) ≠ 0 then (repC size F nTerm (termB t v), repM size F nTerm (termB t v), st)
  else (0, repM size F nTerm (termB t v), { st with term := t, vote := v })
section
variable {cs : List Chunk} {H : Heap} {K : Value → Heap → Prop}
theorem within9_any {n least : Int} (k : ∀ b : Bool, (b = true ↔ inX n least) → K (.bool b) H) : FnH Tryz.prog 84 #[.int .i64 n, .int .i64 least] H K := by
  apply raftlog_within_fn
  unfold raftlog_within_vc
  refine br_intro (fun q => k _ ?_) (fun q => k _ ?_)
  · have q := of_decide_eq_true q
    rw [decide_eq_true_eq]
    exact ⟨fun z => ⟨q, z⟩, fun z => z.2⟩
  · have q := of_decide_eq_false q
    exact ⟨fun z => (by cases z), fun z => absurd z.1 q⟩
theorem turn9_spec {c d : Nat} {size : Int} {F : Fs} {st : RS} {t v : Int} (h : HL.Holds (lgc c d st :: dsk d size F :: cs) H)
    (k : ∀ H', HL.Holds (lgc c d (turnX size F st t v).2.2 :: dsk d size (turnX size F st t v).2.1 :: cs) H' → K (.int .i64 (turnX size F st t v).1) H') : FnH Tryz.prog 45 #[.pointer (some ⟨c, 0, none⟩), .int .i64 t, .int .i64 v] H K := by
  apply raftlog_Log_Turn_fn
  unfold raftlog_Log_Turn_vc
  obtain ⟨s, h1⟩ := lgc_open.1 h
  unfold turnX at k
  refine ⟨_, h1.cell 0 rfl rfl, fun b H' => H' = H ∧ (b = true ↔ ¬ (inX t 0 ∧ inX v 0)), within9_any fun b1 hb1 => ⟨_, rfl, br_intro (fun q => ⟨rfl, rfl, ?_⟩) (fun q => within9_any fun b2 hb2 => ⟨_, rfl, rfl, rfl, ?_⟩)⟩, ?_⟩
  · have q : ¬ inX t 0 := fun z => by rw [hb1.2 z] at q; cases q
    exact ⟨fun _ z => q z.1, fun _ => rfl⟩
  · have q : inX t 0 := hb1.1 (by cases b1 <;> simp_all)
    constructor
    · intro z w
      rw [hb2.2 w.2] at z; cases z
    · intro z
      cases b2 with
      | true => exact absurd ⟨q, hb2.1 rfl⟩ z
      | false => rfl
  rintro b H1 ⟨rfl, hb⟩
  refine br_intro (fun q => ?_) (fun q => ⟨_, h1.cell 0 rfl rfl, br_intro (fun q2 => ?_) (fun q2 => ?_)⟩)
  · rw [if_pos (hb.1 q)] at k; exact k H1 h
  · rw [if_neg (fun z => by rw [hb.2 z] at q; cases q), if_pos (of_decide_eq_true q2)] at k; exact k H1 h
  have q : inX t 0 ∧ inX v 0 := Decidable.byContradiction fun z => by rw [hb.2 z] at q; cases q
  have q2 := of_decide_eq_false q2
  rw [if_neg (fun z => z q), if_neg q2] at k
  obtain ⟨⟨t0, t1⟩, v0, v1⟩ := q
  have go : ¬ (t = st.term ∧ v = st.vote) → ¬ (t = st.term ∧ st.vote ≠ 0) → (∃ p1 : Option Addr, cellH H1 ⟨c, 0 + 6, none⟩ = some (.pointer p1) ∧ ∃ s1 : ByteArray, cellH H1 ⟨c, 0 + 7, none⟩ = some (.string s1) ∧ s1.size + (⟨#[46, 116, 101, 114, 109]⟩ : ByteArray).size < 9223372036854775808 ∧
      FnH Tryz.prog 87 #[.int .i64 t] H1 fun r3 H5 => ∃ s2 : ByteArray, r3 = .string s2 ∧ HL.Sub H1 H5 ∧ FnH Tryz.prog 87 #[.int .i64 v] H5 fun r4 H6 => ∃ s3 : ByteArray, r4 = .string s3 ∧ HL.Sub H1 H6 ∧ s2.size + s3.size < 9223372036854775808 ∧
        FnH Tryz.prog 86 #[.string (s2 ++ s3)] H6 fun r5 H7 => ∃ s4 : ByteArray, r5 = .string s4 ∧ HL.Sub H1 H7 ∧ FnH Tryz.prog 85 #[.pointer p1, .string (s1 ++ (⟨#[46, 116, 101, 114, 109]⟩ : ByteArray)), .string s4] H7 fun r6 H8 => ∃ n5 : Int, r6 = .int .i64 n5 ∧
          br (n5 != 0) (K (.int .i64 n5) H8) ((∃ u, cellH H8 ⟨c, 0, none⟩ = some u) ∧ frozenH H8 ⟨c, 0, none⟩ = false ∧ letH (Heap.set H8 ⟨c, 0, none⟩ (.int .i64 t)) fun H9 => (∃ u, cellH H9 ⟨c, 0 + 1, none⟩ = some u) ∧ frozenH H9 ⟨c, 0 + 1, none⟩ = false ∧ letH (Heap.set H9 ⟨c, 0 + 1, none⟩ (.int .i64 v)) fun H10 => K (.int .i64 0) H10)) := fun n1 n2 => by
    rw [if_neg n1, if_neg n2] at k
    have la := encN_len t
    have lb := encN_len v
    have za := strN_size (encN_bytes t)
    have zb := strN_size (encN_bytes v)
    refine ⟨_, h1.cell 0 rfl rfl, _, h1.cell 0 rfl rfl, by decide, int_spec ⟨by omega, by omega⟩ fun H5 s5 => ⟨_, rfl, s5, int_spec ⟨by omega, by omega⟩ fun H6 s6 => ⟨_, rfl, s5.trans s6, by omega, ?_⟩⟩⟩
    rw [strN_app]
    have zs : (strN (encN t ++ encN v)).size = (encN t).length + (encN v).length := app_size (encN_bytes t) (encN_bytes v)
    refine summed9_spec (by omega) fun H7 s7 => ⟨_, rfl, (s5.trans s6).trans s7, ?_⟩
    rw [nb_str (app_bytes (encN_bytes t) (encN_bytes v))]
    have en : (⟨#[114]⟩ : ByteArray) ++ (⟨#[46, 116, 101, 114, 109]⟩ : ByteArray) = nTerm := by decide +kernel
    rw [en]
    refine replace_spec (n := nTerm) (b := termB t v) ((h1.up ((s5.trans s6).trans s7)).pull 2 rfl) fun H8 h8 => ⟨_, rfl, br_intro (fun u => ?_) (fun u => ?_)⟩
    · have u : repC size F nTerm (termB t v) ≠ 0 := by simpa using u
      rw [if_pos u] at k
      exact k H8 (lgc_open.2 ⟨s, h8.down 2⟩)
    · have u : repC size F nTerm (termB t v) = 0 := by simpa using u
      rw [if_neg (fun z => z u)] at k
      refine h8.store 1 rfl (by simp) fun H9 h9 => h9.store 1 rfl (by simp) fun H10 h10 => k H10 (lgc_open.2 ⟨s, ?_⟩)
      have h10 : HL.Holds (dsk d size (repM size F nTerm (termB t v)) :: blk c (.cells #[.int .i64 t, .int .i64 v, .int .i64 st.index, .int .i64 st.snapped, .string st.data, .slice s.p s.n s.c, .pointer (some ⟨d, 0, none⟩), .string ⟨#[114]⟩] 89 (0, 0)) :: ownE s st.l :: cs) H10 := h10
      exact h10.down 2
  have e0 : ∀ b : Bool, (b = true ↔ t = st.term ∧ v = st.vote) → (b = false → ¬ (t = st.term ∧ v = st.vote)) := fun b hb e z => by rw [hb.2 z] at e; cases e
  refine ⟨fun b H' => H' = H1 ∧ (b = true ↔ t = st.term ∧ v = st.vote), br_intro (fun u => ⟨_, h1.cell 0 rfl rfl, rfl, rfl, ?_⟩) (fun u => ⟨rfl, rfl, ?_⟩), ?_⟩
  · have u : t = st.term := by simpa using u
    simp [u]
  · have u : ¬ t = st.term := by simpa using u
    simp [u]
  rintro b2 H4 ⟨rfl, hb2⟩
  refine br_intro (fun u => ?_) (fun u => br_intro (fun u2 => ⟨_, h1.cell 0 rfl rfl, br_intro (fun u3 => ?_) (fun u3 => go (e0 _ hb2 u) ?_)⟩) (fun u2 => go (e0 _ hb2 u) ?_))
  · rw [if_pos (hb2.1 u)] at k; exact k H4 h
  · have u2 : t = st.term := by simpa using u2
    have u3 : ¬ st.vote = 0 := by simpa using u3
    rw [if_neg (e0 _ hb2 u), if_pos ⟨u2, u3⟩] at k; exact k H4 h
  · have u3 : st.vote = 0 := by simpa using u3
    exact fun z => z.2 u3
  · have u2 : ¬ t = st.term := by simpa using u2
    exact fun z => u2 z.1
end
end Go.Proofs.YthldclmeojkboaaGreatDoor
namespace Go.Proofs.YthldclmeojkboaaGreatDoor
open Go Go.HL
set_option maxHeartbeats 3200000
set_option maxRecDepth 10000
def snapN (i t : Int) (data : ByteArray) : List Nat := encN i ++ (encN t ++ (encN (data.size : Nat) ++ nb data))
def snapB (i t : Int) (data : ByteArray) : ByteArray := strN (sumd (snapN i t data))
theorem snapN_bytes (i t : Int) (data : ByteArray) : ∀ b ∈ snapN i t data, b < 256 := app_bytes (encN_bytes _) (app_bytes (encN_bytes _) (app_bytes (encN_bytes _) (nb_byte _)))
theorem snapN_len (i t : Int) (data : ByteArray) : (snapN i t data).length ≤ 30 + data.size := by
  have h1 := encN_len i
  have h2 := encN_len t
  have h3 := encN_len (data.size : Nat)
  unfold snapN
  rw [List.length_append, List.length_append, List.length_append, nb_len]
  omega
def leftX (st : RS) (i t : Int) : List En := match atX st i with
  | some e => if e.1 = t then st.l.drop (i - st.index).toNat else []
  | none => []
def logF (size : Int) (F : Fs) (l : List En) : Fs := if lookL F nLog = none then F else repM size F nLog (strN (l.flatMap entN))
def snapX (size : Int) (F : Fs) (st : RS) (i t : Int) (data : ByteArray) : Int × Fs × RS :=
  if ¬ (inX i 1 ∧ inX t 1) then (1, F, st) else if data.size > 60000 then (2, F, st) else if i ≤ st.index then (10, F, st) else if t < st.snapped then (1, F, st)
  else if repC size F nSnap (snapB i t data) ≠ 0 then (repC size F nSnap (snapB i t data), repM size F nSnap (snapB i t data), st)
  else (0, logF size (repM size F nSnap (snapB i t data)) (leftX st i t), { st with index := i, snapped := t, data := data, l := leftX st i t })
theorem leftX_len (st : RS) (i t : Int) : (leftX st i t).length ≤ st.l.length := by
  unfold leftX
  split
  · split
    · rw [List.length_drop]; omega
    · simp
  · simp
section
variable {cs : List Chunk} {H : Heap} {K : Value → Heap → Prop}
theorem snap9_spec {c d : Nat} {size : Int} {F : Fs} {st : RS} {i t : Int} {data : ByteArray} (h : HL.Holds (lgc c d st :: dsk d size F :: cs) H) (hl : st.l.length ≤ 100000) (hi : ∀ x ∈ st.l, i64B x.1 ∧ i64B x.2.1 ∧ x.2.2.size ≤ 2048) (i0 : 0 ≤ st.index) (i1 : st.index ≤ 1000000000)
    (k : ∀ H', HL.Holds (lgc c d (snapX size F st i t data).2.2 :: dsk d size (snapX size F st i t data).2.1 :: cs) H' → K (.int .i64 (snapX size F st i t data).1) H') : FnH Tryz.prog 92 #[.pointer (some ⟨c, 0, none⟩), .int .i64 i, .int .i64 t, .string data] H K := by
  apply raftlog_Log_Snap_fn
  unfold raftlog_Log_Snap_vc
  obtain ⟨s, h1⟩ := lgc_open.1 h
  unfold snapX at k
  refine ⟨fun b H' => H' = H ∧ (b = true ↔ ¬ (inX i 1 ∧ inX t 1)), within9_any fun b1 hb1 => ⟨_, rfl, br_intro (fun q => ⟨rfl, rfl, ?_⟩) (fun q => within9_any fun b2 hb2 => ⟨_, rfl, rfl, rfl, ?_⟩)⟩, ?_⟩
  · have q : ¬ inX i 1 := fun z => by rw [hb1.2 z] at q; cases q
    exact ⟨fun _ z => q z.1, fun _ => rfl⟩
  · have q : inX i 1 := hb1.1 (by cases b1 <;> simp_all)
    constructor
    · intro z w
      rw [hb2.2 w.2] at z; cases z
    · intro z
      cases b2 with
      | true => exact absurd ⟨q, hb2.1 rfl⟩ z
      | false => rfl
  rintro b H1 ⟨rfl, hb⟩
  refine br_intro (fun q => ?_) (fun q => br_intro (fun q2 => ?_) (fun q2 => ⟨_, h1.cell 0 rfl rfl, br_intro (fun q3 => ?_) (fun q3 => ⟨_, h1.cell 0 rfl rfl, br_intro (fun q4 => ?_) (fun q4 => ?_)⟩)⟩))
  · rw [if_pos (hb.1 q)] at k; exact k H1 h
  · rw [if_neg (fun z => by rw [hb.2 z] at q; cases q), if_pos (by have := of_decide_eq_true q2; omega)] at k; exact k H1 h
  · rw [if_neg (fun z => by rw [hb.2 z] at q; cases q), if_neg (by have := of_decide_eq_false q2; omega), if_pos (of_decide_eq_true q3)] at k; exact k H1 h
  · rw [if_neg (fun z => by rw [hb.2 z] at q; cases q), if_neg (by have := of_decide_eq_false q2; omega), if_neg (of_decide_eq_false q3), if_pos (of_decide_eq_true q4)] at k; exact k H1 h
  rw [if_neg (fun z => by rw [hb.2 z] at q; cases q), if_neg (by have := of_decide_eq_false q2; omega), if_neg (of_decide_eq_false q3), if_neg (of_decide_eq_false q4)] at k
  have q : inX i 1 ∧ inX t 1 := Decidable.byContradiction fun z => by rw [hb.2 z] at q; cases q
  have q2 := of_decide_eq_false q2
  have q3 := of_decide_eq_false q3
  obtain ⟨⟨x0, x1⟩, y0, y1⟩ := q
  have la := encN_len i
  have lb := encN_len t
  have lc := encN_len (data.size : Nat)
  have za := strN_size (encN_bytes i)
  have zb := strN_size (encN_bytes t)
  have zc := strN_size (encN_bytes (data.size : Nat))
  refine ⟨_, h1.cell 0 rfl rfl, _, h1.cell 0 rfl rfl, by decide, int_spec ⟨by omega, by omega⟩ fun H4 s4 => ⟨_, rfl, s4, int_spec ⟨by omega, by omega⟩ fun H5 s5 => ⟨_, rfl, s4.trans s5, by omega, int_spec (n := (data.size : Nat)) ⟨by omega, by omega⟩ fun H6 s6 => ⟨_, rfl, (s4.trans s5).trans s6, by rw [ByteArray.size_append]; omega, by rw [ByteArray.size_append, ByteArray.size_append]; omega, ?_⟩⟩⟩⟩
  have eb : strN (encN i) ++ strN (encN t) ++ strN (encN (data.size : Nat)) ++ data = strN (snapN i t data) := by
    unfold snapN
    rw [← strN_app, ← strN_app, ← strN_app, strN_nb, ByteArray.append_assoc, ByteArray.append_assoc]
  rw [eb]
  have zs := strN_size (snapN_bytes i t data)
  have ls := snapN_len i t data
  refine summed9_spec (by omega) fun H7 s7 => ⟨_, rfl, ((s4.trans s5).trans s6).trans s7, ?_⟩
  rw [nb_str (snapN_bytes i t data)]
  have en : (⟨#[114]⟩ : ByteArray) ++ (⟨#[46, 115, 110, 97, 112]⟩ : ByteArray) = nSnap := by decide +kernel
  have el : (⟨#[114]⟩ : ByteArray) ++ (⟨#[46, 108, 111, 103]⟩ : ByteArray) = nLog := by decide +kernel
  rw [en]
  refine replace_spec (n := nSnap) (b := snapB i t data) ((h1.up (((s4.trans s5).trans s6).trans s7)).pull 2 rfl) fun H8 h8 => ⟨_, rfl, br_intro (fun u => ?_) (fun u => ?_)⟩
  · have u : repC size F nSnap (snapB i t data) ≠ 0 := by simpa using u
    rw [if_pos u] at k
    exact k H8 (lgc_open.2 ⟨s, h8.down 2⟩)
  have u : repC size F nSnap (snapB i t data) = 0 := by simpa using u
  rw [if_neg (fun z => z u)] at k
  generalize repM size F nSnap (snapB i t data) = F1 at *
  have tail : ∀ (r : Sl) (lf : List En) (H15 : Heap), (∀ x ∈ lf, i64B x.1 ∧ i64B x.2.1 ∧ x.2.2.size ≤ 2048) → lf.length ≤ 100000 → HL.Holds (blk c (.cells #[.int .i64 st.term, .int .i64 st.vote, .int .i64 i, .int .i64 t, .string data, .slice r.p r.n r.c, .pointer (some ⟨d, 0, none⟩), .string ⟨#[114]⟩] 89 (0, 0)) :: ownE r lf :: dsk d size F1 :: cs) H15 →
      (∀ H', HL.Holds (lgc c d ⟨st.term, st.vote, i, t, data, lf⟩ :: dsk d size (logF size F1 lf) :: cs) H' → K (.int .i64 0) H') →
      (∃ p2 : Option Addr, cellH H15 ⟨c, 0 + 6, none⟩ = some (.pointer p2) ∧ ∃ s7 : ByteArray, cellH H15 ⟨c, 0 + 7, none⟩ = some (.string s7) ∧ s7.size + (⟨#[46, 108, 111, 103]⟩ : ByteArray).size < 9223372036854775808 ∧
        FnH Tryz.prog 62 #[.pointer p2, .string (s7 ++ (⟨#[46, 108, 111, 103]⟩ : ByteArray))] H15 fun r10 H16 => ∃ s8 : ByteArray, ∃ n7 : Int, r10 = .tuple #[.string s8, .int .i64 n7] ∧ HL.Sub H15 H16 ∧
          br (n7 == 0) (∃ p3 : Option Addr, cellH H16 ⟨c, 0 + 6, none⟩ = some (.pointer p3) ∧ ∃ s9 : ByteArray, cellH H16 ⟨c, 0 + 7, none⟩ = some (.string s9) ∧ s9.size + (⟨#[46, 108, 111, 103]⟩ : ByteArray).size < 9223372036854775808 ∧
            FnH Tryz.prog 103 #[.slice r.p r.n r.c] H16 fun r11 H17 => ∃ s10 : ByteArray, r11 = .string s10 ∧ HL.Sub H16 H17 ∧ FnH Tryz.prog 85 #[.pointer p3, .string (s9 ++ (⟨#[46, 108, 111, 103]⟩ : ByteArray)), .string s10] H17 fun r12 H18 => ∃ n8 : Int, r12 = .int .i64 n8 ∧ K (.int .i64 0) H18)
          (K (.int .i64 0) H16)) := fun r lf H15 hlf hll h15 kk => by
    have hR : Recs eE H15 r lf := Own.recs eElen (by decide) (h15.own 1 rfl) (by omega)
    refine ⟨_, h15.cell 0 rfl rfl, _, h15.cell 0 rfl rfl, by decide, ?_⟩
    rw [el]
    unfold logF at kk
    refine read_spec (i := 2) h15 rfl ⟨_, _, rfl, HL.Sub.refl _, ?_⟩
    by_cases e : lookL F1 nLog = none
    · rw [if_pos e] at kk ⊢
      exact br_f rfl (kk H15 (lgc_open.2 ⟨r, h15⟩))
    · rw [if_neg e] at kk ⊢
      refine br_t rfl ⟨_, h15.cell 0 rfl rfl, _, h15.cell 0 rfl rfl, by decide, bytes9_spec hR hlf hll fun H17 s17 => ⟨_, rfl, s17, ?_⟩⟩
      rw [el]
      exact replace_spec (n := nLog) ((h15.up s17).pull 2 rfl) fun H18 h18 => ⟨_, rfl, kk H18 (lgc_open.2 ⟨r, h18.down 2⟩)⟩
  have h8b : HL.Holds (lgc c d st :: dsk d size F1 :: cs) H8 := lgc_open.2 ⟨s, h8.down 2⟩
  have h9 := h8.down 2
  have hR : Recs eE H8 s st.l := Own.recs eElen (by decide) (h9.own 1 rfl) (by omega)
  have hn := hR.len
  have drop : leftX st i t = [] → (∃ u, cellH H8 ⟨c, 0 + 2, none⟩ = some u) ∧ frozenH H8 ⟨c, 0 + 2, none⟩ = false ∧ letH (Heap.set H8 ⟨c, 0 + 2, none⟩ (.int .i64 i)) fun H19 => (∃ u, cellH H19 ⟨c, 0 + 3, none⟩ = some u) ∧ frozenH H19 ⟨c, 0 + 3, none⟩ = false ∧ letH (Heap.set H19 ⟨c, 0 + 3, none⟩ (.int .i64 t)) fun H20 =>
      (∃ u, cellH H20 ⟨c, 0 + 4, none⟩ = some u) ∧ frozenH H20 ⟨c, 0 + 4, none⟩ = false ∧ letH (Heap.set H20 ⟨c, 0 + 4, none⟩ (.string data)) fun H21 => (∃ u, cellH H21 ⟨c, 0 + 5, none⟩ = some u) ∧ frozenH H21 ⟨c, 0 + 5, none⟩ = false ∧ letH (Heap.set H21 ⟨c, 0 + 5, none⟩ (.slice none 0 0)) fun H22 =>
        (∃ p2 : Option Addr, cellH H22 ⟨c, 0 + 6, none⟩ = some (.pointer p2) ∧ ∃ s7 : ByteArray, cellH H22 ⟨c, 0 + 7, none⟩ = some (.string s7) ∧ s7.size + (⟨#[46, 108, 111, 103]⟩ : ByteArray).size < 9223372036854775808 ∧
        FnH Tryz.prog 62 #[.pointer p2, .string (s7 ++ (⟨#[46, 108, 111, 103]⟩ : ByteArray))] H22 fun r10 H16 => ∃ s8 : ByteArray, ∃ n7 : Int, r10 = .tuple #[.string s8, .int .i64 n7] ∧ HL.Sub H22 H16 ∧
          br (n7 == 0) (∃ p3 : Option Addr, cellH H16 ⟨c, 0 + 6, none⟩ = some (.pointer p3) ∧ ∃ s9 : ByteArray, cellH H16 ⟨c, 0 + 7, none⟩ = some (.string s9) ∧ s9.size + (⟨#[46, 108, 111, 103]⟩ : ByteArray).size < 9223372036854775808 ∧
            FnH Tryz.prog 103 #[.slice none 0 0] H16 fun r11 H17 => ∃ s10 : ByteArray, r11 = .string s10 ∧ HL.Sub H16 H17 ∧ FnH Tryz.prog 85 #[.pointer p3, .string (s9 ++ (⟨#[46, 108, 111, 103]⟩ : ByteArray)), .string s10] H17 fun r12 H18 => ∃ n8 : Int, r12 = .int .i64 n8 ∧ K (.int .i64 0) H18)
          (K (.int .i64 0) H16)) := fun e => by
    rw [e] at k
    have h10 := (h9.own_nil 51 3).swap
    refine h10.store 0 rfl (by simp) fun H12 h12 => h12.store 0 rfl (by simp) fun H13 h13 => h13.store 0 rfl (by simp) fun H14 h14 => h14.store 0 rfl (by simp) fun H15 h15 => ?_
    refine tail ⟨none, 0, 0⟩ [] H15 (by simp) (by simp) ?_ k
    exact ((HL.Holds.pull h15 2 rfl).tail)
  refine at9_spec h8b rfl hl i0 i1 (by omega) (i := 0) (fun e => ⟨_, _, _, _, rfl, fun b H' => H' = H8 ∧ b = false, br_f rfl ⟨rfl, rfl, rfl⟩, ?_⟩) fun e he => ⟨_, _, _, _, rfl, fun b H' => H' = H8 ∧ (b = true ↔ e.1 = t), br_t rfl ⟨rfl, rfl, by simp⟩, ?_⟩
  · rintro b H10 ⟨rfl, rfl⟩
    exact br_f rfl (drop (by unfold leftX; rw [e]))
  · rintro b H10 ⟨rfl, hb2⟩
    refine br_intro (fun v => ?_) (fun v => drop ?_)
    · have v := hb2.1 v
      have hlf : leftX st i t = st.l.drop (i - st.index).toNat := by unfold leftX; rw [he]; exact if_pos v
      rw [hlf] at k
      have hj : (i - st.index - 1).toNat < st.l.length := by
        unfold atX at he; rw [if_neg q3] at he
        exact (List.getElem?_eq_some_iff.1 he).1
      refine ⟨s, h9.cell 0 rfl rfl, _, h9.cell 0 rfl rfl, ?_⟩
      rw [wrap64_id (n := i - st.index) (by omega) (by omega)]
      have hf := hR.from_ eElen (j := i - st.index) (by omega) (by omega)
      refine ⟨by omega, by omega, eclone_spec (s := s.from_ (i - st.index) 3) h9 hf (by rw [List.length_drop]; omega) fun r H11 s11 h11 => ⟨r, rfl, s11, ?_⟩⟩
      have h12 := h11.swap
      refine h12.store 0 rfl (by simp) fun H12 h12 => h12.store 0 rfl (by simp) fun H13 h13 => h13.store 0 rfl (by simp) fun H14 h14 => h14.store 0 rfl (by simp) fun H15 h15 => ?_
      refine tail r _ H15 (fun x hx => hi x (List.mem_of_mem_drop hx)) (by rw [List.length_drop]; omega) ?_ k
      exact ((HL.Holds.pull h15 2 rfl).tail)
    · unfold leftX; rw [he]
      exact if_neg fun z => by rw [hb2.2 z] at v; cases v
end
end Go.Proofs.YthldclmeojkboaaGreatDoor
namespace Go.Proofs.YthldclmeojkboaaGreatDoor
open Go Go.HL
set_option maxHeartbeats 1600000
set_option maxRecDepth 10000
section
variable {cs : List Chunk} {H : Heap} {K : Value → Heap → Prop}
theorem readTerm9_spec {c d : Nat} {st : RS} {t v : Int} (h : HL.Holds (lgc c d st :: cs) H) (ht : inX t 0) (hv : inX v 0) (k : ∀ H', HL.Holds (lgc c d { st with term := t, vote := v } :: cs) H' → K (.bool true) H') :
    FnH Tryz.prog 60 #[.pointer (some ⟨c, 0, none⟩), .string (strN (encN t ++ encN v))] H K := by
  apply raftlog_Log_readTerm_fn
  unfold raftlog_Log_readTerm_vc
  obtain ⟨s, h1⟩ := lgc_open.1 h
  have e : encN t ++ encN v = encN t ++ (encN v ++ []) := by simp
  rw [e]
  refine numbers9_spec (a := t) (b := v) (r := []) (by simp) (by decide) ht.1 ht.2 hv.1 hv.2 (by simp) ⟨_, _, _, _, rfl, ?_⟩
  refine h1.store 0 rfl (by simp) fun H2 h2 => h2.store 0 rfl (by simp) fun H3 h3 => br_t rfl ?_
  have e1 : strN [] = (⟨#[]⟩ : ByteArray) := rfl
  rw [str_eq, decide_eq_true e1]
  exact k H3 (lgc_open.2 ⟨s, h3⟩)
theorem readSnap9_spec {c d : Nat} {st : RS} {i t : Int} {data : ByteArray} (h : HL.Holds (lgc c d st :: cs) H) (hi : inX i 1) (ht : inX t 1) (hd : data.size ≤ 60000) (k : ∀ H', HL.Holds (lgc c d { st with index := i, snapped := t, data := data } :: cs) H' → K (.bool true) H') :
    FnH Tryz.prog 61 #[.pointer (some ⟨c, 0, none⟩), .string (strN (snapN i t data))] H K := by
  apply raftlog_Log_readSnap_fn
  unfold raftlog_Log_readSnap_vc
  obtain ⟨s, h1⟩ := lgc_open.1 h
  have lc := encN_len (data.size : Nat)
  refine numbers9_spec (a := i) (b := t) (r := encN (data.size : Nat) ++ nb data) (app_bytes (encN_bytes _) (nb_byte _)) (by decide) hi.1 hi.2 ht.1 ht.2 (by rw [List.length_append, nb_len]; omega) ⟨_, _, _, _, rfl, ?_⟩
  refine h1.store 0 rfl (by simp) fun H2 h2 => h2.store 0 rfl (by simp) fun H3 h3 => text9_spec (t := data) (by omega) (by decide) ⟨_, _, rfl, h3.store 0 rfl (by simp) fun H4 h4 => br_t rfl (k H4 (lgc_open.2 ⟨s, h4⟩))⟩
end
end Go.Proofs.YthldclmeojkboaaGreatDoor
namespace Go.Proofs.YthldclmeojkboaaGreatDoor
open Go Go.HL
set_option maxHeartbeats 3200000
set_option maxRecDepth 10000
structure GoodL (index : Int) (l : List En) : Prop where
  ok : ∀ x ∈ l, EnOk x
  idx : ∀ (i : Nat) (x : En), l[i]? = some x → x.2.1 = index + 1 + i
  up : ∀ (i : Nat) (x y : En), l[i]? = some x → l[i + 1]? = some y → x.1 ≤ y.1
theorem flat_at {l : List En} {m : Nat} {x : En} (h : l[m]? = some x) : l.flatMap entN = (l.take m).flatMap entN ++ (entN x ++ (l.drop (m + 1)).flatMap entN) := by
  obtain ⟨h1, h2⟩ := List.getElem?_eq_some_iff.1 h
  have e : l = l.take m ++ (x :: l.drop (m + 1)) := by
    rw [← h2, ← List.drop_eq_getElem_cons h1, List.take_append_drop]
  have e2 := congrArg (fun z => List.flatMap entN z) e
  simp only [List.flatMap_append, List.flatMap_cons] at e2
  exact e2
section
variable {cs : List Chunk} {H : Heap} {K : Value → Heap → Prop}
theorem readEntries9_spec {c d : Nat} {size : Int} {F : Fs} {st : RS} {l : List En} (hst : st.l = []) (h : HL.Holds (lgc c d st :: dsk d size F :: cs) H) (hl : l.length ≤ 100000) (hg : GoodL st.index l) (i0 : 0 ≤ st.index) (i1 : st.index ≤ 1000000000)
    (hF : (lookL F nLog = none ∧ l = []) ∨ ∃ z, lookL F nLog = some (strN (l.flatMap entN), z))
    (k : ∀ H', HL.Holds (lgc c d { st with l := l } :: dsk d size F :: cs) H' → K (.int .i64 0) H') : FnH Tryz.prog 64 #[.pointer (some ⟨c, 0, none⟩)] H K := by
  apply raftlog_Log_readEntries_fn
  unfold raftlog_Log_readEntries_vc
  obtain ⟨s, h1⟩ := lgc_open.1 h
  have el : (⟨#[114]⟩ : ByteArray) ++ (⟨#[46, 108, 111, 103]⟩ : ByteArray) = nLog := by decide +kernel
  refine ⟨_, h1.cell 0 rfl rfl, _, h1.cell 0 rfl rfl, by decide, ?_⟩
  rw [el]
  refine read_spec (i := 2) h1 rfl ⟨_, _, rfl, HL.Sub.refl _, ?_⟩
  rcases hF with ⟨e, rfl⟩ | ⟨z, e⟩
  · rw [if_pos e]
    have e2 : ({ st with l := [] } : RS) = st := by rw [← hst]
    rw [e2] at k
    exact br_t rfl (k H h)
  have eg : (getF F nLog).1 = strN (l.flatMap entN) := by unfold getF; rw [e]; rfl
  rw [if_neg (by rw [e]; simp), eg]
  have hsz : (strN (l.flatMap entN)).size = (l.flatMap entN).length := strN_size (ents_bytes l)
  have hlen := ents_len (l := l) fun x hx => (hg.ok x hx).2.2
  refine br_f rfl ⟨fun left at_ torn n2 n3 _ H' => left = false ∧ torn = false ∧ ∃ m : Nat, m ≤ l.length ∧ at_ = (((l.take m).flatMap entN).length : Nat) ∧ (m = 0 ∨ ∃ y, l[m - 1]? = some y ∧ n2 = y.1 ∧ n3 = y.2.1) ∧ HL.Holds (lgc c d { st with l := l.take m } :: dsk d size F :: cs) H',
    fun _ at_ _ _ _ _ _ => (((l.flatMap entN).length : Int) - at_).toNat, ⟨rfl, rfl, 0, Nat.zero_le _, rfl, .inl rfl, ?_⟩, ?_⟩
  · have e2 : ({ st with l := l.take 0 } : RS) = st := by rw [List.take_zero, ← hst]
    rw [e2]; exact h
  rintro left at_ torn n2 n3 s3 H2 ⟨rfl, rfl, m, m0, rfl, hm, h2⟩
  have fin : m = l.length → K (.int .i64 0) H2 := fun q => by
    rw [q, List.take_length] at h2
    exact k H2 h2
  refine br_intro (fun w => br_t rfl ?_) (fun w => br_f rfl (fin ?_))
  rotate_left
  · have w := of_decide_eq_false w
    refine Decidable.byContradiction fun q => ?_
    obtain ⟨x, hx⟩ : ∃ x, l[m]? = some x := ⟨_, List.getElem?_eq_getElem (by omega)⟩
    have := congrArg List.length (flat_at hx)
    rw [List.length_append, List.length_append, entN_len] at this
    omega
  have w := of_decide_eq_true w
  have hml : m < l.length := Nat.lt_of_le_of_ne m0 fun q => by rw [q, List.take_length] at w; omega
  obtain ⟨x, hx⟩ : ∃ x, l[m]? = some x := ⟨_, List.getElem?_eq_getElem hml⟩
  have hfl := flat_at hx
  have hfl2 := congrArg List.length hfl
  rw [List.length_append, List.length_append] at hfl2
  have hxl := entN_len x
  have hrb := ents_bytes (l.drop (m + 1))
  have hok := hg.ok x (List.mem_of_getElem? hx)
  have hix := hg.idx m x hx
  have ex : (strN (l.flatMap entN)).extract (Int.toNat (((l.take m).flatMap entN).length : Nat)) (Int.toNat ((strN (l.flatMap entN)).size : Nat)) = strN (entN x ++ (l.drop (m + 1)).flatMap entN) := by
    rw [hsz, hfl]
    exact ext_skip (ents_bytes _) (app_bytes (entN_bytes x) hrb) (by simp) (by rw [Int.toNat_natCast, List.length_append])
  refine ⟨by omega, by omega, ?_⟩
  rw [ex]
  refine one9_spec hok hrb (by omega) fun H3 s3 => ⟨_, _, _, _, _, rfl, br_f rfl (br_f (beq_eq_false_iff_ne.2 (by omega)) ?_)⟩
  have h3 := h2.up s3
  obtain ⟨sl, h4⟩ := lgc_open.1 h3
  have hsl := (h4.own 1 rfl).1
  rw [flat_len eElen, List.length_take] at hsl
  have c2 : cellH H3 ⟨c, 0 + 2, none⟩ = some (.int .i64 st.index) := h4.cell 0 rfl rfl
  have c5 : cellH H3 ⟨c, 0 + 5, none⟩ = some (.slice sl.p sl.n sl.c) := h4.cell 0 rfl rfl
  have push : ∀ {Z : Sl → Heap → Prop}, (∀ l2 H7, HL.Holds (lgc c d { st with l := l.take (m + 1) } :: dsk d size F :: cs) H7 → Z l2 H7) →
      ∀ q1 : Nat, H3 q1 = none → letH (Heap.upd H3 q1 (.cells #[.int .i64 x.1, .int .i64 x.2.1, .string x.2.2] 51 (0, 0))) fun H5 => HL.Sub H3 H5 ∧ runH Tryz.prog (Builtin.append_ #[29, 29] 29 #[.slice sl.p sl.n sl.c, .slice (some ⟨q1, 0, none⟩) 1 1]) H5 fun r4 H6 => ∃ l2 : Sl, r4 = .slice l2.p l2.n l2.c ∧
        (∃ u, cellH H6 ⟨c, 0 + 5, none⟩ = some u) ∧ frozenH H6 ⟨c, 0 + 5, none⟩ = false ∧ letH (Heap.set H6 ⟨c, 0 + 5, none⟩ (.slice l2.p l2.n l2.c)) fun H7 => Z l2 H7 := fun {Z} kz => by
    intro q1 hq1
    refine letH_intro fun H5 g5 => ⟨by rw [g5]; exact HL.Sub.new hq1 _, ?_⟩
    have h5 := h4.add hq1 (.cells #[.int .i64 x.1, .int .i64 x.2.1, .string x.2.2] 51 (0, 0))
    rw [← g5] at h5
    have hxc : CellsAt H5 (some ⟨q1, 0, none⟩) [.int .i64 x.1, .int .i64 x.2.1, .string x.2.2] := CellsAt.block (h5.get 0 rfl) fun i hi => by
      have hi : i < 3 := hi
      have : i = 0 ∨ i = 1 ∨ i = 2 := by omega
      rcases this with rfl | rfl | rfl <;> rfl
    refine Holds.append okEn okEn.under (h5.pull 2 rfl) hxc (m := 1) rfl rfl (by omega) fun r H6 h7 n7 => ⟨r, rfl, ?_⟩
    refine h7.store 2 rfl (by simp) fun H8 h8 => kz r H8 (lgc_open.2 ⟨r, ?_⟩)
    have h9 := ((HL.Holds.pull h8 1 rfl).tail).swap
    have e : (l.take (m + 1)).flatMap eE = (l.take m).flatMap eE ++ [.int .i64 x.1, .int .i64 x.2.1, .string x.2.2] := by
      have := take_step (l := l) (i := (m : Int)) (by omega) (by simpa using hx)
      have e1 : ((m : Int) + 1).toNat = m + 1 := by omega
      rw [e1, Int.toNat_natCast] at this
      rw [this]; simp
    show HL.Holds (blk c _ :: own 51 3 r ((l.take (m + 1)).flatMap eE) :: dsk d size F :: cs) H8
    rw [e]; exact h9
  have hlt : ((l.take (m + 1)).flatMap entN).length = ((l.take m).flatMap entN).length + (entN x).length := by
    have := take_step (l := l) (i := (m : Int)) (by omega) (by simpa using hx)
    have e1 : ((m : Int) + 1).toNat = m + 1 := by omega
    rw [e1, Int.toNat_natCast] at this
    rw [this, List.flatMap_append, List.length_append]; simp
  have ew : IntKind.wrap .i64 ((((l.take m).flatMap entN).length : Nat) + ((entN x).length : Nat)) = ((((l.take (m + 1)).flatMap entN).length : Nat) : Int) := by
    rw [wrap64_id (by omega) (by omega), hlt]; simp
  rw [ew]
  have hix0 : x.2.1 > st.index := by omega
  have st0 : IntKind.wrap .i64 (st.index + 1) = st.index + 1 := wrap64_id (by omega) (by omega)
  have hmx : ∀ y, l[m - 1]? = some y → m ≠ 0 → 8 ≤ ((l.take m).flatMap entN).length := fun y hy hm0 => by
    have := congrArg List.length (flat_at (l := l.take m) (m := m - 1) (x := y) (by rw [List.getElem?_take, if_pos (by omega)]; exact hy))
    rw [List.length_append, List.length_append, entN_len] at this
    omega
  refine br_intro (fun a0 => ⟨_, c2, ?_⟩) (fun a0 => br_intro (fun a1 => ?_) (fun a1 => ?_))
  · have a0 : ((((l.take m).flatMap entN).length : Nat) : Int) = 0 := by simpa using a0
    have hm0 : m = 0 := by
      rcases hm with q | ⟨y, hy, -⟩
      · exact q
      · refine Decidable.byContradiction fun q => ?_
        have := hmx y hy q
        omega
    rw [st0]
    refine br_f (decide_eq_false (by omega)) (br_f (decide_eq_false (by omega)) ?_)
    exact ⟨_, c2, br_t (decide_eq_true hix0) ⟨sl, c5, push fun l2 H7 h7 => ⟨rfl, ⟨rfl, rfl, m + 1, by omega, rfl, .inr ⟨x, by simpa using hx, rfl, rfl⟩, h7⟩, by dsimp only; omega⟩⟩⟩
  · have a1 := of_decide_eq_true a1
    have hm0 : m ≠ 0 := fun q => by rw [q] at a1; simp at a1
    rcases hm with q | ⟨y, hy, rfl, rfl⟩
    · exact absurd q hm0
    have hyi := hg.idx (m - 1) y hy
    have hup := hg.up (m - 1) y x hy (by rw [show m - 1 + 1 = m by omega]; exact hx)
    rw [wrap64_id (n := y.2.1 + 1) (by omega) (by omega)]
    refine br_f (by rw [show x.2.1 = y.2.1 + 1 by omega]; simp) (br_f (decide_eq_false (by omega)) ?_)
    exact ⟨_, c2, br_t (decide_eq_true hix0) ⟨sl, c5, push fun l2 H7 h7 => ⟨rfl, ⟨rfl, rfl, m + 1, by omega, rfl, .inr ⟨x, by simpa using hx, rfl, rfl⟩, h7⟩, by dsimp only; omega⟩⟩⟩
  · exact ⟨_, c2, br_t (decide_eq_true hix0) ⟨sl, c5, push fun l2 H7 h7 => ⟨rfl, ⟨rfl, rfl, m + 1, by omega, rfl, .inr ⟨x, by simpa using hx, rfl, rfl⟩, h7⟩, by dsimp only; omega⟩⟩⟩
end
end Go.Proofs.YthldclmeojkboaaGreatDoor
namespace Go.Proofs.YthldclmeojkboaaGreatDoor
open Go Go.HL
set_option maxHeartbeats 3200000
set_option maxRecDepth 10000
def StR (F : Fs) (st : RS) : Prop := ∃ a b c, F = mkF a b c ∧ ((a = none ∧ st.l = []) ∨ a = some (strN (st.l.flatMap entN))) ∧
  ((b = none ∧ st.index = 0 ∧ st.snapped = 0 ∧ st.data = ⟨#[]⟩) ∨ (b = some (snapB st.index st.snapped st.data) ∧ inX st.index 1 ∧ inX st.snapped 1)) ∧ ((c = none ∧ st.term = 0 ∧ st.vote = 0) ∨ (c = some (termB st.term st.vote) ∧ ¬ (st.term = 0 ∧ st.vote = 0)))
structure StOk (st : RS) : Prop where
  term : inX st.term 0
  vote : inX st.vote 0
  index : inX st.index 0
  data : st.data.size ≤ 60000
  good : GoodL st.index st.l
  len : st.l.length ≤ 100000
def stN (st : RS) (n : Int) : RS := ⟨if 1 ≤ n then st.term else 0, if 1 ≤ n then st.vote else 0, if 2 ≤ n then st.index else 0, if 2 ≤ n then st.snapped else 0, if 2 ≤ n then st.data else ⟨#[]⟩, []⟩
section
variable {cs : List Chunk} {H : Heap} {K : Value → Heap → Prop}
theorem open9_spec {d : Nat} {size : Int} {F : Fs} {st : RS} (h : HL.Holds (dsk d size F :: cs) H) (hS : StR F st) (hG : StOk st) (k : ∀ c H', HL.Holds (lgc c d st :: dsk d size F :: cs) H' → K (.tuple #[.pointer (some ⟨c, 0, none⟩), .int .i64 0]) H') :
    FnH Tryz.prog 26 #[.pointer (some ⟨d, 0, none⟩), .string ⟨#[114]⟩] H K := by
  apply raftlog_Open_fn
  unfold raftlog_Open_vc
  obtain ⟨a, b, c, rfl, ha, hb, hc⟩ := hS
  refine h.new fun q1 H1 h1 => h1.new fun q2 H2 h2 => ?_
  have h3 : HL.Holds (lgc q1 d (stN st 0) :: blk q2 (.cells #[.string (⟨#[46, 116, 101, 114, 109]⟩ : ByteArray), .func (.func 60) #[.pointer (some ⟨q1, 0, none⟩)] #[], .string (⟨#[46, 115, 110, 97, 112]⟩ : ByteArray), .func (.func 61) #[.pointer (some ⟨q1, 0, none⟩)] #[]] 125 (0, 0)) :: dsk d size (mkF a b c) :: cs) H2 :=
    lgc_open.2 ⟨⟨none, 0, 0⟩, ((h2.swap.own_nil 51 3).swap)⟩
  refine ⟨fun n H' => 0 ≤ n ∧ n ≤ 2 ∧ HL.Holds (lgc q1 d (stN st n) :: blk q2 (.cells #[.string (⟨#[46, 116, 101, 114, 109]⟩ : ByteArray), .func (.func 60) #[.pointer (some ⟨q1, 0, none⟩)] #[], .string (⟨#[46, 115, 110, 97, 112]⟩ : ByteArray), .func (.func 61) #[.pointer (some ⟨q1, 0, none⟩)] #[]] 125 (0, 0)) :: dsk d size (mkF a b c) :: cs) H', fun n _ => (2 - n).toNat, ⟨Int.le_refl _, by decide, h3⟩, ?_⟩
  clear h h1 h2 h3
  rintro n H3 ⟨n0, n1, h3⟩
  refine br_intro (fun w => ?_) (fun w => ?_)
  · have w : n < 2 := of_decide_eq_true w
    have hn : n = 0 ∨ n = 1 := by omega
    rcases hn with rfl | rfl
    · refine ⟨q2, 0, rfl, by decide, by decide, ⟨#[46, 116, 101, 114, 109]⟩, h3.cell 1 rfl rfl, ⟨60, #[.pointer (some ⟨q1, 0, none⟩)], #[]⟩, h3.cell 1 rfl rfl, by decide, ?_⟩
      have en : (⟨#[114]⟩ : ByteArray) ++ (⟨#[46, 116, 101, 114, 109]⟩ : ByteArray) = nTerm := by decide +kernel
      rw [en]
      refine read_spec (i := 2) h3 rfl ⟨_, _, rfl, ?_⟩
      rw [look_term]
      rcases hc with ⟨rfl, t0, v0⟩ | ⟨rfl, -⟩
      · have e : stN st 1 = stN st 0 := by unfold stN; rw [t0, v0]; rfl
        refine br_t rfl ⟨rfl, ⟨by decide, by decide, ?_⟩, by dsimp only; decide⟩
        show HL.Holds (lgc q1 d (stN st 1) :: _) H3
        rw [e]; exact h3
      · have eg : (getF (mkF a b (some (termB st.term st.vote))) nTerm).1 = termB st.term st.vote := by unfold getF; rw [look_term]; rfl
        rw [eg]
        have la := encN_len st.term
        have lb := encN_len st.vote
        refine br_f rfl (unsummed9_spec (app_bytes (encN_bytes _) (encN_bytes _)) (by rw [List.length_append]; omega) fun H4 s4 => ⟨_, _, rfl, br_f rfl (callV_intro (by kernel_rfl) ?_)⟩)
        refine readTerm9_spec (h3.up s4) hG.term hG.vote fun H5 h5 => ⟨_, rfl, br_f rfl ⟨rfl, ⟨by decide, by decide, ?_⟩, by dsimp only; decide⟩⟩
        exact h5
    · refine ⟨q2, 0, rfl, by decide, by decide, ⟨#[46, 115, 110, 97, 112]⟩, h3.cell 1 rfl rfl, ⟨61, #[.pointer (some ⟨q1, 0, none⟩)], #[]⟩, h3.cell 1 rfl rfl, by decide, ?_⟩
      have en : (⟨#[114]⟩ : ByteArray) ++ (⟨#[46, 115, 110, 97, 112]⟩ : ByteArray) = nSnap := by decide +kernel
      rw [en]
      refine read_spec (i := 2) h3 rfl ⟨_, _, rfl, ?_⟩
      rw [look_snap]
      rcases hb with ⟨rfl, t0, v0, d0⟩ | ⟨rfl, x0, x1⟩
      · have e : stN st 2 = stN st 1 := by unfold stN; rw [t0, v0, d0]; rfl
        refine br_t rfl ⟨rfl, ⟨by decide, by decide, ?_⟩, by dsimp only; decide⟩
        show HL.Holds (lgc q1 d (stN st 2) :: _) H3
        rw [e]; exact h3
      · have eg : (getF (mkF a (some (snapB st.index st.snapped st.data)) c) nSnap).1 = snapB st.index st.snapped st.data := by unfold getF; rw [look_snap]; rfl
        rw [eg]
        have ls := snapN_len st.index st.snapped st.data
        have hd := hG.data
        refine br_f rfl (unsummed9_spec (snapN_bytes _ _ _) (by omega) fun H4 s4 => ⟨_, _, rfl, br_f rfl (callV_intro (by kernel_rfl) ?_)⟩)
        refine readSnap9_spec (h3.up s4) x0 x1 hG.data fun H5 h5 => ⟨_, rfl, br_f rfl ⟨rfl, ⟨by decide, by decide, ?_⟩, by dsimp only; decide⟩⟩
        exact h5
  · have w : ¬ n < 2 := of_decide_eq_false w
    have hn : n = 2 := by omega
    subst hn
    have h4 := (HL.Holds.pull h3 1 rfl).tail
    obtain ⟨i0, i1⟩ := hG.index
    refine readEntries9_spec (st := stN st 2) (l := st.l) rfl h4 hG.len hG.good i0 i1 ?_ fun H5 h5 => ⟨_, rfl, br_f rfl (k q1 H5 h5)⟩
    rw [look_log]
    rcases ha with ⟨rfl, e⟩ | rfl
    · exact .inl ⟨rfl, e⟩
    · exact .inr ⟨_, rfl⟩
end
end Go.Proofs.YthldclmeojkboaaGreatDoor
namespace Go.Proofs.YthldclmeojkboaaGreatDoor
open Go Go.HL
set_option maxHeartbeats 3200000
set_option maxRecDepth 10000
def stripB (st : RS) (x : En) : Bool := decide (x.2.1 ≤ st.index) || (match atX st x.2.1 with | some y => decide (y.1 = x.1) | none => false)
def aheadX (st : RS) (k : Nat) : Int := if k = 0 then st.snapped else match st.l[k - 1]? with | some y => y.1 | none => 0
def putX (room : Int) (st : RS) (after : Int) (l2 : List En) : Int × RS :=
  if after < 0 ∨ after > (lastX st).1 then (10, st) else if rightX after 0 none l2 ≠ 0 then (rightX after 0 none l2, st)
  else match l2.dropWhile (stripB st) with
    | [] => (0, st)
    | x :: r => if x.1 < aheadX st (x.2.1 - st.index - 1).toNat then (1, st)
      else if ((strN ((x :: r).flatMap entN)).size : Int) > room + (strN ((st.l.drop (x.2.1 - st.index - 1).toNat).flatMap entN)).size then (7, st)
      else (0, { st with l := st.l.take (x.2.1 - st.index - 1).toNat ++ x :: r })
theorem dropWhile_at {α : Type} {p : α → Bool} : ∀ {l : List α} {x : α} {r : List α}, l.dropWhile p = x :: r → p x = false ∧ ∃ m, l.drop m = x :: r ∧ ∀ j y, j < m → l[j]? = some y → p y = true
  | [], _, _, h => by cases h
  | a :: l, x, r, h => by
    cases e : p a with
    | false =>
      rw [List.dropWhile_cons, if_neg (by rw [e]; decide)] at h
      cases h
      exact ⟨e, 0, rfl, fun j y hj => absurd hj (by omega)⟩
    | true =>
      rw [List.dropWhile_cons, if_pos e] at h
      obtain ⟨h1, m, h2, h3⟩ := dropWhile_at h
      refine ⟨h1, m + 1, h2, fun j y hj hy => ?_⟩
      cases j with
      | zero => cases hy; exact e
      | succ j => exact h3 j y (by omega) hy
theorem right_ok {after : Int} : ∀ {l : List En} {i : Nat} {p : Option En}, rightX after i p l = 0 → (∀ j x, l[j]? = some x → x.2.1 = after + 1 + ((i + j : Nat) : Int) ∧ x.2.1 ≤ 1000000000 ∧ (1 ≤ x.1 ∧ x.1 ≤ 1000000000) ∧ x.2.2.size ≤ 2048) ∧ (∀ j x y, l[j]? = some x → l[j + 1]? = some y → x.1 ≤ y.1) ∧ (∀ x y, p = some y → l[0]? = some x → y.1 ≤ x.1)
  | [], _, _, _ => ⟨fun j x h => by simp at h, fun j x y h => by simp at h, fun x y _ h => by simp at h⟩
  | a :: l, i, p, h => by
    have h : (if enC after i p a ≠ 0 then enC after i p a else rightX after (i + 1) (some a) l) = 0 := h
    by_cases e : enC after i p a ≠ 0
    · rw [if_pos e] at h; exact absurd h e
    rw [if_neg e] at h
    obtain ⟨h1, h2, h3⟩ := right_ok h
    have e : enC after i p a = 0 := Decidable.byContradiction e
    unfold enC at e
    split at e
    · cases e
    rename_i e1
    split at e
    · cases e
    rename_i e2
    have a1 : a.2.1 = after + 1 + i := Decidable.byContradiction fun z => e1 (.inl z)
    have a2 : ¬ a.2.1 > 1000000000 := fun z => e1 (.inr (.inl z))
    have a3 : 1 ≤ a.1 ∧ a.1 ≤ 1000000000 := Decidable.byContradiction fun z => e1 (.inr (.inr (.inl z)))
    have a4 : ∀ y, p = some y → ¬ a.1 < y.1 := fun y hy z => e1 (.inr (.inr (.inr ⟨y, hy, z⟩)))
    refine ⟨fun j x hx => ?_, fun j x y hx hy => ?_, fun x y hp hx => ?_⟩
    · cases j with
      | zero =>
        simp only [List.getElem?_cons_zero, Option.some.injEq] at hx
        subst hx
        exact ⟨a1, by omega, a3, by omega⟩
      | succ j =>
        obtain ⟨z1, z2⟩ := h1 j x hx
        exact ⟨by rw [z1]; congr 2; omega, z2⟩
    · cases j with
      | zero =>
        simp only [List.getElem?_cons_zero, Option.some.injEq] at hx
        subst hx
        exact h3 y a rfl hy
      | succ j => exact h2 j x y hx hy
    · simp only [List.getElem?_cons_zero, Option.some.injEq] at hx
      subst hx
      have := a4 y hp
      omega
theorem GoodL.last {st : RS} (h : GoodL st.index st.l) : (lastX st).1 = st.index + st.l.length := by
  unfold lastX
  cases e : st.l.getLast? with
  | none => rw [List.getLast?_eq_none_iff] at e; rw [e]; simp
  | some x =>
    have hx : st.l[st.l.length - 1]? = some x := by rw [← List.getLast?_eq_getElem?]; exact e
    have hpos : 0 < st.l.length := by
      have := (List.getElem?_eq_some_iff.1 hx).1; omega
    have := h.idx _ _ hx
    show x.2.1 = _
    omega
theorem StOk.last_le {st : RS} (h : StOk st) : (lastX st).1 ≤ 1000000000 := by
  unfold lastX
  cases e : st.l.getLast? with
  | none => exact h.index.2
  | some x => exact (h.good.ok x (List.mem_of_getLast? e)).2.1.2
structure PutAt (st : RS) (after : Int) (l2 : List En) (x : En) (r : List En) : Prop where
  gt : st.index < x.2.1
  le : (x.2.1 - st.index - 1).toNat ≤ st.l.length
  idx : ∀ (j : Nat) y, (x :: r)[j]? = some y → y.2.1 = x.2.1 + j
  ok : ∀ y ∈ x :: r, EnOk y
  up : ∀ (j : Nat) y z, (x :: r)[j]? = some y → (x :: r)[j + 1]? = some z → y.1 ≤ z.1
  len : (x :: r).length ≤ l2.length
theorem putAt {st : RS} (hG : StOk st) {after : Int} {l2 r : List En} {x : En} (h0 : ¬ (after < 0 ∨ after > (lastX st).1)) (hr : rightX after 0 none l2 = 0) (h : l2.dropWhile (stripB st) = x :: r) : PutAt st after l2 x r := by
  obtain ⟨h1, m, h2, h3⟩ := dropWhile_at h
  obtain ⟨g1, g2, -⟩ := right_ok hr
  have hl := hG.good.last
  have at_ : ∀ j, (x :: r)[j]? = l2[m + j]? := fun j => by rw [← h2, List.getElem?_drop]
  have hx := g1 m x (by have := at_ 0; rw [Nat.add_zero] at this; exact this.symm)
  have hgt : ¬ x.2.1 ≤ st.index := fun z => by unfold stripB at h1; rw [decide_eq_true z] at h1; cases h1
  refine ⟨by omega, ?_, fun j y hy => ?_, fun y hy => ?_, fun j y z hy hz => ?_, ?_⟩
  · cases m with
    | zero => omega
    | succ m =>
      obtain ⟨y, hy⟩ : ∃ y, l2[m]? = some y := by
        have : l2[m + 1]? = some x := by have := at_ 0; rw [Nat.add_zero] at this; exact this.symm
        have := (List.getElem?_eq_some_iff.1 this).1
        exact ⟨l2[m], List.getElem?_eq_getElem (by omega)⟩
      have hs := h3 m y (by omega) hy
      have hy2 := g1 m y hy
      by_cases e : y.2.1 ≤ st.index
      · omega
      · unfold stripB at hs
        rw [decide_eq_false e, Bool.false_or] at hs
        have ha : atX st y.2.1 ≠ none := fun z => by rw [z] at hs; cases hs
        unfold atX at ha
        rw [if_neg e] at ha
        have : (y.2.1 - st.index - 1).toNat < st.l.length := Decidable.byContradiction fun z => ha (List.getElem?_eq_none (by omega))
        omega
  · rw [at_] at hy
    have := g1 _ _ hy
    omega
  · obtain ⟨j, hj⟩ := List.getElem?_of_mem hy
    rw [at_] at hj
    obtain ⟨z1, z2, z3, z4⟩ := g1 _ _ hj
    exact ⟨z3, ⟨by omega, z2⟩, z4⟩
  · rw [at_] at hy hz
    exact g2 _ _ _ hy hz
  · rw [← h2, List.length_drop]; omega
theorem PutAt.good {st : RS} {after : Int} {l2 r : List En} {x : En} (p : PutAt st after l2 x r) (hG : GoodL st.index st.l) (ha : ¬ x.1 < aheadX st (x.2.1 - st.index - 1).toNat) : GoodL st.index (st.l.take (x.2.1 - st.index - 1).toNat ++ x :: r) := by
  have hgt := p.gt
  have hle := p.le
  have hlen : (st.l.take (x.2.1 - st.index - 1).toNat).length = (x.2.1 - st.index - 1).toNat := by rw [List.length_take]; omega
  refine ⟨fun y hy => ?_, fun j y hy => ?_, fun j y z hy hz => ?_⟩
  · rcases List.mem_append.1 hy with h | h
    · exact hG.ok y (List.mem_of_mem_take h)
    · exact p.ok y h
  · rw [List.getElem?_append] at hy
    split at hy
    · rw [List.getElem?_take] at hy
      split at hy
      · exact hG.idx _ _ hy
      · cases hy
    · have := p.idx _ _ hy
      omega
  · rw [List.getElem?_append] at hy hz
    rw [hlen] at hy hz
    split at hy
    · rename_i h1
      rw [List.getElem?_take, if_pos h1] at hy
      split at hz
      · rename_i h2
        rw [List.getElem?_take, if_pos h2] at hz
        exact hG.up _ _ _ hy hz
      · have e : j + 1 - (x.2.1 - st.index - 1).toNat = 0 := by omega
        rw [e] at hz
        simp only [List.getElem?_cons_zero, Option.some.injEq] at hz
        subst hz
        unfold aheadX at ha
        rw [if_neg (by omega)] at ha
        have e2 : (x.2.1 - st.index - 1).toNat - 1 = j := by omega
        rw [e2, hy] at ha
        dsimp only at ha
        omega
    · rename_i h1
      rw [if_neg (by omega)] at hz
      have e : j + 1 - (x.2.1 - st.index - 1).toNat = j - (x.2.1 - st.index - 1).toNat + 1 := by omega
      rw [e] at hz
      exact p.up _ _ _ hy hz
theorem slP_zero (p : Option Addr) (c : Nat) (sz : Nat) : slP p c 0 sz = p := by
  unfold slP
  split
  · rfl
  · cases p with
    | none => rfl
    | some a => simp [Addr.add]
theorem appendNew {P : Program} {t e sz : Nat} (hE : ElemOK P t e sz) {t2 e2 ty : Nat} (ht2 : P.underlying t2 = some (.slice e2)) {cs : List Chunk} {H : Heap} (h : HL.Holds cs H) {p : Option Addr} {n : Nat} {vs : List Value} (hs : CellsAt H p vs) (hsl : vs.length = n * sz)
    {q : Option Addr} {m c2 : Nat} {xs : List Value} (hx : CellsAt H q xs) (hxl : xs.length = m * sz) (hm : 0 < m) (hb : n + m ≤ 268435456) {K : Value → Heap → Prop}
    (k : ∀ (r : Sl) H', HL.Sub H H' → HL.Holds (HL.own e sz r (vs ++ xs) :: cs) H' → r.n = n + m → K (.slice r.p r.n r.c) H') : runH P (Builtin.append_ #[t, t2] ty #[.slice p n n, .slice q m c2]) H K := by
  refine runH_append hE ht2 hs hsl hx hxl hb (fun z => by omega) ?_
  intro _ cap hcap b hbn rest hrest
  refine k ⟨some ⟨b, 0, none⟩, n + m, cap⟩ _ (HL.Sub.new hbn _) ((h.add hbn _).head fun A hA => ?_) rfl
  refine ⟨?_, hcap, .inr ⟨b, _, rfl, hA, ?_, ?_⟩⟩
  · simp [hsl, hxl, Nat.add_mul]
  · simp [hsl, hxl, hrest, ← Nat.add_mul]; congr 1; omega
  · intro i hi
    rw [List.getElem?_toArray, List.getElem?_append_left hi]
    simp
theorem strN_ext {A B : List Nat} (hA : ∀ b ∈ A, b < 256) (hB : ∀ b ∈ B, b < 256) : (strN (A ++ B)).extract 0 A.length = strN A := ext_mid (p := []) (X := A) (r := B) (by simp) hA hB rfl (by simp)
theorem strip_none {st : RS} {x : En} (h : atX st x.2.1 = none) : stripB st x = decide (x.2.1 ≤ st.index) := by unfold stripB; rw [h, Bool.or_false]
theorem strip_some {st : RS} {x y : En} (h : atX st x.2.1 = some y) : stripB st x = decide (y.1 = x.1) ∧ ¬ x.2.1 ≤ st.index := by
  have n : ¬ x.2.1 ≤ st.index := fun z => by unfold atX at h; rw [if_pos z] at h; cases h
  exact ⟨by unfold stripB; rw [h, decide_eq_false n, Bool.false_or], n⟩
theorem StOk.bounds {st : RS} (h : StOk st) : ∀ x ∈ st.l, i64B x.1 ∧ i64B x.2.1 ∧ x.2.2.size ≤ 2048 := fun x hx => by
  obtain ⟨⟨a, b⟩, ⟨c, d⟩, e⟩ := h.good.ok x hx
  exact ⟨⟨by omega, by omega⟩, ⟨by omega, by omega⟩, e⟩
section
variable {cs : List Chunk} {H : Heap} {K : Value → Heap → Prop}
theorem put9_spec {c d i : Nat} {size : Int} {F : Fs} {st : RS} {after : Int} {s : Sl} {l2 : List En} {c0 : Chunk} (h : HL.Holds (lgc c d st :: dsk d size F :: cs) H) (g : Gives c0 fun A => Recs eE A s l2) (ei : cs[i]? = some c0) (hS : StR F st) (hG : StOk st) (hlen : l2.length ≤ 1000)
    (k : ∀ F' H', StR F' (putX (size - useF F) st after l2).2 → HL.Holds (lgc c d (putX (size - useF F) st after l2).2 :: dsk d size F' :: cs) H' → K (.int .i64 (putX (size - useF F) st after l2).1) H') : FnH Tryz.prog 91 #[.pointer (some ⟨c, 0, none⟩), .int .i64 after, .slice s.p s.n s.c] H K := by
  apply raftlog_Log_Put_fn
  unfold raftlog_Log_Put_vc
  have hl := hG.len
  have hbd := hG.bounds
  have hlast := hG.last_le
  obtain ⟨i0, i1⟩ := hG.index
  unfold putX at k
  refine last9_spec (i := 0) h rfl hl ⟨_, _, rfl, br_intro (fun q => ?_) (fun q => br_intro (fun q2 => ?_) (fun q2 => ?_))⟩
  · rw [if_pos (.inl (of_decide_eq_true q))] at k; exact k F H hS h
  · rw [if_pos (.inr (of_decide_eq_true q2))] at k; exact k F H hS h
  have q := of_decide_eq_false q
  have q2 := of_decide_eq_false q2
  have hr0 : ¬ (after < 0 ∨ after > (lastX st).1) := fun z => by rcases z with z | z <;> omega
  rw [if_neg hr0] at k
  have hR0 := g.at_ h (i + 2) ei
  refine right9_spec hR0 (by omega) (by omega) (by omega) ⟨_, rfl, br_intro (fun q3 => ?_) (fun q3 => ?_)⟩
  · have q3 : rightX after 0 none l2 ≠ 0 := by simpa using q3
    rw [if_pos q3] at k; exact k F H hS h
  have q3 : rightX after 0 none l2 = 0 := by simpa using q3
  rw [if_neg (fun z => z q3)] at k
  obtain ⟨D, hD⟩ : ∃ D, l2.dropWhile (stripB st) = D := ⟨_, rfl⟩
  rw [hD] at k
  have hidx : ∀ x ∈ l2, x.2.1 ≤ 1000000000 := fun x hx => by
    obtain ⟨j, hj⟩ := List.getElem?_of_mem hx
    exact ((right_ok q3).1 j x hj).2.1
  refine ⟨fun l H' => H' = H ∧ ∃ j : Nat, (∀ A, Recs eE A s l2 → Recs eE A l (l2.drop j)) ∧ l2.drop j = D, ⟨fun l H' => H' = H ∧ ∃ j : Nat, (∀ A, Recs eE A s l2 → Recs eE A l (l2.drop j)) ∧ (l2.drop j).dropWhile (stripB st) = D, fun l _ => l.n, ⟨rfl, 0, fun A hA => hA, hD⟩, ?_⟩, ?_⟩
  · rintro l H3 ⟨rfl, j, hR, hd⟩
    have hR1 := hR _ hR0
    have hn := hR1.len
    refine br_intro (fun w => ?_) (fun w => ⟨rfl, rfl, j, hR, ?_⟩)
    · have w := of_decide_eq_true w
      obtain ⟨q5, o, x, x1, x2, x3⟩ := hR1.at_ eElen (by decide) (j := 0) (Int.le_refl _) w
      have x2 : (l2.drop j)[0]? = some x := x2
      obtain ⟨hx1, hx2⟩ := List.getElem?_eq_some_iff.1 x2
      have hxm : x ∈ l2 := List.mem_of_mem_drop (List.mem_of_getElem? x2)
      have hxi := hidx x hxm
      have hcons : l2.drop j = x :: l2.drop (j + 1) := by
        have := List.drop_eq_getElem_cons hx1
        rw [List.drop_zero, hx2, List.drop_drop] at this
        rw [this]
      obtain ⟨sl, hc⟩ := lgc_open.1 h
      have c2 := hc.cell 0 rfl (o := 0 + 2) rfl
      have stepB : ∀ {p q : Prop}, p → q → ∀ (b : Bool) (H5 : Heap), (H5 = H3 ∧ b = !stripB st x) → br b (p ∧ (H5 = H3 ∧ ∃ j : Nat, (∀ A, Recs eE A s l2 → Recs eE A l (l2.drop j)) ∧ l2.drop j = D)) (0 ≤ (1 : Int) ∧ (1 : Int) ≤ (l.n : Nat) ∧ q ∧ (H5 = H3 ∧ ∃ j : Nat, (∀ A, Recs eE A s l2 → Recs eE A (l.from_ 1 3) (l2.drop j)) ∧ (l2.drop j).dropWhile (stripB st) = D) ∧ (l.from_ 1 3).n < l.n) := by
        rintro p q hp hq b H5 ⟨rfl, hb⟩
        refine br_intro (fun u => ⟨hp, rfl, j, hR, ?_⟩) (fun u => ⟨by decide, by omega, hq, ⟨rfl, j + 1, fun A hA => ?_, ?_⟩, ?_⟩)
        · rw [u] at hb
          have hs : stripB st x = false := by simpa using hb
          rw [hcons, List.dropWhile_cons, if_neg (by rw [hs]; decide)] at hd
          rw [hcons]; exact hd
        · have := (hR A hA).from_ eElen (j := 1) (by decide) (by omega)
          rw [List.drop_drop] at this
          exact this
        · rw [u] at hb
          have hs : stripB st x = true := by simpa using hb
          rw [hcons, List.dropWhile_cons, if_pos hs] at hd
          exact hd
        · show Int.toNat ((l.n : Int) - 1) < l.n
          omega
      refine ⟨q5, o, x1, by decide, w, _, x3 0 _ rfl, _, x3 1 _ rfl, _, x3 2 _ rfl, ?_, HL.Sub.refl _, ?_⟩
      · refine at9_spec (i := 0) h rfl hl i0 i1 (by omega) (fun e => ⟨_, _, _, _, rfl, HL.Sub.refl _, HL.Sub.refl _, fun b H' => H' = H3 ∧ b = !stripB st x, ⟨_, c2, br_intro (fun u => br_t rfl ⟨rfl, rfl, ?_⟩) (fun u => ⟨rfl, rfl, ?_⟩)⟩, stepB rfl rfl⟩) fun y he => ⟨_, _, _, _, rfl, HL.Sub.refl _, HL.Sub.refl _, fun b H' => H' = H3 ∧ b = !stripB st x, ⟨_, c2, br_intro (fun u => br_f rfl ⟨rfl, rfl, ?_⟩) (fun u => ⟨rfl, rfl, ?_⟩)⟩, stepB rfl rfl⟩
        · have u := of_decide_eq_true u
          rw [strip_none e, decide_eq_false (by omega)]; rfl
        · have u := of_decide_eq_false u
          rw [strip_none e, decide_eq_true (by omega)]; rfl
        · rw [(strip_some he).1]
          by_cases z : y.1 = x.1 <;> simp [z]
        · have u := of_decide_eq_false u
          exact absurd (by omega) (strip_some he).2
      · refine at9_spec (i := 0) h rfl hl i0 i1 (by omega) (fun e => ⟨_, _, _, _, rfl, HL.Sub.refl _, fun b H' => H' = H3 ∧ b = !stripB st x, ⟨_, c2, br_intro (fun u => br_t rfl ⟨rfl, rfl, ?_⟩) (fun u => ⟨rfl, rfl, ?_⟩)⟩, stepB rfl rfl⟩) fun y he => ⟨_, _, _, _, rfl, HL.Sub.refl _, fun b H' => H' = H3 ∧ b = !stripB st x, ⟨_, c2, br_intro (fun u => br_f rfl ⟨rfl, rfl, ?_⟩) (fun u => ⟨rfl, rfl, ?_⟩)⟩, stepB rfl rfl⟩
        · have u := of_decide_eq_true u
          rw [strip_none e, decide_eq_false (by omega)]; rfl
        · have u := of_decide_eq_false u
          rw [strip_none e, decide_eq_true (by omega)]; rfl
        · rw [(strip_some he).1]
          by_cases z : y.1 = x.1 <;> simp [z]
        · have u := of_decide_eq_false u
          exact absurd (by omega) (strip_some he).2
    · have w := of_decide_eq_false w
      have e : l2.drop j = [] := List.eq_nil_of_length_eq_zero (by omega)
      rw [e] at hd ⊢
      exact hd
  rintro l H8 ⟨rfl, j, hR, hd⟩
  rw [hd] at hR
  have hR1 := hR _ hR0
  have hn := hR1.len
  cases D with
  | nil =>
    have e0 : l.n = 0 := hn
    exact br_t (by rw [e0]; rfl) (k F H8 hS h)
  | cons x r =>
  dsimp only at k
  have hp := putAt hG hr0 q3 hD
  have en : l.n = r.length + 1 := hn
  refine br_f (by rw [en]; simp; omega) ?_
  obtain ⟨q5, o, x', x1, x2, x3⟩ := hR1.at_ eElen (by decide) (j := 0) (Int.le_refl _) (by omega)
  have x2 : some x = some x' := x2
  cases x2
  obtain ⟨sl, hc⟩ := lgc_open.1 h
  have hxm : x ∈ l2 := by
    have : x ∈ l2.drop j := by rw [hd]; simp
    exact List.mem_of_mem_drop this
  have hxi := hidx x hxm
  have hgt := hp.gt
  have hle := hp.le
  have hplen := hp.len
  refine ⟨q5, o, x1, by decide, by omega, _, x3 1 _ rfl, _, hc.cell 0 rfl rfl, _, hc.cell 0 rfl rfl, ?_⟩
  rw [wrap64_id (n := x.2.1 - st.index) (by omega) (by omega), wrap64_id (n := x.2.1 - st.index - 1) (by omega) (by omega)]
  obtain ⟨kk, hkk⟩ : ∃ kk : Nat, x.2.1 - st.index - 1 = (kk : Int) := ⟨(x.2.1 - st.index - 1).toNat, by omega⟩
  rw [hkk, Int.toNat_natCast] at k hle
  rw [hkk, Int.toNat_natCast]
  have hRl : Recs eE H8 sl st.l := Own.recs eElen (by decide) (hc.own 1 rfl) (by omega)
  have hnl := hRl.len
  have c5 : cellH H8 ⟨c, 0 + 5, none⟩ = some (.slice sl.p sl.n sl.c) := hc.cell 0 rfl rfl
  refine ⟨fun a H' => H' = H8 ∧ a = aheadX st kk, br_intro (fun u => ?_) (fun u => ⟨rfl, rfl, ?_⟩), ?_⟩
  · have u := of_decide_eq_true u
    rw [wrap64_id (n := (kk : Int) - 1) (by omega) (by omega)]
    obtain ⟨q6, o6, y, y1, y2, y3⟩ := hRl.at_ eElen (by decide) (j := (kk : Int) - 1) (by omega) (by omega)
    refine ⟨sl, c5, q6, o6, y1, by omega, by omega, _, y3 0 _ rfl, rfl, rfl, ?_⟩
    unfold aheadX
    have e : ((kk : Int) - 1).toNat = kk - 1 := by omega
    rw [if_neg (by omega), ← e, y2]
  · have u := of_decide_eq_false u
    unfold aheadX
    rw [if_pos (by omega)]
  rintro _ H9 ⟨rfl, rfl⟩
  refine ⟨q5, o, x1, by decide, by omega, _, x3 0 _ rfl, br_intro (fun u => ?_) (fun u => ?_)⟩
  · rw [if_pos (of_decide_eq_true u)] at k; exact k F H9 hS h
  have u := of_decide_eq_false u
  rw [if_neg u] at k
  have el : (⟨#[114]⟩ : ByteArray) ++ (⟨#[46, 108, 111, 103]⟩ : ByteArray) = nLog := by decide +kernel
  have hbx : ∀ y ∈ x :: r, i64B y.1 ∧ i64B y.2.1 ∧ y.2.2.size ≤ 2048 := fun y hy => by
    obtain ⟨⟨a1, a2⟩, ⟨a3, a4⟩, a5⟩ := hp.ok y hy
    exact ⟨⟨by omega, by omega⟩, ⟨by omega, by omega⟩, a5⟩
  have hRf : Recs eE H9 (sl.from_ kk 3) (st.l.drop kk) := by
    have := hRl.from_ eElen (j := (kk : Int)) (by omega) (by omega)
    rw [Int.toNat_natCast] at this
    exact this
  have hlx := ents_len (l := x :: r) fun y hy => (hbx y hy).2.2
  have hld := ents_len (l := st.l.drop kk) fun y hy => (hbd y (List.mem_of_mem_drop hy)).2.2
  have hlt := ents_len (l := st.l.take kk) fun y hy => (hbd y (List.mem_of_mem_take hy)).2.2
  rw [List.length_drop] at hld
  rw [List.length_take] at hlt
  have zx := strN_size (ents_bytes (x :: r))
  have zd := strN_size (ents_bytes (st.l.drop kk))
  have zt := strN_size (ents_bytes (st.l.take kk))
  have hspl : st.l.flatMap entN = (st.l.take kk).flatMap entN ++ (st.l.drop kk).flatMap entN := by rw [← List.flatMap_append, List.take_append_drop]
  have hun := useF_nonneg F
  obtain ⟨hsz0, hsz1⟩ : 0 ≤ size - useF F ∧ size ≤ 16777216 := by
    obtain ⟨mb, fs, ⟨hB, -⟩, -⟩ := dsk_open.1 (h.pull 1 rfl)
    exact ⟨by have := hB.use; omega, hB.s1⟩
  refine ⟨_, hc.cell 0 rfl rfl, by decide, sl, c5, by omega, by omega, bytes9_spec (s := l) (l := x :: r) hR1 hbx (by omega) fun H10 s10 => ⟨_, rfl, s10, bytes9_spec (s := sl.from_ kk 3) (l := st.l.drop kk) (Recs.mono _ _ s10 hRf) (fun y hy => hbd y (List.mem_of_mem_drop hy)) (by rw [List.length_drop]; omega) fun H11 s11 => ⟨_, rfl, s10.trans s11, _, (hc.up (s10.trans s11)).cell 0 rfl rfl, ?_⟩⟩⟩
  have h11 := h.up (s10.trans s11)
  have hR11 := Recs.mono _ _ (s10.trans s11) hR1
  rw [el]
  refine free_spec (i := 1) h11 rfl ⟨_, rfl, ?_⟩
  rw [wrap64_id (n := size - useF F + ((strN ((st.l.drop kk).flatMap entN)).size : Nat)) (by omega) (by omega)]
  refine br_intro (fun u2 => ?_) (fun u2 => ?_)
  · rw [if_pos (of_decide_eq_true u2)] at k; exact k F H11 hS h11
  have u2 := of_decide_eq_false u2
  rw [if_neg u2] at k
  obtain ⟨a, b, c', rfl, ha, hb, hc'⟩ := hS
  have huse := use_mk a b c'
  have hsa : sz a = ((strN ((st.l.take kk).flatMap entN)).size : Int) + (strN ((st.l.drop kk).flatMap entN)).size := by
    rcases ha with ⟨rfl, e⟩ | rfl
    · rw [e]; simp; rfl
    · show ((strN (st.l.flatMap entN)).size : Int) = _
      rw [strN_size (ents_bytes _), hspl, List.length_append, zt, zd]; omega
  refine ⟨fun H' => ∃ a1, sz a1 = ((strN ((st.l.take kk).flatMap entN)).size : Int) ∧ a1.getD ⟨#[]⟩ = strN ((st.l.take kk).flatMap entN) ∧ HL.Holds (lgc c d st :: dsk d size (mkF a1 b c') :: cs) H', br_intro (fun u3 => ?_) (fun u3 => ⟨rfl, a, ?_, ?_, h11⟩), ?_⟩
  · have u3 := of_decide_eq_true u3
    have ha2 : a = some (strN (st.l.flatMap entN)) := by
      rcases ha with ⟨rfl, e⟩ | rfl
      · rw [e] at u3; simp at u3; exact absurd u3 (by decide)
      · rfl
    have hc11 := hc.up (s10.trans s11)
    refine ⟨_, hc11.cell 0 rfl rfl, _, hc11.cell 0 rfl rfl, size_spec (i := 1) h11 rfl ⟨_, rfl, HL.Sub.refl _, ?_⟩⟩
    rw [get_log, hsa]
    have e : IntKind.wrap .i64 (((strN ((st.l.take kk).flatMap entN)).size : Int) + (strN ((st.l.drop kk).flatMap entN)).size - ((strN ((st.l.drop kk).flatMap entN)).size : Nat)) = ((strN ((st.l.take kk).flatMap entN)).size : Nat) := by
      rw [wrap64_id (by omega) (by omega)]; omega
    rw [e]
    refine cut_spec (h11.pull 1 rfl) fun H12 h12 => ⟨_, rfl, rfl, ?_⟩
    have hcut := (cut_log (a := a) (b := b) (c := c') (m := ((strN ((st.l.take kk).flatMap entN)).size : Nat)) ha2 (by omega) (by have := strN_size (ents_bytes st.l); rw [hspl] at this ⊢; rw [List.length_append] at this; omega)).2
    rw [hcut, Int.toNat_natCast, zt, hspl, strN_ext (ents_bytes _) (ents_bytes _)] at h12
    exact ⟨_, rfl, rfl, h12.down 1⟩
  · have u3 := of_decide_eq_false u3
    omega
  · have u3 := of_decide_eq_false u3
    have e : (st.l.drop kk).flatMap entN = [] := List.eq_nil_of_length_eq_zero (by omega)
    rw [e, List.append_nil] at hspl
    rcases ha with ⟨rfl, e⟩ | rfl
    · rw [e]; simp; rfl
    · rw [← hspl]; rfl
  rintro H15 ⟨a1, w1, w2, h15⟩
  obtain ⟨sl2, hc15⟩ := lgc_open.1 h15
  have happ := app_log (size := size) (a := a1) (b := b) (c := c') (s := strN ((x :: r).flatMap entN)) (by omega)
  refine ⟨_, hc15.cell 0 rfl rfl, append_spec (h15.pull 1 rfl) (by omega) fun H16 h16 => ⟨_, rfl, ?_⟩⟩
  rw [happ.1]
  have h16b := h16.down 1
  obtain ⟨sl3, hc16⟩ := lgc_open.1 h16b
  refine br_f rfl ⟨_, hc16.cell 0 rfl rfl, sync_spec h16 fun H17 h17 => ⟨_, rfl, ?_⟩⟩
  rw [happ.2, w2, strN_app, ← List.flatMap_append] at h17
  have h17b := h17.down 1
  obtain ⟨sl4, hc17⟩ := lgc_open.1 h17b
  have hR17 := hR _ (g.at_ h17b (i + 2) ei)
  have hRl17 : Recs eE H17 sl4 st.l := Own.recs eElen (by decide) (hc17.own 1 rfl) (by omega)
  have hcap17 := hRl17.cap
  have hn17 := hRl17.len
  have hup := hRl17.upto eElen (j := (kk : Int)) (by omega) (by omega)
  rw [Int.toNat_natCast] at hup
  have hcells : CellsAt H17 (slP sl4.p ((kk : Int).toNat) (0 : Int) 3) ((st.l.take kk).flatMap eE) := by
    have : CellsAt H17 (slP sl4.p sl4.c 0 3) ((st.l.take kk).flatMap eE) := hup.cells
    rw [slP_zero] at this
    rw [slP_zero]; exact this
  rw [Int.toNat_natCast] at hcells
  refine ⟨sl4, hc17.cell 0 rfl rfl, by omega, by omega, by omega, by omega, ?_⟩
  refine appendNew okEn okEn.under hc17 hcells (by rw [flat_len eElen, List.length_take]; congr 1; omega) hR17.cells (by rw [flat_len eElen, hR17.len]) (by omega) (by omega) fun r' H18 s18 h18 n18 => ⟨r', rfl, ?_⟩
  refine h18.store 1 rfl (by simp) fun H19 h19 => k _ H19 ⟨_, _, _, rfl, .inr rfl, hb, hc'⟩ (lgc_open.2 ⟨r', ?_⟩)
  rw [← List.flatMap_append] at h19
  have h20 : HL.Holds (ownE r' (st.l.take kk ++ x :: r) :: blk c (.cells #[.int .i64 st.term, .int .i64 st.vote, .int .i64 st.index, .int .i64 st.snapped, .string st.data, .slice r'.p r'.n r'.c, .pointer (some ⟨d, 0, none⟩), .string ⟨#[114]⟩] 89 (0, 0)) :: ownE sl4 st.l :: dsk d size (mkF (some (strN ((st.l.take kk ++ x :: r).flatMap entN))) b c') :: cs) H19 := h19
  exact ((h20.pull 2 rfl).tail).swap
end
end Go.Proofs.YthldclmeojkboaaGreatDoor
namespace Go.Proofs.YthldclmeojkboaaGreatDoor
open Go Go.HL
set_option maxHeartbeats 1600000
set_option maxRecDepth 10000
theorem dsk_room {cs : List Chunk} {H : Heap} {d : Nat} {size : Int} {F : Fs} (h : HL.Holds (dsk d size F :: cs) H) : useF F ≤ size ∧ size ≤ 16777216 := by
  obtain ⟨mb, fs, ⟨hB, -⟩, -⟩ := dsk_open.1 h
  exact ⟨hB.use, hB.s1⟩
theorem StR.crash {F : Fs} {st : RS} (h : StR F st) (L : List Int) : StR (crashF L F) st := by
  obtain ⟨a, b, c, rfl, h⟩ := h
  rw [crash_mk]
  exact ⟨a, b, c, rfl, h⟩
def UpS (st : RS) : Prop := ∀ x, st.l[0]? = some x → st.snapped ≤ x.1
def st0 : RS := ⟨0, 0, 0, 0, ⟨#[]⟩, []⟩
theorem StR.zero : StR [] st0 := ⟨none, none, none, rfl, .inl ⟨rfl, rfl⟩, .inl ⟨rfl, rfl, rfl, rfl⟩, .inl ⟨rfl, rfl, rfl⟩⟩
theorem StOk.zero : StOk st0 := ⟨⟨by decide, by decide⟩, ⟨by decide, by decide⟩, ⟨by decide, by decide⟩, by decide, ⟨fun x hx => (by cases hx), fun i x hx => (by cases hx), fun i x y hx => (by cases hx)⟩, by decide⟩
theorem UpS.zero : UpS st0 := fun x hx => by cases hx
theorem turn_keeps {size : Int} {F : Fs} {st : RS} (t v : Int) (hS : StR F st) (hG : StOk st) : StR (turnX size F st t v).2.1 (turnX size F st t v).2.2 ∧ StOk (turnX size F st t v).2.2 ∧
    (turnX size F st t v).2.2.l = st.l ∧ (turnX size F st t v).2.2.index = st.index ∧ (turnX size F st t v).2.2.snapped = st.snapped ∧
    st.term ≤ (turnX size F st t v).2.2.term ∧ ((turnX size F st t v).2.2.term = st.term → st.vote ≠ 0 → (turnX size F st t v).2.2.vote = st.vote) := by
  unfold turnX
  split
  · exact ⟨hS, hG, rfl, rfl, rfl, Int.le_refl _, fun _ _ => rfl⟩
  rename_i q
  split
  · exact ⟨hS, hG, rfl, rfl, rfl, Int.le_refl _, fun _ _ => rfl⟩
  rename_i q1
  split
  · exact ⟨hS, hG, rfl, rfl, rfl, Int.le_refl _, fun _ _ => rfl⟩
  rename_i q2
  split
  · exact ⟨hS, hG, rfl, rfl, rfl, Int.le_refl _, fun _ _ => rfl⟩
  rename_i q3
  have q : inX t 0 ∧ inX v 0 := Decidable.byContradiction q
  obtain ⟨a, b, c, rfl, ha, hb, hc⟩ := hS
  obtain ⟨r1, r2⟩ := rep_term size a b c (termB t v)
  split
  · rename_i u
    rw [r1] at u
    rw [r2]
    split at u
    · rename_i z
      rw [if_pos z]
      exact ⟨⟨a, b, c, rfl, ha, hb, hc⟩, hG, rfl, rfl, rfl, Int.le_refl _, fun _ _ => rfl⟩
    · exact absurd rfl u
  · rename_i u
    rw [r1] at u
    rw [r2]
    split at u
    · exact absurd (by decide) u
    · rename_i z
      rw [if_neg z]
      refine ⟨⟨a, b, some (termB t v), rfl, ha, hb, .inr ⟨rfl, ?nz⟩⟩, ⟨q.1, q.2, hG.index, hG.data, hG.good, hG.len⟩, rfl, rfl, rfl, ?_, fun e n => absurd ⟨e, n⟩ q3⟩
      case nz =>
        have hv := hG.vote.1
        have ht := hG.term.1
        rintro ⟨z1, z2⟩
        have z1 : t = 0 := z1
        have z2 : v = 0 := z2
        by_cases y : st.vote = 0
        · exact q2 ⟨by omega, by omega⟩
        · exact q3 ⟨by omega, y⟩
      show st.term ≤ t
      omega
theorem GoodL.drop {index : Int} {l : List En} (h : GoodL index l) (k : Nat) : GoodL (index + k) (l.drop k) := by
  refine ⟨fun x hx => h.ok x (List.mem_of_mem_drop hx), fun i x hx => ?_, fun i x y hx hy => ?_⟩
  · rw [List.getElem?_drop] at hx
    have := h.idx _ _ hx
    omega
  · rw [List.getElem?_drop] at hx hy
    exact h.up _ _ _ hx hy
theorem GoodL.nil (index : Int) : GoodL index [] := ⟨fun x hx => (by cases hx), fun i x hx => (by simp at hx), fun i x y hx => (by simp at hx)⟩
theorem GoodL.mono {index : Int} {l : List En} (h : GoodL index l) : ∀ {j : Nat} {i : Nat} {x y : En}, l[i]? = some x → l[i + j]? = some y → x.1 ≤ y.1
  | 0, i, x, y, hx, hy => by rw [Nat.add_zero, hx] at hy; cases hy; exact Int.le_refl _
  | j + 1, i, x, y, hx, hy => by
    have hlt := (List.getElem?_eq_some_iff.1 hy).1
    obtain ⟨z, hz⟩ : ∃ z, l[i + j]? = some z := ⟨l[i + j], List.getElem?_eq_getElem (by omega)⟩
    exact Int.le_trans (h.mono hx hz) (h.up _ _ _ hz hy)
theorem snap_keeps {size : Int} {F : Fs} {st : RS} (i t : Int) (data : ByteArray) (hS : StR F st) (hG : StOk st) (hU : UpS st) (hu : useF F ≤ size) : StR (snapX size F st i t data).2.1 (snapX size F st i t data).2.2 ∧ StOk (snapX size F st i t data).2.2 ∧ UpS (snapX size F st i t data).2.2 ∧
    (snapX size F st i t data).2.2.l.length ≤ st.l.length ∧ (snapX size F st i t data).2.2.term = st.term ∧ (snapX size F st i t data).2.2.vote = st.vote := by
  unfold snapX
  split
  · exact ⟨hS, hG, hU, Nat.le_refl _, rfl, rfl⟩
  rename_i q
  split
  · exact ⟨hS, hG, hU, Nat.le_refl _, rfl, rfl⟩
  rename_i q1
  split
  · exact ⟨hS, hG, hU, Nat.le_refl _, rfl, rfl⟩
  rename_i q2
  split
  · exact ⟨hS, hG, hU, Nat.le_refl _, rfl, rfl⟩
  rename_i q3
  have q : inX i 1 ∧ inX t 1 := Decidable.byContradiction q
  obtain ⟨a, b, c, rfl, ha, hb, hc⟩ := hS
  obtain ⟨r1, r2⟩ := rep_snap size a b c (snapB i t data)
  split
  · rename_i u
    rw [r1] at u
    rw [r2]
    split at u
    · rename_i z
      rw [if_pos z]
      exact ⟨⟨a, b, c, rfl, ha, hb, hc⟩, hG, hU, Nat.le_refl _, rfl, rfl⟩
    · exact absurd rfl u
  · rename_i u
    rw [r1] at u
    rw [r2]
    split at u
    · exact absurd (by decide) u
    rename_i z
    rw [if_neg z]
    have hlen := leftX_len st i t
    obtain ⟨⟨x0, x1⟩, y0, y1⟩ := q
    have hgood : GoodL i (leftX st i t) ∧ (∀ x, (leftX st i t)[0]? = some x → t ≤ x.1) ∧ ∃ k, leftX st i t = [] ∨ leftX st i t = st.l.drop k := by
      unfold leftX
      split
      · rename_i e he
        split
        · rename_i et
          have hg := hG.good.drop (i - st.index).toNat
          have ei : st.index + ((i - st.index).toNat : Nat) = i := by omega
          rw [ei] at hg
          refine ⟨hg, fun x hx => ?_, _, .inr rfl⟩
          rw [List.getElem?_drop] at hx
          unfold atX at he
          rw [if_neg q2] at he
          have e2 : (i - st.index).toNat + 0 = (i - st.index - 1).toNat + 1 := by omega
          rw [e2] at hx
          have := hG.good.up _ _ _ he hx
          omega
        · exact ⟨GoodL.nil _, fun x hx => by simp at hx, 0, .inl rfl⟩
      · exact ⟨GoodL.nil _, fun x hx => by simp at hx, 0, .inl rfl⟩
    obtain ⟨g1, g2, kk, g3⟩ := hgood
    have hl2 := hG.len
    have hok : StOk { st with index := i, snapped := t, data := data, l := leftX st i t } := ⟨hG.term, hG.vote, ⟨by show (0 : Int) ≤ i; omega, x1⟩, by show data.size ≤ 60000; omega, g1, by show (leftX st i t).length ≤ _; omega⟩
    refine ⟨?_, hok, g2, hlen, rfl, rfl⟩
    unfold logF
    have hlk := look_log a (some (snapB i t data)) c
    rcases ha with ⟨rfl, e⟩ | rfl
    · have hlk : lookL (mkF none (some (snapB i t data)) c) nLog = none := hlk
      rw [if_pos hlk]
      refine ⟨none, _, c, rfl, .inl ⟨rfl, ?_⟩, .inr ⟨rfl, ⟨x0, x1⟩, y0, y1⟩, hc⟩
      show leftX st i t = []
      exact List.eq_nil_of_length_eq_zero (by rw [e] at hlen; simpa using hlen)
    · rw [if_neg (by rw [hlk]; simp)]
      obtain ⟨w1, w2⟩ := rep_log size (some (strN (st.l.flatMap entN))) (some (snapB i t data)) c (strN ((leftX st i t).flatMap entN))
      have hle : (strN ((leftX st i t).flatMap entN)).size ≤ (strN (st.l.flatMap entN)).size := by
        rw [strN_size (ents_bytes _), strN_size (ents_bytes _)]
        rcases g3 with g3 | g3
        · rw [g3]; simp
        · rw [g3]
          have e : st.l.flatMap entN = (st.l.take kk).flatMap entN ++ (st.l.drop kk).flatMap entN := by rw [← List.flatMap_append, List.take_append_drop]
          rw [e, List.length_append]; omega
      have e1 : sz (some (snapB i t data)) = ((snapB i t data).size : Int) := rfl
      have e2 : sz (some (strN (st.l.flatMap entN))) = ((strN (st.l.flatMap entN)).size : Int) := rfl
      rw [e2] at z
      rw [w2, if_neg (by rw [e1]; omega)]
      exact ⟨_, _, c, rfl, .inr rfl, .inr ⟨rfl, ⟨x0, x1⟩, y0, y1⟩, hc⟩
theorem put_keeps {room : Int} {st : RS} {after : Int} {l2 : List En} (hG : StOk st) (hlen : st.l.length + l2.length ≤ 100000) (hU : UpS st) : StOk (putX room st after l2).2 ∧ UpS (putX room st after l2).2 ∧ (putX room st after l2).2.l.length ≤ st.l.length + l2.length ∧
    (putX room st after l2).2.term = st.term ∧ (putX room st after l2).2.vote = st.vote := by
  unfold putX
  split
  · exact ⟨hG, hU, Nat.le_add_right _ _, rfl, rfl⟩
  rename_i q
  split
  · exact ⟨hG, hU, Nat.le_add_right _ _, rfl, rfl⟩
  rename_i q1
  split
  · exact ⟨hG, hU, Nat.le_add_right _ _, rfl, rfl⟩
  rename_i x r hD
  split
  · exact ⟨hG, hU, Nat.le_add_right _ _, rfl, rfl⟩
  rename_i q3
  split
  · exact ⟨hG, hU, Nat.le_add_right _ _, rfl, rfl⟩
  have q1 : rightX after 0 none l2 = 0 := Decidable.byContradiction q1
  have hp := putAt hG q q1 hD
  have hg := hp.good hG.good q3
  have hle := hp.le
  have hpl := hp.len
  have hl : (st.l.take (x.2.1 - st.index - 1).toNat ++ x :: r).length ≤ st.l.length + l2.length := by rw [List.length_append, List.length_take]; omega
  refine ⟨⟨hG.term, hG.vote, hG.index, hG.data, hg, Nat.le_trans hl hlen⟩, fun y hy => ?_, hl, rfl, rfl⟩
  have hy : (st.l.take (x.2.1 - st.index - 1).toNat ++ x :: r)[0]? = some y := hy
  show st.snapped ≤ y.1
  by_cases e : (x.2.1 - st.index - 1).toNat = 0
  · rw [e, List.take_zero, List.nil_append] at hy
    simp only [List.getElem?_cons_zero, Option.some.injEq] at hy
    subst hy
    unfold aheadX at q3
    rw [if_pos e] at q3
    omega
  · rw [List.getElem?_append_left (by rw [List.length_take]; omega), List.getElem?_take, if_pos (by omega)] at hy
    exact hU y hy
end Go.Proofs.YthldclmeojkboaaGreatDoor
namespace Go.Proofs.YthldclmeojkboaaGreatDoor
open Go Go.HL
set_option maxHeartbeats 1600000
set_option maxRecDepth 10000
section
variable {cs : List Chunk} {H : Heap} {K : Value → Heap → Prop}
theorem term9_spec {c d i : Nat} {st : RS} (h : HL.Holds cs H) (ei : cs[i]? = some (lgc c d st)) (k : K (.int .i64 st.term) H) : FnH Tryz.prog 42 #[.pointer (some ⟨c, 0, none⟩)] H K := by
  apply raftlog_state_Term_fn
  unfold raftlog_state_Term_vc
  obtain ⟨s, hc⟩ := h.read i ei lgc_mono
  exact ⟨_, hc.cell 0 rfl rfl, k⟩
theorem vote9_spec {c d i : Nat} {st : RS} (h : HL.Holds cs H) (ei : cs[i]? = some (lgc c d st)) (k : K (.int .i64 st.vote) H) : FnH Tryz.prog 35 #[.pointer (some ⟨c, 0, none⟩)] H K := by
  apply raftlog_state_Vote_fn
  unfold raftlog_state_Vote_vc
  obtain ⟨s, hc⟩ := h.read i ei lgc_mono
  exact ⟨_, hc.cell 0 rfl rfl, k⟩
theorem first9_spec {c d i : Nat} {st : RS} (h : HL.Holds cs H) (ei : cs[i]? = some (lgc c d st)) (hx : inX st.index 0) (k : K (.int .i64 (st.index + 1)) H) : FnH Tryz.prog 89 #[.pointer (some ⟨c, 0, none⟩)] H K := by
  apply raftlog_state_First_fn
  unfold raftlog_state_First_vc
  obtain ⟨s, hc⟩ := h.read i ei lgc_mono
  obtain ⟨x0, x1⟩ := hx
  rw [← wrap64_id (n := st.index + 1) (by omega) (by omega)] at k
  exact ⟨_, hc.cell 0 rfl rfl, k⟩
theorem snapshot9_spec {c d i : Nat} {st : RS} (h : HL.Holds cs H) (ei : cs[i]? = some (lgc c d st)) (k : K (.tuple #[.int .i64 st.index, .int .i64 st.snapped, .string st.data]) H) : FnH Tryz.prog 56 #[.pointer (some ⟨c, 0, none⟩)] H K := by
  apply raftlog_state_Snapshot_fn
  unfold raftlog_state_Snapshot_vc
  obtain ⟨s, hc⟩ := h.read i ei lgc_mono
  exact ⟨_, hc.cell 0 rfl rfl, _, hc.cell 0 rfl rfl, _, hc.cell 0 rfl rfl, k⟩
end
theorem put_go {room after : Int} {st : RS} {l2 r : List En} {x : En} (h1 : ¬ (after < 0 ∨ after > (lastX st).1)) (h2 : rightX after 0 none l2 = 0) (h3 : l2.dropWhile (stripB st) = x :: r) (h4 : ¬ x.1 < aheadX st (x.2.1 - st.index - 1).toNat) (h5 : (((x :: r).flatMap entN).length : Int) ≤ room) :
    putX room st after l2 = (0, { st with l := st.l.take (x.2.1 - st.index - 1).toNat ++ x :: r }) := by
  unfold putX
  rw [if_neg h1, if_neg (fun z => z h2), h3]
  dsimp only
  have := strN_size (ents_bytes (x :: r))
  rw [if_neg h4, if_neg (by omega)]
end Go.Proofs.YthldclmeojkboaaGreatDoor
namespace Go.Proofs.YthldclmeojkboaaGreatDoor
open Go Go.HL
set_option maxHeartbeats 1600000
set_option maxRecDepth 10000
def aS (st : RS) : Int := ((strN (st.l.flatMap entN)).size : Nat)
def bS (st : RS) : Int := if st.index = 0 then 0 else ((snapB st.index st.snapped st.data).size : Nat)
def cS (st : RS) : Int := if st.term = 0 ∧ st.vote = 0 then 0 else ((termB st.term st.vote).size : Nat)
def useS (st : RS) : Int := aS st + bS st + cS st
theorem StR.sizes {F : Fs} {st : RS} (h : StR F st) : ∃ a b c, F = mkF a b c ∧ sz a = aS st ∧ sz b = bS st ∧ sz c = cS st := by
  obtain ⟨a, b, c, rfl, ha, hb, hc⟩ := h
  refine ⟨a, b, c, rfl, ?_, ?_, ?_⟩
  · rcases ha with ⟨rfl, e⟩ | rfl
    · unfold aS; rw [e]; rfl
    · rfl
  · rcases hb with ⟨rfl, e, -⟩ | ⟨rfl, e, -⟩
    · unfold bS; rw [if_pos e]; rfl
    · unfold bS; rw [if_neg (by have := e.1; omega)]; rfl
  · rcases hc with ⟨rfl, e⟩ | ⟨rfl, e⟩
    · unfold cS; rw [if_pos e]; rfl
    · unfold cS; rw [if_neg e]; rfl
theorem StR.useS {F : Fs} {st : RS} (h : StR F st) : useF F = useS st := by
  obtain ⟨a, b, c, rfl, e1, e2, e3⟩ := h.sizes
  rw [use_mk, e1, e2, e3]; rfl
def turnS (size : Int) (st : RS) (t v : Int) : Int × RS :=
  if ¬ (inX t 0 ∧ inX v 0) then (1, st) else if t < st.term then (13, st) else if t = st.term ∧ v = st.vote then (0, st)
  else if t = st.term ∧ st.vote ≠ 0 then (19, st) else if ((termB t v).size : Int) > size - aS st - bS st then (7, st)
  else (0, { st with term := t, vote := v })
def putS (size : Int) (st : RS) (after : Int) (l : List En) : Int × RS := putX (size - useS st) st after l
def snapS (size : Int) (st : RS) (i t : Int) (data : ByteArray) : Int × RS :=
  if ¬ (inX i 1 ∧ inX t 1) then (1, st) else if data.size > 60000 then (2, st) else if i ≤ st.index then (10, st) else if t < st.snapped then (1, st)
  else if ((snapB i t data).size : Int) > size - aS st - cS st then (7, st)
  else (0, { st with index := i, snapped := t, data := data, l := leftX st i t })
theorem turn_S {size : Int} {F : Fs} {st : RS} {t v : Int} (h : StR F st) : (turnX size F st t v).1 = (turnS size st t v).1 ∧ (turnX size F st t v).2.2 = (turnS size st t v).2 := by
  obtain ⟨a, b, c, rfl, e1, e2, e3⟩ := h.sizes
  unfold turnX turnS
  rw [(rep_term size a b c (termB t v)).1, e1, e2]
  by_cases q1 : ¬ (inX t 0 ∧ inX v 0)
  · rw [if_pos q1, if_pos q1]; exact ⟨rfl, rfl⟩
  rw [if_neg q1, if_neg q1]
  by_cases q2 : t < st.term
  · rw [if_pos q2, if_pos q2]; exact ⟨rfl, rfl⟩
  rw [if_neg q2, if_neg q2]
  by_cases q3 : t = st.term ∧ v = st.vote
  · rw [if_pos q3, if_pos q3]; exact ⟨rfl, rfl⟩
  rw [if_neg q3, if_neg q3]
  by_cases q4 : t = st.term ∧ st.vote ≠ 0
  · rw [if_pos q4, if_pos q4]; exact ⟨rfl, rfl⟩
  rw [if_neg q4, if_neg q4]
  by_cases q5 : ((termB t v).size : Int) > size - aS st - bS st
  · rw [if_pos q5, if_pos q5, if_pos (by decide)]; exact ⟨rfl, rfl⟩
  · rw [if_neg q5, if_neg q5, if_neg (by simp)]; exact ⟨rfl, rfl⟩
theorem snap_S {size : Int} {F : Fs} {st : RS} {i t : Int} {data : ByteArray} (h : StR F st) : (snapX size F st i t data).1 = (snapS size st i t data).1 ∧ (snapX size F st i t data).2.2 = (snapS size st i t data).2 := by
  obtain ⟨a, b, c, rfl, e1, e2, e3⟩ := h.sizes
  unfold snapX snapS
  rw [(rep_snap size a b c (snapB i t data)).1, e1, e3]
  by_cases q1 : ¬ (inX i 1 ∧ inX t 1)
  · rw [if_pos q1, if_pos q1]; exact ⟨rfl, rfl⟩
  rw [if_neg q1, if_neg q1]
  by_cases q2 : data.size > 60000
  · rw [if_pos q2, if_pos q2]; exact ⟨rfl, rfl⟩
  rw [if_neg q2, if_neg q2]
  by_cases q3 : i ≤ st.index
  · rw [if_pos q3, if_pos q3]; exact ⟨rfl, rfl⟩
  rw [if_neg q3, if_neg q3]
  by_cases q4 : t < st.snapped
  · rw [if_pos q4, if_pos q4]; exact ⟨rfl, rfl⟩
  rw [if_neg q4, if_neg q4]
  by_cases q5 : ((snapB i t data).size : Int) > size - aS st - cS st
  · rw [if_pos q5, if_pos q5, if_pos (by decide)]; exact ⟨rfl, rfl⟩
  · rw [if_neg q5, if_neg q5, if_neg (by simp)]; exact ⟨rfl, rfl⟩
structure Lg (st : RS) : Prop where
  ok : StOk st
  up : UpS st
def lgu (c d : Nat) (size : Int) (st : RS) : Chunk := fun H => ∃ F : Fs, (StR F st ∧ Lg st) ∧ HL.Holds [lgc c d st, dsk d size F] H
def lgd (d : Nat) (size : Int) (st : RS) : Chunk := fun H => ∃ F : Fs, (StR F st ∧ Lg st) ∧ dsk d size F H
theorem lgu_mono {c d : Nat} {size : Int} {st : RS} : Mono (lgu c d size st) := fun _ _ hs ⟨q, e, h⟩ => ⟨q, e, h.up hs⟩
theorem lgu_open {cs : List Chunk} {H : Heap} {c d : Nat} {size : Int} {st : RS} : HL.Holds (lgu c d size st :: cs) H ↔ ∃ F, (StR F st ∧ Lg st) ∧ HL.Holds (lgc c d st :: dsk d size F :: cs) H := by
  constructor
  · intro h
    obtain ⟨q, h⟩ := Holds.ex.1 h
    obtain ⟨e, h⟩ := Holds.pure.1 h
    exact ⟨q, e, Holds.flat.1 h⟩
  · rintro ⟨F, e, h⟩
    exact Holds.ex.2 ⟨F, Holds.pure.2 ⟨e, Holds.flat.2 h⟩⟩
theorem lgu_lgd {cs : List Chunk} {H : Heap} {c d : Nat} {size : Int} {st : RS} (h : HL.Holds (lgu c d size st :: cs) H) : HL.Holds (lgd d size st :: cs) H := by
  obtain ⟨F, e, h⟩ := lgu_open.1 h
  exact Holds.ex.2 ⟨F, Holds.pure.2 ⟨e, h.tail⟩⟩
section
variable {cs : List Chunk} {H : Heap} {K : Value → Heap → Prop} {c d i : Nat} {size : Int} {st : RS}
theorem lgu_ok (h : HL.Holds cs H) (ei : cs[i]? = some (lgu c d size st)) : Lg st ∧ HL.Holds [lgc c d st] H := by
  obtain ⟨F, e, hh⟩ := h.read i ei lgu_mono
  exact ⟨e.2, (hh.swap).tail⟩
theorem turn10_spec {t v : Int} (h : HL.Holds (lgu c d size st :: cs) H) (k : ∀ H', HL.Holds (lgu c d size (turnS size st t v).2 :: cs) H' → K (.int .i64 (turnS size st t v).1) H') : FnH Tryz.prog 45 #[.pointer (some ⟨c, 0, none⟩), .int .i64 t, .int .i64 v] H K := by
  obtain ⟨F, ⟨hS, hL⟩, h1⟩ := lgu_open.1 h
  have hk := turn_keeps (size := size) t v hS hL.ok
  obtain ⟨e1, e2⟩ := turn_S (size := size) (t := t) (v := v) hS
  refine turn9_spec h1 fun H' h' => ?_
  rw [e2] at h' hk
  rw [e1]
  refine k H' (lgu_open.2 ⟨_, ⟨hk.1, hk.2.1, fun x hx => ?_⟩, h'⟩)
  rw [hk.2.2.1] at hx
  rw [hk.2.2.2.2.1]; exact hL.up x hx
theorem snap10_spec {i' t : Int} {data : ByteArray} (h : HL.Holds (lgu c d size st :: cs) H) (k : ∀ H', HL.Holds (lgu c d size (snapS size st i' t data).2 :: cs) H' → K (.int .i64 (snapS size st i' t data).1) H') : FnH Tryz.prog 92 #[.pointer (some ⟨c, 0, none⟩), .int .i64 i', .int .i64 t, .string data] H K := by
  obtain ⟨F, ⟨hS, hL⟩, h1⟩ := lgu_open.1 h
  have hk := snap_keeps (size := size) i' t data hS hL.ok hL.up (dsk_room (h1.pull 1 rfl)).1
  obtain ⟨e1, e2⟩ := snap_S (size := size) (i := i') (t := t) (data := data) hS
  refine snap9_spec h1 hL.ok.len hL.ok.bounds hL.ok.index.1 hL.ok.index.2 fun H' h' => ?_
  rw [e2] at h' hk
  rw [e1]
  exact k H' (lgu_open.2 ⟨_, ⟨hk.1, hk.2.1, hk.2.2.1⟩, h'⟩)
theorem put10_spec {after : Int} {s : Sl} {l2 : List En} {c0 : Chunk} (h : HL.Holds (lgu c d size st :: cs) H) (g : Gives c0 fun A => Recs eE A s l2) (ei : cs[i]? = some c0) (hlen : l2.length ≤ 1000) (hlen2 : st.l.length + l2.length ≤ 100000)
    (k : ∀ H', HL.Holds (lgu c d size (putS size st after l2).2 :: cs) H' → K (.int .i64 (putS size st after l2).1) H') : FnH Tryz.prog 91 #[.pointer (some ⟨c, 0, none⟩), .int .i64 after, .slice s.p s.n s.c] H K := by
  obtain ⟨F, ⟨hS, hL⟩, h1⟩ := lgu_open.1 h
  have hk := put_keeps (room := size - useF F) (after := after) hL.ok hlen2 hL.up
  refine put9_spec h1 g ei hS hL.ok hlen fun F' H' hS' h' => ?_
  have e : putX (size - useF F) st after l2 = putS size st after l2 := by unfold putS; rw [hS.useS]
  rw [e] at hS' h' hk ⊢
  exact k H' (lgu_open.2 ⟨F', ⟨hS', hk.1, hk.2.1⟩, h'⟩)
theorem open10_spec (h : HL.Holds (lgd d size st :: cs) H) (k : ∀ c H', HL.Holds (lgu c d size st :: cs) H' → K (.tuple #[.pointer (some ⟨c, 0, none⟩), .int .i64 0]) H') : FnH Tryz.prog 26 #[.pointer (some ⟨d, 0, none⟩), .string ⟨#[114]⟩] H K := by
  obtain ⟨F, h⟩ := Holds.ex.1 h
  obtain ⟨⟨hS, hL⟩, h⟩ := Holds.pure.1 h
  exact open9_spec h hS hL.ok fun c H' h' => k c H' (lgu_open.2 ⟨F, ⟨hS, hL⟩, h'⟩)
theorem crash10_spec {keep : Sl} {L : List Int} {c0 : Chunk} (h : HL.Holds (lgd d size st :: cs) H) (g : Gives c0 fun A => Ints A keep L) (ei : cs[i]? = some c0) (hw : ∀ n ∈ L, -9223372036854775808 ≤ n ∧ n ≤ 9223372036854775807)
    (k : ∀ H', HL.Holds (lgd d size st :: cs) H' → K (.tuple #[]) H') : FnH Tryz.prog 12 #[.pointer (some ⟨d, 0, none⟩), .slice keep.p keep.n keep.c] H K := by
  obtain ⟨F, h⟩ := Holds.ex.1 h
  obtain ⟨⟨hS, hL⟩, h⟩ := Holds.pure.1 h
  exact crash_spec h g ei hw fun H' h' => k H' (Holds.ex.2 ⟨crashF L F, Holds.pure.2 ⟨⟨hS.crash L, hL⟩, h'⟩⟩)
theorem dnew10_spec (hs : 1 ≤ size ∧ size ≤ 16777216) (h : HL.Holds cs H) (k : ∀ d H', HL.Holds (lgd d size st0 :: cs) H' → K (.tuple #[.pointer (some ⟨d, 0, none⟩), .int .i64 0]) H') : FnH Tryz.prog 24 #[.int .i64 size] H K :=
  dnew_spec h (fun q => by omega) fun _ _ d H' h' => k d H' (Holds.ex.2 ⟨[], Holds.pure.2 ⟨⟨StR.zero, StOk.zero, UpS.zero⟩, h'⟩⟩)
theorem last10_spec (h : HL.Holds cs H) (ei : cs[i]? = some (lgu c d size st)) (k : K (.tuple #[.int .i64 (lastX st).1, .int .i64 (lastX st).2]) H) : FnH Tryz.prog 33 #[.pointer (some ⟨c, 0, none⟩)] H K := by
  obtain ⟨hL, hh⟩ := lgu_ok h ei
  exact last9_spec (i := 0) hh rfl hL.ok.len k
theorem at10_spec {x : Int} (h : HL.Holds cs H) (ei : cs[i]? = some (lgu c d size st)) (hx : x ≤ 9223372036854775807) (k0 : atX st x = none → K (.tuple #[.agg #[.int .i64 0, .int .i64 0, .string (⟨#[]⟩ : ByteArray)], .bool false]) H) (k1 : ∀ e, atX st x = some e → K (.tuple #[.agg #[.int .i64 e.1, .int .i64 e.2.1, .string e.2.2], .bool true]) H) :
    FnH Tryz.prog 94 #[.pointer (some ⟨c, 0, none⟩), .int .i64 x] H K := by
  obtain ⟨hL, hh⟩ := lgu_ok h ei
  exact at9_spec (i := 0) hh rfl hL.ok.len hL.ok.index.1 hL.ok.index.2 hx k0 k1
theorem from10_spec {x m : Int} (h : HL.Holds cs H) (ei : cs[i]? = some (lgu c d size st)) (hx : x ≤ 9223372036854775807) (k : ∀ (r : Sl) H', HL.Sub H H' → HL.Holds (ownE r (fromX st x m) :: cs) H' → K (.slice r.p r.n r.c) H') : FnH Tryz.prog 57 #[.pointer (some ⟨c, 0, none⟩), .int .i64 x, .int .i64 m] H K := by
  obtain ⟨F, ⟨hS, hL⟩, hh⟩ := h.read i ei lgu_mono
  have h2 := h.pull i ei
  obtain ⟨F2, ⟨hS2, hL2⟩, h3⟩ := lgu_open.1 h2
  refine from9_spec (i := 0) h3 rfl hL.ok.len hL.ok.index.1 hL.ok.index.2 hx fun r H' s' h' => k r H' s' ?_
  have h4 : HL.Holds (lgc c d st :: dsk d size F2 :: ownE r (fromX st x m) :: cs.eraseIdx i) H' := (h'.pull 2 rfl).pull 2 rfl
  have h5 : HL.Holds (lgu c d size st :: ownE r (fromX st x m) :: cs.eraseIdx i) H' := lgu_open.2 ⟨F2, ⟨hS2, hL2⟩, h4⟩
  exact h5.swap.perm (List.Perm.cons _ (pull_perm ei).symm)
theorem term10_spec (h : HL.Holds cs H) (ei : cs[i]? = some (lgu c d size st)) (k : K (.int .i64 st.term) H) : FnH Tryz.prog 42 #[.pointer (some ⟨c, 0, none⟩)] H K := by
  obtain ⟨hL, hh⟩ := lgu_ok h ei
  exact term9_spec (i := 0) hh rfl k
theorem vote10_spec (h : HL.Holds cs H) (ei : cs[i]? = some (lgu c d size st)) (k : K (.int .i64 st.vote) H) : FnH Tryz.prog 35 #[.pointer (some ⟨c, 0, none⟩)] H K := by
  obtain ⟨hL, hh⟩ := lgu_ok h ei
  exact vote9_spec (i := 0) hh rfl k
theorem first10_spec (h : HL.Holds cs H) (ei : cs[i]? = some (lgu c d size st)) (k : K (.int .i64 (st.index + 1)) H) : FnH Tryz.prog 89 #[.pointer (some ⟨c, 0, none⟩)] H K := by
  obtain ⟨hL, hh⟩ := lgu_ok h ei
  exact first9_spec (i := 0) hh rfl hL.ok.index k
theorem snapshot10_spec (h : HL.Holds cs H) (ei : cs[i]? = some (lgu c d size st)) (k : K (.tuple #[.int .i64 st.index, .int .i64 st.snapped, .string st.data]) H) : FnH Tryz.prog 56 #[.pointer (some ⟨c, 0, none⟩)] H K := by
  obtain ⟨hL, hh⟩ := lgu_ok h ei
  exact snapshot9_spec (i := 0) hh rfl k
end
end Go.Proofs.YthldclmeojkboaaGreatDoor
