/- Numbers and checksums as bytes (out of chapter 8). -/
import Derived.Test.YtokceblmbmajgaaGreatDoorF1
import Derived.Test.YtokceblmbmajgaaGreatDoorHlLaw
import Derived.Test.YtokceblmbmajgaaGreatDoorHlAppend
import Derived.Test.YtokceblmbmajgaaGreatDoorHlBytes
import Derived.Test.YtokceblmbmajgaaGreatDoorHlWire

/- Chapter 8: numbers and texts as bytes (wire.appendInt, appendText, body). -/
namespace Go.Proofs.YtokceblmbmajgaaGreatDoor
open Go.HL
set_option maxHeartbeats 400000
set_option maxRecDepth 10000

def i64B (n : Int) : Prop := -9223372036854775808 ≤ n ∧ n ≤ 9223372036854775807
theorem okBy : ElemOK Tryz.prog 112 5 1 := ElemOK.of (by kernel_rfl)
theorem uStr : Tryz.prog.underlying 9 = some .string := by kernel_rfl
abbrev bv (l : List Int) : List Value := l.map (Value.int .u8)
/-- A number by sevens. -/
def sevens : Nat → Int → List Int
  | 0, _ => []
  | k + 1, z => if z ≥ 128 then orI .u8 (IntKind.wrap .u8 z) 128 :: sevens k (shrI .u64 z 7) else [IntKind.wrap .u8 z]
def zig (n : Int) : Int := IntKind.wrap .u64 (xorI .i64 (shlI .i64 n 1) (shrI .i64 n 63))
def encInt (n : Int) : List Int := sevens 10 (zig n)
theorem sevens_len : ∀ (k : Nat) (z : Int), (sevens k z).length ≤ k := by
  intro k
  induction k with
  | zero => intro z; exact Nat.le_refl _
  | succ k ih =>
    intro z
    unfold sevens
    split
    · have := ih (shrI .u64 z 7); simp; omega
    · simp
theorem encInt_len (n : Int) : (encInt n).length ≤ 10 := sevens_len 10 _
theorem wrap_u64 (n : Int) : 0 ≤ IntKind.wrap .u64 n ∧ IntKind.wrap .u64 n < 18446744073709551616 := by
  have e : IntKind.wrap .u64 n = n % 18446744073709551616 := by kernel_rfl
  rw [e]; omega
theorem shr7 (z : Int) : shrI .u64 z 7 = z / 128 := by
  have e : shrI .u64 z 7 = z.fdiv 128 := by kernel_rfl
  rw [e, Int.fdiv_eq_ediv_of_nonneg _ (by decide)]
theorem bv_app (l m : List Int) : bv (l ++ m) = bv l ++ bv m := by simp [bv]
theorem appendInt_spec {cs : List Chunk} {H : Heap} {b : Sl} {l : List Int} {n : Int} {K : Value → Heap → Prop} (h : Holds (own 5 1 b (bv l) :: cs) H) (hb : b.n ≤ 200000000)
    (k : ∀ (r : Sl) H', Holds (own 5 1 r (bv (l ++ encInt n)) :: cs) H' → r.n = b.n + (encInt n).length → K (.slice r.p r.n r.c) H') : FnH Tryz.prog 85 #[.slice b.p b.n b.c, .int .i64 n] H K := by
  apply wire_appendInt_fn
  unfold wire_appendInt_vc
  obtain ⟨z0, z1⟩ := wrap_u64 (xorI .i64 (shlI .i64 n 1) (shrI .i64 n 63))
  unfold encInt zig at k
  generalize IntKind.wrap .u64 (xorI .i64 (shlI .i64 n 1) (shrI .i64 n 63)) = z at *
  have hl := (h.own 0 rfl).1
  simp only [List.length_map, Nat.mul_one] at hl
  refine ⟨fun c y H1 => ∃ (j : Nat) (m : List Int), 0 < j ∧ j ≤ 10 ∧ 0 ≤ y ∧ y < 128 ^ j ∧ m ++ sevens j y = l ++ sevens 10 z ∧ m.length ≤ l.length + (10 - j) ∧ Holds (own 5 1 c (bv m) :: cs) H1, fun _ y _ => y.toNat,
    ⟨10, l, by decide, by decide, z0, by omega, rfl, by omega, h⟩, ?_⟩
  rintro c y H1 ⟨j, m, j0, j1, y0, y1, em, hm, h1⟩
  have hc := (h1.own 0 rfl).1
  simp only [List.length_map, Nat.mul_one] at hc
  obtain ⟨i, rfl⟩ : ∃ i, j = i + 1 := ⟨j - 1, by omega⟩
  refine br_intro (fun q => ?_) (fun q => ?_)
  · have q := of_decide_eq_true q
    refine Holds.push okBy h1 (m := 1) rfl rfl (by omega) fun r H3 h3 n3 => ⟨r, rfl, rfl, ⟨i, m ++ [orI .u8 (IntKind.wrap .u8 y) 128], ?_, by omega, ?_, ?_, ?_, by simp; omega, ?_⟩, ?_⟩
    · refine Nat.pos_of_ne_zero fun e => ?_
      subst e
      simp at y1; omega
    · rw [shr7]; omega
    · rw [shr7]
      have e : (128 : Int) ^ (i + 1) = 128 ^ i * 128 := Int.pow_succ ..
      rw [e] at y1
      exact Int.ediv_lt_of_lt_mul (by decide) y1
    · rw [← em]
      have : sevens (i + 1) y = orI .u8 (IntKind.wrap .u8 y) 128 :: sevens i (shrI .u64 y 7) := by
        show (if y ≥ 128 then _ else _) = _
        rw [if_pos q]
      rw [this]; simp
    · rw [bv_app]; exact h3
    · dsimp only; rw [shr7]; omega
  · have q := of_decide_eq_false q
    have : sevens (i + 1) y = [IntKind.wrap .u8 y] := by
      show (if y ≥ 128 then _ else _) = _
      rw [if_neg q]
    rw [this] at em
    refine Holds.push okBy h1 (m := 1) rfl rfl (by omega) fun r H3 h3 n3 => ⟨r, rfl, k r H3 ?_ ?_⟩
    · rw [← em, bv_app]; exact h3
    · have := congrArg List.length em
      simp at this
      omega
/-- A text's bytes. -/
def txt (s : ByteArray) : List Int := s.data.toList.map fun b => (b.toNat : Int)
theorem strV_txt (s : ByteArray) : strV s = bv (txt s) := by simp [strV, txt, bv]
def encText (s : ByteArray) : List Int := encInt s.size ++ txt s
theorem appendText_spec {cs : List Chunk} {H : Heap} {b : Sl} {l : List Int} {s : ByteArray} {K : Value → Heap → Prop} (h : Holds (own 5 1 b (bv l) :: cs) H) (hb : b.n ≤ 100000000) (hs : s.size ≤ 100000000)
    (k : ∀ (r : Sl) H', Holds (own 5 1 r (bv (l ++ encText s)) :: cs) H' → r.n = b.n + (encText s).length → K (.slice r.p r.n r.c) H') : FnH Tryz.prog 86 #[.slice b.p b.n b.c, .string s] H K := by
  apply wire_appendText_fn
  unfold wire_appendText_vc
  have hE := encInt_len s.size
  refine appendInt_spec h (by omega) fun r1 H1 h1 n1 => ⟨r1, rfl, Holds.appendStr okBy uStr h1 (by omega) fun r H' h' n' => ⟨r, rfl, k r H' ?_ ?_⟩⟩
  · unfold encText
    rw [← List.append_assoc, bv_app, ← strV_txt]; exact h'
  · have : (txt s).length = s.size := by simp [txt]
    unfold encText
    rw [List.length_append, this]; omega
end Go.Proofs.YtokceblmbmajgaaGreatDoor

/- Chapter 8: numbers as bytes, and back; the checksum: the code's and the document's. -/
namespace Go.Proofs.YtokceblmbmajgaaGreatDoor
open Go Go.HL
set_option maxHeartbeats 1000000
set_option maxRecDepth 10000

theorem uBy : Tryz.prog.underlying 112 = some (.slice 5) := by kernel_rfl
theorem uByte : Tryz.prog.underlying 5 = some (.int .u8) := by kernel_rfl
theorem sevens_eq : ∀ (f z : Nat), sevens f (z : Int) = (encD f z).map fun b : Nat => (b : Int) := by
  intro f
  induction f with
  | zero => intro z; rfl
  | succ f ih =>
    intro z
    unfold sevens encD
    by_cases c : z ≥ 128
    · rw [if_pos (by omega), if_pos c, List.map_cons, shr7]
      have e1 : (z : Int) / 128 = ((z / 128 : Nat) : Int) := by omega
      rw [e1, ih, wrap_u8]
      have e2 : (z : Int) % 256 = ((z % 256 : Nat) : Int) := by omega
      rw [e2, or_u8_128 (by omega)]
      congr 2; omega
    · rw [if_neg (by omega), if_neg c, wrap_u8]
      show [(z : Int) % 256] = [(z : Int)]
      congr 1; omega
theorem encInt_eq {n : Int} (hn : i64B n) : encInt n = (encN n).map fun b : Nat => (b : Int) := by
  unfold encInt zig
  rw [zig_code hn.1 hn.2, sevens_eq]; rfl
theorem bv_nat (l : List Nat) : bv (l.map fun b : Nat => (b : Int)) = l.map fun b : Nat => Value.int .u8 (b : Int) := by simp [bv, Function.comp_def]
theorem strV_str {l : List Nat} (h : ∀ b ∈ l, b < 256) : strV (strN l) = l.map fun b : Nat => Value.int .u8 (b : Int) := by rw [strV_nb, nb_str h]
theorem encN_bytes (n : Int) : ∀ b ∈ encN n, b < 256 := encD_bytes 10 _
theorem encN_len (n : Int) : (encN n).length ≤ 10 := encD_len 10 _
/-- Bytes of one's own as a string. -/
theorem toStr {H : Heap} {K : Value → Heap → Prop} {r : Sl} {l : List Nat} (h : Own H 5 1 r (l.map fun b : Nat => Value.int .u8 (b : Int))) (hl : ∀ b ∈ l, b < 256) (k : K (.string (strN l)) H) : runH Tryz.prog (convert 112 9 (.slice r.p r.n r.c)) H K :=
  runH_toString uBy uStr uByte (own_byts (by rw [strV_str hl]; exact h)) k
theorem rd_step {f i z : Nat} {b : Nat} {l : List Nat} (h : b < 256) : rd (f + 1) i z (b :: l) = (if i = 9 ∧ b > 1 then ((0 : Int), (0 : Int), (4 : Int)) else if b > 127 then rd f (i + 1) (z + b % 128 * 128 ^ i) l else if i > 0 ∧ b = 0 then (0, 0, 4) else (unzig (z + b % 128 * 128 ^ i), (i : Int) + 1, 0)) := rfl
abbrev trp (t : Int × Int × Int) : Value := .tuple #[.int .i64 t.1, .int .i64 t.2.1, .int .i64 t.2.2]
/-- A digit joins a number. -/
theorem digit {z b i : Nat} (hz : z < 128 ^ i) (hb : b < 256) (hi : i ≤ 9) (h9 : i = 9 → b ≤ 1) :
    orI .u64 (z : Int) (shlI .u64 (IntKind.wrap .u64 (andI .u8 (b : Int) 127)) (IntKind.wrap .i64 (7 * (i : Int)))) = ((z + b % 128 * 128 ^ i : Nat) : Int) ∧ z + b % 128 * 128 ^ i < 18446744073709551616 ∧ (i ≤ 8 → z + b % 128 * 128 ^ i < 128 ^ (i + 1)) := by
  have hp := pow_top hi
  have hpos : 0 < 128 ^ i := Nat.pow_pos (by decide)
  have hlt8 : i ≤ 8 → z + b % 128 * 128 ^ i < 128 ^ (i + 1) := fun h8 => by
    have h1 : b % 128 * 128 ^ i ≤ 127 * 128 ^ i := Nat.mul_le_mul_right _ (by omega)
    rw [Nat.pow_succ]; omega
  have hlt : z + b % 128 * 128 ^ i < 18446744073709551616 := by
    rcases Nat.lt_or_ge i 9 with q | q
    · have := hlt8 (by omega)
      have h3 : 128 ^ (i + 1) ≤ 128 ^ 9 := Nat.pow_le_pow_right (by decide) (by omega)
      have h4 : (128 : Nat) ^ 9 = 9223372036854775808 := by decide
      omega
    · have e : i = 9 := by omega
      subst e
      have h4 : (128 : Nat) ^ 9 = 9223372036854775808 := by decide
      have := h9 rfl
      rw [h4] at hz ⊢
      have : b % 128 = b := by omega
      rw [this]
      have : b * 9223372036854775808 ≤ 1 * 9223372036854775808 := Nat.mul_le_mul_right _ (by omega)
      omega
  refine ⟨?_, hlt, hlt8⟩
  rw [and_u8_127 hb, wrap_u64', wrap64_id (n := 7 * (i : Int)) (by omega) (by omega)]
  have e1 : ((b % 128 : Nat) : Int) % 18446744073709551616 = ((b % 128 : Nat) : Int) := by omega
  rw [e1]
  unfold shlI
  have e2 : IntKind.bits .u64 = 64 := rfl
  have e3 : min (7 * (i : Int)).toNat 64 = 7 * i := by omega
  rw [e2, e3]
  have e4 : (2 : Int) ^ (7 * i) = ((128 ^ i : Nat) : Int) := by
    rw [Int.pow_mul]; push_cast; rfl
  rw [e4, ← Int.natCast_mul, wrap_u64']
  have e5 : ((b % 128 * 128 ^ i : Nat) : Int) % 18446744073709551616 = ((b % 128 * 128 ^ i : Nat) : Int) := by omega
  rw [e5, or_u64 (by omega) (by omega)]
  congr 1
  have e6 : 128 ^ i = 2 ^ (7 * i) := by rw [Nat.pow_mul]
  rw [e6] at hz ⊢
  have := Nat.two_pow_add_eq_or_of_lt hz (b % 128)
  rw [Nat.or_comm, Nat.mul_comm (b % 128), ← this]; omega
theorem readInt_spec {b : ByteArray} {H : Heap} {K : Value → Heap → Prop} (k : K (trp (readN (nb b))) H) : FnH Tryz.prog 83 #[.string b] H K := by
  apply wire_ReadInt_fn
  unfold wire_ReadInt_vc
  refine ⟨fun z n H1 => H1 = H ∧ ∃ i y : Nat, n = i ∧ z = y ∧ i ≤ 10 ∧ i ≤ b.size ∧ (i ≤ 9 → y < 128 ^ i) ∧ rd (10 - i) i y ((nb b).drop i) = readN (nb b), fun _ n _ => (10 - n).toNat, ⟨rfl, 0, 0, rfl, rfl, by decide, Nat.zero_le _, fun _ => by decide, rfl⟩, ?_⟩
  rintro _ _ H1 ⟨rfl, i, z, rfl, rfl, hi, hib, hz, hrd⟩
  have fin : ∀ t : Int × Int × Int, rd (10 - i) i z ((nb b).drop i) = t → K (trp t) H1 := fun t ht => by rw [← ht, hrd]; exact k
  refine br_intro (fun q => ?_) (fun q => ?_)
  · have q := of_decide_eq_true q
    have hz := hz (by omega)
    obtain ⟨f, hf⟩ : ∃ f, 10 - i = f + 1 := ⟨9 - i, by omega⟩
    have hf2 : 10 - (i + 1) = f := by omega
    rw [hf] at fin hrd
    refine br_intro (fun q2 => ?_) (fun q2 => ?_)
    · have q2 : (i : Int) = b.size := by simpa using q2
      have e : (nb b).drop i = [] := List.drop_eq_nil_of_le (by rw [nb_len]; omega)
      rw [e] at fin
      exact fin (0, 0, 5) rfl
    have q2 : ¬ (i : Int) = b.size := by simpa using q2
    obtain ⟨c, e1, e2, e3⟩ := nb_get (s := b) (i := i) (by omega)
    have hlen : i < (nb b).length := by rw [nb_len]; omega
    have ed : (nb b).drop i = c.toNat :: (nb b).drop (i + 1) := by
      rw [List.drop_eq_getElem_cons hlen]
      congr 1
      rw [List.getElem?_eq_getElem hlen] at e2; exact Option.some.inj e2
    rw [ed] at fin hrd
    rw [rd_step e3] at fin hrd
    have ei : (i : Int).toNat = i := by omega
    have hn1 : IntKind.wrap .i64 ((i : Int) + 1) = ((i + 1 : Nat) : Int) := by rw [wrap64_id (by omega) (by omega)]; omega
    have sh : ∀ {p : Prop}, p → shG (decide (IntKind.wrap .i64 (7 * (i : Int)) < 0)) p := fun {p} hp => by
      rw [wrap64_id (by omega) (by omega), decide_eq_false (by omega)]; exact hp
    have body : (¬ (i = 9 ∧ c.toNat > 1)) → ∀ {p : Prop} (_ : (∀ z' : Nat, orI .u64 (z : Int) (shlI .u64 (IntKind.wrap .u64 (andI .u8 (c.toNat : Int) 127)) (IntKind.wrap .i64 (7 * (i : Int)))) = (z' : Int) → z' < 18446744073709551616 → z' = z + c.toNat % 128 * 128 ^ i → (i ≤ 8 → z' < 128 ^ (i + 1)) → p)), p := fun h9 {p} hp => by
      obtain ⟨d1, d2, d3⟩ := digit (z := z) (b := c.toNat) (i := i) hz e3 (by omega) (fun e => Nat.le_of_not_lt fun z => h9 ⟨e, z⟩)
      exact hp _ d1 d2 rfl d3
    refine br_intro (fun q9 => ?_) (fun q9 => ?_)
    all_goals
      first
        | (refine ⟨by omega, c, by rw [ei]; exact e1, br_intro (fun q1 => ?_) (fun q1 => ?_)⟩
           · have q9 : (i : Int) = 9 := by simpa using q9
             have q1 := of_decide_eq_true q1
             exact fin (0, 0, 4) (by rw [if_pos ⟨by omega, by omega⟩]))
        | skip
    all_goals
      have h9 : ¬ (i = 9 ∧ c.toNat > 1) := fun z => by
        first
          | (have q1 := of_decide_eq_false q1; omega)
          | (have q9 : ¬ (i : Int) = 9 := by simpa using q9
             omega)
      rw [if_neg h9] at fin hrd
      refine ⟨by omega, c, by rw [ei]; exact e1, sh ⟨by omega, c, by rw [ei]; exact e1, body h9 fun z' hz1 hz2 hz3 hz4 => ?_⟩⟩
      rw [hz1, hn1]
      refine br_intro (fun c1 => ?_) (fun c1 => ?_)
      · have c1 := of_decide_eq_true c1
        rw [if_pos (by omega)] at hrd
        exact ⟨rfl, ⟨rfl, i + 1, z', rfl, rfl, by omega, by omega, fun h => hz4 (by omega), by rw [hf2, hz3]; exact hrd⟩, by dsimp only; omega⟩
      · have c1 := of_decide_eq_false c1
        rw [if_neg (by omega)] at fin
        refine ⟨fun bb H2 => H2 = H1 ∧ bb = (decide (i > 0) && decide (c.toNat = 0)), br_intro (fun c2 => ⟨by omega, c, by rw [ei]; exact e1, rfl, rfl, ?_⟩) (fun c2 => ⟨rfl, rfl, ?_⟩), ?_⟩
        · have c2 := of_decide_eq_true c2
          rw [decide_eq_true (show i > 0 by omega), Bool.true_and]
          have : (((c.toNat : Nat) : Int) == 0) = decide (c.toNat = 0) := by
            by_cases z : c.toNat = 0
            · rw [decide_eq_true z, z]; rfl
            · rw [decide_eq_false z]; simpa using z
          exact this
        · have c2 := of_decide_eq_false c2
          rw [decide_eq_false (show ¬ i > 0 by omega)]; rfl
        rintro bb H2 ⟨rfl, hbb⟩
        refine br_intro (fun c3 => ?_) (fun c3 => ?_)
        · rw [c3] at hbb
          have hbb := hbb.symm
          simp only [Bool.and_eq_true, decide_eq_true_eq] at hbb
          exact fin (0, 0, 4) (by rw [if_pos hbb])
        · rw [c3] at hbb
          have hbb := hbb.symm
          simp only [Bool.and_eq_false_iff, decide_eq_false_iff_not] at hbb
          have hno : ¬ (i > 0 ∧ c.toNat = 0) := fun z => hbb.elim (fun y => y z.1) (fun y => y z.2)
          have := fin (unzig z', (i : Int) + 1, 0) (by rw [if_neg hno, hz3])
          rw [unzig_code hz2]
          exact this
  · have q := of_decide_eq_false q
    have e : 10 - i = 0 := by omega
    rw [e] at fin
    exact fin (0, 0, 4) rfl
theorem foldl_take {l : List Nat} {i : Nat} {b : Nat} (h : l[i]? = some b) (c : Nat) : (l.take (i + 1)).foldl byteC c = byteC ((l.take i).foldl byteC c) b := by
  obtain ⟨h1, h2⟩ := List.getElem?_eq_some_iff.1 h
  rw [List.take_succ_eq_append_getElem h1, h2, List.foldl_append]; rfl
theorem foldC_lt {l : List Nat} (h : ∀ b ∈ l, b < 256) : ∀ {c : Nat}, c < 4294967296 → l.foldl byteC c < 4294967296 := by
  induction l with
  | nil => intro c hc; exact hc
  | cons a l ih => intro c hc; exact ih (fun b hb => h b (List.mem_cons_of_mem _ hb)) (byteC_lt hc (h a List.mem_cons_self))
theorem crc_spec {b : ByteArray} {H : Heap} {K : Value → Heap → Prop} (hb : b.size ≤ 9223372036854775807) (k : K (.int .i64 (crcN (nb b))) H) : FnH Tryz.prog 65 #[.string b] H K := by
  apply wire_Crc_fn
  unfold wire_Crc_vc
  refine ⟨fun c n H1 => H1 = H ∧ 0 ≤ n ∧ n ≤ b.size ∧ c = (((nb b).take n.toNat).foldl byteC 4294967295 : Nat), fun _ n _ => (b.size - n).toNat, ⟨rfl, Int.le_refl _, by omega, rfl⟩, ?_⟩
  rintro _ n H1 ⟨rfl, n0, n1, rfl⟩
  have hlt : ((nb b).take n.toNat).foldl byteC 4294967295 < 4294967296 := foldC_lt (fun x hx => nb_byte b x (List.mem_of_mem_take hx)) (by decide)
  refine br_intro (fun q => ?_) (fun q => ?_)
  · have q := of_decide_eq_true q
    obtain ⟨c, e1, e2, e3⟩ := nb_get (s := b) (i := n.toNat) (by omega)
    have et := foldl_take e2 4294967295
    generalize ((nb b).take n.toNat).foldl byteC 4294967295 = cc at *
    have ew : IntKind.wrap .u32 ((c.toNat : Nat) : Int) = ((c.toNat : Nat) : Int) := by rw [wrap_u32]; omega
    have hx : cc ^^^ c.toNat < 4294967296 := Nat.xor_lt_two_pow (n := 32) (by omega) (by omega)
    refine ⟨n0, c, e1, ?_⟩
    rw [ew, xor_u32 hlt (by omega)]
    refine ⟨fun c2 m H2 => H2 = H1 ∧ 0 ≤ m ∧ m ≤ 8 ∧ c2 = (bitsC m.toNat (cc ^^^ c.toNat) : Nat), fun _ m _ => (8 - m).toNat, ⟨rfl, Int.le_refl _, by decide, rfl⟩, ?_⟩
    rintro _ m H2 ⟨rfl, m0, m1, rfl⟩
    refine br_intro (fun v => ?_) (fun v => ?_)
    · have v := of_decide_eq_true v
      rw [bit_code (bitsC_lt _ hx), wrap64_id (n := m + 1) (by omega) (by omega)]
      have em : (m + 1).toNat = m.toNat + 1 := by omega
      exact ⟨rfl, ⟨rfl, by omega, by omega, by rw [em, bitsC_snoc]⟩, by dsimp only; omega⟩
    · have v := of_decide_eq_false v
      have em : m.toNat = 8 := by omega
      rw [em, wrap64_id (n := n + 1) (by omega) (by omega)]
      have en : (n + 1).toNat = n.toNat + 1 := by omega
      exact ⟨rfl, ⟨rfl, by omega, by omega, by rw [en, et]; rfl⟩, by dsimp only; omega⟩
  · have q := of_decide_eq_false q
    have e : (nb b).take n.toNat = nb b := List.take_of_length_le (by rw [nb_len]; omega)
    rw [e] at hlt ⊢
    have e2 : xorI .u32 4294967295 (((nb b).foldl byteC 4294967295 : Nat) : Int) = ((crcN (nb b) : Nat) : Int) := by
      have := xor_u32 (a := 4294967295) (b := (nb b).foldl byteC 4294967295) (by decide) hlt
      unfold crcN
      rw [Nat.xor_comm]; exact this
    have hc : crcN (nb b) < 4294967296 := Nat.xor_lt_two_pow (n := 32) (by omega) (by decide)
    rw [e2, wrap64_id (by omega) (by omega)]; exact k
end Go.Proofs.YtokceblmbmajgaaGreatDoor

/- Chapter 8: a table as bytes: its checksum, the numbers put behind one another. -/
namespace Go.Proofs.YtokceblmbmajgaaGreatDoor
open Go Go.HL
set_option maxRecDepth 10000
set_option maxHeartbeats 1600000

/-- Bytes as cells. -/
abbrev byV (l : List Nat) : List Value := l.map fun b : Nat => Value.int .u8 (b : Int)
abbrev ownY (s : Sl) (l : List Nat) : Chunk := own 5 1 s (byV l)
theorem noTups_by (l : List Nat) : noTups (byV l) = true := by
  induction l with
  | nil => rfl
  | cons a l ih => exact ih
def encL (L : List Int) : List Nat := L.flatMap encN
theorem encL_app (a b : List Int) : encL (a ++ b) = encL a ++ encL b := by simp [encL]
theorem encL_bytes (L : List Int) : ∀ b ∈ encL L, b < 256 := fun b hb => by
  obtain ⟨n, _, h⟩ := List.mem_flatMap.1 hb
  exact encN_bytes n b h
def sumN (l : List Nat) : List Nat := [crcN l / 16777216 % 256, crcN l / 65536 % 256, crcN l / 256 % 256, crcN l % 256]
theorem sumN_bytes (l : List Nat) : ∀ b ∈ sumN l, b < 256 := by
  intro b hb
  simp only [sumN, List.mem_cons, List.not_mem_nil, or_false] at hb
  omega
theorem crcN_lt (l : List Nat) (hl : ∀ b ∈ l, b < 256) : crcN l < 4294967296 := Nat.xor_lt_two_pow (n := 32) (foldC_lt hl (by decide)) (by decide)
theorem shr_n (c : Nat) (k : Nat) (hk : k < 64) : shrI .i64 (c : Int) k = ((c / 2 ^ k : Nat) : Int) := by
  have e : shrI .i64 (c : Int) k = (c : Int).fdiv ((2 : Int) ^ k) := by
    have h2 : min k IntKind.i64.bits = k := Nat.min_eq_left (by have : IntKind.i64.bits = 64 := rfl; omega)
    unfold shrI; simp [h2]
  rw [e, Int.fdiv_eq_ediv_of_nonneg _ (by exact Int.le_of_lt (Int.pow_pos (by decide)))]
  simp
section
variable {cs : List Chunk} {H : Heap} {K : Value → Heap → Prop}
end
end Go.Proofs.YtokceblmbmajgaaGreatDoor

namespace Go.Proofs.YtokceblmbmajgaaGreatDoor
open Go Go.HL
def rest (l : List Nat) : List Nat := l.drop (readN l).2.1.toNat
theorem rest_bytes {l : List Nat} (h : ∀ b ∈ l, b < 256) : ∀ b ∈ rest l, b < 256 := fun b hb => h b (List.mem_of_mem_drop hb)
theorem rest_le (l : List Nat) : (rest l).length ≤ l.length := by unfold rest; rw [List.length_drop]; omega
theorem rest_lt {l : List Nat} (hl : ∀ b ∈ l, b < 256) (h : (readN l).2.2 = 0) : (rest l).length < l.length := by
  obtain ⟨r, h1, h2, h3, -⟩ := read_ok (n := (readN l).1) (k := (readN l).2.1) hl (by rw [← h])
  unfold rest
  rw [List.length_drop, h2]
  have := congrArg List.length h1
  rw [List.length_append] at this
  omega
theorem read_k (l : List Nat) (hl : ∀ b ∈ l, b < 256) : 0 ≤ (readN l).2.1 ∧ (readN l).2.1 ≤ l.length := by
  have h := rd_k 10 0 0 l
  refine ⟨h.1, ?_⟩
  by_cases e : (readN l).2.2 = 0
  · obtain ⟨r, h1, h2, h3, -⟩ := read_ok (n := (readN l).1) (k := (readN l).2.1) hl (by rw [← e])
    have := congrArg List.length h1
    rw [List.length_append] at this
    omega
  · have := (h.2 e).1
    have e2 : (readN l).2.1 = 0 := this
    omega
theorem read_bad {l : List Nat} (h : (readN l).2.2 ≠ 0) : (readN l).1 = 0 := ((rd_k 10 0 0 l).2 h).2
def nx (s : ByteArray) : ByteArray := s.extract (readN (nb s)).2.1.toNat s.size
theorem nb_nx (s : ByteArray) : nb (nx s) = rest (nb s) := by
  unfold nx rest
  rw [nb_extract, List.take_of_length_le (by rw [nb_len]; exact Nat.le_refl _)]
section
variable {cs : List Chunk} {H : Heap} {K : Value → Heap → Prop}
theorem held_undo {b : Nat} {o : Obj} (h : Holds (blk b o :: cs) H) : H b = some o ∧ Holds cs (H.del b) := by
  refine ⟨h.get 0 rfl, ?_⟩
  obtain ⟨A, B, e, d, p, q⟩ := h
  refine Holds.up (fun x y hx => ?_) q
  have hne : x ≠ b := by
    rintro rfl
    have := d x y hx
    rw [show A x = some o from p] at this; cases this
  rw [Heap.del_ne _ hne, e]
  exact Heap.join_right d hx
end
end Go.Proofs.YtokceblmbmajgaaGreatDoor

/- Chapter 8: the document's numbers as bytes (logboomref3). -/
namespace Go.Proofs.YtokceblmbmajgaaGreatDoor
open Go Go.HL
set_option maxRecDepth 10000
set_option maxHeartbeats 1600000

def fourN (c : Nat) : List Nat := [c / 16777216 % 256, c / 65536 % 256, c / 256 % 256, c % 256]
theorem sumN_four (l : List Nat) : sumN l = fourN (crcN l) := rfl
theorem fourN_bytes (c : Nat) : ∀ b ∈ fourN c, b < 256 := by
  intro b hb
  simp only [fourN, List.mem_cons, List.not_mem_nil, or_false] at hb
  omega
theorem tdiv_n (c k : Nat) : Int.tdiv (c : Int) (k : Int) = ((c / k : Nat) : Int) := by
  rw [Int.tdiv_eq_ediv_of_nonneg (Int.natCast_nonneg c)]; rfl
theorem tmod_n (c k : Nat) : Int.tmod (c : Int) (k : Int) = ((c % k : Nat) : Int) := by
  rw [Int.tmod_eq_emod_of_nonneg (Int.natCast_nonneg c)]; rfl
section
variable {cs : List Chunk} {H : Heap} {K : Value → Heap → Prop}
theorem four_spec {c : Nat} (hc : c < 4294967296) (k : ∀ H', HL.Sub H H' → K (.string (strN (fourN c))) H') : FnH Tryz.prog 79 #[.int .i64 (c : Int)] H K := by
  apply logboomref3_Four_fn
  unfold logboomref3_Four_vc
  refine ⟨by decide, by decide, by decide, by decide, by decide, by decide, ?_⟩
  have a1 : Int.tdiv (c : Int) 16777216 = ((c / 16777216 : Nat) : Int) := tdiv_n c 16777216
  have a2 : Int.tdiv (c : Int) 65536 = ((c / 65536 : Nat) : Int) := tdiv_n c 65536
  have a3 : Int.tdiv (c : Int) 256 = ((c / 256 : Nat) : Int) := tdiv_n c 256
  have a4 : Int.tmod (c : Int) 256 = ((c % 256 : Nat) : Int) := tmod_n c 256
  rw [a1, a2, a3, a4, wrap64_id (n := ((c / 16777216 : Nat) : Int)) (by omega) (by omega), wrap64_id (n := ((c / 65536 : Nat) : Int)) (by omega) (by omega), wrap64_id (n := ((c / 256 : Nat) : Int)) (by omega) (by omega)]
  have b2 : Int.tmod ((c / 65536 : Nat) : Int) 256 = ((c / 65536 % 256 : Nat) : Int) := tmod_n _ 256
  have b3 : Int.tmod ((c / 256 : Nat) : Int) 256 = ((c / 256 % 256 : Nat) : Int) := tmod_n _ 256
  rw [b2, b3]
  have w : ∀ n : Nat, IntKind.wrap .u8 (n : Int) = ((n % 256 : Nat) : Int) := fun n => by rw [wrap_u8]; omega
  rw [w, w, w, w]
  refine (Holds.whole H).newS fun q H1 s1 h1 => ?_
  have ho : Own H1 5 1 ⟨some ⟨q, 0, none⟩, 4, 4⟩ (byV (fourN c)) := ⟨rfl, Nat.le_refl _, .inr ⟨q, _, rfl, h1.get 0 rfl, rfl, ?_⟩⟩
  · exact toStr (r := ⟨some ⟨q, 0, none⟩, 4, 4⟩) ho (fourN_bytes c) ⟨_, rfl, k H1 s1⟩
  · intro i hi
    have z : i = 0 ∨ i = 1 ∨ i = 2 ∨ i = 3 := by simp [fourN] at hi; omega
    rcases z with rfl | rfl | rfl | rfl
    · rfl
    · show some (Value.int .u8 _) = some (Value.int .u8 _); congr 2; omega
    · show some (Value.int .u8 _) = some (Value.int .u8 _); congr 2; omega
    · show some (Value.int .u8 _) = some (Value.int .u8 _); congr 2; omega
theorem rcrc_spec {b : ByteArray} (hb : b.size ≤ 9223372036854775806) (k : K (.int .i64 (crcN (nb b))) H) : FnH Tryz.prog 80 #[.string b] H K := by
  apply logboomref3_Crc_fn
  unfold logboomref3_Crc_vc
  refine ⟨fun c n H1 => H1 = H ∧ 0 ≤ n ∧ n ≤ b.size ∧ c = (((nb b).take n.toNat).foldl byteC 4294967295 : Nat), fun _ n _ => (b.size - n).toNat, ⟨rfl, Int.le_refl _, by omega, rfl⟩, ?_⟩
  rintro _ n H1 ⟨rfl, n0, n1, rfl⟩
  have hlt : ((nb b).take n.toNat).foldl byteC 4294967295 < 4294967296 := foldC_lt (fun x hx => nb_byte b x (List.mem_of_mem_take hx)) (by decide)
  refine br_intro (fun q => ?_) (fun q => ?_)
  · have q := of_decide_eq_true q
    obtain ⟨c, e1, e2, e3⟩ := nb_get (s := b) (i := n.toNat) (by omega)
    have et := foldl_take e2 4294967295
    generalize ((nb b).take n.toNat).foldl byteC 4294967295 = cc at *
    have ew : IntKind.wrap .u32 ((c.toNat : Nat) : Int) = ((c.toNat : Nat) : Int) := by rw [wrap_u32]; omega
    have hx : cc ^^^ c.toNat < 4294967296 := Nat.xor_lt_two_pow (n := 32) (by omega) (by omega)
    refine ⟨n0, c, e1, ?_⟩
    rw [ew, xor_u32 hlt (by omega)]
    refine ⟨fun c2 m H2 => H2 = H1 ∧ 0 ≤ m ∧ m ≤ 8 ∧ c2 = (bitsC m.toNat (cc ^^^ c.toNat) : Nat), fun _ m _ => (8 - m).toNat, ⟨rfl, Int.le_refl _, by decide, rfl⟩, ?_⟩
    rintro _ m H2 ⟨rfl, m0, m1, rfl⟩
    refine br_intro (fun v => ⟨by decide, by decide, ?_⟩) (fun v => ?_)
    · have v := of_decide_eq_true v
      have hc2 := bitsC_lt m.toNat hx
      have es := bitsC_snoc m.toNat (cc ^^^ c.toNat)
      generalize bitsC m.toNat (cc ^^^ c.toNat) = y at *
      have em : (m + 1).toNat = m.toNat + 1 := by omega
      have t1 : Int.tmod (y : Int) 2 = ((y % 2 : Nat) : Int) := tmod_n y 2
      have t2 : IntKind.wrap .u32 (Int.tdiv (y : Int) 2) = ((y / 2 : Nat) : Int) := by
        have : Int.tdiv (y : Int) 2 = ((y / 2 : Nat) : Int) := tdiv_n y 2
        rw [this, wrap_u32]; omega
      have t3 : xorI .u32 ((y / 2 : Nat) : Int) 2197175160 = (((y / 2) ^^^ 2197175160 : Nat) : Int) := xor_u32 (a := y / 2) (b := 2197175160) (by omega) (by decide)
      rw [t1, t2, wrap64_id (n := m + 1) (by omega) (by omega), t3]
      refine br_intro (fun w => ?_) (fun w => ?_)
      · have w : y % 2 = 1 := by have w : ((y % 2 : Nat) : Int) = 1 := by simpa using w
                                 omega
        exact ⟨rfl, ⟨rfl, by omega, by omega, by rw [em, es]; unfold bitC; rw [if_pos w]⟩, by dsimp only; omega⟩
      · have w : ¬ y % 2 = 1 := fun z => by rw [z] at w; simp at w
        exact ⟨rfl, ⟨rfl, by omega, by omega, by rw [em, es]; unfold bitC; rw [if_neg w]⟩, by dsimp only; omega⟩
    · have v := of_decide_eq_false v
      have em : m.toNat = 8 := by omega
      rw [em, wrap64_id (n := n + 1) (by omega) (by omega)]
      have en : (n + 1).toNat = n.toNat + 1 := by omega
      exact ⟨rfl, ⟨rfl, by omega, by omega, by rw [en, et]; rfl⟩, by dsimp only; omega⟩
  · have q := of_decide_eq_false q
    have e : (nb b).take n.toNat = nb b := List.take_of_length_le (by rw [nb_len]; omega)
    rw [e] at hlt ⊢
    have hc : crcN (nb b) < 4294967296 := Nat.xor_lt_two_pow (n := 32) (by omega) (by decide)
    have e2 : xorI .u32 (((nb b).foldl byteC 4294967295 : Nat) : Int) 4294967295 = ((crcN (nb b) : Nat) : Int) := xor_u32 (a := (nb b).foldl byteC 4294967295) (b := 4294967295) hlt (by decide)
    rw [e2, wrap64_id (by omega) (by omega)]; exact k
/-- The document's loop that writes a number. -/
theorem sevens_loop {z0 : Nat} {n : Int} (hz : z0 = zigN n) (hn : i64B n) (k : ∀ H', HL.Sub H H' → K (.string (strN (encN n))) H') :
    ∃ I1 : Int → Sl → Heap → Prop, ∃ M1 : Int → Sl → Heap → Nat, I1 (z0 : Int) ⟨none, 0, 0⟩ H ∧ ∀ (z_1 : Int) (b_1 : Sl) (H1 : Heap), I1 z_1 b_1 H1 →
      br (decide (z_1 ≥ 128)) ((128 : Int) ≠ 0 ∧ ∀ q1 : Nat, H1 q1 = none → letH (Heap.upd H1 q1 (.cells #[.int .u8 (IntKind.wrap .u8 (IntKind.wrap .u64 ((Int.tmod z_1 128) + 128)))] 5 (0, 0))) fun H2 =>
        runH Tryz.prog (Builtin.append_ #[112, 112] 112 #[.slice b_1.p b_1.n b_1.c, .slice (some ⟨q1, 0, none⟩) 1 1]) H2 fun r1 H3 => ∃ l1 : Sl, r1 = .slice l1.p l1.n l1.c ∧ (128 : Int) ≠ 0 ∧ SelfEq ([], [], []) ∧ I1 (IntKind.wrap .u64 (Int.tdiv z_1 128)) l1 H3 ∧ M1 (IntKind.wrap .u64 (Int.tdiv z_1 128)) l1 H3 < M1 z_1 b_1 H1)
       (∀ q2 : Nat, H1 q2 = none → letH (Heap.upd H1 q2 (.cells #[.int .u8 (IntKind.wrap .u8 z_1)] 5 (0, 0))) fun H4 =>
        runH Tryz.prog (Builtin.append_ #[112, 112] 112 #[.slice b_1.p b_1.n b_1.c, .slice (some ⟨q2, 0, none⟩) 1 1]) H4 fun r2 H5 => ∃ l2 : Sl, r2 = .slice l2.p l2.n l2.c ∧ runH Tryz.prog (convert 112 9 (.slice l2.p l2.n l2.c)) H5 fun r3 H6 => ∃ s1 : ByteArray, r3 = .string s1 ∧ K (.string s1) H6) := by
  have hz64 : z0 < 18446744073709551616 := by rw [hz]; exact zig_lt hn.1 hn.2
  refine ⟨fun z b H1 => ∃ (y j : Nat) (m : List Nat), z = y ∧ 0 < j ∧ j ≤ 10 ∧ y < 128 ^ j ∧ y < 18446744073709551616 ∧ m ++ encD j y = encN n ∧ (∀ x ∈ m, x < 256) ∧ Holds [ownY b m, ro H] H1, fun z _ _ => z.toNat,
    ⟨z0, 10, [], rfl, by decide, by decide, by omega, hz64, by rw [hz]; rfl, by simp, (Holds.whole H).own_nil 5 1⟩, ?_⟩
  rintro _ b H1 ⟨y, j, m, rfl, j0, j1, y1, y2, em, hm, h1⟩
  obtain ⟨i, rfl⟩ : ∃ i, j = i + 1 := ⟨j - 1, by omega⟩
  have hbn := (h1.own 0 rfl).1
  simp only [List.length_map, Nat.mul_one] at hbn
  have hml : m.length ≤ 10 := by
    have := congrArg List.length em
    have h2 := encN_len n
    rw [List.length_append] at this; omega
  have w : ∀ n : Nat, IntKind.wrap .u8 (n : Int) = ((n % 256 : Nat) : Int) := fun n => by rw [wrap_u8]; omega
  have push : ∀ (x : Nat) (X : Value → Heap → Prop), (∀ (r : Sl) H3, Holds [ownY r (m ++ [x]), ro H] H3 → X (.slice r.p r.n r.c) H3) → ∀ q, H1 q = none → letH (Heap.upd H1 q (.cells #[.int .u8 ((x : Nat) : Int)] 5 (0, 0))) fun H2 => runH Tryz.prog (Builtin.append_ #[112, 112] 112 #[.slice b.p b.n b.c, .slice (some ⟨q, 0, none⟩) 1 1]) H2 X := fun x X kX =>
    Holds.push okBy h1 (xs := [.int .u8 ((x : Nat) : Int)]) (m := 1) rfl rfl (by omega) fun r H3 h3 _ => kX r H3 (by
      have e : byV (m ++ [x]) = byV m ++ [.int .u8 ((x : Nat) : Int)] := by simp
      show Holds [own 5 1 r (byV (m ++ [x])), _] H3
      rw [e]; exact h3)
  refine br_intro (fun q => ⟨by decide, ?_⟩) (fun q => ?_)
  · have q : y ≥ 128 := by have := of_decide_eq_true q; omega
    have t1 : Int.tmod (y : Int) 128 = ((y % 128 : Nat) : Int) := tmod_n y 128
    have t2 : Int.tdiv (y : Int) 128 = ((y / 128 : Nat) : Int) := tdiv_n y 128
    have t3 : IntKind.wrap .u8 (IntKind.wrap .u64 (((y % 128 : Nat) : Int) + 128)) = ((y % 128 + 128 : Nat) : Int) := by rw [wrap_u64', wrap_u8]; omega
    have t4 : IntKind.wrap .u64 ((y / 128 : Nat) : Int) = ((y / 128 : Nat) : Int) := by rw [wrap_u64']; omega
    rw [t1, t2, t3, t4]
    have ed : encD (i + 1) y = (y % 128 + 128) :: encD i (y / 128) := by
      show (if y ≥ 128 then _ else _) = _
      rw [if_pos q]
    have i0 : 0 < i := Nat.pos_of_ne_zero fun e => by
      subst e
      simp at y1; omega
    refine push _ _ fun r H3 h3 => ⟨r, rfl, by decide, rfl, ⟨y / 128, i, m ++ [y % 128 + 128], rfl, i0, by omega, ?_, by omega, ?_, fun x hx => ?_, h3⟩, by dsimp only; omega⟩
    · rw [Nat.pow_succ] at y1; omega
    · rw [← em, ed]; simp
    · rcases List.mem_append.1 hx with z | z
      · exact hm x z
      · simp only [List.mem_singleton] at z; rw [z]; omega
  · have q : ¬ y ≥ 128 := by have := of_decide_eq_false q; omega
    have ed : encD (i + 1) y = [y] := by
      show (if y ≥ 128 then _ else _) = _
      rw [if_neg q]
    have t5 : IntKind.wrap .u8 (y : Int) = ((y : Nat) : Int) := by rw [wrap_u8]; omega
    rw [t5]
    refine push _ _ fun r H3 h3 => ⟨r, rfl, ?_⟩
    rw [← ed, em] at h3
    exact toStr (h3.own 0 rfl) (encN_bytes n) ⟨_, rfl, k H3 (h3.sub 1 rfl)⟩
theorem rint3_spec {n : Int} (hn : i64B n) (k : ∀ H', HL.Sub H H' → K (.string (strN (encN n))) H') : FnH Tryz.prog 94 #[.int .i64 n] H K := by
  apply logboomref3_Int_fn
  unfold logboomref3_Int_vc
  obtain ⟨n0, n1⟩ := hn
  have hz := zig_lt n0 n1
  refine br_intro (fun q => ?_) (fun q => ?_)
  · have q := of_decide_eq_true q
    have e : IntKind.wrap .u64 ((IntKind.wrap .u64 (2 * (IntKind.wrap .u64 (IntKind.wrap .i64 (0 - (IntKind.wrap .i64 (n + 1))))))) + 1) = ((zigN n : Nat) : Int) := by
      rw [wrap64_id (n := n + 1) (by omega) (by omega), wrap64_id (n := 0 - (n + 1)) (by omega) (by omega), wrap_u64', wrap_u64', wrap_u64']
      unfold zigN
      rw [if_pos q]; omega
    rw [e]
    exact sevens_loop rfl ⟨n0, n1⟩ k
  · have q := of_decide_eq_false q
    have e : IntKind.wrap .u64 (2 * (IntKind.wrap .u64 n)) = ((zigN n : Nat) : Int) := by
      rw [wrap_u64', wrap_u64']
      unfold zigN
      rw [if_neg q]; omega
    rw [e]
    exact sevens_loop rfl ⟨n0, n1⟩ k
end
end Go.Proofs.YtokceblmbmajgaaGreatDoor

/- Chapter 8: the document's reader (logboomref3). -/
namespace Go.Proofs.YtokceblmbmajgaaGreatDoor
open Go Go.HL
set_option maxRecDepth 10000
set_option maxHeartbeats 1600000

section
variable {cs : List Chunk} {H : Heap} {K : Value → Heap → Prop}
theorem rreadInt_spec {b : ByteArray} (k : K (trp (readN (nb b))) H) : FnH Tryz.prog 99 #[.string b] H K := by
  apply logboomref3_ReadInt_fn
  unfold logboomref3_ReadInt_vc
  refine ⟨fun z u n H1 => H1 = H ∧ ∃ i y : Nat, n = i ∧ z = y ∧ i ≤ 10 ∧ i ≤ b.size ∧ (i ≤ 9 → y < 128 ^ i ∧ u = ((128 ^ i : Nat) : Int)) ∧ rd (10 - i) i y ((nb b).drop i) = readN (nb b), fun _ _ n _ => (10 - n).toNat, ⟨rfl, 0, 0, rfl, rfl, by decide, Nat.zero_le _, fun _ => ⟨by decide, rfl⟩, rfl⟩, ?_⟩
  rintro _ u _ H1 ⟨rfl, i, z, rfl, rfl, hi, hib, hz, hrd⟩
  have fin : ∀ t : Int × Int × Int, rd (10 - i) i z ((nb b).drop i) = t → K (trp t) H1 := fun t ht => by rw [← ht, hrd]; exact k
  refine br_intro (fun q => ?_) (fun q => ?_)
  · have q := of_decide_eq_true q
    obtain ⟨hz0, rfl⟩ := hz (by omega)
    obtain ⟨f, hf⟩ : ∃ f, 10 - i = f + 1 := ⟨9 - i, by omega⟩
    have hf2 : 10 - (i + 1) = f := by omega
    rw [hf] at fin hrd
    refine br_intro (fun q2 => ?_) (fun q2 => ?_)
    · have q2 := of_decide_eq_true q2
      have e : (nb b).drop i = [] := List.drop_eq_nil_of_le (by rw [nb_len]; omega)
      rw [e] at fin
      exact fin (0, 0, 5) rfl
    have q2 := of_decide_eq_false q2
    obtain ⟨c, e1, e2, e3⟩ := nb_get (s := b) (i := i) (by omega)
    have hlen : i < (nb b).length := by rw [nb_len]; omega
    have ed : (nb b).drop i = c.toNat :: (nb b).drop (i + 1) := by
      rw [List.drop_eq_getElem_cons hlen]
      congr 1
      rw [List.getElem?_eq_getElem hlen] at e2; exact Option.some.inj e2
    rw [ed] at fin hrd
    rw [rd_step e3] at fin hrd
    have ei : (i : Int).toNat = i := by omega
    have hn1 : IntKind.wrap .i64 ((i : Int) + 1) = ((i + 1 : Nat) : Int) := by rw [wrap64_id (by omega) (by omega)]; omega
    have hT : Int.tmod ((c.toNat : Nat) : Int) 128 = ((c.toNat % 128 : Nat) : Int) := tmod_n _ 128
    have hw1 : IntKind.wrap .u64 ((c.toNat % 128 : Nat) : Int) = ((c.toNat % 128 : Nat) : Int) := by rw [wrap_u64']; omega
    have dig : ¬ (i = 9 ∧ c.toNat > 1) → ∃ z' : Nat, IntKind.wrap .u64 ((z : Int) + IntKind.wrap .u64 ((c.toNat % 128 * 128 ^ i : Nat) : Int)) = (z' : Int) ∧ z' < 18446744073709551616 ∧ z' = z + c.toNat % 128 * 128 ^ i ∧ (i ≤ 8 → z' < 128 ^ (i + 1)) := fun h9 => by
      obtain ⟨-, d2, d3⟩ := digit (z := z) (b := c.toNat) (i := i) hz0 e3 (by omega) (fun e => Nat.le_of_not_lt fun z => h9 ⟨e, z⟩)
      refine ⟨_, ?_, d2, rfl, d3⟩
      generalize c.toNat % 128 * 128 ^ i = w at *
      rw [wrap_u64', wrap_u64']; omega
    have hwo : i ≤ 8 → IntKind.wrap .u64 (((128 ^ i : Nat) : Int) * 128) = ((128 ^ (i + 1) : Nat) : Int) := fun h8 => by
      have h3 : 128 ^ (i + 1) ≤ 128 ^ 9 := Nat.pow_le_pow_right (by decide) (by omega)
      have h4 : (128 : Nat) ^ 9 = 9223372036854775808 := by decide
      have h5 : 128 ^ (i + 1) = 128 ^ i * 128 := Nat.pow_succ ..
      generalize 128 ^ i = w at *
      rw [h5] at h3 ⊢
      rw [wrap_u64']; omega
    have last : ∀ z' : Nat, z' < 18446744073709551616 → (K (trp (unzig z', (i : Int) + 1, 0)) H1) → (2 : Int) ≠ 0 ∧ br ((Int.tmod (z' : Int) 2) == 1) ((2 : Int) ≠ 0 ∧ K (.tuple #[.int .i64 (IntKind.wrap .i64 ((IntKind.wrap .i64 (0 - (IntKind.wrap .i64 (IntKind.wrap .u64 (Int.tdiv (z' : Int) 2))))) - 1)), .int .i64 ((i + 1 : Nat) : Int), .int .i64 0]) H1)
        ((2 : Int) ≠ 0 ∧ K (.tuple #[.int .i64 (IntKind.wrap .i64 (IntKind.wrap .u64 (Int.tdiv (z' : Int) 2))), .int .i64 ((i + 1 : Nat) : Int), .int .i64 0]) H1) := fun z' hz' kk => by
      have t1 : Int.tmod (z' : Int) 2 = ((z' % 2 : Nat) : Int) := tmod_n z' 2
      have t2 : Int.tdiv (z' : Int) 2 = ((z' / 2 : Nat) : Int) := tdiv_n z' 2
      have t3 : IntKind.wrap .i64 (IntKind.wrap .u64 ((z' / 2 : Nat) : Int)) = ((z' / 2 : Nat) : Int) := by
        have : IntKind.wrap .u64 ((z' / 2 : Nat) : Int) = ((z' / 2 : Nat) : Int) := by rw [wrap_u64']; omega
        rw [this, wrap64_id (by omega) (by omega)]
      rw [t1, t2, t3, wrap64_id (n := 0 - ((z' / 2 : Nat) : Int)) (by omega) (by omega), wrap64_id (n := 0 - ((z' / 2 : Nat) : Int) - 1) (by omega) (by omega)]
      have ej : ((i + 1 : Nat) : Int) = (i : Int) + 1 := by omega
      rw [ej]
      refine ⟨by decide, br_intro (fun w => ⟨by decide, ?_⟩) (fun w => ⟨by decide, ?_⟩)⟩
      · have w : z' % 2 = 1 := by have w : ((z' % 2 : Nat) : Int) = 1 := by simpa using w
                                  omega
        have eu : unzig z' = 0 - ((z' / 2 : Nat) : Int) - 1 := by unfold unzig; rw [if_pos w]; omega
        rw [← eu]; exact kk
      · have w : ¬ z' % 2 = 1 := fun z => by rw [z] at w; simp at w
        have eu : unzig z' = ((z' / 2 : Nat) : Int) := by unfold unzig; rw [if_neg w]
        rw [← eu]; exact kk
    refine br_intro (fun q9 => ?_) (fun q9 => ?_)
    all_goals
      first
        | (refine ⟨by omega, c, by rw [ei]; exact e1, br_intro (fun q1 => ?_) (fun q1 => ?_)⟩
           · have q9 : (i : Int) = 9 := by simpa using q9
             have q1 := of_decide_eq_true q1
             exact fin (0, 0, 4) (by rw [if_pos ⟨by omega, by omega⟩]))
        | skip
    all_goals
      have h9 : ¬ (i = 9 ∧ c.toNat > 1) := fun z => by
        first
          | (have q1 := of_decide_eq_false q1; omega)
          | (have q9 : ¬ (i : Int) = 9 := by simpa using q9
             omega)
      rw [if_neg h9] at fin hrd
      obtain ⟨z', hz1, hz2, hz3, hz4⟩ := dig h9
      refine ⟨by omega, c, by rw [ei]; exact e1, by decide, by omega, c, by rw [ei]; exact e1, ?_⟩
      rw [hT, hw1, hn1, ← Int.natCast_mul, hz1]
      refine br_intro (fun c1 => ?_) (fun c1 => ?_)
      · have c1 := of_decide_eq_true c1
        rw [if_pos (by omega)] at hrd
        exact ⟨rfl, ⟨rfl, i + 1, z', rfl, rfl, by omega, by omega, fun h => ⟨hz4 (by omega), hwo (by omega)⟩, by rw [hf2, hz3]; exact hrd⟩, by dsimp only; omega⟩
      · have c1 := of_decide_eq_false c1
        rw [if_neg (by omega)] at fin
        refine br_intro (fun c2 => ⟨by omega, c, by rw [ei]; exact e1, br_intro (fun c3 => ?_) (fun c3 => ?_)⟩) (fun c2 => ?_)
        · have c2 := of_decide_eq_true c2
          have c3 : ((c.toNat : Nat) : Int) = 0 := by simpa using c3
          exact fin (0, 0, 4) (by rw [if_pos ⟨by omega, by omega⟩])
        · have c3 : ¬ ((c.toNat : Nat) : Int) = 0 := by simpa using c3
          exact last z' hz2 (fin _ (by rw [if_neg (fun z => c3 (by rw [z.2]; rfl)), hz3]))
        · have c2 := of_decide_eq_false c2
          exact last z' hz2 (fin _ (by rw [if_neg (fun z => c2 (by omega)), hz3]))
  · have q := of_decide_eq_false q
    have e : 10 - i = 0 := by omega
    rw [e] at fin
    exact fin (0, 0, 4) rfl
/-! ### the document's reader -/
abbrev rdq (r : Nat) (s : ByteArray) (bad : Bool) : Chunk := blk r (.cells #[.string s, .bool bad] 133 (0, 0))
/-- What the document's reader holds behind a read. -/
def nx3 (s : ByteArray) : ByteArray := if (readN (nb s)).2.2 = 0 then nx s else ⟨#[]⟩
theorem rread3_spec {r : Nat} {s : ByteArray} {bad : Bool} (h : Holds (rdq r s bad :: cs) H) (k : ∀ H', Holds (rdq r (nx3 s) (bad || !decide ((readN (nb s)).2.2 = 0)) :: cs) H' → K (.int .i64 (readN (nb s)).1) H') : FnH Tryz.prog 92 #[.pointer (some ⟨r, 0, none⟩)] H K := by
  apply logboomref3_Reader_Int_fn
  unfold logboomref3_Reader_Int_vc
  obtain ⟨k0, k1⟩ := read_k (nb s) (nb_byte s)
  rw [nb_len] at k1
  refine ⟨s, h.cell 0 rfl rfl, rreadInt_spec ⟨_, _, _, rfl, br_intro (fun q => ?_) (fun q => ?_)⟩⟩
  · have q : ¬ (readN (nb s)).2.2 = 0 := by simpa using q
    refine Holds.store h 0 rfl (by simp) fun H2 h2 => Holds.store h2 0 rfl (by simp) fun H3 h3 => ?_
    have := k H3 (by unfold nx3; rw [if_neg q, decide_eq_false q]; simp only [Bool.not_false, Bool.or_true]; exact h3)
    rw [read_bad q] at this; exact this
  · have q : (readN (nb s)).2.2 = 0 := by simpa using q
    refine ⟨s, h.cell 0 rfl rfl, k0, k1, Holds.store h 0 rfl (by simp) fun H3 h3 => k H3 ?_⟩
    unfold nx3
    rw [if_pos q, decide_eq_true q]
    simp only [Bool.not_true, Bool.or_false]
    exact h3
theorem rread3_lent {s : ByteArray} {bad : Bool} {X : Int → ByteArray → Bool → Heap → Prop} (h : Holds cs H) (k : ∀ H', Holds cs H' → X (readN (nb s)).1 (nx3 s) (bad || !decide ((readN (nb s)).2.2 = 0)) H') :
    ∀ q, H q = none → FnH Tryz.prog 92 #[.pointer (some ⟨q, 0, none⟩)] (Heap.upd H q (.cells #[.string s, .bool bad] 133 (0, 0))) fun r H' => ∃ n : Int, r = .int .i64 n ∧ ∃ s2 : ByteArray, ∃ b : Bool, H' q = some (.cells #[.string s2, .bool b] 133 (0, 0)) ∧ letH (Heap.del H' q) fun H2 => X n s2 b H2 :=
  fun q hq => rread3_spec (h.add hq _) fun H' h' => ⟨_, rfl, _, _, (held_undo h').1, letH_intro fun H2 g => k H2 (by rw [g]; exact (held_undo h').2)⟩
end
end Go.Proofs.YtokceblmbmajgaaGreatDoor
