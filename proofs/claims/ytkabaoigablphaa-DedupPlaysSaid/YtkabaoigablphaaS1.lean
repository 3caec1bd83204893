/- Chapter 8: numbers and texts as bytes (wire.appendInt, appendText, body). -/
import Derived.Test.YtkabaoigablphaaV2
import Derived.Test.YtkabaoigablphaaHlAppend
import Derived.Test.YtkabaoigablphaaHlRange
import Derived.Test.YtkabaoigablphaaHlLaw
namespace Go.Proofs.Ytkabaoigablphaa
open Go.HL
set_option maxHeartbeats 400000
set_option maxRecDepth 10000

def i64B (n : Int) : Prop := -9223372036854775808 ≤ n ∧ n ≤ 9223372036854775807
theorem ok68 : ElemOK Try.prog 68 5 1 := ElemOK.of (by kernel_rfl)
theorem u9 : Try.prog.underlying 9 = some .string := by kernel_rfl
abbrev bv (l : List Int) : List Value := l.map (Value.int .u8)
/-- A number by sevens. -/
def sevens : Nat → Int → List Int
  | 0, _ => []
  | k + 1, z => if z ≥ 128 then orI .u8 (IntKind.wrap .u8 z) 128 :: sevens k (shrI .u64 z 7) else [IntKind.wrap .u8 z]
def zig (n : Int) : Int := IntKind.wrap .u64 (xorI .i64 (shlI .i64 n 1) (shrI .i64 n 63))
def encInt (n : Int) : List Int := sevens 10 (zig n)
theorem sevens_len : ∀ (k : Nat) (z : Int), (sevens k z).length ≤ k := by
  intro k
  induction k with
  | zero => intro z; exact Nat.le_refl _
  | succ k ih =>
    intro z
    unfold sevens
    split
    · have := ih (shrI .u64 z 7); simp; omega
    · simp
theorem encInt_len (n : Int) : (encInt n).length ≤ 10 := sevens_len 10 _
theorem wrap_u64 (n : Int) : 0 ≤ IntKind.wrap .u64 n ∧ IntKind.wrap .u64 n < 18446744073709551616 := by
  have e : IntKind.wrap .u64 n = n % 18446744073709551616 := by kernel_rfl
  rw [e]; omega
theorem shr7 (z : Int) : shrI .u64 z 7 = z / 128 := by
  have e : shrI .u64 z 7 = z.fdiv 128 := by kernel_rfl
  rw [e, Int.fdiv_eq_ediv_of_nonneg _ (by decide)]
theorem bv_app (l m : List Int) : bv (l ++ m) = bv l ++ bv m := by simp [bv]
theorem appendInt_spec {cs : List Chunk} {H : Heap} {b : Sl} {l : List Int} {n : Int} {K : Value → Heap → Prop} (h : Holds (own 5 1 b (bv l) :: cs) H) (hb : b.n ≤ 200000000)
    (k : ∀ (r : Sl) H', Holds (own 5 1 r (bv (l ++ encInt n)) :: cs) H' → r.n = b.n + (encInt n).length → K (.slice r.p r.n r.c) H') : FnH Try.prog 56 #[.slice b.p b.n b.c, .int .i64 n] H K := by
  apply wire_appendInt_fn
  unfold wire_appendInt_vc
  obtain ⟨z0, z1⟩ := wrap_u64 (xorI .i64 (shlI .i64 n 1) (shrI .i64 n 63))
  unfold encInt zig at k
  generalize IntKind.wrap .u64 (xorI .i64 (shlI .i64 n 1) (shrI .i64 n 63)) = z at *
  have hl := (h.own 0 rfl).1
  simp only [List.length_map, Nat.mul_one] at hl
  refine ⟨fun c y H1 => ∃ (j : Nat) (m : List Int), 0 < j ∧ j ≤ 10 ∧ 0 ≤ y ∧ y < 128 ^ j ∧ m ++ sevens j y = l ++ sevens 10 z ∧ m.length ≤ l.length + (10 - j) ∧ Holds (own 5 1 c (bv m) :: cs) H1, fun _ y _ => y.toNat,
    ⟨10, l, by decide, by decide, z0, by omega, rfl, by omega, h⟩, ?_⟩
  rintro c y H1 ⟨j, m, j0, j1, y0, y1, em, hm, h1⟩
  have hc := (h1.own 0 rfl).1
  simp only [List.length_map, Nat.mul_one] at hc
  obtain ⟨i, rfl⟩ : ∃ i, j = i + 1 := ⟨j - 1, by omega⟩
  refine br_intro (fun q => ?_) (fun q => ?_)
  · have q := of_decide_eq_true q
    refine Holds.push ok68 h1 (m := 1) rfl rfl (by omega) fun r H3 h3 n3 => ⟨r, rfl, rfl, ⟨i, m ++ [orI .u8 (IntKind.wrap .u8 y) 128], ?_, by omega, ?_, ?_, ?_, by simp; omega, ?_⟩, ?_⟩
    · refine Nat.pos_of_ne_zero fun e => ?_
      subst e
      simp at y1; omega
    · rw [shr7]; omega
    · rw [shr7]
      have e : (128 : Int) ^ (i + 1) = 128 ^ i * 128 := Int.pow_succ ..
      rw [e] at y1
      exact Int.ediv_lt_of_lt_mul (by decide) y1
    · rw [← em]
      have : sevens (i + 1) y = orI .u8 (IntKind.wrap .u8 y) 128 :: sevens i (shrI .u64 y 7) := by
        show (if y ≥ 128 then _ else _) = _
        rw [if_pos q]
      rw [this]; simp
    · rw [bv_app]; exact h3
    · dsimp only; rw [shr7]; omega
  · have q := of_decide_eq_false q
    have : sevens (i + 1) y = [IntKind.wrap .u8 y] := by
      show (if y ≥ 128 then _ else _) = _
      rw [if_neg q]
    rw [this] at em
    refine Holds.push ok68 h1 (m := 1) rfl rfl (by omega) fun r H3 h3 n3 => ⟨r, rfl, k r H3 ?_ ?_⟩
    · rw [← em, bv_app]; exact h3
    · have := congrArg List.length em
      simp at this
      omega
/-- A text's bytes. -/
def txt (s : ByteArray) : List Int := s.data.toList.map fun b => (b.toNat : Int)
theorem strV_txt (s : ByteArray) : strV s = bv (txt s) := by simp [strV, txt, bv]
def encText (s : ByteArray) : List Int := encInt s.size ++ txt s
theorem appendText_spec {cs : List Chunk} {H : Heap} {b : Sl} {l : List Int} {s : ByteArray} {K : Value → Heap → Prop} (h : Holds (own 5 1 b (bv l) :: cs) H) (hb : b.n ≤ 100000000) (hs : s.size ≤ 100000000)
    (k : ∀ (r : Sl) H', Holds (own 5 1 r (bv (l ++ encText s)) :: cs) H' → r.n = b.n + (encText s).length → K (.slice r.p r.n r.c) H') : FnH Try.prog 61 #[.slice b.p b.n b.c, .string s] H K := by
  apply wire_appendText_fn
  unfold wire_appendText_vc
  have hE := encInt_len s.size
  refine appendInt_spec h (by omega) fun r1 H1 h1 n1 => ⟨r1, rfl, Holds.appendStr ok68 u9 h1 (by omega) fun r H' h' n' => ⟨r, rfl, k r H' ?_ ?_⟩⟩
  · unfold encText
    rw [← List.append_assoc, bv_app, ← strV_txt]; exact h'
  · have : (txt s).length = s.size := by simp [txt]
    unfold encText
    rw [List.length_append, this]; omega
/-- A record: its key, its value, its time. -/
abbrev Rcd := ByteArray × ByteArray × Int
abbrev eR : Rcd → List Value := fun r => [.string r.1, .string r.2.1, .int .i64 r.2.2]
theorem eRlen : ∀ r, (eR r).length = 3 := fun _ => rfl
def recM (r : Rcd) : List Int := encInt r.2.2 ++ (encText r.1 ++ encText r.2.1)
def bodyM (A : List Int) (rs : List Rcd) : List Int := (A.map encInt).flatten ++ (rs.map recM).flatten
def TextOk (r : Rcd) : Prop := r.1.size ≤ 1000 ∧ r.2.1.size ≤ 1000
theorem encText_len {s : ByteArray} : (encText s).length ≤ 10 + s.size := by
  have := encInt_len s.size
  simp [encText, txt]; omega
theorem recM_len {r : Rcd} (h : TextOk r) : (recM r).length ≤ 2030 := by
  have h1 := encInt_len r.2.2
  have h2 := encText_len (s := r.1)
  have h3 := encText_len (s := r.2.1)
  simp only [recM, List.length_append]
  have := h.1; have := h.2; omega
theorem flat_le {α : Type} {f : α → List Int} {m : Nat} : ∀ {l : List α}, (∀ a ∈ l, (f a).length ≤ m) → (l.map f).flatten.length ≤ l.length * m := by
  intro l
  induction l with
  | nil => intro _; simp
  | cons a l ih =>
    intro h
    have h1 := h a (List.mem_cons_self ..)
    have h2 := ih fun b hb => h b (List.mem_cons_of_mem _ hb)
    simp only [List.map_cons, List.flatten_cons, List.length_append, List.length_cons, Nat.add_mul, Nat.one_mul]
    omega
theorem body_spec {cs : List Chunk} {H : Heap} {a0 a1 a2 a3 a4 : Int} {s : Sl} {rs : List Rcd} {c0 : Chunk} {i : Nat} {K : Value → Heap → Prop} (h : Holds cs H) (g : Gives c0 fun A => Recs eR A s rs) (hi : cs[i]? = some c0) (hn : s.n ≤ 64) (ht : ∀ r ∈ rs, TextOk r)
    (k : ∀ (r : Sl) H', Holds (own 5 1 r (bv (bodyM [a0, a1, a2, a3, a4, s.n] rs)) :: cs) H' → r.n = (bodyM [a0, a1, a2, a3, a4, s.n] rs).length → K (.slice r.p r.n r.c) H') :
    FnH Try.prog 52 #[.agg #[.int .i64 a0, .int .i64 a1, .int .i64 a2, .int .i64 a3, .int .i64 a4, .slice s.p s.n s.c]] H K := by
  apply wire_body_fn
  unfold wire_body_vc
  simp only [sub_self, true_and, and_self]
  have hsl := (g.at_ h i hi).len
  obtain ⟨A, eA⟩ : ∃ A : List Int, A = [a0, a1, a2, a3, a4, (s.n : Int)] := ⟨_, rfl⟩
  have hAl : A.length = 6 := by rw [eA]; rfl
  rw [← eA] at k
  refine ⟨fun o n H1 => 0 ≤ n ∧ n ≤ 6 ∧ Holds (own 5 1 o (bv ((A.take n.toNat).map encInt).flatten) :: cs) H1, fun _ n _ => (6 - n).toNat, ⟨Int.le_refl _, by decide, h.own_nil _ _⟩, ?_⟩
  rintro o n H1 ⟨n0, n1, h1⟩
  have ho := (h1.own 0 rfl).1
  simp only [List.length_map, Nat.mul_one] at ho
  have hfl : ((A.take n.toNat).map encInt).flatten.length ≤ 60 := by
    have := flat_le (f := encInt) (m := 10) (l := A.take n.toNat) fun a _ => encInt_len a
    rw [List.length_take] at this; omega
  refine br_intro (fun q => ?_) (fun q => ?_)
  · have q := of_decide_eq_true q
    refine ⟨n0, by omega, A.getD n.toNat 0, ?_, appendInt_spec h1 (by omega) fun r H2 h2 n2 => ⟨r, rfl, rfl, ?_⟩⟩
    · have e : (#[.int .i64 a0, .int .i64 a1, .int .i64 a2, .int .i64 a3, .int .i64 a4, .int .i64 (s.n : Nat)] : Array Value) = (A.map (Value.int .i64)).toArray := by rw [eA]; rfl
      rw [e]
      simp [List.getD, show n.toNat < A.length by omega]
    · rw [wrap64_id (n := n + 1) (by omega) (by omega)]
      refine ⟨⟨by omega, by omega, ?_⟩, by dsimp only; omega⟩
      rw [take_next (d := 0) n0 (by omega)]
      simpa using h2
  have q := of_decide_eq_false q
  have e6 : n.toNat = 6 := by omega
  rw [e6, List.take_of_length_le (by omega)] at h1 hfl ho
  refine ⟨fun o n H2 => 0 ≤ n ∧ n ≤ s.n ∧ Holds (own 5 1 o (bv ((A.map encInt).flatten ++ ((rs.take n.toNat).map recM).flatten)) :: cs) H2, fun _ n _ => (s.n - n).toNat, ⟨Int.le_refl _, by omega, by simpa using h1⟩, ?_⟩
  rintro o2 j H3 ⟨j0, j1, h3⟩
  have ho2 := (h3.own 0 rfl).1
  simp only [List.length_map, Nat.mul_one, List.length_append] at ho2
  have hf2 : ((rs.take j.toNat).map recM).flatten.length ≤ 129920 := by
    have := flat_le (f := recM) (m := 2030) (l := rs.take j.toNat) fun r hr => recM_len (ht r (List.mem_of_mem_take hr))
    rw [List.length_take] at this; omega
  refine br_intro (fun v => ?_) (fun v => ?_)
  · have v := of_decide_eq_true v
    obtain ⟨b, o, r, p1, p2, p3⟩ := (g.at_ h3 (i + 1) (by simpa using hi)).at_ eRlen (by decide) j0 v
    have hto := ht r (List.mem_of_getElem? p2)
    have t1 := hto.1
    have t2 := hto.2
    have l1 := encInt_len r.2.2
    have l2 := encText_len (s := r.1)
    rw [wrap64_id (n := j + 1) (by omega) (by omega)]
    refine ⟨b, o, p1, j0, v, r.1, p3 0 _ rfl, r.2.1, p3 1 _ rfl, r.2.2, p3 2 _ rfl, appendInt_spec h3 (by omega) fun r1 H4 h4 n4 => ⟨r1, rfl, appendText_spec h4 (by omega) (by omega) fun r2 H5 h5 n5 => ⟨r2, rfl, appendText_spec h5 (by omega) (by omega) fun r3 H6 h6 n6 => ⟨r3, rfl, rfl, ⟨by omega, by omega, ?_⟩, by dsimp only; omega⟩⟩⟩⟩
    have e : rs.take (j + 1).toNat = rs.take j.toNat ++ [r] := by
      have e1 : (j + 1).toNat = j.toNat + 1 := by omega
      rw [e1, List.take_add_one, p2]; rfl
    rw [e]
    simpa [recM] using h6
  · have v := of_decide_eq_false v
    have e : rs.take j.toNat = rs := List.take_of_length_le (by omega)
    rw [e] at h3
    refine k o2 H3 h3 ?_
    unfold bodyM
    rw [List.length_append]
    rw [e] at ho2
    exact ho2.symm
end Go.Proofs.Ytkabaoigablphaa
