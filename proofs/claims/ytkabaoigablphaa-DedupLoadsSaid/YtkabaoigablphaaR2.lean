/- Chapter 8: the document's reader (logboomref3). -/
import Derived.Test.YtkabaoigablphaaR1
namespace Go.Proofs.Ytkabaoigablphaa
open Go Go.HL
set_option maxRecDepth 10000
set_option maxHeartbeats 1600000

section
variable {cs : List Chunk} {H : Heap} {K : Value → Heap → Prop}
theorem rreadInt_spec {b : ByteArray} (k : K (trp (readN (nb b))) H) : FnH Try.prog 55 #[.string b] H K := by
  apply logboomref3_ReadInt_fn
  unfold logboomref3_ReadInt_vc
  refine ⟨fun z u n H1 => H1 = H ∧ ∃ i y : Nat, n = i ∧ z = y ∧ i ≤ 10 ∧ i ≤ b.size ∧ (i ≤ 9 → y < 128 ^ i ∧ u = ((128 ^ i : Nat) : Int)) ∧ rd (10 - i) i y ((nb b).drop i) = readN (nb b), fun _ _ n _ => (10 - n).toNat, ⟨rfl, 0, 0, rfl, rfl, by decide, Nat.zero_le _, fun _ => ⟨by decide, rfl⟩, rfl⟩, ?_⟩
  rintro _ u _ H1 ⟨rfl, i, z, rfl, rfl, hi, hib, hz, hrd⟩
  have fin : ∀ t : Int × Int × Int, rd (10 - i) i z ((nb b).drop i) = t → K (trp t) H1 := fun t ht => by rw [← ht, hrd]; exact k
  refine br_intro (fun q => ?_) (fun q => ?_)
  · have q := of_decide_eq_true q
    obtain ⟨hz0, rfl⟩ := hz (by omega)
    obtain ⟨f, hf⟩ : ∃ f, 10 - i = f + 1 := ⟨9 - i, by omega⟩
    have hf2 : 10 - (i + 1) = f := by omega
    rw [hf] at fin hrd
    refine br_intro (fun q2 => ?_) (fun q2 => ?_)
    · have q2 := of_decide_eq_true q2
      have e : (nb b).drop i = [] := List.drop_eq_nil_of_le (by rw [nb_len]; omega)
      rw [e] at fin
      exact fin (0, 0, 5) rfl
    have q2 := of_decide_eq_false q2
    obtain ⟨c, e1, e2, e3⟩ := nb_get (s := b) (i := i) (by omega)
    have hlen : i < (nb b).length := by rw [nb_len]; omega
    have ed : (nb b).drop i = c.toNat :: (nb b).drop (i + 1) := by
      rw [List.drop_eq_getElem_cons hlen]
      congr 1
      rw [List.getElem?_eq_getElem hlen] at e2; exact Option.some.inj e2
    rw [ed] at fin hrd
    rw [rd_step e3] at fin hrd
    have ei : (i : Int).toNat = i := by omega
    have hn1 : IntKind.wrap .i64 ((i : Int) + 1) = ((i + 1 : Nat) : Int) := by rw [wrap64_id (by omega) (by omega)]; omega
    have hT : Int.tmod ((c.toNat : Nat) : Int) 128 = ((c.toNat % 128 : Nat) : Int) := tmod_n _ 128
    have hw1 : IntKind.wrap .u64 ((c.toNat % 128 : Nat) : Int) = ((c.toNat % 128 : Nat) : Int) := by rw [wrap_u64']; omega
    have dig : ¬ (i = 9 ∧ c.toNat > 1) → ∃ z' : Nat, IntKind.wrap .u64 ((z : Int) + IntKind.wrap .u64 ((c.toNat % 128 * 128 ^ i : Nat) : Int)) = (z' : Int) ∧ z' < 18446744073709551616 ∧ z' = z + c.toNat % 128 * 128 ^ i ∧ (i ≤ 8 → z' < 128 ^ (i + 1)) := fun h9 => by
      obtain ⟨-, d2, d3⟩ := digit (z := z) (b := c.toNat) (i := i) hz0 e3 (by omega) (fun e => Nat.le_of_not_lt fun z => h9 ⟨e, z⟩)
      refine ⟨_, ?_, d2, rfl, d3⟩
      generalize c.toNat % 128 * 128 ^ i = w at *
      rw [wrap_u64', wrap_u64']; omega
    have hwo : i ≤ 8 → IntKind.wrap .u64 (((128 ^ i : Nat) : Int) * 128) = ((128 ^ (i + 1) : Nat) : Int) := fun h8 => by
      have h3 : 128 ^ (i + 1) ≤ 128 ^ 9 := Nat.pow_le_pow_right (by decide) (by omega)
      have h4 : (128 : Nat) ^ 9 = 9223372036854775808 := by decide
      have h5 : 128 ^ (i + 1) = 128 ^ i * 128 := Nat.pow_succ ..
      generalize 128 ^ i = w at *
      rw [h5] at h3 ⊢
      rw [wrap_u64']; omega
    have last : ∀ z' : Nat, z' < 18446744073709551616 → (K (trp (unzig z', (i : Int) + 1, 0)) H1) → (2 : Int) ≠ 0 ∧ br ((Int.tmod (z' : Int) 2) == 1) ((2 : Int) ≠ 0 ∧ K (.tuple #[.int .i64 (IntKind.wrap .i64 ((IntKind.wrap .i64 (0 - (IntKind.wrap .i64 (IntKind.wrap .u64 (Int.tdiv (z' : Int) 2))))) - 1)), .int .i64 ((i + 1 : Nat) : Int), .int .i64 0]) H1)
        ((2 : Int) ≠ 0 ∧ K (.tuple #[.int .i64 (IntKind.wrap .i64 (IntKind.wrap .u64 (Int.tdiv (z' : Int) 2))), .int .i64 ((i + 1 : Nat) : Int), .int .i64 0]) H1) := fun z' hz' kk => by
      have t1 : Int.tmod (z' : Int) 2 = ((z' % 2 : Nat) : Int) := tmod_n z' 2
      have t2 : Int.tdiv (z' : Int) 2 = ((z' / 2 : Nat) : Int) := tdiv_n z' 2
      have t3 : IntKind.wrap .i64 (IntKind.wrap .u64 ((z' / 2 : Nat) : Int)) = ((z' / 2 : Nat) : Int) := by
        have : IntKind.wrap .u64 ((z' / 2 : Nat) : Int) = ((z' / 2 : Nat) : Int) := by rw [wrap_u64']; omega
        rw [this, wrap64_id (by omega) (by omega)]
      rw [t1, t2, t3, wrap64_id (n := 0 - ((z' / 2 : Nat) : Int)) (by omega) (by omega), wrap64_id (n := 0 - ((z' / 2 : Nat) : Int) - 1) (by omega) (by omega)]
      have ej : ((i + 1 : Nat) : Int) = (i : Int) + 1 := by omega
      rw [ej]
      refine ⟨by decide, br_intro (fun w => ⟨by decide, ?_⟩) (fun w => ⟨by decide, ?_⟩)⟩
      · have w : z' % 2 = 1 := by have w : ((z' % 2 : Nat) : Int) = 1 := by simpa using w
                                  omega
        have eu : unzig z' = 0 - ((z' / 2 : Nat) : Int) - 1 := by unfold unzig; rw [if_pos w]; omega
        rw [← eu]; exact kk
      · have w : ¬ z' % 2 = 1 := fun z => by rw [z] at w; simp at w
        have eu : unzig z' = ((z' / 2 : Nat) : Int) := by unfold unzig; rw [if_neg w]
        rw [← eu]; exact kk
    refine br_intro (fun q9 => ?_) (fun q9 => ?_)
    all_goals
      first
        | (refine ⟨by omega, c, by rw [ei]; exact e1, br_intro (fun q1 => ?_) (fun q1 => ?_)⟩
           · have q9 : (i : Int) = 9 := by simpa using q9
             have q1 := of_decide_eq_true q1
             exact fin (0, 0, 4) (by rw [if_pos ⟨by omega, by omega⟩]))
        | skip
    all_goals
      have h9 : ¬ (i = 9 ∧ c.toNat > 1) := fun z => by
        first
          | (have q1 := of_decide_eq_false q1; omega)
          | (have q9 : ¬ (i : Int) = 9 := by simpa using q9
             omega)
      rw [if_neg h9] at fin hrd
      obtain ⟨z', hz1, hz2, hz3, hz4⟩ := dig h9
      refine ⟨by omega, c, by rw [ei]; exact e1, by decide, by omega, c, by rw [ei]; exact e1, ?_⟩
      rw [hT, hw1, hn1, ← Int.natCast_mul, hz1]
      refine br_intro (fun c1 => ?_) (fun c1 => ?_)
      · have c1 := of_decide_eq_true c1
        rw [if_pos (by omega)] at hrd
        exact ⟨rfl, ⟨rfl, i + 1, z', rfl, rfl, by omega, by omega, fun h => ⟨hz4 (by omega), hwo (by omega)⟩, by rw [hf2, hz3]; exact hrd⟩, by dsimp only; omega⟩
      · have c1 := of_decide_eq_false c1
        rw [if_neg (by omega)] at fin
        refine br_intro (fun c2 => ⟨by omega, c, by rw [ei]; exact e1, br_intro (fun c3 => ?_) (fun c3 => ?_)⟩) (fun c2 => ?_)
        · have c2 := of_decide_eq_true c2
          have c3 : ((c.toNat : Nat) : Int) = 0 := by simpa using c3
          exact fin (0, 0, 4) (by rw [if_pos ⟨by omega, by omega⟩])
        · have c3 : ¬ ((c.toNat : Nat) : Int) = 0 := by simpa using c3
          exact last z' hz2 (fin _ (by rw [if_neg (fun z => c3 (by rw [z.2]; rfl)), hz3]))
        · have c2 := of_decide_eq_false c2
          exact last z' hz2 (fin _ (by rw [if_neg (fun z => c2 (by omega)), hz3]))
  · have q := of_decide_eq_false q
    have e : 10 - i = 0 := by omega
    rw [e] at fin
    exact fin (0, 0, 4) rfl
/-! ### the document's reader -/
abbrev rdq (r : Nat) (s : ByteArray) (bad : Bool) : Chunk := blk r (.cells #[.string s, .bool bad] 78 (0, 0))
/-- What the document's reader holds behind a read. -/
def nx3 (s : ByteArray) : ByteArray := if (readN (nb s)).2.2 = 0 then nx s else ⟨#[]⟩
theorem rread3_spec {r : Nat} {s : ByteArray} {bad : Bool} (h : Holds (rdq r s bad :: cs) H) (k : ∀ H', Holds (rdq r (nx3 s) (bad || !decide ((readN (nb s)).2.2 = 0)) :: cs) H' → K (.int .i64 (readN (nb s)).1) H') : FnH Try.prog 38 #[.pointer (some ⟨r, 0, none⟩)] H K := by
  apply logboomref3_Reader_Int_fn
  unfold logboomref3_Reader_Int_vc
  obtain ⟨k0, k1⟩ := read_k (nb s) (nb_byte s)
  rw [nb_len] at k1
  refine ⟨s, h.cell 0 rfl rfl, rreadInt_spec ⟨_, _, _, rfl, br_intro (fun q => ?_) (fun q => ?_)⟩⟩
  · have q : ¬ (readN (nb s)).2.2 = 0 := by simpa using q
    refine Holds.store h 0 rfl (by simp) fun H2 h2 => Holds.store h2 0 rfl (by simp) fun H3 h3 => ?_
    have := k H3 (by unfold nx3; rw [if_neg q, decide_eq_false q]; simp only [Bool.not_false, Bool.or_true]; exact h3)
    rw [read_bad q] at this; exact this
  · have q : (readN (nb s)).2.2 = 0 := by simpa using q
    refine ⟨s, h.cell 0 rfl rfl, k0, k1, Holds.store h 0 rfl (by simp) fun H3 h3 => k H3 ?_⟩
    unfold nx3
    rw [if_pos q, decide_eq_true q]
    simp only [Bool.not_true, Bool.or_false]
    exact h3
theorem rread3_lent {s : ByteArray} {bad : Bool} {X : Int → ByteArray → Bool → Heap → Prop} (h : Holds cs H) (k : ∀ H', Holds cs H' → X (readN (nb s)).1 (nx3 s) (bad || !decide ((readN (nb s)).2.2 = 0)) H') :
    ∀ q, H q = none → FnH Try.prog 38 #[.pointer (some ⟨q, 0, none⟩)] (Heap.upd H q (.cells #[.string s, .bool bad] 78 (0, 0))) fun r H' => ∃ n : Int, r = .int .i64 n ∧ ∃ s2 : ByteArray, ∃ b : Bool, H' q = some (.cells #[.string s2, .bool b] 78 (0, 0)) ∧ letH (Heap.del H' q) fun H2 => X n s2 b H2 :=
  fun q hq => rread3_spec (h.add hq _) fun H' h' => ⟨_, rfl, _, _, (held_undo h').1, letH_intro fun H2 g => k H2 (by rw [g]; exact (held_undo h').2)⟩
end
end Go.Proofs.Ytkabaoigablphaa
