/- Chapter 8: a table as bytes: its checksum, the numbers put behind one another. -/
import Derived.Test.YtkabaoigablphaaW1
import Derived.Test.YtkabaoigablphaaSrt
import Derived.Test.YtkabaoigablphaaS5
namespace Go.Proofs.Ytkabaoigablphaa
open Go Go.HL
set_option maxRecDepth 10000
set_option maxHeartbeats 1600000

/-- Bytes as cells. -/
abbrev byV (l : List Nat) : List Value := l.map fun b : Nat => Value.int .u8 (b : Int)
abbrev ownY (s : Sl) (l : List Nat) : Chunk := own 5 1 s (byV l)
theorem noTups_by (l : List Nat) : noTups (byV l) = true := by
  induction l with
  | nil => rfl
  | cons a l ih => exact ih
def encL (L : List Int) : List Nat := L.flatMap encN
theorem encL_app (a b : List Int) : encL (a ++ b) = encL a ++ encL b := by simp [encL]
theorem encL_bytes (L : List Int) : ∀ b ∈ encL L, b < 256 := fun b hb => by
  obtain ⟨n, _, h⟩ := List.mem_flatMap.1 hb
  exact encN_bytes n b h
def sumN (l : List Nat) : List Nat := [crcN l / 16777216 % 256, crcN l / 65536 % 256, crcN l / 256 % 256, crcN l % 256]
theorem sumN_bytes (l : List Nat) : ∀ b ∈ sumN l, b < 256 := by
  intro b hb
  simp only [sumN, List.mem_cons, List.not_mem_nil, or_false] at hb
  omega
theorem crcN_lt (l : List Nat) (hl : ∀ b ∈ l, b < 256) : crcN l < 4294967296 := Nat.xor_lt_two_pow (n := 32) (foldC_lt hl (by decide)) (by decide)
theorem shr_n (c : Nat) (k : Nat) (hk : k < 64) : shrI .i64 (c : Int) k = ((c / 2 ^ k : Nat) : Int) := by
  have e : shrI .i64 (c : Int) k = (c : Int).fdiv ((2 : Int) ^ k) := by
    have h2 : min k IntKind.i64.bits = k := Nat.min_eq_left (by have : IntKind.i64.bits = 64 := rfl; omega)
    unfold shrI; simp [h2]
  rw [e, Int.fdiv_eq_ediv_of_nonneg _ (by exact Int.le_of_lt (Int.pow_pos (by decide)))]
  simp
section
variable {cs : List Chunk} {H : Heap} {K : Value → Heap → Prop}
theorem sum_spec {b : Sl} {l : List Nat} {i : Nat} (h : Holds cs H) (ei : cs[i]? = some (ownY b l)) (hl : ∀ x ∈ l, x < 256) (hb : l.length ≤ 268435456) (k : ∀ (r : Sl) H', HL.Sub H H' → Holds (ownY r (sumN l) :: cs) H' → r.n = 4 → K (.slice r.p r.n r.c) H') :
    FnH Try.prog 35 #[.slice b.p b.n b.c] H K := by
  apply dedup_sum_fn
  unfold dedup_sum_vc
  refine toStr (h.own i ei) hl ⟨_, rfl, crc_spec ?_ ⟨_, rfl, ?_⟩⟩
  · have : (strN l).size = l.length := by rw [← nb_len, nb_str hl]
    omega
  rw [nb_str hl]
  have hc := crcN_lt l hl
  refine h.newS fun q H1 s1 h1 => k ⟨some ⟨q, 0, none⟩, 4, 4⟩ H1 s1 (h1.head fun A hA => ⟨rfl, Nat.le_refl _, .inr ⟨q, _, rfl, hA, rfl, ?_⟩⟩) rfl
  have e1 : ∀ k : Nat, k < 64 → IntKind.wrap .u8 (shrI .i64 (crcN l : Int) k) = ((crcN l / 2 ^ k % 256 : Nat) : Int) := fun k hk => by
    rw [shr_n _ _ hk, wrap_u8]; omega
  have ea : IntKind.wrap .u8 (shrI .i64 (crcN l : Int) 24) = ((crcN l / 16777216 % 256 : Nat) : Int) := e1 24 (by decide)
  have eb : IntKind.wrap .u8 (shrI .i64 (crcN l : Int) 16) = ((crcN l / 65536 % 256 : Nat) : Int) := e1 16 (by decide)
  have ec : IntKind.wrap .u8 (shrI .i64 (crcN l : Int) 8) = ((crcN l / 256 % 256 : Nat) : Int) := e1 8 (by decide)
  have ed : IntKind.wrap .u8 (crcN l : Int) = ((crcN l % 256 : Nat) : Int) := by rw [wrap_u8]; omega
  rw [ea, eb, ec, ed]
  intro i hi
  have z : i = 0 ∨ i = 1 ∨ i = 2 ∨ i = 3 := by simp [sumN] at hi; omega
  rcases z with rfl | rfl | rfl | rfl <;> rfl
theorem put_spec {q : Nat} {s l : Sl} {B : List Nat} {L : List Int} {c0 : Chunk} {i : Nat} (h : Holds (blk q (.cells #[.slice s.p s.n s.c] 68 (0, 0)) :: ownY s B :: cs) H) (g : Gives c0 fun A => Ints A l L) (ei : cs[i]? = some c0) (hw : ∀ n ∈ L, i64B n) (hb : B.length + (encL L).length ≤ 268435456)
    (k : ∀ (r : Sl) H', Holds (blk q (.cells #[.slice r.p r.n r.c] 68 (0, 0)) :: ownY r (B ++ encL L) :: cs) H' → K (.tuple #[]) H') : FnH Try.prog 40 #[.slice l.p l.n l.c, .pointer (some ⟨q, 0, none⟩)] H K := by
  apply dedup_Table_Keep_1_fn
  unfold dedup_Table_Keep_1_vc
  have hI := g.at_ h (i + 2) (by simpa using ei)
  have hn := hI.len
  have hbg := hI.big
  refine ⟨fun m H => 0 ≤ m ∧ m ≤ l.n ∧ ∃ r : Sl, Holds (blk q (.cells #[.slice r.p r.n r.c] 68 (0, 0)) :: ownY r (B ++ encL (L.take m.toNat)) :: cs) H, fun m _ => (l.n - m).toNat,
    ⟨Int.le_refl _, by omega, s, by simpa [encL] using h⟩, ?_⟩
  rintro m H1 ⟨m0, m1, r, h1⟩
  refine br_intro (fun c => ?_) (fun c => ?_)
  · have c := of_decide_eq_true c
    obtain ⟨q1, o1, e1, e2, e3, e4⟩ := (g.at_ h1 (i + 2) (by simpa using ei)).at_ m0 c
    have hlt : m.toNat < L.length := by omega
    have ex : L.getD m.toNat 0 = L[m.toNat] := by rw [List.getD_eq_getElem?_getD, List.getElem?_eq_getElem hlt]; rfl
    have et : L.take (m + 1).toNat = L.take m.toNat ++ [L[m.toNat]] := by
      have : (m + 1).toNat = m.toNat + 1 := by omega
      rw [this, List.take_succ_eq_append_getElem hlt]
    rw [ex] at e4
    have hx := hw _ (List.getElem_mem hlt)
    generalize L[m.toNat] = x at *
    have hlen : (encL (L.take (m + 1).toNat)).length ≤ (encL L).length := by
      have : encL L = encL (L.take (m + 1).toNat) ++ encL (L.drop (m + 1).toNat) := by rw [← encL_app, List.take_append_drop]
      rw [this, List.length_append]; omega
    rw [et, encL_app] at hlen
    have ex2 : encL [x] = encN x := by simp [encL]
    rw [ex2, List.length_append] at hlen
    have hrn := (h1.own 1 rfl).1
    simp only [List.length_map, List.length_append, Nat.mul_one] at hrn
    have hsz : (strN (encN x)).size = (encN x).length := by rw [← nb_len, nb_str (encN_bytes x)]
    refine ⟨q1, o1, e1, e2, e3, _, e4, r, h1.cell 0 rfl rfl, int_spec hx fun H2 s2 => ⟨_, rfl, s2, ?_⟩⟩
    have h2 : Holds (blk q (.cells #[.slice r.p r.n r.c] 68 (0, 0)) :: ownY r (B ++ encL (L.take m.toNat)) :: cs) H2 := Holds.up s2 h1
    refine Holds.appendStr ok68 u9 h2.swap (by omega) fun r2 H3 h3 n3 => ⟨r2, rfl, ?_⟩
    rw [strV_str (encN_bytes x)] at h3
    refine Holds.store h3.swap 0 rfl (by simp) fun H4 h4 => ⟨rfl, ⟨by rw [wrap64_id (by omega) (by omega)]; omega, by rw [wrap64_id (by omega) (by omega)]; omega, r2, ?_⟩, ?_⟩
    · rw [wrap64_id (n := m + 1) (by omega) (by omega), et, encL_app, ex2, ← List.append_assoc]
      unfold ownY byV
      rw [List.map_append]
      exact h4
    · rw [wrap64_id (n := m + 1) (by omega) (by omega)]; dsimp only; omega
  · have c := of_decide_eq_false c
    rw [List.take_of_length_le (by omega)] at h1
    exact k r H1 h1
end
end Go.Proofs.Ytkabaoigablphaa
