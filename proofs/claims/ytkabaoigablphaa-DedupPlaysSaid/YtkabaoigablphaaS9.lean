/- Chapter 8: a batch of zeros is made. -/
import Derived.Test.YtkabaoigablphaaS8
namespace Go.Proofs.Ytkabaoigablphaa
open Go.HL
set_option maxHeartbeats 800000
set_option maxRecDepth 10000

theorem ok31 : ElemOK Try.prog 31 97 3 := ElemOK.of (by kernel_rfl)
def eB : ByteArray := ⟨#[]⟩
theorem z97 : zeroT Try.prog 97 = some (.agg #[.string eB, .string eB, .int .i64 0]) := by kernel_rfl
def zr : Rcd := (eB, eB, 0)
theorem zeros_recs (n : Nat) : zerosL (Value.agg #[.string eB, .string eB, .int .i64 0]).cells.toList n = (List.replicate n zr).flatMap eR := by
  induction n with
  | zero => rfl
  | succ n ih =>
    rw [List.replicate_succ, List.flatMap_cons, ← ih]; rfl
/-- The records of a batch of zeros. -/
def zrs (q n : Nat) : Chunk := blk q (.cells (zerosL (Value.agg #[.string eB, .string eB, .int .i64 0]).cells.toList n).toArray 97 (0, 0))
theorem zrs_gives {q n : Nat} (hb : n ≤ 1000000) : Gives (zrs q n) fun A => Recs eR A ⟨some ⟨q, 0, none⟩, n, n⟩ (List.replicate n zr) :=
  ⟨blk_mono _ _, fun A hA => by
    refine ⟨by simp, Nat.le_refl _, by show n ≤ _; omega, ?_⟩
    rw [← zeros_recs]
    exact CellsAt.block hA fun i hi => by simp [hi]⟩
theorem batch_spec {cs : List Chunk} {H : Heap} {base pid epoch seq : Int} {n : Nat} {K : Value → Heap → Prop} (h : Holds cs H) (hb : n ≤ 1000000) (k : ∀ q H', Holds (zrs q n :: cs) H' → K (btV ⟨base, pid, epoch, seq, n⟩ ⟨some ⟨q, 0, none⟩, n, n⟩) H') :
    FnH Try.prog 13 #[.int .i64 pid, .int .i64 epoch, .int .i64 seq, .int .i64 n, .int .i64 base] H K := by
  apply logboomlaw8_batch_fn
  unfold logboomlaw8_batch_vc
  exact Holds.makeSlice ok31 z97 h (by omega) fun b H' h' => ⟨⟨some ⟨b, 0, none⟩, n, n⟩, rfl, k b H' h'⟩
/-- Records of zeros may be, where base and sequence are in bounds. -/
theorem right_zero {base pid epoch seq : Int} {n : Nat} (b0 : 0 ≤ base) (b1 : base ≤ 100000) (p0 : 1 ≤ pid) (p1 : pid ≤ 1000000000) (e0 : 0 ≤ epoch) (e1 : epoch ≤ 1000000000) (s0 : 0 ≤ seq) (s1 : seq ≤ 100000) (n0 : 1 ≤ n) (n1 : n ≤ 64) :
    rightM base 0 pid epoch seq (List.replicate n zr) = 0 := by
  have hin : ∀ x : Int, 0 ≤ x → x ≤ 1000000000 → inB x 1000000000 = true := fun x h0 h1 => by unfold inB; rw [decide_eq_true h0, decide_eq_true h1]; rfl
  unfold rightM
  have hA : argBad base 0 pid epoch seq ((List.replicate n zr).length : Nat) = false := by
    unfold argBad
    rw [hin 0 (by omega) (by omega), hin pid (by omega) (by omega), hin epoch e0 e1, hin seq s0 (by omega), decide_eq_false (show ¬ base < 0 by omega), decide_eq_false (show ¬ pid = 0 by omega), List.length_replicate, decide_eq_false (show ¬ ((n : Nat) : Int) = 0 by omega)]
    rfl
  rw [if_neg (by rw [hA]; simp)]
  rw [if_neg (by simp [zr, inB])]
  rw [List.length_replicate, if_neg (by omega)]
  rw [if_neg (by
    have : longB zr = false := by kernel_rfl
    simp [this])]
  rw [if_neg (by omega)]
  have hlen : (bodyM [base, 0, pid, epoch, seq, (n : Int)] (List.replicate n zr)).length ≤ 60 + n * 3 := by
    unfold bodyM
    rw [List.length_append]
    have h1 := flat_le (f := encInt) (m := 10) (l := [base, 0, pid, epoch, seq, (n : Int)]) fun a _ => encInt_len a
    have h2 := flat_le (f := recM) (m := 3) (l := List.replicate n zr) fun r hr => by
      rw [List.eq_of_mem_replicate hr]
      exact Nat.le_of_eq (by kernel_rfl)
    rw [List.length_replicate] at h2
    simp only [List.length_cons, List.length_nil] at h1
    omega
  rw [if_neg (by omega)]
end Go.Proofs.Ytkabaoigablphaa
