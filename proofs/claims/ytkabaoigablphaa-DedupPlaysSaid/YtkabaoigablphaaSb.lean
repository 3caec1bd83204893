/- Chapter 8: the examples. -/
import Derived.Test.YtkabaoigablphaaSa
namespace Go.Proofs.Ytkabaoigablphaa
open Go.HL
set_option maxHeartbeats 800000
set_option maxRecDepth 10000

/-- A batch of zeros, noted. -/
theorem note_zero {cs : List Chunk} {H : Heap} {t q : Nat} {T : Tb} {b : Bt} {K : Value → Heap → Prop} (h : Holds (tab t T :: zrs q b.n :: cs) H) (hL : Low T 100000) (b0 : 0 ≤ b.base) (b1 : b.base ≤ 100000) (p0 : 1 ≤ b.pid) (p1 : b.pid ≤ 1000000000) (e0 : 0 ≤ b.epoch) (e1 : b.epoch ≤ 1000000000) (s0 : 0 ≤ b.seq) (s1 : b.seq ≤ 100000) (n0 : 1 ≤ b.n) (n1 : b.n ≤ 64)
    (k : ∀ H', Holds (tab t (noteM T b.base b.pid b.epoch b.seq b.n) :: cs) H' → K (.tuple #[]) H') : FnH Try.prog 16 #[.pointer (some ⟨t, 0, none⟩), btV b ⟨some ⟨q, 0, none⟩, b.n, b.n⟩] H K := by
  refine note_spec (s := ⟨some ⟨q, 0, none⟩, b.n, b.n⟩) h hL (zrs_gives (by omega)) (i := 0) rfl fun H' h' => k H' ?_
  rw [if_neg (fun z => z.elim (by omega) fun z => z (right_zero b0 b1 p0 p1 e0 e1 s0 s1 n0 n1))] at h'
  exact h'.swap.tail
theorem ask_at {cs : List Chunk} {H : Heap} {t : Nat} {T : Tb} {pid epoch seq n a b : Int} {K : Value → Heap → Prop} {i : Nat} (h : Holds cs H) (ei : cs[i]? = some (tab t T)) (hL : Low T 100000) (e : askM T pid epoch seq n = (a, b)) (k : K (.tuple #[.int .i64 a, .int .i64 b]) H) :
    FnH Try.prog 14 #[.pointer (some ⟨t, 0, none⟩), .int .i64 pid, .int .i64 epoch, .int .i64 seq, .int .i64 n] H K :=
  ask_spec (h.read i ei tab_mono) hL (by rw [e]; exact k)
def T1 : Tb := [(7, [(0, 0, 2, 10)])]
def T2 : Tb := [(7, [(0, 0, 2, 10), (1, 0, 1, 12)])]
theorem low0 : Low [] 100000 := fun p hp => by simp at hp
theorem low1 : Low T1 100000 := fun p hp => by simp [T1] at hp; subst hp; simp
theorem low2 : Low T2 100000 := fun p hp => by simp [T2] at hp; subst hp; simp
theorem shown_spec {cs : List Chunk} {H : Heap} {K : Value → Heap → Prop} (h : Holds cs H) (k : ∀ H', Holds cs H' → K (.bool true) H') : FnH Try.prog 7 #[] H K := by
  apply logboomlaw8_shown_fn
  unfold logboomlaw8_shown_vc
  refine new_spec h fun t H1 h1 => ⟨_, rfl, br_f rfl ?_⟩
  refine ask_at h1 (i := 0) rfl low0 (a := -1) (b := 0) (by kernel_rfl) ⟨_, _, rfl, ?_⟩
  refine batch_spec (n := 2) h1 (by decide) fun q H2 h2 => ⟨_, _, _, _, _, ⟨some ⟨q, 0, none⟩, 2, 2⟩, rfl, ?_⟩
  refine note_zero (b := ⟨10, 7, 0, 0, 2⟩) h2.swap low0 (by decide) (by decide) (by decide) (by decide) (by decide) (by decide) (by decide) (by decide) (by decide) (by decide) fun H3 h3 => ⟨rfl, ?_⟩
  have e1 : noteM [] (10 : Int) 7 0 0 ((2 : Nat) : Int) = T1 := by kernel_rfl
  have h3 : Holds (tab t T1 :: cs) H3 := by rw [← e1]; exact h3
  refine ask_at h3 (i := 0) rfl low1 (a := 10) (b := 0) (by kernel_rfl) ⟨_, _, rfl, ?_⟩
  refine ask_at h3 (i := 0) rfl low1 (a := -1) (b := 0) (by kernel_rfl) ⟨_, _, rfl, ?_⟩
  refine ask_at h3 (i := 0) rfl low1 (a := -1) (b := 11) (by kernel_rfl) ⟨_, _, rfl, ?_⟩
  refine ask_at h3 (i := 0) rfl low1 (a := -1) (b := 12) (by kernel_rfl) ⟨_, _, rfl, ?_⟩
  refine batch_spec (n := 1) h3 (by decide) fun q H4 h4 => ⟨_, _, _, _, _, ⟨some ⟨q, 0, none⟩, 1, 1⟩, rfl, ?_⟩
  refine note_zero (b := ⟨12, 7, 1, 0, 1⟩) h4.swap low1 (by decide) (by decide) (by decide) (by decide) (by decide) (by decide) (by decide) (by decide) (by decide) (by decide) fun H5 h5 => ⟨rfl, ?_⟩
  have e2 : noteM T1 (12 : Int) 7 1 0 ((1 : Nat) : Int) = T2 := by kernel_rfl
  have h5 : Holds (tab t T2 :: cs) H5 := by rw [← e2]; exact h5
  refine ask_at h5 (i := 0) rfl low2 (a := -1) (b := 13) (by kernel_rfl) ⟨_, _, rfl, ?_⟩
  refine cut_spec h5 low2 fun H6 h6 => ⟨rfl, ?_⟩
  have e3 : cutM T2 12 = T1 := by kernel_rfl
  rw [e3] at h6
  refine ask_at h6 (i := 0) rfl low1 (a := -1) (b := 0) (by kernel_rfl) ⟨_, _, rfl, ?_⟩
  exact br_t rfl (br_t rfl (br_t rfl (br_t rfl (br_t rfl (br_t rfl (br_t rfl (br_t rfl (br_t rfl (br_t rfl (k H6 h6.tail))))))))))
end Go.Proofs.Ytkabaoigablphaa
