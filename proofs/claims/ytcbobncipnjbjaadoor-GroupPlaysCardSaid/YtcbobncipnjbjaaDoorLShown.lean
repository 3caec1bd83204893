/- The head of chapter 15's laws: the examples hold. -/
import Derived.Test.YtcbobncipnjbjaaDoorS7
namespace Go.Proofs.YtcbobncipnjbjaaDoor
open Go.HL
set_option maxHeartbeats 800000
set_option maxRecDepth 10000

theorem shown_spec {cs : List Chunk} {H : Heap} {K : Value → Heap → Prop} (h : Holds cs H) (k : ∀ H', Holds cs H' → K (.bool true) H') : FnH Tryd.prog 9 #[] H K := by
  apply logboomlaw15_shown_fn
  unfold logboomlaw15_shown_vc
  refine new_spec h fun g H1 h1 => ⟨_, rfl, br_f rfl (h1.new fun q1 H2 h2 => ?_)⟩
  refine applyL mJ [1, 2, 3] (Fine.nil _) h2.swap (by decide) (by decide) fun a H3 h3 => ?_
  rw [s1.1, s1.2.1, s1.2.2] at *
  refine ⟨_, _, _, _, a, rfl, ?_⟩
  have h3' : Holds (grs g G1 0 :: blk q1 (.cells (iv [1, 2, 3]).toArray 3 (0, 0)) :: ints a [1, 2, 3] :: cs) H3 := h3.down 2
  refine applyL mJ [1, 2, 3] f1 h3' (by decide) (by decide) fun b H4 h4 => ?_
  rw [s2.1, s2.2, s1.2.2] at *
  refine ⟨_, _, _, _, b, rfl, ?_⟩
  have h4' : Holds (grs g G2 0 :: blk q1 (.cells (iv [1, 2, 3]).toArray 3 (0, 0)) :: ints b [3] :: ints a [1, 2, 3] :: cs) H4 := h4.down 2
  refine apply0 (mS 2) f2 h4' (by decide) fun c H5 h5 => ?_
  rw [s3.1, s3.2.1, s3.2.2] at *
  refine ⟨_, _, _, _, c, rfl, ?_⟩
  refine apply0 (mS 1) f2 h5.swap (by decide) fun d H6 h6 => ?_
  rw [s4.1, s4.2.1, s4.2.2] at *
  refine ⟨_, _, _, _, d, rfl, h6.tail.new fun q2 H7 h7 => ?_⟩
  refine applyL (mC 1 7) [4] f2 h7.swap (by decide) (by decide) fun e H8 h8 => ?_
  rw [s5.1, s5.2.1, s5.2.2] at *
  refine ⟨_, _, _, _, e, rfl, h8.tail.new fun q3 H9 h9 => ?_⟩
  refine applyL (mC 1 7) [4] f3 h9.swap (by decide) (by decide) fun kk H10 h10 => ?_
  rw [s6.1, s6.2, s5.2.2] at *
  refine ⟨_, _, _, _, kk, rfl, ?_⟩
  refine apply0 (mR gN) f3 h10.tail (by decide) fun f H11 h11 => ?_
  rw [s7.1, s7.2.1, s7.2.2] at *
  refine ⟨_, _, _, _, f, rfl, h11.tail.new fun q4 H12 h12 => ?_⟩
  refine applyL (mC 2 9) [0] f3 h12.swap (by decide) (by decide) fun hh H13 h13 => ?_
  rw [s8.1, s8.2.1, s8.2.2] at *
  refine ⟨_, _, _, _, hh, rfl, ?_⟩
  refine apply0 (mR hN) f3 h13.tail (by decide) fun i H14 h14 => ?_
  rw [s9.1, s9.2.1, s9.2.2] at *
  refine ⟨_, _, _, _, i, rfl, ?_⟩
  have h15 : Holds (grs g G3 0 :: blk q4 (.cells (iv [0]).toArray 3 (0, 0)) :: blk q3 (.cells (iv [4]).toArray 3 (0, 0)) :: blk q2 (.cells (iv [4]).toArray 3 (0, 0)) :: ints c [1, 2] :: blk q1 (.cells (iv [1, 2, 3]).toArray 3 (0, 0)) :: ints b [3] :: ints a [1, 2, 3] :: cs) H14 := h14.tail
  have lit : ∀ {H : Heap} {q : Nat} (l : List Int), H q = some (.cells (iv l).toArray 3 (0, 0)) → l.length ≤ 1000 → Ints H ⟨some ⟨q, 0, none⟩, l.length, l.length⟩ l := fun l hq hb => ⟨rfl, by show l.length ≤ _; omega, Nat.le_refl _, CellsAt.block hq fun i hi => by simp [hi]⟩
  have a14 := h15.read 7 rfl Ints.mono
  refine sameList_spec (b := ⟨some ⟨q1, 0, none⟩, 3, 3⟩) a14 (lit [1, 2, 3] (h15.get 5 rfl) (by decide)) ⟨_, rfl, h15.new fun q5 H16 h16 => ?_⟩
  refine sameList_spec (b := ⟨some ⟨q5, 0, none⟩, 1, 1⟩) (h16.read 7 rfl Ints.mono) (lit [3] (h16.get 0 rfl) (by decide)) ⟨_, rfl, h16.new fun q6 H18 h18 => ?_⟩
  refine sameList_spec (b := ⟨some ⟨q6, 0, none⟩, 2, 2⟩) (h18.read 6 rfl Ints.mono) (lit [1, 2] (h18.get 0 rfl) (by decide)) ⟨_, rfl, ?_⟩
  have g18 := h18.read 2 rfl grs_mono
  refine br_t rfl (br_t rfl (br_t (by decide) (br_t rfl (br_t rfl (br_t (by decide) (br_t (by decide) (br_t rfl (br_t rfl (br_t rfl (br_t rfl (br_t rfl (br_t rfl ?_))))))))))))
  refine gOwner_spec (n := gN) (part := 3) f3.small g18 fun H20 s20 => ⟨_, rfl, br_t (by rw [o1]; rfl) ?_⟩
  refine gOffset_spec (n := gN) (part := 2) f3.small (grs_mono _ _ s20 g18) ⟨_, rfl, ?_⟩
  rw [o2]
  refine k H20 ?_
  exact ((((((((((h18.up s20).tail).tail).tail).tail).tail).tail).tail).tail).tail).tail
end Go.Proofs.YtcbobncipnjbjaaDoor
