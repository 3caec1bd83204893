/- Chapter 9: Open: of a disk that the log wrote. -/
import Derived.Test.YtmneimfhcjkinaaDoorS9
import Derived.Test.YtmneimfhcjkinaaDoorV4
namespace Go.Proofs.YtmneimfhcjkinaaDoor
open Go Go.HL
set_option maxHeartbeats 3200000
set_option maxRecDepth 10000

/-- The disk holds what the log keeps. -/
def StR (F : Fs) (st : RS) : Prop := ∃ a b c, F = mkF a b c ∧ ((a = none ∧ st.l = []) ∨ a = some (strN (st.l.flatMap entN))) ∧
  ((b = none ∧ st.index = 0 ∧ st.snapped = 0 ∧ st.data = ⟨#[]⟩) ∨ (b = some (snapB st.index st.snapped st.data) ∧ inX st.index 1 ∧ inX st.snapped 1)) ∧ ((c = none ∧ st.term = 0 ∧ st.vote = 0) ∨ c = some (termB st.term st.vote))
structure StOk (st : RS) : Prop where
  term : inX st.term 0
  vote : inX st.vote 0
  index : inX st.index 0
  data : st.data.size ≤ 60000
  good : GoodL st.index st.l
  len : st.l.length ≤ 100000
def stN (st : RS) (n : Int) : RS := ⟨if 1 ≤ n then st.term else 0, if 1 ≤ n then st.vote else 0, if 2 ≤ n then st.index else 0, if 2 ≤ n then st.snapped else 0, if 2 ≤ n then st.data else ⟨#[]⟩, []⟩
section
variable {cs : List Chunk} {H : Heap} {K : Value → Heap → Prop}
theorem open9_spec {d : Nat} {size : Int} {F : Fs} {st : RS} (h : HL.Holds (dsk d size F :: cs) H) (hS : StR F st) (hG : StOk st) (k : ∀ c H', HL.Holds (lgc c d st :: dsk d size F :: cs) H' → K (.tuple #[.pointer (some ⟨c, 0, none⟩), .int .i64 0]) H') :
    FnH Tryd.prog 8 #[.pointer (some ⟨d, 0, none⟩), .string ⟨#[114]⟩] H K := by
  apply raftlog_Open_fn
  unfold raftlog_Open_vc
  obtain ⟨a, b, c, rfl, ha, hb, hc⟩ := hS
  refine h.new fun q1 H1 h1 => h1.new fun q2 H2 h2 => ?_
  have h3 : HL.Holds (lgc q1 d (stN st 0) :: blk q2 (.cells #[.string (⟨#[46, 116, 101, 114, 109]⟩ : ByteArray), .func (.func 23) #[.pointer (some ⟨q1, 0, none⟩)] #[], .string (⟨#[46, 115, 110, 97, 112]⟩ : ByteArray), .func (.func 24) #[.pointer (some ⟨q1, 0, none⟩)] #[]] 63 (0, 0)) :: dsk d size (mkF a b c) :: cs) H2 :=
    lgc_open.2 ⟨⟨none, 0, 0⟩, ((h2.swap.own_nil 43 3).swap)⟩
  refine ⟨fun n H' => 0 ≤ n ∧ n ≤ 2 ∧ HL.Holds (lgc q1 d (stN st n) :: blk q2 (.cells #[.string (⟨#[46, 116, 101, 114, 109]⟩ : ByteArray), .func (.func 23) #[.pointer (some ⟨q1, 0, none⟩)] #[], .string (⟨#[46, 115, 110, 97, 112]⟩ : ByteArray), .func (.func 24) #[.pointer (some ⟨q1, 0, none⟩)] #[]] 63 (0, 0)) :: dsk d size (mkF a b c) :: cs) H', fun n _ => (2 - n).toNat, ⟨Int.le_refl _, by decide, h3⟩, ?_⟩
  clear h h1 h2 h3
  rintro n H3 ⟨n0, n1, h3⟩
  refine br_intro (fun w => ?_) (fun w => ?_)
  · have w : n < 2 := of_decide_eq_true w
    have hn : n = 0 ∨ n = 1 := by omega
    rcases hn with rfl | rfl
    · refine ⟨q2, 0, rfl, by decide, by decide, ⟨#[46, 116, 101, 114, 109]⟩, h3.cell 1 rfl rfl, ⟨23, #[.pointer (some ⟨q1, 0, none⟩)], #[]⟩, h3.cell 1 rfl rfl, by decide, ?_⟩
      have en : (⟨#[114]⟩ : ByteArray) ++ (⟨#[46, 116, 101, 114, 109]⟩ : ByteArray) = nTerm := by decide +kernel
      rw [en]
      refine read_spec (i := 2) h3 rfl ⟨_, _, rfl, ?_⟩
      rw [look_term]
      rcases hc with ⟨rfl, t0, v0⟩ | rfl
      · have e : stN st 1 = stN st 0 := by unfold stN; rw [t0, v0]; rfl
        refine br_t rfl ⟨rfl, ⟨by decide, by decide, ?_⟩, by dsimp only; decide⟩
        show HL.Holds (lgc q1 d (stN st 1) :: _) H3
        rw [e]; exact h3
      · have eg : (getF (mkF a b (some (termB st.term st.vote))) nTerm).1 = termB st.term st.vote := by unfold getF; rw [look_term]; rfl
        rw [eg]
        have la := encN_len st.term
        have lb := encN_len st.vote
        refine br_f rfl (unsummed9_spec (app_bytes (encN_bytes _) (encN_bytes _)) (by rw [List.length_append]; omega) fun H4 s4 => ⟨_, _, rfl, br_f rfl (callV_intro (by kernel_rfl) ?_)⟩)
        refine readTerm9_spec (h3.up s4) hG.term hG.vote fun H5 h5 => ⟨_, rfl, br_f rfl ⟨rfl, ⟨by decide, by decide, ?_⟩, by dsimp only; decide⟩⟩
        exact h5
    · refine ⟨q2, 0, rfl, by decide, by decide, ⟨#[46, 115, 110, 97, 112]⟩, h3.cell 1 rfl rfl, ⟨24, #[.pointer (some ⟨q1, 0, none⟩)], #[]⟩, h3.cell 1 rfl rfl, by decide, ?_⟩
      have en : (⟨#[114]⟩ : ByteArray) ++ (⟨#[46, 115, 110, 97, 112]⟩ : ByteArray) = nSnap := by decide +kernel
      rw [en]
      refine read_spec (i := 2) h3 rfl ⟨_, _, rfl, ?_⟩
      rw [look_snap]
      rcases hb with ⟨rfl, t0, v0, d0⟩ | ⟨rfl, x0, x1⟩
      · have e : stN st 2 = stN st 1 := by unfold stN; rw [t0, v0, d0]; rfl
        refine br_t rfl ⟨rfl, ⟨by decide, by decide, ?_⟩, by dsimp only; decide⟩
        show HL.Holds (lgc q1 d (stN st 2) :: _) H3
        rw [e]; exact h3
      · have eg : (getF (mkF a (some (snapB st.index st.snapped st.data)) c) nSnap).1 = snapB st.index st.snapped st.data := by unfold getF; rw [look_snap]; rfl
        rw [eg]
        have ls := snapN_len st.index st.snapped st.data
        have hd := hG.data
        refine br_f rfl (unsummed9_spec (snapN_bytes _ _ _) (by omega) fun H4 s4 => ⟨_, _, rfl, br_f rfl (callV_intro (by kernel_rfl) ?_)⟩)
        refine readSnap9_spec (h3.up s4) x0 x1 hG.data fun H5 h5 => ⟨_, rfl, br_f rfl ⟨rfl, ⟨by decide, by decide, ?_⟩, by dsimp only; decide⟩⟩
        exact h5
  · have w : ¬ n < 2 := of_decide_eq_false w
    have hn : n = 2 := by omega
    subst hn
    have h4 := (HL.Holds.pull h3 1 rfl).tail
    obtain ⟨i0, i1⟩ := hG.index
    refine readEntries9_spec (st := stN st 2) (l := st.l) rfl h4 hG.len hG.good i0 i1 ?_ fun H5 h5 => ⟨_, rfl, br_f rfl (k q1 H5 h5)⟩
    rw [look_log]
    rcases ha with ⟨rfl, e⟩ | rfl
    · exact .inl ⟨rfl, e⟩
    · exact .inr ⟨_, rfl⟩
end
end Go.Proofs.YtmneimfhcjkinaaDoor
