/- Chapter 7: the laws' beginning. -/
import Derived.Test.YtdgmifbcbmndgaaGreatDoorP1
import Derived.Test.YtdgmifbcbmndgaaGreatDoorR1
namespace Go.Proofs.YtdgmifbcbmndgaaGreatDoor
open Go Go.HL
set_option maxHeartbeats 1600000
set_option maxRecDepth 10000

theorem wr_big {size : Int} {F : Fs} {L l : List En} (h : StE F L) (hs : ((fileE l).size : Int) ≤ size) : ∃ F', StE F' l ∧ wr size F nmE L l = (0, F', l) := by
  obtain ⟨h1, h2, h3, h4, h5⟩ := wr_st (size := size) (l := l) h
  have e := h4 hs
  have e2 := h2 e
  rw [e2] at h1
  exact ⟨_, h1, Prod.ext e (Prod.ext rfl e2)⟩
section
variable {cs : List Chunk} {H : Heap} {K : Value → Heap → Prop}
theorem pick_spec {c n : Int} (hn : n ≠ 0) (k : K (.int .i64 (pickI c n)) H) : FnH Tryz.prog 5 #[.int .i64 c, .int .i64 n] H K := by
  apply logboomlaw7_pick_fn
  exact pick_formula hn k
theorem opened_spec {size : Int} (h : HL.Holds cs H) (s0 : 1 ≤ size) (s1 : size ≤ 16777216) (k : ∀ c d H', HL.Holds (cch c d nmE [] :: dsk d size [] :: cs) H' → K (.tuple #[.pointer (some ⟨c, 0, none⟩), .pointer (some ⟨d, 0, none⟩)]) H') :
    FnH Tryz.prog 6 #[.int .i64 size] H K := by
  apply logboomlaw7_opened_fn
  unfold logboomlaw7_opened_vc
  refine dnew_spec h (fun q => by omega) fun _ _ d H1 h1 => ⟨_, _, rfl, br_f rfl (br_f rfl ?_)⟩
  have e1 : openC [] nmE = 0 := rfl
  have e2 : openL [] nmE = [] := rfl
  refine open_spec (n := nmE) h1 (fun H2 hc _ => absurd e1 hc) fun c H2 _ h2 => ⟨_, _, rfl, br_f rfl (br_f rfl ?_)⟩
  rw [e2] at h2
  exact k c d H2 h2
abbrev x1 : En := (1, 0, ⟨#[]⟩)
abbrev x3 : En := (3, 10, ⟨#[]⟩)
abbrev x5 : En := (5, 10, ⟨#[]⟩)
abbrev x6 : En := (6, 30, ⟨#[]⟩)
theorem fits_small {l : List En} (h : l.length ≤ 10) : ((fileE l).size : Int) ≤ 1000 := by
  have := file_size l
  omega
theorem begin_big {F : Fs} {L l : List En} {ep off : Int} (h : StE F L) (hL : EOk L) (e : beginR 1000 F nmE L ep off = wr 1000 F nmE L l) (hl : l.length ≤ 10) : ∃ F', StE F' l ∧ EOk l ∧ beginR 1000 F nmE L ep off = (0, F', l) := by
  obtain ⟨F', h1, h2⟩ := wr_big (size := 1000) (l := l) h (fits_small hl)
  have h3 := (CallOk.begin 1000 ep off h hL).ok
  rw [e, h2] at h3
  exact ⟨F', h1, h3, by rw [e, h2]⟩
theorem shown_spec (h : HL.Holds cs H) (k : ∀ H', HL.Holds cs H' → K (.bool true) H') : FnH Tryz.prog 4 #[] H K := by
  apply logboomlaw7_shown_fn
  unfold logboomlaw7_shown_vc
  refine opened_spec h (by decide) (by decide) fun c d H1 h1 => ⟨_, _, rfl, br_f rfl (br_f rfl (last_spec (i := 0) h1 rfl (by simp) ⟨_, rfl, br_f rfl ?_⟩))⟩
  have s0 : StE [] [] := .inl ⟨rfl, rfl⟩
  obtain ⟨F1, s1, k1, e1⟩ := begin_big (l := [x1]) (ep := 1) (off := 0) s0 EOk.nil rfl (by simp)
  refine begin_spec (ep := 1) (off := 0) h1 EOk.nil fun H2 h2 => ?_
  rw [e1] at h2 ⊢
  obtain ⟨F2, s2, k2, e2⟩ := begin_big (l := [x1, x3]) (ep := 3) (off := 10) s1 k1 rfl (by simp)
  refine ⟨_, rfl, begin_spec (ep := 3) (off := 10) h2 k1 fun H3 h3 => ?_⟩
  rw [e2] at h3 ⊢
  have e3 : beginR 1000 F2 nmE [x1, x3] 2 20 = (13, F2, [x1, x3]) := rfl
  refine ⟨_, rfl, begin_spec (ep := 2) (off := 20) h3 k2 fun H4 h4 => ?_⟩
  rw [e3] at h4 ⊢
  obtain ⟨F4, s4, k4, e4⟩ := begin_big (l := [x1, x5]) (ep := 5) (off := 10) s2 k2 rfl (by simp)
  refine ⟨_, rfl, begin_spec (ep := 5) (off := 10) h4 k2 fun H5 h5 => ?_⟩
  rw [e4] at h5 ⊢
  obtain ⟨F5, s5, k5, e5⟩ := begin_big (l := [x1, x5, x6]) (ep := 6) (off := 30) s4 k4 rfl (by simp)
  refine ⟨_, rfl, begin_spec (ep := 6) (off := 30) h5 k4 fun H6 h6 => ?_⟩
  rw [e5] at h6 ⊢
  have e6 : endR [x1, x5, x6] 4 40 = (1, 10) := rfl
  refine ⟨_, rfl, end_spec (i := 0) (ep := 4) (nxt := 40) h6 rfl k5.srt (by simp) fun H7 s7 h7 => ?_⟩
  rw [e6]
  refine ⟨_, _, rfl, all_spec (i := 0) h7 rfl (by simp) fun r H8 s8 h8 => ⟨r, rfl, h8.new fun q H9 h9 => ?_⟩⟩
  have hr : Recs eE H9 r [x1, x5, x6] := Own.recs eElen (by decide) (h9.own 1 rfl) (by simp)
  have hq : Recs eE H9 ⟨some ⟨q, 0, none⟩, 3, 3⟩ [x1, x5, x6] := ⟨rfl, by show (3 : Nat) ≤ 3; decide, by show (3 : Nat) ≤ _; decide, CellsAt.block (h9.get 0 rfl) fun i hi => by
    have hi : i < 9 := hi
    have : i = 0 ∨ i = 1 ∨ i = 2 ∨ i = 3 ∨ i = 4 ∨ i = 5 ∨ i = 6 ∨ i = 7 ∨ i = 8 := by omega
    rcases this with rfl | rfl | rfl | rfl | rfl | rfl | rfl | rfl | rfl <;> rfl⟩
  refine same_spec (t := ⟨some ⟨q, 0, none⟩, 3, 3⟩) hr hq ⟨_, rfl, br_t rfl (br_t rfl (br_t rfl (br_t rfl (br_t rfl (br_t rfl (br_t rfl (br_t (by simp) ?_)))))))⟩
  have h10 := h9.tail.tail
  refine last_spec (i := 0) h10 rfl (by simp) ⟨_, rfl, br_t rfl (size_spec (i := 1) h10 rfl ⟨_, rfl, ?_⟩)⟩
  have hpos : decide (((getF F5 nmE).1.size : Int) > 0) = true := by
    rcases s5 with ⟨-, h⟩ | h
    · cases h
    · rw [h, get_one]
      have := (file_parts (bodyE_bytes [x1, x5, x6])).1
      exact decide_eq_true (by show ((fileE [x1, x5, x6]).size : Int) > 0; unfold fileE; omega)
  rw [hpos]
  exact k H9 h10.tail.tail
end
end Go.Proofs.YtdgmifbcbmndgaaGreatDoor
