/- Chapter 7: the laws' beginning; EpochOpens, EpochMany. -/
import Derived.Test.YtdgmifbcbmndgaaDoorP1
import Derived.Test.YtdgmifbcbmndgaaDoorR1
namespace Go.Proofs.YtdgmifbcbmndgaaDoor
open Go Go.HL
set_option maxHeartbeats 1600000
set_option maxRecDepth 10000

theorem wr_big {size : Int} {F : Fs} {L l : List En} (h : StE F L) (hs : ((fileE l).size : Int) ≤ size) : ∃ F', StE F' l ∧ wr size F nmE L l = (0, F', l) := by
  obtain ⟨h1, h2, h3, h4, h5⟩ := wr_st (size := size) (l := l) h
  have e := h4 hs
  have e2 := h2 e
  rw [e2] at h1
  exact ⟨_, h1, Prod.ext e (Prod.ext rfl e2)⟩
section
variable {cs : List Chunk} {H : Heap} {K : Value → Heap → Prop}
theorem pick_spec {c n : Int} (hn : n ≠ 0) (k : K (.int .i64 (pickI c n)) H) : FnH Tryd.prog 16 #[.int .i64 c, .int .i64 n] H K := by
  apply logboomlaw7_pick_fn
  exact pick_formula hn k
theorem opened_spec {size : Int} (h : HL.Holds cs H) (s0 : 1 ≤ size) (s1 : size ≤ 16777216) (k : ∀ c d H', HL.Holds (cch c d nmE [] :: dsk d size [] :: cs) H' → K (.tuple #[.pointer (some ⟨c, 0, none⟩), .pointer (some ⟨d, 0, none⟩)]) H') :
    FnH Tryd.prog 15 #[.int .i64 size] H K := by
  apply logboomlaw7_opened_fn
  unfold logboomlaw7_opened_vc
  refine dnew_spec h (fun q => by omega) fun _ _ d H1 h1 => ⟨_, _, rfl, br_f rfl (br_f rfl ?_)⟩
  have e1 : openC [] nmE = 0 := rfl
  have e2 : openL [] nmE = [] := rfl
  refine open_spec (n := nmE) h1 (fun H2 hc _ => absurd e1 hc) fun c H2 _ h2 => ⟨_, _, rfl, br_f rfl (br_f rfl ?_)⟩
  rw [e2] at h2
  exact k c d H2 h2
abbrev x1 : En := (1, 0, ⟨#[]⟩)
abbrev x3 : En := (3, 10, ⟨#[]⟩)
abbrev x5 : En := (5, 10, ⟨#[]⟩)
abbrev x6 : En := (6, 30, ⟨#[]⟩)
theorem fits_small {l : List En} (h : l.length ≤ 10) : ((fileE l).size : Int) ≤ 1000 := by
  have := file_size l
  omega
theorem begin_big {F : Fs} {L l : List En} {ep off : Int} (h : StE F L) (hL : EOk L) (e : beginR 1000 F nmE L ep off = wr 1000 F nmE L l) (hl : l.length ≤ 10) : ∃ F', StE F' l ∧ EOk l ∧ beginR 1000 F nmE L ep off = (0, F', l) := by
  obtain ⟨F', h1, h2⟩ := wr_big (size := 1000) (l := l) h (fits_small hl)
  have h3 := (CallOk.begin 1000 ep off h hL).ok
  rw [e, h2] at h3
  exact ⟨F', h1, h3, by rw [e, h2]⟩
theorem shown_spec (h : HL.Holds cs H) (k : ∀ H', HL.Holds cs H' → K (.bool true) H') : FnH Tryd.prog 6 #[] H K := by
  apply logboomlaw7_shown_fn
  unfold logboomlaw7_shown_vc
  refine opened_spec h (by decide) (by decide) fun c d H1 h1 => ⟨_, _, rfl, br_f rfl (br_f rfl (last_spec (i := 0) h1 rfl (by simp) ⟨_, rfl, br_f rfl ?_⟩))⟩
  have s0 : StE [] [] := .inl ⟨rfl, rfl⟩
  obtain ⟨F1, s1, k1, e1⟩ := begin_big (l := [x1]) (ep := 1) (off := 0) s0 EOk.nil rfl (by simp)
  refine begin_spec (ep := 1) (off := 0) h1 EOk.nil fun H2 h2 => ?_
  rw [e1] at h2 ⊢
  obtain ⟨F2, s2, k2, e2⟩ := begin_big (l := [x1, x3]) (ep := 3) (off := 10) s1 k1 rfl (by simp)
  refine ⟨_, rfl, begin_spec (ep := 3) (off := 10) h2 k1 fun H3 h3 => ?_⟩
  rw [e2] at h3 ⊢
  have e3 : beginR 1000 F2 nmE [x1, x3] 2 20 = (13, F2, [x1, x3]) := rfl
  refine ⟨_, rfl, begin_spec (ep := 2) (off := 20) h3 k2 fun H4 h4 => ?_⟩
  rw [e3] at h4 ⊢
  obtain ⟨F4, s4, k4, e4⟩ := begin_big (l := [x1, x5]) (ep := 5) (off := 10) s2 k2 rfl (by simp)
  refine ⟨_, rfl, begin_spec (ep := 5) (off := 10) h4 k2 fun H5 h5 => ?_⟩
  rw [e4] at h5 ⊢
  obtain ⟨F5, s5, k5, e5⟩ := begin_big (l := [x1, x5, x6]) (ep := 6) (off := 30) s4 k4 rfl (by simp)
  refine ⟨_, rfl, begin_spec (ep := 6) (off := 30) h5 k4 fun H6 h6 => ?_⟩
  rw [e5] at h6 ⊢
  have e6 : endR [x1, x5, x6] 4 40 = (1, 10) := rfl
  refine ⟨_, rfl, end_spec (i := 0) (ep := 4) (nxt := 40) h6 rfl k5.srt (by simp) fun H7 s7 h7 => ?_⟩
  rw [e6]
  refine ⟨_, _, rfl, all_spec (i := 0) h7 rfl (by simp) fun r H8 s8 h8 => ⟨r, rfl, h8.new fun q H9 h9 => ?_⟩⟩
  have hr : Recs eE H9 r [x1, x5, x6] := Own.recs eElen (by decide) (h9.own 1 rfl) (by simp)
  have hq : Recs eE H9 ⟨some ⟨q, 0, none⟩, 3, 3⟩ [x1, x5, x6] := ⟨rfl, by show (3 : Nat) ≤ 3; decide, by show (3 : Nat) ≤ _; decide, CellsAt.block (h9.get 0 rfl) fun i hi => by
    have hi : i < 9 := hi
    have : i = 0 ∨ i = 1 ∨ i = 2 ∨ i = 3 ∨ i = 4 ∨ i = 5 ∨ i = 6 ∨ i = 7 ∨ i = 8 := by omega
    rcases this with rfl | rfl | rfl | rfl | rfl | rfl | rfl | rfl | rfl <;> rfl⟩
  refine same_spec (t := ⟨some ⟨q, 0, none⟩, 3, 3⟩) hr hq ⟨_, rfl, br_t rfl (br_t rfl (br_t rfl (br_t rfl (br_t rfl (br_t rfl (br_t rfl (br_t (by simp) ?_)))))))⟩
  have h10 := h9.tail.tail
  refine last_spec (i := 0) h10 rfl (by simp) ⟨_, rfl, br_t rfl (size_spec (i := 1) h10 rfl ⟨_, rfl, ?_⟩)⟩
  have hpos : decide (((getF F5 nmE).1.size : Int) > 0) = true := by
    rcases s5 with ⟨-, h⟩ | h
    · cases h
    · rw [h, get_one]
      have := (file_parts (bodyE_bytes [x1, x5, x6])).1
      exact decide_eq_true (by show ((fileE [x1, x5, x6]).size : Int) > 0; unfold fileE; omega)
  rw [hpos]
  exact k H9 h10.tail.tail
end
theorem epochMany_walk {H0 : Heap} {n step : Int} (hn : i64B n) (hst : i64B step) : FnH Tryd.prog 4 #[.int .i64 n, .int .i64 step] H0 fun r H' => r = .bool true ∧ HL.Sub H0 H' := by
  apply logboomlaw7_EpochMany_fn
  unfold logboomlaw7_EpochMany_vc
  obtain ⟨a0, a1⟩ := pickI_in (c := n) (n := 10) (by decide) hn.1 hn.2
  obtain ⟨b0, b1⟩ := pickI_in (c := step) (n := 1000) (by decide) hst.1 hst.2
  refine shown_spec (Holds.whole H0) fun H1 h1 => ⟨_, rfl, opened_spec h1 (by decide) (by decide) fun c d H2 h2 => ⟨_, _, rfl, br_f rfl (br_f rfl (pick_spec (by decide) ⟨_, rfl, pick_spec (by decide) ⟨_, rfl, ?_⟩⟩))⟩⟩
  generalize pickI n 10 = m at *
  generalize pickI step 1000 = t at *
  rw [wrap64_id (n := 195 + m) (by omega) (by omega), wrap64_id (n := 1 + t) (by omega) (by omega)]
  -- the entries ahead of a call
  obtain ⟨ents, he⟩ : ∃ ents : Nat → List En, ∀ i, ents i = (List.range i).map fun j : Nat => ((j : Int), (j : Int) * (1 + t), (⟨#[]⟩ : ByteArray)) := ⟨_, fun _ => rfl⟩
  have hlen : ∀ i, (ents i).length = i := fun i => by rw [he]; simp
  have hsucc : ∀ i, ents (i + 1) = ents i ++ [((i : Int), (i : Int) * (1 + t), (⟨#[]⟩ : ByteArray))] := fun i => by rw [he, he, List.range_succ]; simp
  have hmono : ∀ {i j : Nat}, i < j → (i : Int) * (1 + t) < (j : Int) * (1 + t) := fun {i j} h => by
    have h2 : ((i : Int) + 1) * (1 + t) ≤ (j : Int) * (1 + t) := Int.mul_le_mul_of_nonneg_right (by omega) (by omega)
    rw [Int.add_mul, Int.one_mul] at h2; omega
  have hah : ∀ i, aheadL (ents i) ((i : Int) * (1 + t)) = ents i := fun i => List.filter_eq_self.2 fun e hm => by
    rw [he] at hm
    obtain ⟨j, hj, rfl⟩ := List.mem_map.1 hm
    have := hmono (List.mem_range.1 hj)
    exact decide_eq_true this
  have hlast : ∀ i x, (ents i).getLast? = some x → x.1 < (i : Int) := fun i x hx => by
    cases i with
    | zero => rw [he] at hx; cases hx
    | succ i =>
      rw [hsucc, List.getLast?_concat] at hx
      simp only [Option.some.injEq] at hx
      rw [← hx]; show (i : Int) < ((i + 1 : Nat) : Int); omega
  have hmul : ∀ i : Nat, i ≤ 204 → 0 ≤ (i : Int) * (1 + t) ∧ (i : Int) * (1 + t) ≤ 204000 := fun i hi => by
    refine ⟨Int.mul_nonneg (by omega) (by omega), ?_⟩
    have h1 : (i : Int) * (1 + t) ≤ 204 * (1 + t) := Int.mul_le_mul_of_nonneg_right (by omega) (by omega)
    omega
  refine ⟨fun i H => 0 ≤ i ∧ i ≤ 195 + m ∧ ∃ F, StE F (ents (min i.toNat 200)) ∧ EOk (ents (min i.toNat 200)) ∧ HL.Holds [cch c d nmE (ents (min i.toNat 200)), dsk d 100000 F, ro H0] H, fun i _ => (195 + m - i).toNat, ⟨Int.le_refl _, by omega, [], .inl ⟨rfl, he 0⟩, by have : ents (min (Int.toNat 0) 200) = [] := he 0; rw [this]; exact EOk.nil, by have : ents (min (Int.toNat 0) 200) = [] := he 0; rw [this]; exact h2⟩, ?_⟩
  rintro i H3 ⟨i0, i1, F, hS, hL, h3⟩
  refine br_intro (fun q => ?_) (fun q => ?_)
  · have q := of_decide_eq_true q
    obtain ⟨k, rfl⟩ := Int.eq_ofNat_of_zero_le i0
    obtain ⟨m0, m1⟩ := hmul k (by omega)
    rw [wrap64_id (n := (k : Int) * (1 + t)) (by omega) (by omega), wrap64_id (n := (k : Int) + 1) (by omega) (by omega)]
    have ek : ((k : Int) + 1).toNat = k + 1 := by omega
    have hgo : (∀ x, (ents (min k 200)).getLast? = some x → x.1 < (k : Int)) → beginR 100000 F nmE (ents (min k 200)) k ((k : Int) * (1 + t)) = goB 100000 F nmE (ents (min k 200)) k ((k : Int) * (1 + t)) := fun hx => by
      unfold beginR
      rw [if_neg (fun z => z ⟨⟨by omega, by omega⟩, by omega, by omega⟩)]
      split
      · rfl
      · rename_i x e
        have := hx x e
        rw [if_neg (by omega), if_neg (by omega)]
    refine begin_spec (ep := (k : Int)) (off := (k : Int) * (1 + t)) h3 hL fun H4 h4 => ⟨_, rfl, ?_⟩
    by_cases hk : k < 200
    · have e1 : min k 200 = k := by omega
      have e2 : min (k + 1) 200 = k + 1 := by omega
      rw [Int.toNat_natCast, e1] at hS hL h3 h4 ⊢
      rw [e1] at hgo
      have hg := hgo (hlast k)
      have hwr : goB 100000 F nmE (ents k) k ((k : Int) * (1 + t)) = wr 100000 F nmE (ents k) (ents (k + 1)) := by
        unfold goB
        rw [hah, hlen, if_neg (by omega), hsucc]
      have hfit : ((fileE (ents (k + 1))).size : Int) ≤ 100000 := by
        have := file_size (ents (k + 1))
        rw [hlen] at this; omega
      obtain ⟨F', s', w'⟩ := wr_big (size := 100000) hS hfit
      have hok := (CallOk.begin 100000 k ((k : Int) * (1 + t)) hS hL).ok
      rw [hg, hwr, w'] at hok h4 ⊢
      refine br_f (by simp; omega) (br_f rfl ⟨rfl, ⟨by omega, by omega, F', by rw [ek, e2]; exact s', by rw [ek, e2]; exact hok, by rw [ek, e2]; exact h4⟩, by dsimp only; omega⟩)
    · have e1 : min k 200 = 200 := by omega
      have e2 : min (k + 1) 200 = 200 := by omega
      rw [Int.toNat_natCast, e1] at hS hL h3 h4 ⊢
      rw [e1] at hgo
      have hg := hgo fun x hx => by have := hlast 200 x hx; omega
      have h200 : aheadL (ents 200) ((k : Int) * (1 + t)) = ents 200 := List.filter_eq_self.2 fun e hm => by
        rw [he] at hm
        obtain ⟨j, hj, rfl⟩ := List.mem_map.1 hm
        have := hmono (i := j) (j := k) (by have := List.mem_range.1 hj; omega)
        exact decide_eq_true this
      have hwr : goB 100000 F nmE (ents 200) k ((k : Int) * (1 + t)) = (3, F, ents 200) := by
        unfold goB
        rw [h200, hlen, if_pos rfl]
      rw [hg, hwr] at h4 ⊢
      refine br_f (by simp; omega) (br_t rfl (br_f rfl ⟨rfl, ⟨by omega, by omega, F, by rw [ek, e2]; exact hS, by rw [ek, e2]; exact hL, by rw [ek, e2]; exact h4⟩, by dsimp only; omega⟩))
  · have q := of_decide_eq_false q
    have hi : i = 195 + m := by omega
    have hL200 := hL.len
    refine all_spec (i := 0) h3 rfl (by omega) fun r H4 s4 h4 => ⟨r, rfl, ?_⟩
    have hrl := (h4.own 0 rfl).1
    rw [flat_len eElen, hlen] at hrl
    have emin : (if 200 < 195 + m then (200 : Int) else 195 + m) = ((min i.toNat 200 : Nat) : Int) := by split <;> omega
    rw [emin]
    refine br_t (by simp; omega) (last_spec (i := 1) h4 rfl (by omega) ⟨_, rfl, ?_, h4.sub 3 rfl⟩)
    have hll : lastR (ents (min i.toNat 200)) = ((min i.toNat 200 : Nat) : Int) - 1 := by
      obtain ⟨k, hk⟩ : ∃ k, min i.toNat 200 = k + 1 := ⟨min i.toNat 200 - 1, by omega⟩
      rw [hk, hsucc]
      unfold lastR
      rw [List.getLast?_concat]
      show (k : Int) = _; omega
    rw [hll, wrap64_id (by omega) (by omega)]
    simp
theorem epochOpens_walk {H0 : Heap} {s : ByteArray} : FnH Tryd.prog 3 #[.string s] H0 fun r H' => r = .bool true ∧ HL.Sub H0 H' := by
  apply logboomlaw7_EpochOpens_fn
  unfold logboomlaw7_EpochOpens_vc
  refine shown_spec (Holds.whole H0) fun H1 h1 => ⟨_, rfl, br_intro (fun q => ⟨rfl, h1.sub 0 rfl⟩) (fun q => ?_)⟩
  have q := of_decide_eq_false q
  refine rcrc_spec (by omega) ⟨_, rfl, four_spec (crcN_lt _ (nb_byte s)) fun H2 s2 => ⟨_, rfl, ?_⟩⟩
  have hsz : (strN (fourN (crcN (nb s)))).size = 4 := by rw [← nb_len, nb_str (fourN_bytes _)]; rfl
  refine ⟨by rw [hsz]; omega, (h1.up s2).new fun q1 H3 h3 => ?_⟩
  obtain ⟨t, ht⟩ : ∃ t : ByteArray, strN (fourN (crcN (nb s))) ++ s = t := ⟨_, rfl⟩
  have htz : t.size ≤ 30004 := by rw [← ht, ByteArray.size_append, hsz]; omega
  rw [ht] at h3
  clear ht
  refine ⟨fun i H => 0 ≤ i ∧ i ≤ 2 ∧ HL.Holds [blk q1 (.cells #[.string s, .string t] 9 (0, 0)), ro H0] H, fun i _ => (2 - i).toNat, ⟨Int.le_refl _, by decide, h3⟩, ?_⟩
  rintro i H5 ⟨i0, i1, h5⟩
  refine br_intro (fun w => ?_) (fun w => ⟨rfl, h5.sub 1 rfl⟩)
  have w := of_decide_eq_true w
  obtain ⟨u, hu, hc⟩ : ∃ u : ByteArray, u.size ≤ 30004 ∧ (#[Value.string s, Value.string t] : Array Value)[i.toNat]? = some (.string u) := by
    have : i = 0 ∨ i = 1 := by omega
    rcases this with rfl | rfl
    · exact ⟨s, by omega, rfl⟩
    · exact ⟨t, htz, rfl⟩
  refine dnew_spec h5 (fun z => by omega) fun _ _ d H6 h6 => ⟨_, _, rfl, br_f rfl (br_f rfl ⟨q1, 0, rfl, i0, w, u, ?_, ?_⟩)⟩
  · rw [Nat.zero_add]; exact h6.cell 1 rfl hc
  have hrep := rep_nil 100000 u
  have hr0 : repC 100000 [] nmE u = 0 := by rw [hrep.1, if_neg (by omega)]
  refine replace_spec (n := nmE) (b := u) h6 fun H7 h7 => ⟨_, rfl, br_f (by rw [hr0]; rfl) ?_⟩
  rw [hrep.2.1 hr0] at h7
  have hoC : openC (oneF nmE u) nmE = readC u := by unfold openC; rw [look_one, get_one, if_neg (by simp)]
  have hoL : openL (oneF nmE u) nmE = readL u := by unfold openL; rw [look_one, get_one, if_neg (by simp)]
  have e2 : (i + 1).toNat = i.toNat + 1 := by omega
  rw [wrap64_id (n := i + 1) (by omega) (by omega)]
  refine open_spec (n := nmE) h7 (fun H8 hne h8 => ?_) fun c H8 he h8 => ?_
  · rw [hoC] at hne ⊢
    refine ⟨_, _, rfl, q1, 0, rfl, i0, w, u, by rw [Nat.zero_add]; exact h8.cell 1 rfl hc, rread7_spec h8 (by omega) (fun H9 _ h9 => ⟨⟨none, 0, 0⟩, _, rfl, br_f (by simp) (br_f ?_ (br_f ?_ ⟨rfl, ⟨by omega, by omega, h9.tail⟩, by dsimp only; omega⟩))⟩) fun r H9 hz _ => absurd hz hne⟩
    · have : (readC u != 0) = true := by simpa using hne
      rw [this]; rfl
    · simpa using hne
  · rw [hoC] at he
    rw [hoL] at h8
    have hl : (readL u).length ≤ 200 := by
      have hc2 : (readE (nb (u.extract 4 u.size))).isSome = true := by
        unfold readC at he
        split at he
        · cases he
        · split at he
          · cases he
          · split at he
            · rename_i z; exact z
            · cases he
      unfold readL
      cases e : readE (nb (u.extract 4 u.size)) with
      | none => rw [e] at hc2; cases hc2
      | some L =>
        have key : ∀ (m : Nat) (t i : Int) (l : List Nat) (L : List En) (r : List Nat), entsR m t i l = some (L, r) → L.length = m := by
          intro m
          induction m with
          | zero => intro t i l L r h; simp only [entsR, Option.some.injEq, Prod.mk.injEq] at h; rw [← h.1]; rfl
          | succ m ih =>
            intro t i l L r h
            rw [entsR_succ] at h
            split at h
            · obtain ⟨p, hp, h2⟩ := Option.map_eq_some_iff.1 h
              simp only [Prod.mk.injEq] at h2
              rw [← h2.1, List.length_cons, ih _ _ _ p.1 p.2 hp]
            · cases h
        unfold readE at e
        split at e
        · rename_i hcond
          unfold endE at e
          split at e
          · rename_i L' hE
            simp only [Option.some.injEq] at e
            subst e
            have := key _ _ _ _ _ _ hE
            show L'.length ≤ 200
            omega
          · cases e
        · cases e
    refine ⟨_, _, rfl, q1, 0, rfl, i0, w, u, by rw [Nat.zero_add]; exact h8.cell 2 rfl hc, rread7_spec h8 (by omega) (fun H9 hne _ => absurd he hne) fun r H9 _ h9 => ⟨r, _, rfl, br_f rfl (br_f rfl (br_t rfl ?_))⟩⟩
    have hr : Recs eE H9 r (readL u) := Own.recs eElen (by decide) (h9.own 0 rfl) (by omega)
    refine all_spec (i := 1) h9 rfl (by omega) fun r2 H10 s10 h10 => ⟨r2, rfl, ?_⟩
    have hr2 : Recs eE H10 r2 (readL u) := Own.recs eElen (by decide) (h10.own 0 rfl) (by omega)
    exact same_spec hr2 (Recs.mono _ _ s10 hr) ⟨_, rfl, br_f (by simp) ⟨rfl, ⟨by omega, by omega, h10.tail.tail.tail.tail⟩, by dsimp only; omega⟩⟩
end Go.Proofs.YtdgmifbcbmndgaaDoor
