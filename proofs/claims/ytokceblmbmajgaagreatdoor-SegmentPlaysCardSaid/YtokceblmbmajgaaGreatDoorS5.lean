/- Chapter 5: the segment's searches: Safe, Cut; Index. -/
import Derived.Test.YtokceblmbmajgaaGreatDoorS4
namespace Go.Proofs.YtokceblmbmajgaaGreatDoor
open Go Go.HL
set_option maxHeartbeats 3200000
set_option maxRecDepth 10000

theorem shr1 (z : Int) : shrI .u64 z 1 = z / 2 := by
  have e : shrI .u64 z 1 = z.fdiv 2 := rfl
  rw [e, Int.fdiv_eq_ediv_of_nonneg _ (by decide)]
theorem mid {i j : Int} (h0 : 0 ≤ i) (h1 : i ≤ j) (h2 : j ≤ 1000000000) : IntKind.wrap .i64 (shrI .u64 (IntKind.wrap .u64 (IntKind.wrap .i64 (i + j))) 1) = (i + j) / 2 := by
  rw [wrap64_id (n := i + j) (by omega) (by omega)]
  have e : IntKind.wrap .u64 (i + j) = i + j := by
    rw [wrap_u64']; omega
  rw [e, shr1, wrap64_id (by omega) (by omega)]
/-- How many come ahead of the first that a test does not take. -/
def cntN (p : Nat → Bool) (n : Nat) : Nat := ((List.range n).takeWhile p).length
theorem cnt_le (p : Nat → Bool) (n : Nat) : cntN p n ≤ n := by
  have := (List.takeWhile_prefix (l := List.range n) p).length_le
  rw [List.length_range] at this
  exact this
theorem cnt_lt {p : Nat → Bool} {n j : Nat} (h : j < cntN p n) : p j = true := by
  have ht := takeWhile_len p (List.range n)
  have hj : ((List.range n).takeWhile p)[j]? = some j := by
    have hle := cnt_le p n
    rw [ht, List.getElem?_take]
    unfold cntN at h
    rw [if_pos h, List.getElem?_range (by unfold cntN at hle; omega)]
  have := List.all_takeWhile (p := p) (l := List.range n)
  rw [List.all_eq_true] at this
  exact this j (List.mem_of_getElem? hj)
theorem cnt_at {p : Nat → Bool} {n : Nat} (h : cntN p n < n) : p (cntN p n) = false := by
  have hd := dropWhile_len p (List.range n)
  have hh := List.head?_dropWhile_not p (List.range n)
  have h' : (List.takeWhile p (List.range n)).length < n := h
  rw [hd, List.head?_drop, List.getElem?_range h'] at hh
  exact hh
/-- The offset behind the last safe batch. -/
def safeP (z : Int) (bs : List Ba) (j : Nat) : Bool := decide (((lenB (bs.take (j + 1)) : Nat) : Int) ≤ z)
def safeN (z : Int) (bs : List Ba) : Nat := cntN (safeP z bs) bs.length
theorem safe_rise {z : Int} {bs : List Ba} {j : Nat} (h0 : safeN z bs ≤ j) (h1 : j < bs.length) : safeP z bs j = false := by
  have h2 := cnt_at (p := safeP z bs) (n := bs.length) (by unfold safeN at h0; omega)
  have h3 := lenB_take_mono bs (i := safeN z bs + 1) (j := j + 1) (by omega)
  have h2 : safeP z bs (safeN z bs) = false := h2
  unfold safeP at h2 ⊢
  have h2 := of_decide_eq_false h2
  exact decide_eq_false (by omega)
def cutP (off : Int) (bs : List Ba) (j : Nat) : Bool := decide ((match bs[j]? with | some b => endB b | none => 0) ≤ off)
theorem cutP_some {off : Int} {bs : List Ba} {j : Nat} {b : Ba} (h : bs[j]? = some b) : cutP off bs j = decide (endB b ≤ off) := by unfold cutP; rw [h]
theorem cutN_eq {base off : Int} {bs : List Ba} (h : Chain okR base bs) : (cutB off bs).length = cntN (cutP off bs) bs.length := by
  refine takeWhile_at _ bs _ (cnt_le _ _) (fun j x hj hx => ?_) fun x hx => ?_
  · have := cnt_lt hj
    rw [cutP_some hx] at this; exact this
  · have := cnt_at (p := cutP off bs) (List.getElem?_eq_some_iff.1 hx).1
    rw [cutP_some hx] at this; exact this
theorem cutP_rise {base off : Int} {bs : List Ba} (h : Chain okR base bs) {j : Nat} (h0 : cntN (cutP off bs) bs.length ≤ j) (h1 : j < bs.length) : cutP off bs j = false := by
  have hlt : cntN (cutP off bs) bs.length < bs.length := by omega
  have h2 := cnt_at hlt
  obtain ⟨b, hb⟩ : ∃ b, bs[cntN (cutP off bs) bs.length]? = some b := ⟨_, List.getElem?_eq_getElem hlt⟩
  obtain ⟨c, hc⟩ : ∃ c, bs[j]? = some c := ⟨_, List.getElem?_eq_getElem h1⟩
  rw [cutP_some hb] at h2
  rw [cutP_some hc]
  have h2 := of_decide_eq_false h2
  have := cut_rise h hb hc h0 (by omega : endB b > off)
  exact decide_eq_false (by omega)
theorem ro_open {c : Chunk} {cs : List Chunk} {H H' : Heap} (h : HL.Holds cs H) (h' : HL.Holds [c, ro H] H') : HL.Holds (c :: cs) H' := by
  have h3 : HL.Holds (HL.Holds cs :: [c]) H' := h'.swap.head (d := HL.Holds cs) fun A hA => h.up hA
  exact (Holds.flat.1 h3).perm List.perm_append_comm
abbrev En := Int × Int × ByteArray
abbrev eE : En → List Value := fun e => [.int .i64 e.1, .int .i64 e.2.1, .string e.2.2]
theorem eElen : ∀ a, (eE a).length = 3 := fun _ => rfl
theorem okEn : ElemOK Tryz.prog 54 94 3 := ElemOK.of (by kernel_rfl)
abbrev ownE (s : Sl) (l : List En) : Chunk := own 94 3 s (l.flatMap eE)
/-- The index's entry of a batch. -/
def ixE1 (bs : List Ba) (j : Nat) : En := (((lenB (bs.take j) : Nat) : Int), (match bs[j]? with | some b => b.base | none => 0), ⟨#[]⟩)
def ixE (bs : List Ba) : List En := (idxI (froms 0 bs)).map (ixE1 bs)
section
variable {cs : List Chunk} {H : Heap} {K : Value → Heap → Prop}
theorem search_Safe {c0 c1 n r : Nat} (P : Nat → Bool) (hp : ∀ (i : Int) (K : Value → Heap → Prop), 0 ≤ i → i < n → K (.bool (P i.toNat)) H → FnH Tryz.prog 46 #[.int .i64 i, .pointer (some ⟨c0, 0, none⟩), .pointer (some ⟨c1, 0, none⟩)] H K)
    (hn : n ≤ 1000000000) (hr : r ≤ n) (h1 : ∀ j, j < r → P j = false) (h2 : ∀ j, r ≤ j → j < n → P j = true) (k : K (.int .i64 (r : Nat)) H) :
    FnH Tryz.prog 45 #[.int .i64 (n : Nat), .func (.func 46) #[] #[.pointer (some ⟨c0, 0, none⟩), .pointer (some ⟨c1, 0, none⟩)]] H K := by
  apply Search_Safe_fn
  unfold Search_Safe_vc
  refine ⟨fun i j H1 => H1 = H ∧ 0 ≤ i ∧ i ≤ r ∧ (r : Int) ≤ j ∧ j ≤ n, fun i j _ => (j - i).toNat, ⟨rfl, Int.le_refl _, by omega, by omega, Int.le_refl _⟩, ?_⟩
  rintro i j H1 ⟨rfl, i0, i1, j0, j1⟩
  refine br_intro (fun q => ?_) (fun q => ?_)
  · have q := of_decide_eq_true q
    rw [mid i0 (by omega) (by omega)]
    refine hp _ _ (by omega) (by omega) ⟨_, rfl, br_intro (fun w => ?_) (fun w => ?_)⟩
    · have w : P ((i + j) / 2).toNat = false := by simpa using w
      have : ¬ r ≤ ((i + j) / 2).toNat := fun z => by rw [h2 _ z (by omega)] at w; cases w
      rw [wrap64_id (n := (i + j) / 2 + 1) (by omega) (by omega)]
      exact ⟨rfl, ⟨rfl, by omega, by omega, j0, j1⟩, by dsimp only; omega⟩
    · have w : P ((i + j) / 2).toNat = true := by simpa using w
      have : ¬ ((i + j) / 2).toNat < r := fun z => by rw [h1 _ z] at w; cases w
      exact ⟨rfl, ⟨rfl, i0, i1, by omega, by omega⟩, by dsimp only; omega⟩
  · have q := of_decide_eq_false q
    have : i = r := by omega
    rw [this]; exact k
theorem search_Read {c0 c1 n r : Nat} (P : Nat → Bool) (hp : ∀ (i : Int) (K : Value → Heap → Prop), 0 ≤ i → i < n → K (.bool (P i.toNat)) H → FnH Tryz.prog 50 #[.int .i64 i, .pointer (some ⟨c0, 0, none⟩), .pointer (some ⟨c1, 0, none⟩)] H K)
    (hn : n ≤ 1000000000) (hr : r ≤ n) (h1 : ∀ j, j < r → P j = false) (h2 : ∀ j, r ≤ j → j < n → P j = true) (k : K (.int .i64 (r : Nat)) H) :
    FnH Tryz.prog 45 #[.int .i64 (n : Nat), .func (.func 50) #[] #[.pointer (some ⟨c0, 0, none⟩), .pointer (some ⟨c1, 0, none⟩)]] H K := by
  apply Search_Read_fn
  unfold Search_Read_vc
  refine ⟨fun i j H1 => H1 = H ∧ 0 ≤ i ∧ i ≤ r ∧ (r : Int) ≤ j ∧ j ≤ n, fun i j _ => (j - i).toNat, ⟨rfl, Int.le_refl _, by omega, by omega, Int.le_refl _⟩, ?_⟩
  rintro i j H1 ⟨rfl, i0, i1, j0, j1⟩
  refine br_intro (fun q => ?_) (fun q => ?_)
  · have q := of_decide_eq_true q
    rw [mid i0 (by omega) (by omega)]
    refine hp _ _ (by omega) (by omega) ⟨_, rfl, br_intro (fun w => ?_) (fun w => ?_)⟩
    · have w : P ((i + j) / 2).toNat = false := by simpa using w
      have : ¬ r ≤ ((i + j) / 2).toNat := fun z => by rw [h2 _ z (by omega)] at w; cases w
      rw [wrap64_id (n := (i + j) / 2 + 1) (by omega) (by omega)]
      exact ⟨rfl, ⟨rfl, by omega, by omega, j0, j1⟩, by dsimp only; omega⟩
    · have w : P ((i + j) / 2).toNat = true := by simpa using w
      have : ¬ ((i + j) / 2).toNat < r := fun z => by rw [h1 _ z] at w; cases w
      exact ⟨rfl, ⟨rfl, i0, i1, by omega, by omega⟩, by dsimp only; omega⟩
  · have q := of_decide_eq_false q
    have : i = r := by omega
    rw [this]; exact k
theorem search_Cut {c0 c1 n r : Nat} (P : Nat → Bool) (hp : ∀ (i : Int) (K : Value → Heap → Prop), 0 ≤ i → i < n → K (.bool (P i.toNat)) H → FnH Tryz.prog 58 #[.int .i64 i, .pointer (some ⟨c0, 0, none⟩), .pointer (some ⟨c1, 0, none⟩)] H K)
    (hn : n ≤ 1000000000) (hr : r ≤ n) (h1 : ∀ j, j < r → P j = false) (h2 : ∀ j, r ≤ j → j < n → P j = true) (k : K (.int .i64 (r : Nat)) H) :
    FnH Tryz.prog 45 #[.int .i64 (n : Nat), .func (.func 58) #[] #[.pointer (some ⟨c0, 0, none⟩), .pointer (some ⟨c1, 0, none⟩)]] H K := by
  apply Search_Cut_fn
  unfold Search_Cut_vc
  refine ⟨fun i j H1 => H1 = H ∧ 0 ≤ i ∧ i ≤ r ∧ (r : Int) ≤ j ∧ j ≤ n, fun i j _ => (j - i).toNat, ⟨rfl, Int.le_refl _, by omega, by omega, Int.le_refl _⟩, ?_⟩
  rintro i j H1 ⟨rfl, i0, i1, j0, j1⟩
  refine br_intro (fun q => ?_) (fun q => ?_)
  · have q := of_decide_eq_true q
    rw [mid i0 (by omega) (by omega)]
    refine hp _ _ (by omega) (by omega) ⟨_, rfl, br_intro (fun w => ?_) (fun w => ?_)⟩
    · have w : P ((i + j) / 2).toNat = false := by simpa using w
      have : ¬ r ≤ ((i + j) / 2).toNat := fun z => by rw [h2 _ z (by omega)] at w; cases w
      rw [wrap64_id (n := (i + j) / 2 + 1) (by omega) (by omega)]
      exact ⟨rfl, ⟨rfl, by omega, by omega, j0, j1⟩, by dsimp only; omega⟩
    · have w : P ((i + j) / 2).toNat = true := by simpa using w
      have : ¬ ((i + j) / 2).toNat < r := fun z => by rw [h1 _ z] at w; cases w
      exact ⟨rfl, ⟨rfl, i0, i1, by omega, by omega⟩, by dsimp only; omega⟩
  · have q := of_decide_eq_false q
    have : i = r := by omega
    rw [this]; exact k
/-- The segment's cells and lists, as they are read. -/
structure SegIn (H : Heap) (q d : Nat) (base : Int) (bs : List Ba) (p : Sl × Sl) : Prop where
  blk : H q = some (.cells #[.pointer (some ⟨d, 0, none⟩), .string nS, .int .i64 base, .slice p.1.p p.1.n p.1.c, .slice p.2.p p.2.n p.2.c] 76 (0, 0))
  all : Recs eO H p.1 (onesB 0 bs)
  some_ : Ints H p.2 (ixV bs)
  len : p.1.n = bs.length
theorem SegIn.cell {q d : Nat} {base : Int} {bs : List Ba} {p : Sl × Sl} (h : SegIn H q d base bs p) {o : Nat} {v : Value} (e : (#[.pointer (some ⟨d, 0, none⟩), .string nS, .int .i64 base, .slice p.1.p p.1.n p.1.c, .slice p.2.p p.2.n p.2.c] : Array Value)[o]? = some v) : cellH H ⟨q, o, none⟩ = some v := by
  rw [cellH_eq h.blk]; exact e
theorem SegIn.up {H' : Heap} {q d : Nat} {base : Int} {bs : List Ba} {p : Sl × Sl} (h : SegIn H q d base bs p) (s : HL.Sub H H') : SegIn H' q d base bs p := ⟨s _ _ h.blk, Recs.mono _ _ s h.all, h.some_.sub s, h.len⟩
theorem seg_in {q d i : Nat} {base : Int} {bs : List Ba} (h : HL.Holds cs H) (ei : cs[i]? = some (sgc q d base bs)) (hl : bs.length ≤ 4096) : ∃ p, SegIn H q d base bs p := by
  obtain ⟨p, hc⟩ := h.read i ei sgc_mono
  obtain ⟨h1, h2, h3⟩ := ones_recs hl hc
  exact ⟨p, hc.get 0 rfl, h1, h2, h3⟩
/-- A batch of the segment. -/
theorem SegIn.one {q d : Nat} {base : Int} {bs : List Ba} {p : Sl × Sl} (h : SegIn H q d base bs p) {j : Int} (h0 : 0 ≤ j) (h1 : j < p.1.n) : ∃ (c o : Nat) (b : Ba), p.1.p = some ⟨c, o, none⟩ ∧ bs[j.toNat]? = some b ∧
    ∀ (f : Nat) (v : Value), (eO (b.base, endB b, ((lenB (bs.take j.toNat) : Nat) : Int), ((lenB (bs.take j.toNat) + flen b : Nat) : Int)))[f]? = some v → cellH H ⟨c, o + j.toNat * 4 + f, none⟩ = some v := by
  obtain ⟨c, o, x, e1, e2, e3⟩ := h.all.at_ eOlen (by decide) h0 h1
  have hl := h.len
  have hj : j.toNat < bs.length := by omega
  obtain ⟨b, hb⟩ : ∃ b, bs[j.toNat]? = some b := ⟨_, List.getElem?_eq_getElem hj⟩
  rw [onesB_at hb] at e2
  cases e2
  refine ⟨c, o, b, e1, hb, fun f v hv => e3 f v ?_⟩
  rw [Nat.zero_add]; exact hv
theorem take_succ_len {bs : List Ba} {j : Nat} {b : Ba} (h : bs[j]? = some b) : lenB (bs.take (j + 1)) = lenB (bs.take j) + flen b := by
  obtain ⟨h1, h2⟩ := List.getElem?_eq_some_iff.1 h
  rw [List.take_succ_eq_append_getElem h1, lenB_app, h2]
  simp [lenB, flen]
theorem safe5_spec {q d i j : Nat} {size base z : Int} {bs : List Ba} {b : ByteArray} (h : HL.Holds cs H) (ei : cs[i]? = some (sgc q d base bs)) (ej : cs[j]? = some (dsk d size (F1 b z))) (hl : bs.length ≤ 4096) (k : ∀ H', HL.Sub H H' → K (.int .i64 (nextB base (bs.take (safeN z bs)))) H') : FnH Tryz.prog 15 #[.pointer (some ⟨q, 0, none⟩)] H K := by
  apply segment_Segment_Safe_fn
  unfold segment_Segment_Safe_vc
  obtain ⟨p, hp⟩ := seg_in h ei hl
  refine (Holds.whole H).new fun q1 H1 h1 => ?_
  have s1 := h1.sub 1 rfl
  have hp1 := hp.up s1
  refine ⟨_, h1.cell 0 rfl rfl, ptrm_intro rfl ⟨_, hp1.cell rfl, _, h1.cell 0 rfl rfl, ptrm_intro rfl ⟨_, hp1.cell rfl, ?_⟩⟩⟩
  have hle : safeN z bs ≤ bs.length := cnt_le _ _
  have fin : ∀ (q4 : Nat) (H4 : Heap), HL.Holds [blk q4 (.cells #[.int .i64 z] 3 (0, 0)), blk q1 (.cells #[.pointer (some ⟨q, 0, none⟩)] 32 (0, 0)), ro H] H4 → ∃ p4 : Option Addr, cellH H4 ⟨q1, 0, none⟩ = some (.pointer p4) ∧ ptrm p4 fun q5 o3 => ∃ l1 : Sl, cellH H4 ⟨q5, o3 + 3, none⟩ = some (.slice l1.p l1.n l1.c) ∧
      FnH Tryz.prog 45 #[.int .i64 (l1.n : Nat), .func (.func 46) #[] #[.pointer (some ⟨q1, 0, none⟩), .pointer (some ⟨q4, 0, none⟩)]] H4 fun r2 H5 => ∃ n2 : Int, r2 = .int .i64 n2 ∧ br ((n2 : Int) == 0) (∃ p5 : Option Addr, cellH H5 ⟨q1, 0, none⟩ = some (.pointer p5) ∧ ptrm p5 fun q6 o4 => ∃ n3 : Int, cellH H5 ⟨q6, o4 + 2, none⟩ = some (.int .i64 n3) ∧ K (.int .i64 n3) H5)
        (∃ p6 : Option Addr, cellH H5 ⟨q1, 0, none⟩ = some (.pointer p6) ∧ ptrm p6 fun q7 o5 => ∃ l2 : Sl, cellH H5 ⟨q7, o5 + 3, none⟩ = some (.slice l2.p l2.n l2.c) ∧ ∃ (q8 o6 : Nat), (l2.p : Option Addr) = some ⟨q8, o6, none⟩ ∧ 0 ≤ (IntKind.wrap .i64 (n2 - 1) : Int) ∧ (IntKind.wrap .i64 (n2 - 1) : Int) < (l2.n : Nat) ∧
          ∃ n4 : Int, cellH H5 ⟨q8, o6 + Int.toNat (IntKind.wrap .i64 (n2 - 1)) * 4 + 1, none⟩ = some (.int .i64 n4) ∧ K (.int .i64 n4) H5) := fun q4 H4 h4 => by
    have s4 := h4.sub 2 rfl
    have hp4 := hp.up s4
    have hn4 := hp4.len
    refine ⟨_, h4.cell 1 rfl rfl, ptrm_intro rfl ⟨p.1, hp4.cell rfl, ?_⟩⟩
    refine search_Safe (r := safeN z bs) (fun j => !safeP z bs j) (fun j K j0 j1 k => ?_) (by omega) (by omega) (fun j hj => ?_) (fun j hj hj2 => ?_) ⟨_, rfl, ?_⟩
    · apply segment_Segment_Safe_1_fn
      unfold segment_Segment_Safe_1_vc
      obtain ⟨c, o, b, e1, e2, e3⟩ := hp4.one j0 j1
      refine ⟨_, h4.cell 1 rfl rfl, ptrm_intro rfl ⟨p.1, hp4.cell rfl, c, o, e1, j0, j1, _, e3 3 _ rfl, _, h4.cell 0 rfl rfl, ?_⟩⟩
      unfold safeP at k
      rw [take_succ_len e2] at k
      have e : (!decide (((lenB (bs.take j.toNat) + flen b : Nat) : Int) ≤ z)) = decide (((lenB (bs.take j.toNat) + flen b : Nat) : Int) > z) := by
        by_cases hh : ((lenB (bs.take j.toNat) + flen b : Nat) : Int) ≤ z
        · rw [decide_eq_true hh, decide_eq_false (by omega)]; rfl
        · rw [decide_eq_false hh, decide_eq_true (by omega)]; rfl
      rw [e] at k
      exact k
    · have := cnt_lt (p := safeP z bs) (n := bs.length) hj
      show (!safeP z bs j) = false
      rw [this]; rfl
    · have := safe_rise (z := z) (bs := bs) hj (by omega)
      show (!safeP z bs j) = true
      rw [this]; rfl
    · have k := k H4 s4
      by_cases e0 : safeN z bs = 0
      · rw [e0, List.take_zero, nextB_nil] at k
        exact br_t (by rw [e0]; rfl) ⟨_, h4.cell 1 rfl rfl, ptrm_intro rfl ⟨_, hp4.cell rfl, k⟩⟩
      · rw [wrap64_id (n := ((safeN z bs : Nat) : Int) - 1) (by omega) (by omega)]
        obtain ⟨c, o, b, e1, e2, e3⟩ := hp4.one (j := ((safeN z bs : Nat) : Int) - 1) (by omega) (by omega)
        have ej : (((safeN z bs : Nat) : Int) - 1).toNat = safeN z bs - 1 := by omega
        rw [ej] at e2
        obtain ⟨hlt, hb⟩ := List.getElem?_eq_some_iff.1 e2
        have et : bs.take (safeN z bs) = bs.take (safeN z bs - 1) ++ [b] := by
          have : safeN z bs = safeN z bs - 1 + 1 := by omega
          rw [this, List.take_succ_eq_append_getElem hlt, hb, Nat.add_sub_cancel]
        rw [et, nextB_snoc] at k
        exact br_f (by simp; omega) ⟨_, h4.cell 1 rfl rfl, ptrm_intro rfl ⟨p.1, hp4.cell rfl, c, o, e1, by omega, by omega, _, e3 1 _ rfl, k⟩⟩
  constructor
  · refine synced_spec (h.up s1) ej ⟨_, rfl, HL.Sub.refl _, ?_⟩
    rw [get1]
    refine h1.newS fun q4 H3 s3 h3 => ⟨s3, h3.store 0 rfl (by simp) fun H4 h4 => fin q4 H4 h4⟩
  · refine h1.newS fun q4 H3 s3 h3 => ⟨s3, synced_spec (h.up (s1.trans s3)) ej ⟨_, rfl, s3, ?_⟩⟩
    rw [get1]
    exact h3.store 0 rfl (by simp) fun H4 h4 => fin q4 H4 h4
theorem index5_spec {q d i : Nat} {base : Int} {bs : List Ba} (h : HL.Holds cs H) (ei : cs[i]? = some (sgc q d base bs)) (hl : bs.length ≤ 4096) (k : ∀ (r : Sl) H', HL.Sub H H' → HL.Holds (ownE r (ixE bs) :: cs) H' → K (.slice r.p r.n r.c) H') : FnH Tryz.prog 20 #[.pointer (some ⟨q, 0, none⟩)] H K := by
  apply segment_Segment_Index_fn
  unfold segment_Segment_Index_vc
  obtain ⟨p, hp⟩ := seg_in h ei hl
  have hin := hp.some_.len
  rw [List.length_map] at hin
  have hil := ixV_len bs
  rw [List.length_map] at hil
  refine ⟨p.2, hp.cell rfl, fun r n H' => 0 ≤ n ∧ n ≤ p.2.n ∧ HL.Holds [ownE r ((ixE bs).take n.toNat), ro H] H', fun _ n _ => ((p.2.n : Int) - n).toNat, ⟨Int.le_refl _, by omega, (Holds.whole H).own_nil 94 3⟩, ?_⟩
  rintro r n H1 ⟨n0, n1, h1⟩
  have s1 := h1.sub 1 rfl
  have hp1 := hp.up s1
  have hrl : r.n = ((ixE bs).take n.toNat).length := (Own.recs eElen (by decide) (h1.own 0 rfl) (by rw [List.length_take, ixE, List.length_map]; omega)).len
  rw [List.length_take, ixE, List.length_map] at hrl
  refine br_intro (fun w => ?_) (fun w => ?_)
  · have w := of_decide_eq_true w
    obtain ⟨q1, o1, g1, g2, g3, g4⟩ := hp1.some_.at_ n0 w
    obtain ⟨m, hm⟩ : ∃ m, (idxI (froms 0 bs))[n.toNat]? = some m := ⟨_, List.getElem?_eq_getElem (by omega)⟩
    have hml := idxI_lt _ m (List.mem_of_getElem? hm)
    rw [froms_len] at hml
    have hgd : (ixV bs).getD n.toNat 0 = (m : Int) := by rw [List.getD, List.getElem?_map, hm]; rfl
    rw [hgd] at g4
    have hpl := hp1.len
    obtain ⟨c, o, b, e1, e2, e3⟩ := hp1.one (j := (m : Int)) (by omega) (by omega)
    have e2 : bs[m]? = some b := e2
    rw [wrap64_id (n := n + 1) (by omega) (by omega)]
    refine ⟨q1, o1, g1, g2, g3, _, g4, p.1, hp1.cell rfl, c, o, e1, by omega, by omega, _, e3 2 _ rfl, p.1, hp1.cell rfl, c, o, e1, by omega, by omega, _, e3 0 _ rfl, ?_⟩
    refine pushS okEn h1 (xs := [.int .i64 ((lenB (bs.take m) : Nat) : Int), .int .i64 b.base, .string (⟨#[]⟩ : ByteArray)]) (m := 1) rfl rfl (by omega) fun r2 H2 h2 n2 => ⟨r2, rfl, rfl, ⟨by omega, by omega, ?_⟩, by dsimp only; omega⟩
    have et : (ixE bs).take (n + 1).toNat = (ixE bs).take n.toNat ++ [((((lenB (bs.take m) : Nat) : Int), b.base, (⟨#[]⟩ : ByteArray)) : En)] := by
      have : (ixE bs)[n.toNat]? = some (((lenB (bs.take m) : Nat) : Int), b.base, ⟨#[]⟩) := by
        unfold ixE
        rw [List.getElem?_map, hm]
        show some (ixE1 bs m) = _
        unfold ixE1
        rw [e2]
      exact take_step n0 this
    rw [et]
    show HL.Holds [own 94 3 r2 (List.flatMap eE _), ro H] H2
    rw [List.flatMap_append]
    exact h2
  · have w := of_decide_eq_false w
    have e : (ixE bs).take n.toNat = ixE bs := List.take_of_length_le (by rw [ixE, List.length_map]; omega)
    rw [e] at h1
    exact k r H1 s1 (ro_open h h1)
theorem ixV_take (bs : List Ba) (n : Nat) : ixV (bs.take n) = butI (ixV bs) n := by
  show (idxI (froms 0 (bs.take n))).map _ = List.filter _ ((idxI (froms 0 bs)).map _)
  rw [froms_take, idxI_take, List.filter_map]
  congr 1
  apply List.filter_congr
  intro j _
  by_cases e : j < n
  · simp [e]
  · simp [e]; omega
theorem cut5_spec {q d : Nat} {size base z off : Int} {bs : List Ba} (h : HL.Holds (sgc q d base bs :: dsk d size (F1 (fB bs) z) :: cs) H) (hs : SegOk base bs) (k0 : off < base → ∀ H', HL.Holds (sgc q d base bs :: dsk d size (F1 (fB bs) z) :: cs) H' → K (.int .i64 1) H')
    (k : ¬ off < base → ∀ H', HL.Holds (sgc q d base (cutB off bs) :: dsk d size (F1 (fB (cutB off bs)) (if ((lenB (cutB off bs) : Nat) : Int) < z then (lenB (cutB off bs) : Nat) else z)) :: cs) H' → K (.int .i64 0) H') : FnH Tryz.prog 25 #[.pointer (some ⟨q, 0, none⟩), .int .i64 off] H K := by
  apply segment_Segment_Cut_fn
  unfold segment_Segment_Cut_vc
  refine h.new fun q1 H1 h1 => h1.new fun q2 H2 h2 => ?_
  obtain ⟨p, hp⟩ := seg_in (i := 2) h2 rfl hs.len
  refine ⟨_, h2.cell 0 rfl rfl, _, h2.cell 1 rfl rfl, ptrm_intro rfl ⟨_, hp.cell rfl, br_intro (fun w => k0 (of_decide_eq_true w) H2 h2.tail.tail) (fun w => ?_)⟩⟩
  have w := of_decide_eq_false w
  have k := k w
  have hcb := takeWhile_len (fun b => decide (endB b ≤ off)) bs
  have hcn := cutN_eq (off := off) hs.chain
  have hcb : cutB off bs = bs.take (cutB off bs).length := hcb
  rw [hcn] at hcb
  generalize hr : cntN (cutP off bs) bs.length = r at *
  rw [hcb] at k
  have hrl : r ≤ bs.length := by rw [← hr]; exact cnt_le _ _
  have hpl := hp.len
  have hsl := hs.len
  refine ⟨_, h2.cell 1 rfl rfl, ptrm_intro rfl ⟨p.1, hp.cell rfl, ?_⟩⟩
  refine search_Cut (r := r) (fun j => !cutP off bs j) (fun j K j0 j1 k => ?_) (by omega) (by omega) (fun j hj => ?_) (fun j hj hj2 => ?_) ⟨_, rfl, ?_⟩
  · apply segment_Segment_Cut_1_fn
    unfold segment_Segment_Cut_1_vc
    obtain ⟨c, o, b, e1, e2, e3⟩ := hp.one j0 j1
    refine ⟨_, h2.cell 1 rfl rfl, ptrm_intro rfl ⟨p.1, hp.cell rfl, c, o, e1, j0, j1, _, e3 1 _ rfl, _, h2.cell 0 rfl rfl, ?_⟩⟩
    unfold cutP at k
    rw [e2] at k
    have e : (!decide (endB b ≤ off)) = decide (endB b > off) := by
      by_cases hh : endB b ≤ off
      · rw [decide_eq_true hh, decide_eq_false (by omega)]; rfl
      · rw [decide_eq_false hh, decide_eq_true (by omega)]; rfl
    dsimp only at k
    rw [e] at k
    exact k
  · have := cnt_lt (p := cutP off bs) (n := bs.length) (j := j) (by omega)
    show (!cutP off bs j) = false
    rw [this]; rfl
  · have := cutP_rise (off := off) hs.chain (j := j) (by omega) (by omega)
    show (!cutP off bs j) = true
    rw [this]; rfl
  obtain ⟨z0, z1, z2, z3⟩ := dsk_safe (h.pull 1 rfl)
  rw [fB_size] at z1 z2
  refine h2.new fun q5 H4 h4 => h4.store 0 rfl (by simp) fun H5 h5 => ?_
  have h5 : HL.Holds (blk q5 (.cells #[.int .i64 (r : Nat)] 3 (0, 0)) :: blk q2 (.cells #[.int .i64 off] 3 (0, 0)) :: blk q1 (.cells #[.pointer (some ⟨q, 0, none⟩)] 32 (0, 0)) :: sgc q d base bs :: dsk d size (F1 (fB bs) z) :: cs) H5 := h5
  obtain ⟨p5, hp5⟩ := seg_in (i := 3) h5 rfl hs.len
  have hpl5 := hp5.len
  refine ⟨_, h5.cell 0 rfl rfl, _, h5.cell 2 rfl rfl, ptrm_intro rfl ⟨p5.1, hp5.cell rfl, br_intro (fun w2 => ?_) (fun w2 => ?_)⟩⟩
  · have w2 := of_decide_eq_true w2
    obtain ⟨c, o, b, e1, e2, e3⟩ := hp5.one (j := (r : Int)) (by omega) (by omega)
    have e3 : cellH H5 ⟨c, o + ((r : Nat) : Int).toNat * 4 + 2, none⟩ = some (.int .i64 ((lenB (bs.take r) : Nat) : Int)) := e3 2 _ rfl
    refine ⟨_, h5.cell 2 rfl rfl, ptrm_intro rfl ⟨_, hp5.cell rfl, _, h5.cell 2 rfl rfl, ptrm_intro rfl ⟨_, hp5.cell rfl, _, h5.cell 2 rfl rfl, ptrm_intro rfl ⟨p5.1, hp5.cell rfl, _, h5.cell 0 rfl rfl, c, o, e1, by omega, by omega, _, e3, ?_⟩⟩⟩⟩
    have hle := lenB_take_mono bs (i := r) (j := bs.length) hrl
    rw [List.take_length] at hle
    refine cut_spec (h5.pull 4 rfl) fun H6 h6 => ⟨_, rfl, ?_⟩
    have hex : (fB bs).extract 0 (lenB (bs.take r)) = fB (bs.take r) := by
      have hsplit : bs.flatMap frameB = (bs.take r).flatMap frameB ++ (bs.drop r).flatMap frameB := by rw [← List.flatMap_append, List.take_append_drop]
      show (strN (bs.flatMap frameB)).extract 0 _ = _
      rw [hsplit]
      exact ext_mid (p := []) (by simp) (frames_b _) (frames_b _) rfl (by simp [lenB])
    rw [cut1 (by omega) (by rw [fB_size]; omega), Int.toNat_natCast, hex] at h6
    have h6 : HL.Holds (sgc q d base bs :: dsk d size (F1 (fB (bs.take r)) (if ((lenB (bs.take r) : Nat) : Int) < z then (lenB (bs.take r) : Nat) else z)) :: blk q5 (.cells #[.int .i64 (r : Nat)] 3 (0, 0)) :: blk q2 (.cells #[.int .i64 off] 3 (0, 0)) :: blk q1 (.cells #[.pointer (some ⟨q, 0, none⟩)] 32 (0, 0)) :: cs) H6 := h6.pull 4 rfl
    obtain ⟨p6, h6b⟩ := sgc_open.1 h6
    obtain ⟨hR6, hI6, hl6⟩ := ones_recs hs.len h6b
    have hcap := hR6.cap
    have hI6l := hI6.len
    have hixl := ixV_len bs
    refine ⟨_, h6b.cell 6 rfl rfl, _, h6b.cell 6 rfl rfl, ptrm_intro rfl ⟨p6.1, h6b.cell 0 rfl rfl, _, h6b.cell 4 rfl rfl, by omega, by omega, ptrm_intro rfl (h6b.store 0 rfl (by simp) fun H7 h7 => ?_)⟩⟩
    have h7 : HL.Holds (blk q (.cells #[.pointer (some ⟨d, 0, none⟩), .string nS, .int .i64 base, .slice (p6.1.upto r 4).p (p6.1.upto r 4).n (p6.1.upto r 4).c, .slice p6.2.p p6.2.n p6.2.c] 76 (0, 0)) :: own 82 4 p6.1 ((onesB 0 bs).flatMap eO) :: own 3 1 p6.2 (iv (ixV bs)) ::
      dsk d size (F1 (fB (bs.take r)) (if ((lenB (bs.take r) : Nat) : Int) < z then (lenB (bs.take r) : Nat) else z)) :: blk q5 (.cells #[.int .i64 (r : Nat)] 3 (0, 0)) :: blk q2 (.cells #[.int .i64 off] 3 (0, 0)) :: blk q1 (.cells #[.pointer (some ⟨q, 0, none⟩)] 32 (0, 0)) :: cs) H7 := h7
    have h8 := h7.turn 1 rfl (d := own 82 4 (p6.1.upto r 4) ((onesB 0 (bs.take r)).flatMap eO)) fun A hA => by
      have := hA.shorten (i := (r : Int)) (by omega) (by omega)
      rw [Int.toNat_natCast, ← flat_take eOlen, ← onesB_take] at this
      exact this
    have h9 : HL.Holds (own 3 1 p6.2 (iv (ixV bs)) :: blk q5 (.cells #[.int .i64 (r : Nat)] 3 (0, 0)) :: blk q (.cells #[.pointer (some ⟨d, 0, none⟩), .string nS, .int .i64 base, .slice (p6.1.upto r 4).p (p6.1.upto r 4).n (p6.1.upto r 4).c, .slice p6.2.p p6.2.n p6.2.c] 76 (0, 0)) :: own 82 4 (p6.1.upto r 4) ((onesB 0 (bs.take r)).flatMap eO) ::
      dsk d size (F1 (fB (bs.take r)) (if ((lenB (bs.take r) : Nat) : Int) < z then (lenB (bs.take r) : Nat) else z)) :: blk q2 (.cells #[.int .i64 off] 3 (0, 0)) :: blk q1 (.cells #[.pointer (some ⟨q, 0, none⟩)] 32 (0, 0)) :: cs) H7 := (h8.pull 4 rfl).pull 3 rfl
    have fin : ∀ (l6 : Sl) (H8 : Heap), HL.Holds (own 3 1 l6 (iv (butI (ixV bs) r)) :: blk q5 (.cells #[.int .i64 (r : Nat)] 3 (0, 0)) :: blk q (.cells #[.pointer (some ⟨d, 0, none⟩), .string nS, .int .i64 base, .slice (p6.1.upto r 4).p (p6.1.upto r 4).n (p6.1.upto r 4).c, .slice p6.2.p p6.2.n p6.2.c] 76 (0, 0)) :: own 82 4 (p6.1.upto r 4) ((onesB 0 (bs.take r)).flatMap eO) ::
        dsk d size (F1 (fB (bs.take r)) (if ((lenB (bs.take r) : Nat) : Int) < z then (lenB (bs.take r) : Nat) else z)) :: blk q2 (.cells #[.int .i64 off] 3 (0, 0)) :: blk q1 (.cells #[.pointer (some ⟨q, 0, none⟩)] 32 (0, 0)) :: cs) H8 →
        (∃ u, cellH H8 ⟨q, 0 + 4, none⟩ = some u) ∧ frozenH H8 ⟨q, 0 + 4, none⟩ = false ∧ letH (Heap.set H8 ⟨q, 0 + 4, none⟩ (.slice l6.p l6.n l6.c)) fun H9 => K (.int .i64 0) H9 := fun l6 H8 h10 => h10.store 2 rfl (by simp) fun H9 h11 => k H9 (sgc_open.2 ⟨(p6.1.upto r 4, l6), by
          rw [ixV_take]
          have h11 : HL.Holds (own 3 1 l6 (iv (butI (ixV bs) r)) :: blk q5 (.cells #[.int .i64 (r : Nat)] 3 (0, 0)) :: blk q (.cells #[.pointer (some ⟨d, 0, none⟩), .string nS, .int .i64 base, .slice (p6.1.upto r 4).p (p6.1.upto r 4).n (p6.1.upto r 4).c, .slice l6.p l6.n l6.c] 76 (0, 0)) :: own 82 4 (p6.1.upto r 4) ((onesB 0 (bs.take r)).flatMap eO) ::
            dsk d size (F1 (fB (bs.take r)) (if ((lenB (bs.take r) : Nat) : Int) < z then (lenB (bs.take r) : Nat) else z)) :: blk q2 (.cells #[.int .i64 off] 3 (0, 0)) :: blk q1 (.cells #[.pointer (some ⟨q, 0, none⟩)] 32 (0, 0)) :: cs) H9 := h11
          exact (((((h11.pull 5 rfl).tail).pull 5 rfl).tail.pull 1 rfl).tail).down 2⟩)
    refine ⟨_, h9.cell 6 rfl rfl, ptrm_intro rfl ⟨p6.2, h9.cell 2 rfl rfl, ⟨_, h9.cell 6 rfl rfl, HL.Sub.refl _, delete_spec h9 (by omega) fun l6 H8 h10 => ⟨l6, rfl, ptrm_intro rfl (fin l6 H8 h10)⟩⟩, delete_spec h9 (by omega) fun l6 H8 h10 => ⟨l6, rfl, _, h10.cell 6 rfl rfl, ptrm_intro rfl (fin l6 H8 h10)⟩⟩⟩
  · have w2 := of_decide_eq_false w2
    have e : r = bs.length := by omega
    have e2 : bs.take r = bs := by rw [e, List.take_length]
    rw [e2, if_neg (by omega)] at k
    exact k H5 h5.tail.tail.tail
end
end Go.Proofs.YtokceblmbmajgaaGreatDoor
