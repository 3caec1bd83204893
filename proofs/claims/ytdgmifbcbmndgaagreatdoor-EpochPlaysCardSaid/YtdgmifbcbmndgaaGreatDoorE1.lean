/- Chapter 7: epochs: the program's functions: may, sum, Search, ahead, write. -/
import Derived.Test.YtdgmifbcbmndgaaGreatDoorEn
import Derived.Test.YtdgmifbcbmndgaaGreatDoorBd
import Derived.Test.YtdgmifbcbmndgaaGreatDoorDk
import Derived.Test.YtdgmifbcbmndgaaGreatDoorV3
namespace Go.Proofs.YtdgmifbcbmndgaaGreatDoor
open Go Go.HL
set_option maxHeartbeats 1600000
set_option maxRecDepth 10000

theorem strN_app (a b : List Nat) : strN a ++ strN b = strN (a ++ b) := by
  unfold strN
  cases h : (⟨(a.map UInt8.ofNat).toArray⟩ : ByteArray) ++ ⟨(b.map UInt8.ofNat).toArray⟩ with
  | mk d =>
    have : d = ((⟨(a.map UInt8.ofNat).toArray⟩ : ByteArray) ++ ⟨(b.map UInt8.ofNat).toArray⟩).data := by rw [h]
    rw [ByteArray.data_append] at this
    rw [this]; simp
theorem strN_nb (s : ByteArray) : strN (nb s) = s := nb_inj (nb_str (nb_byte s))
abbrev mayP (n : Int) : Prop := 0 ≤ n ∧ n ≤ 1000000000
theorem filt_take {α : Type} {p : α → Bool} : ∀ {L : List α}, L.Pairwise (fun a b => p b = true → p a = true) → L.filter p = L.take (L.filter p).length ∧ ∀ x ∈ L.drop (L.filter p).length, p x = false := by
  intro L
  induction L with
  | nil => intro _; simp
  | cons a l ih =>
    intro h
    obtain ⟨h1, h2⟩ := List.pairwise_cons.1 h
    obtain ⟨i1, i2⟩ := ih h2
    by_cases q : p a = true
    · rw [List.filter_cons_of_pos q, List.length_cons, List.take_succ_cons, List.drop_succ_cons, ← i1]
      exact ⟨rfl, i2⟩
    · have hn : l.filter p = [] := List.filter_eq_nil_iff.2 fun b hb w => q (h1 b hb w)
      rw [List.filter_cons_of_neg q, hn]
      refine ⟨rfl, fun x hx => ?_⟩
      have hx : x ∈ a :: l := by simpa using hx
      rcases List.mem_cons.1 hx with e | e
      · rw [e]; simpa using q
      · cases w : p x with
        | false => rfl
        | true => exact absurd (h1 x e w) q
/-- Terms and offsets rise. -/
def SrtE (L : List En) : Prop := L.Pairwise fun a b => a.1 < b.1 ∧ a.2.1 < b.2.1
abbrev aheadL (L : List En) (off : Int) : List En := L.filter fun e => decide (e.2.1 < off)
abbrev uptoL (L : List En) (ep : Int) : List En := L.filter fun e => decide (e.1 ≤ ep)
theorem SrtE.ahead {L : List En} (h : SrtE L) (off : Int) : aheadL L off = L.take (aheadL L off).length ∧ ∀ x ∈ L.drop (aheadL L off).length, ¬ x.2.1 < off := by
  obtain ⟨h1, h2⟩ := filt_take (p := fun e : En => decide (e.2.1 < off)) (h.imp fun {a b} hab => by simp only [decide_eq_true_eq]; omega)
  exact ⟨h1, fun x hx => by simpa using h2 x hx⟩
theorem SrtE.upto {L : List En} (h : SrtE L) (ep : Int) : uptoL L ep = L.take (uptoL L ep).length ∧ ∀ x ∈ L.drop (uptoL L ep).length, ¬ x.1 ≤ ep := by
  obtain ⟨h1, h2⟩ := filt_take (p := fun e : En => decide (e.1 ≤ ep)) (h.imp fun {a b} hab => by simp only [decide_eq_true_eq]; omega)
  exact ⟨h1, fun x hx => by simpa using h2 x hx⟩
theorem take_filt {α : Type} {p : α → Bool} {L : List α} (h : L.filter p = L.take (L.filter p).length) {i : Nat} {x : α} (hx : L[i]? = some x) (hi : i < (L.filter p).length) : p x = true := by
  have hm : x ∈ L.take (L.filter p).length := by
    refine List.mem_of_getElem? (i := i) ?_
    rw [List.getElem?_take, if_pos hi]; exact hx
  rw [← h] at hm
  exact (List.mem_filter.1 hm).2
theorem drop_filt {α : Type} {L : List α} {r i : Nat} {x : α} (hx : L[i]? = some x) (hi : r ≤ i) : x ∈ L.drop r := by
  refine List.mem_of_getElem? (i := i - r) ?_
  rw [List.getElem?_drop, show r + (i - r) = i by omega]; exact hx
/-- A cache. -/
def cch (c d : Nat) (n : ByteArray) (L : List En) : Chunk := fun H => ∃ s : Sl, HL.Holds [blk c (.cells #[.pointer (some ⟨d, 0, none⟩), .string n, .slice s.p s.n s.c] 65 (0, 0)), ownE s L] H
theorem cch_mono {c d : Nat} {n : ByteArray} {L : List En} : Mono (cch c d n L) := fun _ _ hs ⟨q, h⟩ => ⟨q, h.up hs⟩
theorem cch_open {cs : List Chunk} {H : Heap} {c d : Nat} {n : ByteArray} {L : List En} : HL.Holds (cch c d n L :: cs) H ↔ ∃ s : Sl, HL.Holds (blk c (.cells #[.pointer (some ⟨d, 0, none⟩), .string n, .slice s.p s.n s.c] 65 (0, 0)) :: ownE s L :: cs) H := Holds.open
theorem shr1 (z : Int) : shrI .u64 z 1 = z / 2 := by
  have e : shrI .u64 z 1 = z.fdiv 2 := rfl
  rw [e, Int.fdiv_eq_ediv_of_nonneg _ (by decide)]
theorem mid {i j : Int} (h0 : 0 ≤ i) (h1 : i ≤ j) (h2 : j ≤ 1000000000) : IntKind.wrap .i64 (shrI .u64 (IntKind.wrap .u64 (IntKind.wrap .i64 (i + j))) 1) = (i + j) / 2 := by
  rw [wrap64_id (n := i + j) (by omega) (by omega)]
  have e : IntKind.wrap .u64 (i + j) = i + j := by
    rw [wrap_u64']; omega
  rw [e, shr1, wrap64_id (by omega) (by omega)]
section
variable {cs : List Chunk} {H : Heap} {K : Value → Heap → Prop}
theorem may_spec {n : Int} (k : K (.bool (decide (mayP n))) H) : FnH Tryz.prog 30 #[.int .i64 n] H K := by
  apply epochs_may_fn
  unfold epochs_may_vc
  refine br_intro (fun q => ?_) (fun q => ?_)
  · have q := of_decide_eq_true q
    have : decide (0 ≤ n ∧ n ≤ 1000000000) = decide (n ≤ 1000000000) := by simp [show 0 ≤ n from q]
    rw [this] at k; exact k
  · have q := of_decide_eq_false q
    rw [decide_eq_false (fun z => q z.1)] at k; exact k
theorem esum_spec {s : ByteArray} (hs : s.size ≤ 268435456) (k : ∀ H', HL.Sub H H' → K (.string (strN (fourN (crcN (nb s))))) H') : FnH Tryz.prog 51 #[.string s] H K := by
  apply epochs_sum_fn
  unfold epochs_sum_vc
  refine crc_spec (by omega) ⟨_, rfl, (Holds.whole H).newS fun q H1 s1 h1 => ?_⟩
  have hc := crcN_lt (nb s) (nb_byte s)
  have e1 : ∀ k : Nat, k < 64 → IntKind.wrap .u8 (shrI .i64 (crcN (nb s) : Int) k) = ((crcN (nb s) / 2 ^ k % 256 : Nat) : Int) := fun k hk => by
    rw [shr_n _ _ hk, wrap_u8]; omega
  have ea : IntKind.wrap .u8 (shrI .i64 (crcN (nb s) : Int) 24) = ((crcN (nb s) / 16777216 % 256 : Nat) : Int) := e1 24 (by decide)
  have eb : IntKind.wrap .u8 (shrI .i64 (crcN (nb s) : Int) 16) = ((crcN (nb s) / 65536 % 256 : Nat) : Int) := e1 16 (by decide)
  have ec : IntKind.wrap .u8 (shrI .i64 (crcN (nb s) : Int) 8) = ((crcN (nb s) / 256 % 256 : Nat) : Int) := e1 8 (by decide)
  have ed : IntKind.wrap .u8 (crcN (nb s) : Int) = ((crcN (nb s) % 256 : Nat) : Int) := by rw [wrap_u8]; omega
  rw [ea, eb, ec, ed] at h1
  have ho : Own H1 5 1 ⟨some ⟨q, 0, none⟩, 4, 4⟩ (byV (fourN (crcN (nb s)))) := ⟨rfl, Nat.le_refl _, .inr ⟨q, _, rfl, h1.get 0 rfl, rfl, fun i hi => by
    have z : i = 0 ∨ i = 1 ∨ i = 2 ∨ i = 3 := by simp [fourN] at hi; omega
    rcases z with rfl | rfl | rfl | rfl <;> rfl⟩⟩
  exact toStr (r := ⟨some ⟨q, 0, none⟩, 4, 4⟩) ho (fourN_bytes _) ⟨_, rfl, k H1 s1⟩
theorem search_ahead {c0 c1 n r : Nat} (P : Nat → Bool) (hp : ∀ (i : Int) (K : Value → Heap → Prop), 0 ≤ i → i < n → K (.bool (P i.toNat)) H → FnH Tryz.prog 46 #[.int .i64 i, .pointer (some ⟨c0, 0, none⟩), .pointer (some ⟨c1, 0, none⟩)] H K)
    (hn : n ≤ 1000000000) (hr : r ≤ n) (h1 : ∀ j, j < r → P j = false) (h2 : ∀ j, r ≤ j → j < n → P j = true) (k : K (.int .i64 (r : Nat)) H) :
    FnH Tryz.prog 37 #[.int .i64 (n : Nat), .func (.func 46) #[] #[.pointer (some ⟨c0, 0, none⟩), .pointer (some ⟨c1, 0, none⟩)]] H K := by
  apply Search_ahead_fn
  unfold Search_ahead_vc
  refine ⟨fun i j H1 => H1 = H ∧ 0 ≤ i ∧ i ≤ r ∧ (r : Int) ≤ j ∧ j ≤ n, fun i j _ => (j - i).toNat, ⟨rfl, Int.le_refl _, by omega, by omega, Int.le_refl _⟩, ?_⟩
  rintro i j H1 ⟨rfl, i0, i1, j0, j1⟩
  refine br_intro (fun q => ?_) (fun q => ?_)
  · have q := of_decide_eq_true q
    rw [mid i0 (by omega) (by omega)]
    refine hp _ _ (by omega) (by omega) ⟨_, rfl, br_intro (fun w => ?_) (fun w => ?_)⟩
    · have w : P ((i + j) / 2).toNat = false := by simpa using w
      have : ¬ r ≤ ((i + j) / 2).toNat := fun z => by rw [h2 _ z (by omega)] at w; cases w
      rw [wrap64_id (n := (i + j) / 2 + 1) (by omega) (by omega)]
      exact ⟨rfl, ⟨rfl, by omega, by omega, j0, j1⟩, by dsimp only; omega⟩
    · have w : P ((i + j) / 2).toNat = true := by simpa using w
      have : ¬ ((i + j) / 2).toNat < r := fun z => by rw [h1 _ z] at w; cases w
      exact ⟨rfl, ⟨rfl, i0, i1, by omega, by omega⟩, by dsimp only; omega⟩
  · have q := of_decide_eq_false q
    have : i = r := by omega
    rw [this]; exact k
theorem search_End {c0 c1 n r : Nat} (P : Nat → Bool) (hp : ∀ (i : Int) (K : Value → Heap → Prop), 0 ≤ i → i < n → K (.bool (P i.toNat)) H → FnH Tryz.prog 38 #[.int .i64 i, .pointer (some ⟨c0, 0, none⟩), .pointer (some ⟨c1, 0, none⟩)] H K)
    (hn : n ≤ 1000000000) (hr : r ≤ n) (h1 : ∀ j, j < r → P j = false) (h2 : ∀ j, r ≤ j → j < n → P j = true) (k : K (.int .i64 (r : Nat)) H) :
    FnH Tryz.prog 37 #[.int .i64 (n : Nat), .func (.func 38) #[] #[.pointer (some ⟨c0, 0, none⟩), .pointer (some ⟨c1, 0, none⟩)]] H K := by
  apply Search_End_fn
  unfold Search_End_vc
  refine ⟨fun i j H1 => H1 = H ∧ 0 ≤ i ∧ i ≤ r ∧ (r : Int) ≤ j ∧ j ≤ n, fun i j _ => (j - i).toNat, ⟨rfl, Int.le_refl _, by omega, by omega, Int.le_refl _⟩, ?_⟩
  rintro i j H1 ⟨rfl, i0, i1, j0, j1⟩
  refine br_intro (fun q => ?_) (fun q => ?_)
  · have q := of_decide_eq_true q
    rw [mid i0 (by omega) (by omega)]
    refine hp _ _ (by omega) (by omega) ⟨_, rfl, br_intro (fun w => ?_) (fun w => ?_)⟩
    · have w : P ((i + j) / 2).toNat = false := by simpa using w
      have : ¬ r ≤ ((i + j) / 2).toNat := fun z => by rw [h2 _ z (by omega)] at w; cases w
      rw [wrap64_id (n := (i + j) / 2 + 1) (by omega) (by omega)]
      exact ⟨rfl, ⟨rfl, by omega, by omega, j0, j1⟩, by dsimp only; omega⟩
    · have w : P ((i + j) / 2).toNat = true := by simpa using w
      have : ¬ ((i + j) / 2).toNat < r := fun z => by rw [h1 _ z] at w; cases w
      exact ⟨rfl, ⟨rfl, i0, i1, by omega, by omega⟩, by dsimp only; omega⟩
  · have q := of_decide_eq_false q
    have : i = r := by omega
    rw [this]; exact k
theorem getD_of {α : Type} {L : List α} {i : Nat} {x d : α} (h : L[i]? = some x) : L.getD i d = x := by rw [List.getD, h]; rfl
abbrev e0 : En := (0, 0, ⟨#[]⟩)
theorem ahead_spec {c d i : Nat} {n : ByteArray} {L : List En} {off : Int} (h : HL.Holds cs H) (ei : cs[i]? = some (cch c d n L)) (hs : SrtE L) (hl : L.length ≤ 1000) (k : ∀ H', HL.Sub H H' → HL.Holds cs H' → K (.int .i64 ((aheadL L off).length : Nat)) H') : FnH Tryz.prog 31 #[.pointer (some ⟨c, 0, none⟩), .int .i64 off] H K := by
  apply epochs_Cache_ahead_fn
  unfold epochs_Cache_ahead_vc
  obtain ⟨s, hc⟩ := h.read i ei cch_mono
  refine (Holds.whole H).newS fun q1 H1 s1 h1 => h1.newS fun q2 H2 s2 h2 => ?_
  have s02 := s1.trans s2
  have hc2 := hc.up s02
  have hR : Recs eE H2 s L := Own.recs eElen (by decide) (hc2.own 1 rfl) (by omega)
  have hn := hR.len
  refine ⟨_, h2.cell 1 rfl rfl, ptrm_intro rfl ⟨s, hc2.cell 0 rfl rfl, ?_⟩⟩
  obtain ⟨f1, f2⟩ := hs.ahead off
  have hfl : (aheadL L off).length ≤ L.length := List.length_filter_le _ _
  refine search_ahead (r := (aheadL L off).length) (fun j => decide ((L.getD j e0).2.1 ≥ off)) (fun j K j0 j1 k => ?_) (by omega) (by omega) (fun j hj => ?_) (fun j hj hj2 => ?_) ⟨_, rfl, k H2 s02 (h.up s02)⟩
  · apply epochs_Cache_ahead_1_fn
    unfold epochs_Cache_ahead_1_vc
    obtain ⟨b, o, x, e1, e2, e3⟩ := hR.at_ eElen (by decide) j0 j1
    rw [getD_of e2] at k
    exact ⟨_, h2.cell 1 rfl rfl, ptrm_intro rfl ⟨s, hc2.cell 0 rfl rfl, b, o, e1, j0, j1, _, e3 1 _ rfl, _, h2.cell 0 rfl rfl, k⟩⟩
  · have hx : L[j]? = some (L.getD j e0) := by rw [List.getD, List.getElem?_eq_getElem (by omega)]; rfl
    have := take_filt f1 hx hj
    simp only [decide_eq_true_eq] at this
    exact decide_eq_false (by omega)
  · have hx : L[j]? = some (L.getD j e0) := by rw [List.getD, List.getElem?_eq_getElem (by omega)]; rfl
    have := f2 _ (drop_filt hx hj)
    exact decide_eq_true (by omega)
end
end Go.Proofs.YtdgmifbcbmndgaaGreatDoor
