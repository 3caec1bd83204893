/- Chapter 7: epochs: the program's functions: Open, All, Last, End, Begin, Cut, Delete. -/
import Derived.Test.YtdgmifbcbmndgaaGreatDoorE3
namespace Go.Proofs.YtdgmifbcbmndgaaGreatDoor
open Go Go.HL
set_option maxHeartbeats 1600000
set_option maxRecDepth 10000

def openC (F : Fs) (n : ByteArray) : Int := if lookL F n = none then 0 else readC (getF F n).1
def openL (F : Fs) (n : ByteArray) : List En := if lookL F n = none then [] else readL (getF F n).1
def lastR (L : List En) : Int := (L.getLast?.map Prod.fst).getD (-1)
def endR (L : List En) (ep nx : Int) : Int × Int := if (uptoL L ep).length = 0 then (-1, -1) else if (uptoL L ep).length = L.length then ((L.getD ((uptoL L ep).length - 1) e0).1, nx) else ((L.getD ((uptoL L ep).length - 1) e0).1, (L.getD (uptoL L ep).length e0).2.1)
def wr (size : Int) (F : Fs) (n : ByteArray) (L l : List En) : Int × Fs × List En := (wrC size F n L l, wrF size F n L l, wrL size F n L l)
def goB (size : Int) (F : Fs) (n : ByteArray) (L : List En) (ep off : Int) : Int × Fs × List En := if (aheadL L off).length = 200 then (3, F, L) else wr size F n L (aheadL L off ++ [(ep, off, ⟨#[]⟩)])
def beginR (size : Int) (F : Fs) (n : ByteArray) (L : List En) (ep off : Int) : Int × Fs × List En :=
  if ¬ (mayP ep ∧ mayP off) then (1, F, L) else match L.getLast? with
  | none => goB size F n L ep off
  | some x => if ep = x.1 ∧ off ≥ x.2.1 then (0, F, L) else if ep ≤ x.1 then (13, F, L) else goB size F n L ep off
def cutR (size : Int) (F : Fs) (n : ByteArray) (L : List En) (off : Int) : Int × Fs × List En := if ¬ mayP off then (1, F, L) else wr size F n L (aheadL L off)
/-- What is left of the entries that end behind an offset. -/
def delE (L : List En) (off : Int) : List En := match L.drop ((aheadL L (off + 1)).length - 1) with
  | [] => []
  | x :: t => (x.1, (if off > x.2.1 then off else x.2.1), x.2.2) :: t
def deleteR (size : Int) (F : Fs) (n : ByteArray) (L : List En) (off : Int) : Int × Fs × List En := if ¬ mayP off then (1, F, L) else wr size F n L (delE L off)
/-- What is kept of a cache's entries. -/
structure EOk (L : List En) : Prop where
  srt : SrtE L
  len : L.length ≤ 200
  may : ∀ e ∈ L, mayP e.1 ∧ mayP e.2.1 ∧ e.2.2 = ⟨#[]⟩
theorem EOk.i64 {L : List En} (h : EOk L) : ∀ e ∈ L, i64B e.1 ∧ i64B e.2.1 := fun e he => by
  obtain ⟨h1, h2, -⟩ := h.may e he
  exact ⟨⟨by omega, by omega⟩, by omega, by omega⟩
theorem nd_t {p : Prop} [Decidable p] (h : (!decide p) = true) : ¬ p := fun z => by rw [decide_eq_true z] at h; cases h
theorem nd_f {p : Prop} [Decidable p] (h : (!decide p) = false) : p := Decidable.byContradiction fun z => by rw [decide_eq_false z] at h; cases h
section
variable {cs : List Chunk} {H : Heap} {K : Value → Heap → Prop}
theorem open_spec {d : Nat} {size : Int} {F : Fs} {n : ByteArray} (h : HL.Holds (dsk d size F :: cs) H) (k0 : ∀ H', openC F n ≠ 0 → HL.Holds (dsk d size F :: cs) H' → K (.tuple #[.pointer none, .int .i64 (openC F n)]) H')
    (k1 : ∀ c H', openC F n = 0 → HL.Holds (cch c d n (openL F n) :: dsk d size F :: cs) H' → K (.tuple #[.pointer (some ⟨c, 0, none⟩), .int .i64 0]) H') : FnH Tryz.prog 19 #[.pointer (some ⟨d, 0, none⟩), .string n] H K := by
  apply epochs_Open_fn
  unfold epochs_Open_vc
  have hsz : (getF F n).1.size ≤ 268435456 := by
    obtain ⟨mb, fs, ⟨hB, hp⟩, -⟩ := dsk_open.1 h
    have := (hB.get n).1
    have := hB.use
    have := hB.s1
    omega
  refine h.new fun c H1 h1 => read_spec (i := 1) h1 rfl ⟨_, _, rfl, ?_⟩
  have h2 : HL.Holds (cch c d n [] :: dsk d size F :: cs) H1 := cch_open.2 ⟨⟨none, 0, 0⟩, (h1.own_nil 51 3).swap⟩
  unfold openC at k0 k1
  unfold openL at k1
  by_cases e : lookL F n = none
  · rw [if_pos e, if_pos e] at k1
    rw [if_pos e]
    exact br_t rfl (k1 c H1 rfl h2)
  · rw [if_neg e, if_neg e] at k1
    rw [if_neg e] at k0
    rw [if_neg e]
    refine br_f rfl (cread_spec h2 hsz (fun H3 hc h3 => ⟨_, rfl, br_t (by simpa using hc) (k0 H3 hc h3)⟩) fun H3 hc h3 => ⟨_, rfl, br_f rfl (k1 c H3 hc h3)⟩)
theorem all_spec {c d i : Nat} {n : ByteArray} {L : List En} (h : HL.Holds cs H) (ei : cs[i]? = some (cch c d n L)) (hl : L.length ≤ 1000) (k : ∀ (r : Sl) H', HL.Sub H H' → HL.Holds (ownE r L :: cs) H' → K (.slice r.p r.n r.c) H') : FnH Tryz.prog 20 #[.pointer (some ⟨c, 0, none⟩)] H K := by
  apply epochs_Cache_All_fn
  unfold epochs_Cache_All_vc
  obtain ⟨s, hc⟩ := h.read i ei cch_mono
  have hR : Recs eE H s L := Own.recs eElen (by decide) (hc.own 1 rfl) (by omega)
  exact ⟨s, hc.cell 0 rfl rfl, eclone_spec h hR (by omega) fun r H' s' h' => ⟨r, rfl, k r H' s' h'⟩⟩
theorem last_spec {c d i : Nat} {n : ByteArray} {L : List En} (h : HL.Holds cs H) (ei : cs[i]? = some (cch c d n L)) (hl : L.length ≤ 1000) (k : K (.int .i64 (lastR L)) H) : FnH Tryz.prog 25 #[.pointer (some ⟨c, 0, none⟩)] H K := by
  apply epochs_Cache_Last_fn
  unfold epochs_Cache_Last_vc
  obtain ⟨s, hc⟩ := h.read i ei cch_mono
  have hR : Recs eE H s L := Own.recs eElen (by decide) (hc.own 1 rfl) (by omega)
  have hn := hR.len
  unfold lastR at k
  refine ⟨s, hc.cell 0 rfl rfl, br_intro (fun q => ?_) (fun q => ?_)⟩
  · have q : ((s.n : Nat) : Int) = 0 := by simpa using q
    have : L = [] := List.eq_nil_of_length_eq_zero (by omega)
    rw [this] at k; exact k
  · have q : ¬ ((s.n : Nat) : Int) = 0 := by simpa using q
    refine ⟨s, hc.cell 0 rfl rfl, s, hc.cell 0 rfl rfl, ?_⟩
    rw [wrap64_id (n := (s.n : Int) - 1) (by omega) (by omega)]
    obtain ⟨b, o, x, e1, e2, e3⟩ := hR.at_ eElen (by decide) (j := (s.n : Int) - 1) (by omega) (by omega)
    have el : L.getLast? = some x := by
      rw [List.getLast?_eq_getElem?, ← e2]; congr 1; omega
    rw [el] at k
    exact ⟨b, o, e1, by omega, by omega, _, e3 0 _ rfl, k⟩
theorem end_spec {c d i : Nat} {n : ByteArray} {L : List En} {ep nxt : Int} (h : HL.Holds cs H) (ei : cs[i]? = some (cch c d n L)) (hs : SrtE L) (hl : L.length ≤ 1000) (k : ∀ H', HL.Sub H H' → HL.Holds cs H' → K (.tuple #[.int .i64 (endR L ep nxt).1, .int .i64 (endR L ep nxt).2]) H') :
    FnH Tryz.prog 15 #[.pointer (some ⟨c, 0, none⟩), .int .i64 ep, .int .i64 nxt] H K := by
  apply epochs_Cache_End_fn
  unfold epochs_Cache_End_vc
  obtain ⟨s, hc⟩ := h.read i ei cch_mono
  refine (Holds.whole H).newS fun q1 H1 s1 h1 => h1.newS fun q2 H2 s2 h2 => ?_
  have s02 := s1.trans s2
  have hc2 := hc.up s02
  have hR : Recs eE H2 s L := Own.recs eElen (by decide) (hc2.own 1 rfl) (by omega)
  have hn := hR.len
  have c0 : cellH H2 ⟨c, 0 + 2, none⟩ = some (.slice s.p s.n s.c) := hc2.cell 0 rfl rfl
  have c1 : cellH H2 ⟨q1, 0, none⟩ = some (.pointer (some ⟨c, 0, none⟩)) := h2.cell 1 rfl rfl
  refine ⟨_, c1, ptrm_intro rfl ⟨s, c0, ?_⟩⟩
  obtain ⟨f1, f2⟩ := hs.upto ep
  have hfl : (uptoL L ep).length ≤ L.length := List.length_filter_le _ _
  refine search_End (r := (uptoL L ep).length) (fun j => decide ((L.getD j e0).1 > ep)) (fun j K j0 j1 k => ?_) (by omega) (by omega) (fun j hj => ?_) (fun j hj hj2 => ?_) ⟨_, rfl, ?_⟩
  · apply epochs_Cache_End_1_fn
    unfold epochs_Cache_End_1_vc
    obtain ⟨b, o, x, e1, e2, e3⟩ := hR.at_ eElen (by decide) j0 j1
    rw [getD_of e2] at k
    exact ⟨_, c1, ptrm_intro rfl ⟨s, c0, b, o, e1, j0, j1, _, e3 0 _ rfl, _, h2.cell 0 rfl rfl, k⟩⟩
  · have hx : L[j]? = some (L.getD j e0) := by rw [List.getD, List.getElem?_eq_getElem (by omega)]; rfl
    have := take_filt f1 hx hj
    simp only [decide_eq_true_eq] at this
    exact decide_eq_false (by omega)
  · have hx : L[j]? = some (L.getD j e0) := by rw [List.getD, List.getElem?_eq_getElem (by omega)]; rfl
    have := f2 _ (drop_filt hx hj)
    exact decide_eq_true (by omega)
  have k := k H2 s02 (h.up s02)
  unfold endR at k
  refine br_intro (fun q => ?_) (fun q => ⟨_, c1, ptrm_intro rfl ⟨s, c0, ?_⟩⟩)
  · have q : (((uptoL L ep).length : Nat) : Int) = 0 := by simpa using q
    rw [if_pos (by omega)] at k; exact k
  have q : ¬ (((uptoL L ep).length : Nat) : Int) = 0 := by simpa using q
  rw [if_neg (by omega)] at k
  rw [wrap64_id (n := ((uptoL L ep).length : Int) - 1) (by omega) (by omega)]
  obtain ⟨b, o, x, e1, e2, e3⟩ := hR.at_ eElen (by decide) (j := ((uptoL L ep).length : Int) - 1) (by omega) (by omega)
  have ex : L.getD ((uptoL L ep).length - 1) e0 = x := getD_of (by rw [← e2]; congr 1; omega)
  rw [ex] at k
  refine br_intro (fun w => ?_) (fun w => ?_)
  · have w : (((uptoL L ep).length : Nat) : Int) = s.n := by simpa using w
    rw [if_pos (by omega)] at k
    exact ⟨_, c1, ptrm_intro rfl ⟨s, c0, b, o, e1, by omega, by omega, _, e3 0 _ rfl, k⟩⟩
  · have w : ¬ (((uptoL L ep).length : Nat) : Int) = s.n := by simpa using w
    rw [if_neg (by omega)] at k
    obtain ⟨b', o', y, y1, y2, y3⟩ := hR.at_ eElen (by decide) (j := ((uptoL L ep).length : Int)) (by omega) (by omega)
    have ey : L.getD (uptoL L ep).length e0 = y := getD_of (by rw [← y2]; congr 1)
    rw [ey] at k
    exact ⟨_, c1, ptrm_intro rfl ⟨s, c0, b, o, e1, by omega, by omega, _, e3 0 _ rfl, _, c1, ptrm_intro rfl ⟨s, c0, b', o', y1, by omega, by omega, _, y3 1 _ rfl, k⟩⟩⟩
end
end Go.Proofs.YtdgmifbcbmndgaaGreatDoor
