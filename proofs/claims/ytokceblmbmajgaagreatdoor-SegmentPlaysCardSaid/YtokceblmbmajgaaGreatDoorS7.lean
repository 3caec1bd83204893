/- Chapter 5: the segment's Open. -/
import Derived.Test.YtokceblmbmajgaaGreatDoorS6
namespace Go.Proofs.YtokceblmbmajgaaGreatDoor
open Go Go.HL
set_option maxHeartbeats 3200000
set_option maxRecDepth 100000

/-- What is no batch that goes on. -/
def Stops (next : Int) (tail : List Nat) : Prop := tail = [] ∨ (∃ b m, okR b ∧ 0 < m ∧ m < flen b ∧ tail = (frameB b).take m) ∨ (∃ b r, okR b ∧ (∀ x ∈ r, x < 256) ∧ tail = frameB b ++ r ∧ b.base ≠ next)
theorem Stops.bytes {next : Int} {tail : List Nat} (h : Stops next tail) : ∀ x ∈ tail, x < 256 := by
  rcases h with rfl | ⟨b, m, -, -, -, rfl⟩ | ⟨b, r, -, hr, rfl, -⟩
  · simp
  · exact fun x hx => frameB_b b x (List.mem_of_mem_take hx)
  · exact app_bytes (frameB_b b) hr
section
variable {cs : List Chunk} {H : Heap} {K : Value → Heap → Prop}
theorem open5_bad {d : Nat} {base : Int} (hb : base < 0 ∨ base > 1000000000) (k : K (.tuple #[.pointer none, .int .i64 0, .int .i64 1]) H) : FnH Tryz.prog 11 #[.pointer (some ⟨d, 0, none⟩), .string nS, .int .i64 base] H K := by
  apply segment_Open_fn
  unfold segment_Open_vc
  refine br_intro (fun _ => k) (fun w => br_intro (fun _ => k) (fun w2 => ?_))
  have w := of_decide_eq_false w
  have w2 := of_decide_eq_false w2
  omega
theorem open5_spec {d : Nat} {size base z : Int} {F : Fs} {bs : List Ba} {tail : List Nat} (h : HL.Holds (dsk d size F :: cs) H) (hF : (F = [] ∧ bs = [] ∧ tail = []) ∨ F = F1 (strN (bs.flatMap frameB ++ tail)) z) (hs : SegOk base bs) (hst : Stops (nextB base bs) tail)
    (k : ∀ q H', HL.Holds (sgc q d base bs :: dsk d size (F1 (fB bs) (lenB bs : Nat)) :: cs) H' → K (.tuple #[.pointer (some ⟨q, 0, none⟩), .int .i64 (tail.length : Nat), .int .i64 0]) H') : FnH Tryz.prog 11 #[.pointer (some ⟨d, 0, none⟩), .string nS, .int .i64 base] H K := by
  apply segment_Open_fn
  unfold segment_Open_vc
  have hb0 := hs.b0
  have hb1 := hs.b1
  have hsl := hs.len
  have hzl := hs.lenB
  have htb := hst.bytes
  refine br_f (decide_eq_false (by omega)) (br_f (decide_eq_false (by omega)) (append_spec (n := nS) h (by decide) fun H1 h1 => ⟨_, rfl, ?_⟩))
  -- the file, as it is read
  obtain ⟨z', ea, h1⟩ : ∃ z', appC size F nS ⟨#[]⟩ = 0 ∧ HL.Holds (dsk d size (F1 (strN (bs.flatMap frameB ++ tail)) z') :: cs) H1 := by
    obtain ⟨mb, fs, ⟨hB, -⟩, -⟩ := dsk_open.1 h
    rcases hF with ⟨rfl, rfl, rfl⟩ | rfl
    · have := hB.s0
      obtain ⟨e1, e2⟩ := app1_nil (size := size) (by omega)
      rw [e2] at h1
      exact ⟨0, e1, h1⟩
    · have := hB.use
      rw [use1] at this
      obtain ⟨e1, e2⟩ := app1_ok (size := size) (b := strN (bs.flatMap frameB ++ tail)) (s := ⟨#[]⟩) (z := z) (by show _ + ((0 : Nat) : Int) ≤ _; omega)
      have e3 : strN (bs.flatMap frameB ++ tail) ++ (⟨#[]⟩ : ByteArray) = strN (bs.flatMap frameB ++ tail) := ByteArray.append_empty
      rw [e2, e3] at h1
      exact ⟨z, e1, h1⟩
  rw [ea]
  clear ea
  have hts : (strN (bs.flatMap frameB ++ tail)).size = lenB bs + tail.length := app_size (frames_b bs) htb
  obtain ⟨z0, z1, z2, z3⟩ := dsk_safe h1
  have htot : lenB bs + tail.length ≤ 16777216 := by rw [← hts]; omega
  have hbig : ∀ {n : Nat}, n ≤ 16777216 → n ≤ 268435456 := fun h => Nat.le_trans h (by decide)
  refine br_f rfl (h1.new fun q H2 h2 => ?_)
  have h2b : HL.Holds (sgc q d base [] :: dsk d size (F1 (strN (bs.flatMap frameB ++ tail)) z') :: cs) H2 := sgc_open.2 ⟨(⟨none, 0, 0⟩, ⟨none, 0, 0⟩), ((h2.own_nil 3 1).own_nil 82 4).pull 2 rfl⟩
  refine read_spec (i := 1) h2 rfl ⟨_, _, rfl, ?_⟩
  rw [get1]
  dsimp only
  refine ⟨fun at_ H' => at_ = (lenB bs : Nat) ∧ HL.Holds (sgc q d base bs :: dsk d size (F1 (strN (bs.flatMap frameB ++ tail)) z') :: cs) H', ⟨fun at_ H' => ∃ j : Nat, j ≤ bs.length ∧ at_ = (lenB (bs.take j) : Nat) ∧ HL.Holds (sgc q d base (bs.take j) :: dsk d size (F1 (strN (bs.flatMap frameB ++ tail)) z') :: cs) H', fun at_ _ => ((lenB bs : Int) + 1 - at_).toNat, ⟨0, Nat.zero_le _, by simp [lenB], h2b⟩, ?_⟩, ?_⟩
  · rintro at_ H4 ⟨j, hj, rfl, h4⟩
    obtain ⟨p, hp⟩ := seg_in (i := 0) h4 rfl (by rw [List.length_take]; omega)
    have hpl := hp.len
    rw [List.length_take] at hpl
    have hle := lenB_take_mono bs (i := j) (j := bs.length) hj
    rw [List.take_length] at hle
    by_cases hjl : j = bs.length
    · have e1 : bs.take j = bs := by rw [hjl, List.take_length]
      rw [e1] at h4 ⊢
      have fin : HL.Holds (sgc q d base bs :: dsk d size (F1 (strN (bs.flatMap frameB ++ tail)) z') :: cs) H4 := h4
      have hex : (strN (bs.flatMap frameB ++ tail)).extract (Int.toNat ((lenB bs : Nat) : Int)) (Int.toNat ((strN (bs.flatMap frameB ++ tail)).size : Int)) = strN tail := by
        rw [Int.toNat_natCast, Int.toNat_natCast, hts]
        exact ext_skip (frames_b bs) htb rfl rfl
      refine br_intro (fun w => ⟨p.1, hp.cell rfl, br_intro (fun w2 => ⟨Int.natCast_nonneg _, Int.ofNat_le.2 (by rw [hts]; exact Nat.le_add_right _ _), ?_⟩) (fun _ => ⟨rfl, rfl, fin⟩)⟩) (fun _ => ⟨rfl, rfl, fin⟩)
      have w := of_decide_eq_true w
      rw [hex]
      rcases hst with rfl | ⟨b, m, hb, hm0, hm, rfl⟩ | ⟨b, r, hb, hr, rfl, hne⟩
      · rw [hts] at w; simp at w
      · exact readBatch_short hb hm ⟨_, _, _, _, _, ⟨none, 0, 0⟩, _, _, rfl, br_t rfl ⟨rfl, rfl, fin⟩⟩
      · have hrl : r.length ≤ 268435456 := hbig (by rw [List.length_append] at htot; exact Nat.le_trans (Nat.le_trans (Nat.le_add_left _ _) (Nat.le_add_left _ _)) htot)
        refine readBatch_ok h4 hb hr hrl fun sl H5 h5 => ⟨_, _, _, _, _, sl, _, _, rfl, br_f rfl ?_⟩
        exact next5_spec (i := 1) h5 rfl hsl ⟨_, rfl, HL.Sub.refl _, br_t (by simpa using hne) ⟨rfl, rfl, h5.tail⟩⟩
    · have hjlt : j < bs.length := by omega
      obtain ⟨b, hb⟩ : ∃ b, bs[j]? = some b := ⟨_, List.getElem?_eq_getElem hjlt⟩
      obtain ⟨c1, c2, c3, c4, c5⟩ := hs.chain.at_ hb
      have hk := right_facts c4
      have hfl := hk.flen
      have hts2 := take_succ_len hb
      have hle2 := lenB_take_mono bs (i := j + 1) (j := bs.length) (by omega)
      rw [List.take_length, hts2] at hle2
      have htake : bs.take (j + 1) = bs.take j ++ [b] := by rw [List.take_add_one, hb]; rfl
      obtain ⟨g1, g2⟩ := List.getElem?_eq_some_iff.1 hb
      have hsp : bs.flatMap frameB ++ tail = (bs.take j).flatMap frameB ++ (frameB b ++ ((bs.drop (j + 1)).flatMap frameB ++ tail)) := by
        have e : bs = bs.take j ++ (b :: bs.drop (j + 1)) := by rw [← g2, ← List.drop_eq_getElem_cons g1, List.take_append_drop]
        have e2 := congrArg (fun z => List.flatMap frameB z ++ tail) e
        simp only [List.flatMap_append, List.flatMap_cons, List.append_assoc] at e2
        exact e2
      have hrb : ∀ x ∈ (bs.drop (j + 1)).flatMap frameB ++ tail, x < 256 := app_bytes (frames_b _) htb
      have hlr : lenB bs = lenB (bs.take j) + (flen b + ((bs.drop (j + 1)).flatMap frameB).length) := by
        have e : bs = bs.take j ++ (b :: bs.drop (j + 1)) := by rw [← g2, ← List.drop_eq_getElem_cons g1, List.take_append_drop]
        have e2 := congrArg lenB e
        rw [lenB_app, lenB_cons] at e2
        exact e2
      have hex : (strN (bs.flatMap frameB ++ tail)).extract (Int.toNat ((lenB (bs.take j) : Nat) : Int)) (Int.toNat ((strN (bs.flatMap frameB ++ tail)).size : Int)) = strN (frameB b ++ ((bs.drop (j + 1)).flatMap frameB ++ tail)) := by
        rw [Int.toNat_natCast, Int.toNat_natCast, hts, hsp]
        exact ext_skip (frames_b _) (app_bytes (frameB_b b) hrb) rfl (by rw [List.length_append, List.length_append]; unfold flen at hlr; unfold lenB at hlr ⊢; omega)
      have q1 : ((lenB (bs.take j) : Nat) : Int) < ((strN (bs.flatMap frameB ++ tail)).size : Nat) := Int.ofNat_lt.2 (by rw [hts]; clear hex hsp; omega)
      have q2 : ((p.1.n : Nat) : Int) < 4096 := by rw [hpl]; clear hex hsp; omega
      refine br_t (decide_eq_true q1) ⟨p.1, hp.cell rfl, br_t (decide_eq_true q2) ⟨Int.natCast_nonneg _, Int.le_of_lt q1, ?_⟩⟩
      rw [hex]
      refine readBatch_ok h4 c4 hrb (hbig (by rw [List.length_append]; exact Nat.le_trans (by rw [hlr]; omega) htot)) fun sl H5 h5 => ⟨_, _, _, _, _, sl, _, _, rfl, br_f rfl ?_⟩
      have hsn : sl.n = b.recs.length := (Own.recs eRlen (by decide) (h5.own 0 rfl) (by have := hk.few; omega)).len
      have hend : b.base + ((sl.n : Nat) : Int) = endB b := by unfold endB; rw [hsn]
      have hbb := hk.base
      have hfew := hk.few
      refine next5_spec (i := 1) h5 rfl (by rw [List.length_take]; omega) ⟨_, rfl, HL.Sub.refl _, br_f (by rw [c1]; simp) (end5_spec (by omega) (by omega) ⟨_, rfl, HL.Sub.refl _, ?_⟩)⟩
      rw [hend]
      refine br_f (decide_eq_false (by omega)) (end5_spec (by omega) (by omega) ⟨_, rfl, HL.Sub.refl _, ?_⟩)
      rw [hend, wrap64_id (n := ((lenB (bs.take j) : Nat) : Int) + (flen b : Nat)) (by omega) (by omega)]
      have h6 : HL.Holds (sgc q d base (bs.take j) :: dsk d size (F1 (strN (bs.flatMap frameB ++ tail)) z') :: cs) H5 := h5.tail
      refine add5_spec h6 (by rw [List.length_take]; omega) (by omega) fun H9 h9 => ⟨rfl, rfl, ⟨j + 1, by omega, by rw [hts2]; omega, by rw [htake]; exact h9⟩, by dsimp only; omega⟩
  rintro at_ H10 ⟨rfl, h10⟩
  refine cut_spec (h10.pull 1 rfl) fun H11 h11 => ⟨_, rfl, ?_⟩
  have hex : (strN (bs.flatMap frameB ++ tail)).extract 0 (lenB bs) = fB bs := ext_mid (p := []) (by simp) (frames_b bs) htb rfl (by simp [lenB])
  rw [cut1 (by omega) (by omega), Int.toNat_natCast, hex] at h11
  refine sync_spec h11 fun H12 h12 => ⟨_, rfl, ?_⟩
  rw [syn1, fB_size] at h12
  rw [wrap64_id (by omega) (by omega)]
  have e : ((strN (bs.flatMap frameB ++ tail)).size : Int) - (lenB bs : Nat) = (tail.length : Nat) := by omega
  rw [e]
  exact k q H12 (h12.down 1)
end
end Go.Proofs.YtokceblmbmajgaaGreatDoor
