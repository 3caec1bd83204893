/- Chapter 5: SegmentPlays: opens, alike, does. -/
import Derived.Test.YtokceblmbmajgaaGreatDoorQA
import Derived.Test.YtokceblmbmajgaaGreatDoorVA
namespace Go.Proofs.YtokceblmbmajgaaGreatDoor
open Go Go.HL
set_option maxHeartbeats 3200000
set_option maxRecDepth 100000

abbrev bth (b d r q t : Nat) : Chunk := blk b (.cells #[.pointer (some ⟨d, 0, none⟩), .pointer (some ⟨r, 0, none⟩), .pointer (some ⟨q, 0, none⟩), .pointer (some ⟨t, 0, none⟩)] 35 (0, 0))
theorem SegOk.app {size base : Int} {bs : List Ba} {b : Ba} (h : SegOk base bs) : SegOk base (appL size base bs b) := by
  unfold appL
  split
  · rename_i e
    unfold appB at e
    split at e
    · rename_i e1; exact absurd e e1
    rename_i e1
    split at e
    · cases e
    rename_i e2
    split at e
    · cases e
    rename_i e3
    split at e
    · cases e
    rename_i e4
    exact h.snoc (Decidable.byContradiction e2) (by omega) (Decidable.byContradiction e1) (by omega)
  · exact h
theorem SegOk.cut {base off : Int} {bs : List Ba} (h : SegOk base bs) : SegOk base (cutB off bs) := by
  rw [cutB_take]; exact h.take _
/-- What a call keeps. -/
def Both5 (b d r : Nat) (size : Int) (cs : List Chunk) (H : Heap) : Prop := ∃ (q t : Nat) (base z : Int) (bs : List Ba), SegOk base bs ∧ HL.Holds (bth b d r q t :: sgc q d base bs :: dsk d size (F1 (fB bs) z) :: rsg t r base :: rdsk r size (F1 (fB bs) z) :: cs) H
section
variable {cs : List Chunk} {H : Heap} {K : Value → Heap → Prop}
theorem base5_spec {q d i : Nat} {base : Int} {bs : List Ba} (h : HL.Holds cs H) (ei : cs[i]? = some (sgc q d base bs)) (hl : bs.length ≤ 4096) (k : K (.int .i64 base) H) : FnH Tryz.prog 32 #[.pointer (some ⟨q, 0, none⟩)] H K := by
  apply segment_Segment_Base_fn
  unfold segment_Segment_Base_vc
  obtain ⟨p, hp⟩ := seg_in h ei hl
  exact ⟨_, hp.cell rfl, k⟩
theorem opens_good {b d r : Nat} {x y : Option Addr} {size base z : Int} {F : Fs} {bs : List Ba} {tail : List Nat} (h : HL.Holds (blk b (.cells #[.pointer (some ⟨d, 0, none⟩), .pointer (some ⟨r, 0, none⟩), .pointer x, .pointer y] 35 (0, 0)) :: dsk d size F :: rdsk r size F :: cs) H)
    (hF : (F = [] ∧ bs = [] ∧ tail = []) ∨ F = F1 (strN (bs.flatMap frameB ++ tail)) z) (hs : SegOk base bs) (hst : Stops (nextB base bs) tail) (k : ∀ q t H', HL.Holds (bth b d r q t :: sgc q d base bs :: dsk d size (F1 (fB bs) (lenB bs : Nat)) :: rsg t r base :: rdsk r size (F1 (fB bs) (lenB bs : Nat)) :: cs) H' → K (.bool true) H') :
    FnH Tryz.prog 8 #[.pointer (some ⟨b, 0, none⟩), .int .i64 base] H K := by
  apply logboomlaw5_Both_opens_fn
  unfold logboomlaw5_Both_opens_vc
  refine ⟨_, h.cell 0 rfl rfl, open5_spec (h.pull 1 rfl) hF hs hst fun q H1 h1 => ⟨_, _, _, rfl, _, h1.cell 2 rfl rfl, ropen5_spec (h1.pull 3 rfl) hF hs hst fun t H2 h2 => ⟨_, _, _, rfl, br_f (by simp) (br_f (by simp) (br_f rfl (br_t rfl ?_)))⟩⟩⟩
  refine h2.store 4 rfl (by simp) fun H3 h3 => h3.store 4 rfl (by simp) fun H4 h4 => k q t H4 ?_
  have h4 : HL.Holds (rsg t r base :: rdsk r size (F1 (fB bs) (lenB bs : Nat)) :: sgc q d base bs :: dsk d size (F1 (fB bs) (lenB bs : Nat)) :: bth b d r q t :: cs) H4 := h4
  exact ((h4.pull 3 rfl).pull 3 rfl).pull 4 rfl
theorem opens_bad {b d r : Nat} {x y : Option Addr} {base : Int} (h : HL.Holds (blk b (.cells #[.pointer (some ⟨d, 0, none⟩), .pointer (some ⟨r, 0, none⟩), .pointer x, .pointer y] 35 (0, 0)) :: cs) H) (hb : base < 0 ∨ base > 1000000000) (k : K (.bool true) H) :
    FnH Tryz.prog 8 #[.pointer (some ⟨b, 0, none⟩), .int .i64 base] H K := by
  apply logboomlaw5_Both_opens_fn
  unfold logboomlaw5_Both_opens_vc
  exact ⟨_, h.cell 0 rfl rfl, open5_bad hb ⟨_, _, _, rfl, _, h.cell 0 rfl rfl, ropen5_bad hb ⟨_, _, _, rfl, br_f rfl (br_f rfl (br_f rfl (br_f rfl k)))⟩⟩⟩
/-- opens, of a file of batches, at any base. -/
theorem opens_any {b d r q t : Nat} {size base base' z : Int} {bs : List Ba} (h : HL.Holds (bth b d r q t :: sgc q d base bs :: dsk d size (F1 (fB bs) z) :: rsg t r base :: rdsk r size (F1 (fB bs) z) :: cs) H) (hs : SegOk base bs) (k : ∀ H', Both5 b d r size cs H' → K (.bool true) H') :
    FnH Tryz.prog 8 #[.pointer (some ⟨b, 0, none⟩), .int .i64 base'] H K := by
  by_cases hb : base' < 0 ∨ base' > 1000000000
  · exact opens_bad h hb (k H ⟨q, t, base, z, bs, hs, h⟩)
  have h2 : HL.Holds (bth b d r q t :: dsk d size (F1 (fB bs) z) :: rdsk r size (F1 (fB bs) z) :: cs) H := ((h.pull 1 rfl).tail.pull 2 rfl).tail
  by_cases he : bs = [] ∨ base' = base
  · have hs2 : SegOk base' bs := by
      rcases he with rfl | rfl
      · exact SegOk.nil (by omega) (by omega)
      · exact hs
    exact opens_good (tail := []) (bs := bs) h2 (.inr (by rw [List.append_nil])) hs2 (.inl rfl) fun q' t' H' h' => k H' ⟨q', t', base', _, bs, hs2, h'⟩
  · cases bs with
    | nil => exact absurd (.inl rfl) he
    | cons c l =>
      have hc := hs.chain
      have hs2 : SegOk base' [] := SegOk.nil (by omega) (by omega)
      refine opens_good (tail := (c :: l).flatMap frameB) (bs := []) h2 (.inr rfl) hs2 (.inr (.inr ⟨c, l.flatMap frameB, hc.2.2.2.1, frames_b l, by rw [List.flatMap_cons], ?_⟩)) fun q' t' H' h' => k H' ⟨q', t', base', _, [], hs2, h'⟩
      rw [nextB_nil, hc.1]
      exact fun e => he (.inr e.symm)
theorem alike_spec {b d r : Nat} {size : Int} (h : Both5 b d r size cs H) (k : ∀ H', Both5 b d r size cs H' → K (.bool true) H') : FnH Tryz.prog 10 #[.pointer (some ⟨b, 0, none⟩)] H K := by
  obtain ⟨q, t, base, z, bs, hs, h⟩ := h
  have hsl := hs.len
  apply logboomlaw5_Both_alike_fn
  unfold logboomlaw5_Both_alike_vc
  refine ⟨_, h.cell 0 rfl rfl, read_spec (i := 2) h rfl ⟨_, _, rfl, _, h.cell 0 rfl rfl, rread_spec (j := 4) h rfl ⟨_, _, rfl, br_f (by simp) (br_f (by simp) ?_)⟩⟩⟩
  refine ⟨_, h.cell 0 rfl rfl, _, h.cell 0 rfl rfl, ptrm_intro rfl ⟨_, h.cell 3 rfl rfl, base5_spec (i := 1) h rfl hsl ⟨_, rfl, HL.Sub.refl _, br_f (by simp) ?_⟩⟩⟩
  refine ⟨_, h.cell 0 rfl rfl, _, h.cell 0 rfl rfl, next5_spec (i := 1) h rfl hsl ⟨_, rfl, HL.Sub.refl _, rnext_spec (i := 3) (j := 4) h rfl rfl hs fun H1 s1 => ⟨_, rfl, s1, br_f (by simp) ?_⟩⟩⟩
  have h1 := h.up s1
  refine ⟨_, h.cell 0 rfl rfl, _, h.cell 0 rfl rfl, safe5_spec (i := 1) (j := 2) h1 rfl rfl hsl fun H2 s2 => ⟨_, rfl, s1.trans s2, ?_⟩⟩
  have h2 := h1.up s2
  refine rsafe_spec (i := 3) (j := 4) h2 rfl rfl hs fun H3 s3 => ⟨_, rfl, (s1.trans s2).trans s3, br_f (by simp) ?_⟩
  have h3 := h2.up s3
  have s03 := (s1.trans s2).trans s3
  refine ⟨_, h.cell 0 rfl rfl, bytes5_spec (i := 1) (j := 2) h3 rfl rfl ⟨_, rfl, s03, br_f (by rw [get1]; simp) ?_⟩⟩
  refine ⟨_, h.cell 0 rfl rfl, _, h.cell 0 rfl rfl, synced_spec (i := 2) h3 rfl ⟨_, rfl, s03, rsynced_spec (j := 4) h3 rfl ⟨_, rfl, s03, br_f (by simp) ?_⟩⟩⟩
  refine ⟨_, h3.cell 0 rfl rfl, _, h3.cell 0 rfl rfl, index5_spec (i := 1) h3 rfl hsl fun l1 H4 s4 h4 => ⟨l1, rfl, s4, rindex_spec (i := 4) (j := 5) h4 rfl rfl hs fun l2 H5 s5 h5 => ⟨l2, rfl, s4.trans s5, ?_⟩⟩⟩
  have hil : (ixE bs).length ≤ 4096 := by
    have := ixV_len bs
    rw [List.length_map] at this
    unfold ixE
    rw [List.length_map]; omega
  have hR1 : Recs eE H5 l1 (ixE bs) := Own.recs eElen (by decide) (h5.own 1 rfl) (by omega)
  have hR2 : Recs eE H5 l2 (ixE bs) := Own.recs eElen (by decide) (h5.own 0 rfl) (by omega)
  exact sameIndex_true hR1 hR2 ⟨_, rfl, s4.trans s5, k H5 ⟨q, t, base, z, bs, hs, h5.tail.tail⟩⟩
/-- A call, as the script has it. -/
structure Op5 where
  kind : Int
  n : Int
  m : Int
  b : Ba
  sl : Sl
  fits : Bool
  keep : Sl
  kl : List Int
structure OpOk (H0 : Heap) (o : Op5) : Prop where
  k : i64B o.kind
  m : i64B o.m
  base : i64B o.b.base
  recs : Recs eR H0 o.sl o.b.recs
  keep : Ints H0 o.keep o.kl
  kls : ∀ n ∈ o.kl, i64B n
theorem does_spec {b d r : Nat} {size : Int} {o : Op5} {H0 : Heap} (h : Both5 b d r size [ro H0] H) (ho : OpOk H0 o) (k : ∀ H', Both5 b d r size [ro H0] H' → K (.bool true) H') :
    FnH Tryz.prog 9 #[.pointer (some ⟨b, 0, none⟩), .agg #[.int .i64 o.kind, .int .i64 o.n, .int .i64 o.m, .int .i64 o.b.base, .int .i64 o.b.epoch, .int .i64 o.b.pid, .int .i64 o.b.pe, .int .i64 o.b.seq, .slice o.sl.p o.sl.n o.sl.c, .bool o.fits, .slice o.keep.p o.keep.n o.keep.c]] H K := by
  obtain ⟨q, t, base, z, bs, hs, h⟩ := h
  have hsl := hs.len
  apply logboomlaw5_Both_does_fn
  unfold logboomlaw5_Both_does_vc
  refine pick5_spec (by decide) ⟨_, rfl, ?_⟩
  obtain ⟨p0, p1⟩ := pickI_in (c := o.kind) (n := 10) (by decide) ho.k.1 ho.k.2
  generalize pickI o.kind 10 = kd at *
  have g : ∀ {x : Int}, Gives (ro H0) fun A => Recs eR A o.sl (({ o.b with base := x } : Ba)).recs := fun {x} => ⟨ro_mono _, fun A hA => Recs.mono _ _ hA ho.recs⟩
  have gk : Gives (ro H0) fun A => Ints A o.keep o.kl := ⟨ro_mono _, fun A hA => ho.keep.sub hA⟩
  -- append
  have A1 : ∀ (x : Int) {H2 : Heap} {G : Int → Heap → Prop}, HL.Holds (bth b d r q t :: sgc q d base bs :: dsk d size (F1 (fB bs) z) :: rsg t r base :: rdsk r size (F1 (fB bs) z) :: [ro H0]) H2 → (∀ H3, HL.Holds (sgc q d base (appL size base bs { o.b with base := x }) :: dsk d size (F1 (fB (appL size base bs { o.b with base := x })) z) :: bth b d r q t :: rsg t r base :: rdsk r size (F1 (fB bs) z) :: [ro H0]) H3 → G (appB size base bs { o.b with base := x }) H3) →
      FnH Tryz.prog 13 #[.pointer (some ⟨q, 0, none⟩), .agg #[.int .i64 x, .int .i64 o.b.epoch, .int .i64 o.b.pid, .int .i64 o.b.pe, .int .i64 o.b.seq, .slice o.sl.p o.sl.n o.sl.c]] H2 fun r3 H3 => ∃ n3 : Int, r3 = .int .i64 n3 ∧ G n3 H3 := fun x {H2 G} h2 kk =>
    append5_spec (b := { o.b with base := x }) (s := o.sl) (i := 3) ((h2.pull 2 rfl).pull 2 rfl) hs g rfl fun H3 h3 => ⟨_, rfl, kk H3 h3⟩
  have A2 : ∀ (x : Int), i64B x → ∀ {H3 : Heap}, HL.Holds (sgc q d base (appL size base bs { o.b with base := x }) :: dsk d size (F1 (fB (appL size base bs { o.b with base := x })) z) :: bth b d r q t :: rsg t r base :: rdsk r size (F1 (fB bs) z) :: [ro H0]) H3 →
      FnH Tryz.prog 23 #[.pointer (some ⟨t, 0, none⟩), .agg #[.int .i64 x, .int .i64 o.b.epoch, .int .i64 o.b.pid, .int .i64 o.b.pe, .int .i64 o.b.seq, .slice o.sl.p o.sl.n o.sl.c]] H3 fun r4 H4 => ∃ n4 : Int, r4 = .int .i64 n4 ∧ K (.bool (appB size base bs { o.b with base := x } == n4)) H4 := fun x hx {H3} h3 =>
    rappend5_spec (b := { o.b with base := x }) (s := o.sl) (i := 3) ((h3.pull 4 rfl).pull 4 rfl) hs g rfl hx fun H4 h4 => ⟨_, rfl, by
      rw [beq_self_eq_true]
      exact k H4 ⟨q, t, base, z, _, hs.app, ((h4.pull 3 rfl).pull 3 rfl).pull 4 rfl⟩⟩
  -- cut
  have C1 : ∀ {H2 : Heap} {G : Int → Heap → Prop}, HL.Holds (bth b d r q t :: sgc q d base bs :: dsk d size (F1 (fB bs) z) :: rsg t r base :: rdsk r size (F1 (fB bs) z) :: [ro H0]) H2 →
      (∀ e H3, (o.n < base ∧ e = 1 ∧ HL.Holds (sgc q d base bs :: dsk d size (F1 (fB bs) z) :: bth b d r q t :: rsg t r base :: rdsk r size (F1 (fB bs) z) :: [ro H0]) H3 ∨ ¬ o.n < base ∧ e = 0 ∧ HL.Holds (sgc q d base (cutB o.n bs) :: dsk d size (F1 (fB (cutB o.n bs)) (if ((lenB (cutB o.n bs) : Nat) : Int) < z then (lenB (cutB o.n bs) : Nat) else z)) :: bth b d r q t :: rsg t r base :: rdsk r size (F1 (fB bs) z) :: [ro H0]) H3) → G e H3) →
      FnH Tryz.prog 25 #[.pointer (some ⟨q, 0, none⟩), .int .i64 o.n] H2 fun r3 H3 => ∃ n3 : Int, r3 = .int .i64 n3 ∧ G n3 H3 := fun {H2 G} h2 kk =>
    cut5_spec ((h2.pull 2 rfl).pull 2 rfl) hs (fun e H3 h3 => ⟨_, rfl, kk 1 H3 (.inl ⟨e, rfl, h3⟩)⟩) fun e H3 h3 => ⟨_, rfl, kk 0 H3 (.inr ⟨e, rfl, h3⟩)⟩
  have C2 : ∀ {e : Int} {H3 : Heap}, (o.n < base ∧ e = 1 ∧ HL.Holds (sgc q d base bs :: dsk d size (F1 (fB bs) z) :: bth b d r q t :: rsg t r base :: rdsk r size (F1 (fB bs) z) :: [ro H0]) H3 ∨ ¬ o.n < base ∧ e = 0 ∧ HL.Holds (sgc q d base (cutB o.n bs) :: dsk d size (F1 (fB (cutB o.n bs)) (if ((lenB (cutB o.n bs) : Nat) : Int) < z then (lenB (cutB o.n bs) : Nat) else z)) :: bth b d r q t :: rsg t r base :: rdsk r size (F1 (fB bs) z) :: [ro H0]) H3) →
      FnH Tryz.prog 26 #[.pointer (some ⟨t, 0, none⟩), .int .i64 o.n] H3 fun r4 H4 => ∃ n4 : Int, r4 = .int .i64 n4 ∧ K (.bool (e == n4)) H4 := fun {e H3} h3 => by
    rcases h3 with ⟨e1, rfl, h3⟩ | ⟨e1, rfl, h3⟩
    · exact rcut5_spec ((h3.pull 4 rfl).pull 4 rfl) hs (fun _ H4 h4 => ⟨_, rfl, k H4 ⟨q, t, base, z, _, hs, ((h4.pull 3 rfl).pull 3 rfl).pull 4 rfl⟩⟩) fun e2 => absurd e1 e2
    · exact rcut5_spec ((h3.pull 4 rfl).pull 4 rfl) hs (fun e2 => absurd e2 e1) fun _ H4 h4 => ⟨_, rfl, k H4 ⟨q, t, base, _, _, hs.cut, ((h4.pull 3 rfl).pull 3 rfl).pull 4 rfl⟩⟩
  have C3 : ∀ {e : Int} {H3 : Heap}, (o.n < base ∧ e = 1 ∧ HL.Holds (sgc q d base bs :: dsk d size (F1 (fB bs) z) :: bth b d r q t :: rsg t r base :: rdsk r size (F1 (fB bs) z) :: [ro H0]) H3 ∨ ¬ o.n < base ∧ e = 0 ∧ HL.Holds (sgc q d base (cutB o.n bs) :: dsk d size (F1 (fB (cutB o.n bs)) (if ((lenB (cutB o.n bs) : Nat) : Int) < z then (lenB (cutB o.n bs) : Nat) else z)) :: bth b d r q t :: rsg t r base :: rdsk r size (F1 (fB bs) z) :: [ro H0]) H3) → cellH H3 ⟨b, 0 + 3, none⟩ = some (.pointer (some ⟨t, 0, none⟩)) := fun {e H3} h3 => by
    rcases h3 with ⟨e1, rfl, h3⟩ | ⟨e1, rfl, h3⟩
    · exact h3.cell 2 rfl rfl
    · exact h3.cell 2 rfl rfl
  -- a crash
  have R1 : FnH Tryz.prog 18 #[.pointer (some ⟨d, 0, none⟩), .slice o.keep.p o.keep.n o.keep.c] H fun r43 H43 => r43 = .tuple #[] ∧ ∃ p26 : Option Addr, cellH H43 ⟨b, 0 + 1, none⟩ = some (.pointer p26) ∧ FnH Tryz.prog 29 #[.pointer p26, .slice o.keep.p o.keep.n o.keep.c] H43 fun r44 H44 => r44 = .tuple #[] ∧ ∃ p27 : Option Addr, cellH H44 ⟨b, 0 + 3, none⟩ = some (.pointer p27) ∧ ptrm p27 fun q1 o1 => ∃ n40 : Int, cellH H44 ⟨q1, o1 + 2, none⟩ = some (.int .i64 n40) ∧
      FnH Tryz.prog 8 #[.pointer (some ⟨b, 0, none⟩), .int .i64 n40] H44 fun r45 H45 => ∃ b2 : Bool, r45 = .bool b2 ∧ K (.bool b2) H45 := by
    obtain ⟨z0, z1, -, -⟩ := dsk_safe (h.pull 2 rfl)
    obtain ⟨m, m0, m1, hcr⟩ := crash1 o.kl z0 z1 ho.kls
    refine crash_spec (i := 4) (h.pull 2 rfl) gk rfl ho.kls fun H43 h43 => ⟨rfl, _, h43.cell 1 rfl rfl, ?_⟩
    refine rcrash_spec (i0 := 4) (h43.pull 4 rfl) gk rfl ho.kls fun H44 h44 => ⟨rfl, _, h44.cell 2 rfl rfl, ptrm_intro rfl ⟨_, h44.cell 4 rfl rfl, ?_⟩⟩
    rw [hcr] at h44
    rw [fB_size] at m1
    have hbt : (fB bs).extract 0 m = strN ((bs.flatMap frameB).take m) := fB_take bs m
    obtain ⟨kk, tl, k0, k1, k2, -, -⟩ := torn bs m m1
    rw [hbt, k1] at h44
    have hst : Stops (nextB base (bs.take kk)) tl := by
      rcases k2 with rfl | ⟨c, j, c1, c2, c3, rfl⟩
      · exact .inl rfl
      · exact .inr (.inl ⟨c, j, hs.chain.all c (List.mem_of_getElem? c1), c2, c3, rfl⟩)
    have h45 : HL.Holds (bth b d r q t :: dsk d size (F1 (strN ((bs.take kk).flatMap frameB ++ tl)) (m : Nat)) :: rdsk r size (F1 (strN ((bs.take kk).flatMap frameB ++ tl)) (m : Nat)) :: [ro H0]) H44 := (((h44.pull 3 rfl).tail.pull 3 rfl).tail.pull 1 rfl).pull 2 rfl
    exact opens_good h45 (.inr rfl) (hs.take kk) hst fun q' t' H' h' => ⟨_, rfl, k H' ⟨q', t', base, _, _, hs.take kk, h'⟩⟩
  have R2 : FnH Tryz.prog 8 #[.pointer (some ⟨b, 0, none⟩), .int .i64 o.n] H fun r46 H46 => ∃ b3 : Bool, r46 = .bool b3 ∧ K (.bool b3) H46 := opens_any h hs fun H' h' => ⟨_, rfl, k H' h'⟩
  have R3 : FnH Tryz.prog 19 #[.pointer (some ⟨q, 0, none⟩), .int .i64 o.n, .int .i64 o.m] H fun r40 H40 => ∃ l1 : Sl, r40 = .slice l1.p l1.n l1.c ∧ HL.Sub H H40 ∧ FnH Tryz.prog 28 #[.pointer (some ⟨t, 0, none⟩), .int .i64 o.n, .int .i64 o.m] H40 fun r41 H41 => ∃ l2 : Sl, r41 = .slice l2.p l2.n l2.c ∧ HL.Sub H H41 ∧ FnH Tryz.prog 27 #[.slice l1.p l1.n l1.c, .slice l2.p l2.n l2.c] H41 fun r42 H42 => ∃ b1 : Bool, r42 = .bool b1 ∧ HL.Sub H H42 ∧ K (.bool b1) H42 := by
    have hpre : readB base o.n o.m bs <:+: bs := by
      unfold readB
      split
      · exact ⟨[], bs, by simp⟩
      · exact ((takeB_prefix o.m _ 0 false).isInfix).trans (List.dropWhile_suffix _).isInfix
    have hrl : (readB base o.n o.m bs).length ≤ 4096 := Nat.le_trans hpre.length_le hsl
    have hrf : FewB (readB base o.n o.m bs) := fun c hc => hs.fewB c (hpre.subset hc)
    refine read5_spec (i := 1) (j := 2) h rfl rfl hs ho.m.2 fun l1 H1 s1 h1 => ⟨l1, rfl, s1, rread5_spec (i := 4) (j := 5) h1 rfl rfl hs fun l2 H2 s2 b2 => ⟨l2, rfl, s1.trans s2, ?_⟩⟩
    have b1 : Bts H1 l1 (readB base o.n o.m bs) := btl_bts (h1.read 0 rfl btl_mono) hrf (by omega)
    exact same_true (Bts.mono _ _ s2 b1) b2 (by omega) ⟨_, rfl, s1.trans s2, k H2 ⟨q, t, base, z, bs, hs, (h1.up s2).tail⟩⟩
  have Y1 : ∀ {G : Int → Heap → Prop}, (∀ H3, HL.Holds (sgc q d base bs :: dsk d size (F1 (fB bs) (lenB bs : Nat)) :: bth b d r q t :: rsg t r base :: rdsk r size (F1 (fB bs) z) :: [ro H0]) H3 → G 0 H3) → FnH Tryz.prog 16 #[.pointer (some ⟨q, 0, none⟩)] H fun r3 H3 => ∃ n3 : Int, r3 = .int .i64 n3 ∧ G n3 H3 := fun {G} kk =>
    sync5_spec ((h.pull 2 rfl).pull 2 rfl) fun H3 h3 => ⟨_, rfl, kk H3 h3⟩
  have Y2 : ∀ {H3 : Heap}, HL.Holds (sgc q d base bs :: dsk d size (F1 (fB bs) (lenB bs : Nat)) :: bth b d r q t :: rsg t r base :: rdsk r size (F1 (fB bs) z) :: [ro H0]) H3 → FnH Tryz.prog 24 #[.pointer (some ⟨r, 0, none⟩), .string nS] H3 fun r4 H4 => ∃ n4 : Int, r4 = .int .i64 n4 ∧ K (.bool ((0 : Int) == n4)) H4 := fun {H3} h3 =>
    rsync_spec (h3.pull 4 rfl) fun H4 h4 => ⟨_, rfl, by
      rw [syn1, fB_size] at h4
      rw [look1, if_neg (by simp)]
      exact k H4 ⟨q, t, base, _, _, hs, (((h4.pull 4 rfl).pull 3 rfl).pull 3 rfl).pull 4 rfl⟩⟩
  have hnb : i64B (nextB base bs) := by
    have h1 := hs.next0
    have h2 := hs.chain.next_le hs.b1
    exact ⟨by omega, by omega⟩
  have z : kd = 0 ∨ kd = 1 ∨ kd = 2 ∨ kd = 3 ∨ kd = 4 ∨ kd = 5 ∨ kd = 6 ∨ kd = 7 ∨ kd = 8 ∨ kd = 9 := by omega
  rcases z with z | z | z | z | z | z | z | z | z | z
  all_goals
    subst z
    repeat (first | refine br_t rfl ?_ | refine br_f rfl ?_)
  iterate 4
    · refine br_intro (fun _ => ⟨_, h.cell 0 rfl rfl, rnext_spec (i := 3) (j := 4) h rfl rfl hs fun H2 s2 => ⟨_, rfl, ?_⟩⟩) (fun _ => ?_)
      · have h2 := h.up s2
        exact ⟨_, h2.cell 0 rfl rfl, A1 (nextB base bs) h2 fun H3 h3 => ⟨⟨_, h3.cell 2 rfl rfl, A2 (nextB base bs) hnb h3⟩, _, h3.cell 2 rfl rfl, A2 (nextB base bs) hnb h3⟩, ⟨_, h2.cell 0 rfl rfl, HL.Sub.refl _, A1 (nextB base bs) h2 fun H3 h3 => A2 (nextB base bs) hnb h3, HL.Sub.refl _, A1 (nextB base bs) h2 fun H3 h3 => A2 (nextB base bs) hnb h3⟩, HL.Sub.refl _, A1 (nextB base bs) h2 fun H3 h3 => ⟨_, h3.cell 2 rfl rfl, A2 (nextB base bs) hnb h3⟩, _, h2.cell 0 rfl rfl, HL.Sub.refl _, A1 (nextB base bs) h2 fun H3 h3 => A2 (nextB base bs) hnb h3⟩
      · exact ⟨_, h.cell 0 rfl rfl, A1 o.b.base h fun H3 h3 => ⟨⟨_, h3.cell 2 rfl rfl, A2 o.b.base ho.base h3⟩, _, h3.cell 2 rfl rfl, A2 o.b.base ho.base h3⟩, ⟨_, h.cell 0 rfl rfl, HL.Sub.refl _, A1 o.b.base h fun H3 h3 => A2 o.b.base ho.base h3, HL.Sub.refl _, A1 o.b.base h fun H3 h3 => A2 o.b.base ho.base h3⟩, HL.Sub.refl _, A1 o.b.base h fun H3 h3 => ⟨_, h3.cell 2 rfl rfl, A2 o.b.base ho.base h3⟩, _, h.cell 0 rfl rfl, HL.Sub.refl _, A1 o.b.base h fun H3 h3 => A2 o.b.base ho.base h3⟩
  · exact ⟨_, h.cell 0 rfl rfl, Y1 fun H3 h3 => ⟨_, h3.cell 2 rfl rfl, Y2 h3⟩, _, h.cell 0 rfl rfl, HL.Sub.refl _, Y1 fun H3 h3 => Y2 h3⟩
  · exact ⟨_, h.cell 0 rfl rfl, C1 h fun e H3 h3 => ⟨⟨_, C3 h3, C2 h3⟩, _, C3 h3, C2 h3⟩, ⟨_, h.cell 0 rfl rfl, HL.Sub.refl _, C1 h fun e H3 h3 => C2 h3, HL.Sub.refl _, C1 h fun e H3 h3 => C2 h3⟩, HL.Sub.refl _, C1 h fun e H3 h3 => ⟨_, C3 h3, C2 h3⟩, _, h.cell 0 rfl rfl, HL.Sub.refl _, C1 h fun e H3 h3 => C2 h3⟩
  · exact ⟨_, h.cell 0 rfl rfl, _, h.cell 0 rfl rfl, R3⟩
  · exact ⟨_, h.cell 0 rfl rfl, _, h.cell 0 rfl rfl, R3⟩
  · exact ⟨_, h.cell 0 rfl rfl, R1⟩
  · exact R2
end
end Go.Proofs.YtokceblmbmajgaaGreatDoor

