/- Chapter 5: a segment in memory: Next, add, Bytes, Append, Sync. -/
import Derived.Test.YtokceblmbmajgaaGreatDoorS3
namespace Go.Proofs.YtokceblmbmajgaaGreatDoor
open Go Go.HL
set_option maxHeartbeats 3200000
set_option maxRecDepth 10000

abbrev One4 := Int × Int × Int × Int
abbrev eO : One4 → List Value := fun o => [.int .i64 o.1, .int .i64 o.2.1, .int .i64 o.2.2.1, .int .i64 o.2.2.2]
theorem eOlen : ∀ a, (eO a).length = 4 := fun _ => rfl
theorem okOne : ElemOK Tryz.prog 74 82 4 := ElemOK.of (by kernel_rfl)
def onesB : Nat → List Ba → List One4
  | _, [] => []
  | a, b :: l => (b.base, endB b, (a : Int), ((a + flen b : Nat) : Int)) :: onesB (a + flen b) l
theorem onesB_len : ∀ (l : List Ba) (a : Nat), (onesB a l).length = l.length
  | [], _ => rfl
  | b :: l, a => by simp [onesB, onesB_len l]
theorem onesB_at : ∀ {l : List Ba} {a j : Nat} {b : Ba}, l[j]? = some b → (onesB a l)[j]? = some (b.base, endB b, ((a + lenB (l.take j) : Nat) : Int), ((a + lenB (l.take j) + flen b : Nat) : Int))
  | [], _, j, b, h => by simp at h
  | c :: l, a, 0, b, h => by
    simp only [List.getElem?_cons_zero, Option.some.injEq] at h
    subst h
    simp [onesB, lenB]
  | c :: l, a, j + 1, b, h => by
    rw [List.getElem?_cons_succ] at h
    rw [onesB, List.getElem?_cons_succ, onesB_at h, List.take_succ_cons, lenB_cons, Nat.add_assoc a]
theorem onesB_app : ∀ (l m : List Ba) (a : Nat), onesB a (l ++ m) = onesB a l ++ onesB (a + lenB l) m
  | [], m, a => by simp [onesB, lenB]
  | b :: l, m, a => by rw [List.cons_append, onesB, onesB, onesB_app l m, lenB_cons, List.cons_append, Nat.add_assoc]
theorem onesB_take : ∀ (l : List Ba) (a n : Nat), onesB a (l.take n) = (onesB a l).take n
  | [], _, n => by simp [onesB]
  | b :: l, a, 0 => by simp [onesB]
  | b :: l, a, n + 1 => by simp [onesB, onesB_take l]
abbrev okR : Ba → Prop := fun b => rightB b = 0
structure SegOk (base : Int) (bs : List Ba) : Prop where
  chain : Chain okR base bs
  b0 : 0 ≤ base
  b1 : base ≤ 1000000000
  len : bs.length ≤ 4096
theorem lenB_le : ∀ {bs : List Ba}, (∀ b ∈ bs, okR b) → lenB bs ≤ bs.length * 4096
  | [], _ => by simp [lenB]
  | b :: l, h => by
    have h1 := lenB_le fun x hx => h x (List.mem_cons_of_mem b hx)
    have h2 := (right_facts (h b (by simp))).flen.2
    rw [lenB_cons, List.length_cons]; omega
theorem SegOk.lenB {base : Int} {bs : List Ba} (h : SegOk base bs) : lenB bs ≤ 16777216 := by
  have h1 := lenB_le h.chain.all
  have h2 := h.len
  omega
abbrev fB (bs : List Ba) : ByteArray := strN (bs.flatMap frameB)
theorem fB_size (bs : List Ba) : (fB bs).size = lenB bs := strN_size (frames_b bs)
abbrev ixV (bs : List Ba) : List Int := (idxI (froms 0 bs)).map fun i : Nat => (i : Int)
theorem ixV_len (bs : List Ba) : (ixV bs).length ≤ bs.length := by
  have key : ∀ l : List Nat, (idxI l).length ≤ l.length := by
    refine snoc_ind (Nat.le_refl _) ?_
    intro l f ih
    rw [idxI_snoc]
    unfold addS
    split
    · simp; exact ih
    · simp; omega
  rw [List.length_map, ← froms_len bs 0]
  exact key _
/-- A segment on the disk d. -/
def sgc (q d : Nat) (base : Int) (bs : List Ba) : Chunk := fun H => ∃ p : Sl × Sl, HL.Holds [blk q (.cells #[.pointer (some ⟨d, 0, none⟩), .string nS, .int .i64 base, .slice p.1.p p.1.n p.1.c, .slice p.2.p p.2.n p.2.c] 76 (0, 0)), own 82 4 p.1 ((onesB 0 bs).flatMap eO), own 3 1 p.2 (iv (ixV bs))] H
theorem sgc_mono {q d : Nat} {base : Int} {bs : List Ba} : Mono (sgc q d base bs) := fun _ _ hs ⟨p, h⟩ => ⟨p, h.up hs⟩
theorem sgc_open {cs : List Chunk} {H : Heap} {q d : Nat} {base : Int} {bs : List Ba} : HL.Holds (sgc q d base bs :: cs) H ↔ ∃ p : Sl × Sl, HL.Holds (blk q (.cells #[.pointer (some ⟨d, 0, none⟩), .string nS, .int .i64 base, .slice p.1.p p.1.n p.1.c, .slice p.2.p p.2.n p.2.c] 76 (0, 0)) :: own 82 4 p.1 ((onesB 0 bs).flatMap eO) :: own 3 1 p.2 (iv (ixV bs)) :: cs) H := Holds.open
theorem dsk_safe {cs : List Chunk} {H : Heap} {d : Nat} {size z : Int} {b : ByteArray} (h : HL.Holds (dsk d size (F1 b z) :: cs) H) : 0 ≤ z ∧ z ≤ b.size ∧ (b.size : Int) ≤ size ∧ size ≤ 16777216 := by
  obtain ⟨mb, fs, ⟨hB, -⟩, -⟩ := dsk_open.1 h
  have h1 := hB.safe (nS, (b, z)) (by simp [F1])
  have h2 := hB.use
  rw [use1] at h2
  exact ⟨h1.1, h1.2, h2, hB.s1⟩
section
variable {cs : List Chunk} {H : Heap} {K : Value → Heap → Prop}
theorem ones_recs {bs : List Ba} {q d : Nat} {base : Int} {p : Sl × Sl} (hl : bs.length ≤ 4096) (h : HL.Holds (blk q (.cells #[.pointer (some ⟨d, 0, none⟩), .string nS, .int .i64 base, .slice p.1.p p.1.n p.1.c, .slice p.2.p p.2.n p.2.c] 76 (0, 0)) :: own 82 4 p.1 ((onesB 0 bs).flatMap eO) :: own 3 1 p.2 (iv (ixV bs)) :: cs) H) :
    Recs eO H p.1 (onesB 0 bs) ∧ Ints H p.2 (ixV bs) ∧ p.1.n = bs.length := by
  have h1 : Recs eO H p.1 (onesB 0 bs) := Own.recs eOlen (by decide) (h.own 1 rfl) (by rw [onesB_len]; omega)
  have h2 := ixV_len bs
  exact ⟨h1, own_ints (h.own 2 rfl) (by omega), by rw [h1.len, onesB_len]⟩
/-- append of a literal; what was there is there. -/
theorem pushS {P : Program} {t e sz : Nat} (hE : ElemOK P t e sz) {ty : Nat} {s : Sl} {vs : List Value} (h : HL.Holds (HL.own e sz s vs :: cs) H) {xs : List Value} {T m : Nat} (hxl : xs.length = m * sz) (hnt : noTups xs = true)
    (hb : s.n + m ≤ 268435456) (k : ∀ (r : Sl) H', HL.Holds (HL.own e sz r (vs ++ xs) :: cs) H' → r.n = s.n + m → K (.slice r.p r.n r.c) H') :
    ∀ q, H q = none → letH (H.upd q (.cells xs.toArray T (0, 0))) fun H1 => HL.Sub H H1 ∧ runH P (Builtin.append_ #[t, t] ty #[.slice s.p s.n s.c, .slice (some ⟨q, 0, none⟩) m m]) H1 K := by
  refine h.newS fun q H1 s1 h1 => ⟨s1, ?_⟩
  have hx : CellsAt H1 (some ⟨q, 0, none⟩) xs := CellsAt.block (h1.get 0 rfl) fun i hi => by simp [hi]
  have h2 : HL.Holds (HL.own e sz s vs :: blk q (.cells xs.toArray T (0, 0)) :: cs) H1 := h1.perm (List.Perm.swap _ _ _)
  exact Holds.append hE hE.under h2 hx hxl hnt hb fun r H' h3 n3 => k r H' (h3.perm (List.Perm.swap _ _ _)).tail n3
theorem end5_spec {a0 a1 a2 a3 a4 : Int} {s : Sl} (h0 : 0 ≤ a0 + s.n) (h1 : a0 + s.n ≤ 2000000000) (k : K (.int .i64 (a0 + (s.n : Nat))) H) : FnH Tryz.prog 40 #[.agg #[.int .i64 a0, .int .i64 a1, .int .i64 a2, .int .i64 a3, .int .i64 a4, .slice s.p s.n s.c]] H K := by
  apply segment_end_fn
  unfold segment_end_vc
  rw [wrap64_id (by omega) (by omega)]; exact k
theorem next5_spec {q d i : Nat} {base : Int} {bs : List Ba} (h : HL.Holds cs H) (ei : cs[i]? = some (sgc q d base bs)) (hl : bs.length ≤ 4096) (k : K (.int .i64 (nextB base bs)) H) : FnH Tryz.prog 12 #[.pointer (some ⟨q, 0, none⟩)] H K := by
  apply segment_Segment_Next_fn
  unfold segment_Segment_Next_vc
  obtain ⟨p, hc⟩ := h.read i ei sgc_mono
  obtain ⟨hR, -, hn⟩ := ones_recs hl hc
  refine ⟨p.1, hc.cell 0 rfl rfl, br_intro (fun w => ?_) (fun w => ?_)⟩
  · have w := of_decide_eq_true w
    rw [wrap64_id (n := (p.1.n : Int) - 1) (by omega) (by omega)]
    obtain ⟨b, o, x, e1, e2, e3⟩ := hR.at_ eOlen (by decide) (j := (p.1.n : Int) - 1) (by omega) (by omega)
    have ej : ((p.1.n : Int) - 1).toNat = bs.length - 1 := by omega
    obtain ⟨b', hb'⟩ : ∃ b', bs[bs.length - 1]? = some b' := ⟨bs[bs.length - 1], List.getElem?_eq_getElem (by omega)⟩
    rw [ej, onesB_at hb'] at e2
    cases e2
    unfold nextB at k
    rw [List.getLast?_eq_getElem?, hb'] at k
    exact ⟨p.1, hc.cell 0 rfl rfl, b, o, e1, by omega, by omega, _, e3 1 _ rfl, k⟩
  · have w := of_decide_eq_false w
    have e : bs = [] := List.eq_nil_of_length_eq_zero (by omega)
    rw [e, nextB_nil] at k
    exact ⟨_, hc.cell 0 rfl rfl, k⟩
theorem bytes5_spec {q d i j : Nat} {base size z : Int} {bs : List Ba} {b : ByteArray} (h : HL.Holds cs H) (ei : cs[i]? = some (sgc q d base bs)) (ej : cs[j]? = some (dsk d size (F1 b z))) (k : K (.int .i64 (b.size : Nat)) H) : FnH Tryz.prog 17 #[.pointer (some ⟨q, 0, none⟩)] H K := by
  apply segment_Segment_Bytes_fn
  unfold segment_Segment_Bytes_vc
  obtain ⟨p, hc⟩ := h.read i ei sgc_mono
  refine ⟨_, hc.cell 0 rfl rfl, _, hc.cell 0 rfl rfl, size_spec h ej ⟨_, rfl, HL.Sub.refl _, ?_⟩⟩
  rw [get1]; exact k
theorem add5_spec {q d : Nat} {base : Int} {bs : List Ba} {b : Ba} (h : HL.Holds (sgc q d base bs :: cs) H) (hl : bs.length ≤ 4095) (hz : lenB bs ≤ 20000000) (k : ∀ H', HL.Holds (sgc q d base (bs ++ [b]) :: cs) H' → K (.tuple #[]) H') :
    FnH Tryz.prog 41 #[.pointer (some ⟨q, 0, none⟩), .agg #[.int .i64 b.base, .int .i64 (endB b), .int .i64 (lenB bs : Nat), .int .i64 ((lenB bs + flen b : Nat) : Int)]] H K := by
  apply segment_Segment_add_fn
  unfold segment_Segment_add_vc
  obtain ⟨p, h1⟩ := sgc_open.1 h
  obtain ⟨hR, hI, hn⟩ := ones_recs (by omega) h1
  have hin := hI.len
  rw [List.length_map] at hin
  have hil := ixV_len bs
  rw [List.length_map] at hil
  have c3 : cellH H ⟨q, 0 + 3, none⟩ = some (.slice p.1.p p.1.n p.1.c) := h1.cell 0 rfl rfl
  have c4 : cellH H ⟨q, 0 + 4, none⟩ = some (.slice p.2.p p.2.n p.2.c) := h1.cell 0 rfl rfl
  refine ⟨p.2, c4, fun b H' => H' = H ∧ b = farI (idxI (froms 0 bs)) (froms 0 bs) (lenB bs), br_intro (fun w => ⟨rfl, rfl, ?_⟩) (fun w => ?_), ?_⟩
  · have w : p.2.n = 0 := by have w : ((p.2.n : Nat) : Int) = 0 := by simpa using w
                             omega
    have e : idxI (froms 0 bs) = [] := List.eq_nil_of_length_eq_zero (by omega)
    rw [e]; rfl
  · have w : ¬ ((p.2.n : Nat) : Int) = 0 := by simpa using w
    rw [wrap64_id (n := (p.2.n : Int) - 1) (by omega) (by omega)]
    obtain ⟨q1, o1, g1, g2, g3, g4⟩ := hI.at_ (j := (p.2.n : Int) - 1) (by omega) (by omega)
    have ej : ((p.2.n : Int) - 1).toNat = (idxI (froms 0 bs)).length - 1 := by omega
    obtain ⟨m, hm⟩ : ∃ m, (idxI (froms 0 bs))[(idxI (froms 0 bs)).length - 1]? = some m := ⟨_, List.getElem?_eq_getElem (by omega)⟩
    have hml := idxI_lt _ m (List.mem_of_getElem? hm)
    rw [froms_len] at hml
    have hgd : (ixV bs).getD ((p.2.n : Int) - 1).toNat 0 = (m : Int) := by
      rw [ej, List.getD, List.getElem?_map, hm]; rfl
    rw [hgd] at g4
    obtain ⟨b', hb'⟩ : ∃ b', bs[m]? = some b' := ⟨bs[m], List.getElem?_eq_getElem hml⟩
    obtain ⟨q2, o2, x, e1, e2, e3⟩ := hR.at_ eOlen (by decide) (j := (m : Int)) (by omega) (by omega)
    have e2 : (onesB 0 bs)[m]? = some x := e2
    rw [onesB_at hb'] at e2
    cases e2
    have hle := lenB_take_mono bs (i := m) (j := bs.length) (by omega)
    rw [List.take_length] at hle
    have hfa := froms_at bs 0 m hml
    refine ⟨p.1, c3, p.2, c4, q1, o1, g1, g2, g3, _, g4, q2, o2, e1, by omega, by omega, _, e3 2 _ rfl, rfl, rfl, ?_⟩
    dsimp only
    rw [Nat.zero_add] at hfa ⊢
    rw [wrap64_id (by omega) (by omega)]
    unfold farI
    rw [List.getLast?_eq_getElem?, hm]
    dsimp only
    rw [List.getD, hfa]; rfl
  rintro fr H1 ⟨rfl, rfl⟩
  have hon : onesB 0 (bs ++ [b]) = onesB 0 bs ++ [(b.base, endB b, ((lenB bs : Nat) : Int), ((lenB bs + flen b : Nat) : Int))] := by rw [onesB_app, Nat.zero_add]; rfl
  have hfr : froms 0 (bs ++ [b]) = froms 0 bs ++ [lenB bs] := by rw [froms_app, Nat.zero_add]; rfl
  have hl3 := ixV_len bs
  -- the last part: the batch is put behind
  have tail : ∀ (r : Sl) (H4 : Heap), HL.Holds (blk q (.cells #[.pointer (some ⟨d, 0, none⟩), .string nS, .int .i64 base, .slice p.1.p p.1.n p.1.c, .slice r.p r.n r.c] 76 (0, 0)) :: own 82 4 p.1 ((onesB 0 bs).flatMap eO) :: own 3 1 r (iv (ixV (bs ++ [b]))) :: cs) H4 →
      ∃ l7 : Sl, cellH H4 ⟨q, 0 + 3, none⟩ = some (.slice l7.p l7.n l7.c) ∧ ∀ q4 : Nat, H4 q4 = none → letH (Heap.upd H4 q4 (.cells #[.int .i64 b.base, .int .i64 (endB b), .int .i64 (lenB bs : Nat), .int .i64 ((lenB bs + flen b : Nat) : Int)] 82 (0, 0))) fun H5 => HL.Sub H4 H5 ∧
        runH Tryz.prog (Builtin.append_ #[74, 74] 74 #[.slice l7.p l7.n l7.c, .slice (some ⟨q4, 0, none⟩) 1 1]) H5 fun r2 H6 => ∃ l8 : Sl, r2 = .slice l8.p l8.n l8.c ∧ (∃ u, cellH H6 ⟨q, 0 + 3, none⟩ = some u) ∧ frozenH H6 ⟨q, 0 + 3, none⟩ = false ∧ letH (Heap.set H6 ⟨q, 0 + 3, none⟩ (.slice l8.p l8.n l8.c)) fun H7 => K (.tuple #[]) H7 := fun r H4 h4 => by
    refine ⟨p.1, h4.cell 0 rfl rfl, pushS okOne h4.swap (xs := [.int .i64 b.base, .int .i64 (endB b), .int .i64 (lenB bs : Nat), .int .i64 ((lenB bs + flen b : Nat) : Int)]) (m := 1) rfl rfl (by omega) fun r2 H6 h6 n6 => ⟨r2, rfl, ?_⟩⟩
    refine h6.store 1 rfl (by simp) fun H7 h7 => k H7 (sgc_open.2 ⟨(r2, r), ?_⟩)
    have e : (onesB 0 bs).flatMap eO ++ [.int .i64 b.base, .int .i64 (endB b), .int .i64 (lenB bs : Nat), .int .i64 ((lenB bs + flen b : Nat) : Int)] = (onesB 0 (bs ++ [b])).flatMap eO := by rw [hon, List.flatMap_append]; rfl
    have h7 : HL.Holds (own 82 4 r2 ((onesB 0 bs).flatMap eO ++ [.int .i64 b.base, .int .i64 (endB b), .int .i64 (lenB bs : Nat), .int .i64 ((lenB bs + flen b : Nat) : Int)]) :: blk q (.cells #[.pointer (some ⟨d, 0, none⟩), .string nS, .int .i64 base, .slice r2.p r2.n r2.c, .slice r.p r.n r.c] 76 (0, 0)) :: own 3 1 r (iv (ixV (bs ++ [b]))) :: cs) H7 := h7
    rw [e] at h7
    exact h7.swap
  refine br_intro (fun w => ?_) (fun w => ?_)
  · refine ⟨p.2, c4, p.1, c3, pushS okInt (h1.pull 2 rfl) (xs := [.int .i64 (p.1.n : Nat)]) (m := 1) rfl rfl (by omega) fun r H3 h3 n3 => ⟨r, rfl, ?_⟩⟩
    refine h3.store 1 rfl (by simp) fun H4 h4 => tail r H4 ?_
    have e : iv (ixV bs) ++ [.int .i64 (p.1.n : Nat)] = iv (ixV (bs ++ [b])) := by
      show _ = iv ((idxI (froms 0 (bs ++ [b]))).map fun i : Nat => (i : Int))
      rw [hfr, idxI_snoc]
      unfold addS
      rw [if_pos w, froms_len, hn]
      simp [iv]
    have h4 : HL.Holds (own 3 1 r (iv (ixV bs) ++ [.int .i64 (p.1.n : Nat)]) :: blk q (.cells #[.pointer (some ⟨d, 0, none⟩), .string nS, .int .i64 base, .slice p.1.p p.1.n p.1.c, .slice r.p r.n r.c] 76 (0, 0)) :: own 82 4 p.1 ((onesB 0 bs).flatMap eO) :: cs) H4 := h4
    rw [e] at h4
    exact h4.down 2
  · refine tail p.2 H1 ?_
    have e : ixV (bs ++ [b]) = ixV bs := by
      show (idxI (froms 0 (bs ++ [b]))).map _ = _
      rw [hfr, idxI_snoc]
      unfold addS
      rw [if_neg (by rw [w]; decide)]
    rw [e]; exact h1
def appB (size base : Int) (bs : List Ba) (b : Ba) : Int := if rightB b ≠ 0 then rightB b else if b.base ≠ nextB base bs then 11 else if endB b > 1000000000 then 20 else if bs.length ≥ 4096 then 3 else if ((lenB bs + flen b : Nat) : Int) > size then 7 else 0
def appL (size base : Int) (bs : List Ba) (b : Ba) : List Ba := if appB size base bs b = 0 then bs ++ [b] else bs
theorem fB_snoc (bs : List Ba) (b : Ba) : fB bs ++ strN (frameB b) = fB (bs ++ [b]) := by
  show strN _ ++ _ = strN _
  rw [strN_app, List.flatMap_append]; simp
theorem fB_extract (bs : List Ba) (t : ByteArray) : (fB bs ++ t).extract 0 (lenB bs) = fB bs := by
  refine nb_inj ?_
  have e : nb (fB bs) = bs.flatMap frameB := nb_str (frames_b bs)
  rw [nb_extract, nb_append, e]
  show ((bs.flatMap frameB ++ nb t).take (bs.flatMap frameB).length).drop 0 = _
  rw [List.take_left]; rfl
theorem append5_spec {q d i : Nat} {size base z : Int} {bs : List Ba} {b : Ba} {s : Sl} {c0 : Chunk} (h : HL.Holds (sgc q d base bs :: dsk d size (F1 (fB bs) z) :: cs) H) (hs : SegOk base bs) (g : Gives c0 fun A => Recs eR A s b.recs) (ei : cs[i]? = some c0)
    (k : ∀ H', HL.Holds (sgc q d base (appL size base bs b) :: dsk d size (F1 (fB (appL size base bs b)) z) :: cs) H' → K (.int .i64 (appB size base bs b)) H') :
    FnH Tryz.prog 13 #[.pointer (some ⟨q, 0, none⟩), .agg #[.int .i64 b.base, .int .i64 b.epoch, .int .i64 b.pid, .int .i64 b.pe, .int .i64 b.seq, .slice s.p s.n s.c]] H K := by
  apply segment_Segment_Append_fn
  unfold segment_Segment_Append_vc
  have hzl := hs.lenB
  have stay : ∀ {e : Int}, appB size base bs b = e → e ≠ 0 → ∀ {H'}, HL.Holds (sgc q d base bs :: dsk d size (F1 (fB bs) z) :: cs) H' → K (.int .i64 e) H' := fun {e} h1 h2 H' h' => by
    unfold appL at k
    rw [h1, if_neg h2] at k
    exact k H' h'
  have hsn : s.n = b.recs.length := (g.at_ h (i + 2) ei).len
  refine batch_spec h g (i := i + 2) ei fun H1 h1 => ⟨_, _, rfl, br_intro (fun w => ?_) (fun w => ?_)⟩
  · have w : rightB b ≠ 0 := by simpa using w
    exact stay (by unfold appB; rw [if_pos w]) w h1
  have w : rightB b = 0 := by simpa using w
  have hk := right_facts w
  have hf := hk.flen
  rw [if_pos w]
  refine next5_spec (i := 0) h1 rfl hs.len ⟨_, rfl, HL.Sub.refl _, br_intro (fun w2 => ?_) (fun w2 => ?_)⟩
  · have w2 : b.base ≠ nextB base bs := by simpa using w2
    exact stay (by unfold appB; rw [if_neg (fun z => z w), if_pos w2]) (by decide) h1
  have w2 : b.base = nextB base bs := by simpa using w2
  have hb0 := hk.base
  have hfew := hk.few
  refine end5_spec (by omega) (by omega) ⟨_, rfl, ?_⟩
  have hend : b.base + ((s.n : Nat) : Int) = endB b := by unfold endB; rw [hsn]
  rw [hend]
  refine br_intro (fun w3 => ?_) (fun w3 => ?_)
  · exact stay (by unfold appB; rw [if_neg (fun z => z w), if_neg (fun z => z w2), if_pos (of_decide_eq_true w3)]) (by decide) h1
  have w3 := of_decide_eq_false w3
  obtain ⟨p, hp⟩ := sgc_open.1 h1
  obtain ⟨-, -, hn⟩ := ones_recs hs.len hp
  refine ⟨p.1, hp.cell 0 rfl rfl, br_intro (fun w4 => ?_) (fun w4 => ?_)⟩
  · have w4 := of_decide_eq_true w4
    exact stay (by unfold appB; rw [if_neg (fun z => z w), if_neg (fun z => z w2), if_neg w3, if_pos (by omega)]) (by decide) h1
  have w4 : ¬ bs.length ≥ 4096 := by have := of_decide_eq_false w4; omega
  refine bytes5_spec (i := 0) (j := 1) h1 rfl rfl ⟨_, rfl, _, hp.cell 0 rfl rfl, _, hp.cell 0 rfl rfl, ?_⟩
  have hsz : (strN (frameB b)).size = flen b := strN_size (frameB_b b)
  have hfs := fB_size bs
  obtain ⟨z0, z1, z2, z3⟩ := dsk_safe (h1.pull 1 rfl)
  refine append_spec (h1.pull 1 rfl) (by omega) fun H5 h5 => ⟨_, rfl, ?_⟩
  rw [hfs]
  by_cases hfull : ((lenB bs + flen b : Nat) : Int) > size
  · obtain ⟨e1, t, e2⟩ := app1_full (size := size) (b := fB bs) (s := strN (frameB b)) (z := z) (by omega)
    rw [e2] at h5
    rw [e1]
    obtain ⟨p5, hp5⟩ := sgc_open.1 (h5.down 1)
    refine br_t rfl ⟨_, hp5.cell 0 rfl rfl, _, hp5.cell 0 rfl rfl, cut_spec h5 fun H6 h6 => ⟨_, rfl, ?_⟩⟩
    rw [cut1 (by omega) (by rw [ByteArray.size_append, hfs]; omega), Int.toNat_natCast, fB_extract, if_neg (by omega)] at h6
    exact stay (by unfold appB; rw [if_neg (fun z => z w), if_neg (fun z => z w2), if_neg w3, if_neg w4, if_pos hfull]) (by decide) (h6.down 1)
  · obtain ⟨e1, e2⟩ := app1_ok (size := size) (b := fB bs) (s := strN (frameB b)) (z := z) (by omega)
    rw [e2, fB_snoc] at h5
    rw [e1]
    have e0 : appB size base bs b = 0 := by unfold appB; rw [if_neg (fun z => z w), if_neg (fun z => z w2), if_neg w3, if_neg w4, if_neg hfull]
    unfold appL at k
    rw [if_pos e0, e0] at k
    refine br_f rfl (end5_spec (by omega) (by omega) ⟨_, rfl, HL.Sub.refl _, ?_⟩)
    rw [hend, hsz, wrap64_id (n := ((lenB bs : Nat) : Int) + (flen b : Nat)) (by omega) (by omega)]
    exact add5_spec (h5.down 1) (by omega) (by omega) fun H8 h8 => ⟨rfl, k H8 h8⟩
theorem sync5_spec {q d : Nat} {size base z : Int} {bs : List Ba} (h : HL.Holds (sgc q d base bs :: dsk d size (F1 (fB bs) z) :: cs) H) (k : ∀ H', HL.Holds (sgc q d base bs :: dsk d size (F1 (fB bs) (lenB bs : Nat)) :: cs) H' → K (.int .i64 0) H') : FnH Tryz.prog 16 #[.pointer (some ⟨q, 0, none⟩)] H K := by
  apply segment_Segment_Sync_fn
  unfold segment_Segment_Sync_vc
  obtain ⟨p, hp⟩ := sgc_open.1 h
  refine ⟨_, hp.cell 0 rfl rfl, _, hp.cell 0 rfl rfl, sync_spec (h.pull 1 rfl) fun H1 h1 => ⟨_, rfl, ?_⟩⟩
  rw [syn1, fB_size] at h1
  rw [look1, if_neg (by simp)]
  exact k H1 (h1.down 1)
end
end Go.Proofs.YtokceblmbmajgaaGreatDoor
