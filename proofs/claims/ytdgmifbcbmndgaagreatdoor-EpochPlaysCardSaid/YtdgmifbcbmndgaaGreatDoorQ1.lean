/- Chapter 7: the document's cache: Bytes, write, Open, ahead, All, Last, Cut, Begin. -/
import Derived.Test.YtdgmifbcbmndgaaGreatDoorL1
import Derived.Test.YtdgmifbcbmndgaaGreatDoorR1
import Derived.Test.YtdgmifbcbmndgaaGreatDoorRk
namespace Go.Proofs.YtdgmifbcbmndgaaGreatDoor
open Go Go.HL
set_option maxHeartbeats 1600000
set_option maxRecDepth 10000

def rch (c d : Nat) (n : ByteArray) (L : List En) : Chunk := fun H => ∃ s : Sl, HL.Holds [blk c (.cells #[.pointer (some ⟨d, 0, none⟩), .string n, .slice s.p s.n s.c] 60 (0, 0)), ownE s L] H
theorem rch_mono {c d : Nat} {n : ByteArray} {L : List En} : Mono (rch c d n L) := fun _ _ hs ⟨q, h⟩ => ⟨q, h.up hs⟩
theorem rch_open {cs : List Chunk} {H : Heap} {c d : Nat} {n : ByteArray} {L : List En} : HL.Holds (rch c d n L :: cs) H ↔ ∃ s : Sl, HL.Holds (blk c (.cells #[.pointer (some ⟨d, 0, none⟩), .string n, .slice s.p s.n s.c] 60 (0, 0)) :: ownE s L :: cs) H := Holds.open
theorem lift_ro {cs : List Chunk} {c : Chunk} {H H' : Heap} (h : HL.Holds cs H) (g : HL.Holds [c, ro H] H') : HL.Holds (c :: cs) H' := by
  have h3 : HL.Holds (HL.Holds cs :: [c]) H' := (g.swap.head (d := HL.Holds cs) fun A hA => h.up hA)
  exact ((Holds.flat.1 h3).perm List.perm_append_comm)
theorem ahead_add {A : List En} {x : En} {off : Int} (h : x.2.1 < off) : aheadL (A ++ [x]) off = aheadL A off ++ [x] := by simp [aheadL, List.filter_append, h]
theorem ahead_skip {A : List En} {x : En} {off : Int} (h : ¬ x.2.1 < off) : aheadL (A ++ [x]) off = aheadL A off := by
  simp only [aheadL, List.filter_append]
  rw [List.filter_cons_of_neg (by simpa using h)]; simp
section
variable {cs : List Chunk} {H : Heap} {K : Value → Heap → Prop}
theorem rmay_spec {n : Int} (k : K (.bool (decide (mayP n))) H) : FnH Tryz.prog 34 #[.int .i64 n] H K := by
  apply logboomref7_may_fn
  unfold logboomref7_may_vc
  refine br_intro (fun q => ?_) (fun q => ?_)
  · have q := of_decide_eq_true q
    have e : decide (mayP n) = decide (n ≤ 1000000000) := by
      by_cases z : n ≤ 1000000000
      · rw [decide_eq_true z, decide_eq_true ⟨q, z⟩]
      · rw [decide_eq_false z, decide_eq_false (fun w => z w.2)]
    rw [e] at k; exact k
  · have q := of_decide_eq_false q
    rw [decide_eq_false (fun w => q w.1)] at k; exact k
theorem rahead_spec {c d i : Nat} {n : ByteArray} {L : List En} {off : Int} (h : HL.Holds cs H) (ei : cs[i]? = some (rch c d n L)) (hl : L.length ≤ 1000) (k : ∀ (s : Sl) H', HL.Holds (ownE s (aheadL L off) :: cs) H' → K (.slice s.p s.n s.c) H') : FnH Tryz.prog 35 #[.pointer (some ⟨c, 0, none⟩), .int .i64 off] H K := by
  apply logboomref7_Cache_ahead_fn
  unfold logboomref7_Cache_ahead_vc
  obtain ⟨s, hc⟩ := h.read i ei rch_mono
  refine ⟨fun out j H' => 0 ≤ j ∧ j ≤ s.n ∧ HL.Holds [ownE out (aheadL (L.take j.toNat) off), ro H] H', fun _ j _ => (s.n - j).toNat, ⟨Int.le_refl _, by omega, (Holds.whole H).own_nil 51 3⟩, ?_⟩
  rintro out j H1 ⟨j0, j1, h1⟩
  have hc1 := hc.up (h1.sub 1 rfl)
  have hR : Recs eE H1 s L := Own.recs eElen (by decide) (hc1.own 1 rfl) (by omega)
  have hn := hR.len
  have hol := (h1.own 0 rfl).1
  rw [flat_len eElen] at hol
  have hfl : (aheadL (L.take j.toNat) off).length ≤ (L.take j.toNat).length := List.length_filter_le _ _
  rw [List.length_take] at hfl
  have c2 : cellH H1 ⟨c, 0 + 2, none⟩ = some (.slice s.p s.n s.c) := hc1.cell 0 rfl rfl
  refine ⟨s, c2, br_intro (fun w => ?_) (fun w => ?_)⟩
  · have w := of_decide_eq_true w
    obtain ⟨b, o, x, e1, e2, e3⟩ := hR.at_ eElen (by decide) j0 w
    rw [wrap64_id (n := j + 1) (by omega) (by omega)]
    refine ⟨s, c2, b, o, e1, j0, w, _, e3 1 _ rfl, br_intro (fun u => ⟨s, c2, b, o, e1, j0, w, _, e3 0 _ rfl, _, e3 1 _ rfl, _, e3 2 _ rfl, ?_⟩) (fun u => ⟨rfl, ⟨by omega, by omega, ?_⟩, by dsimp only; omega⟩)⟩
    · refine Holds.push okEn h1 (xs := [.int .i64 x.1, .int .i64 x.2.1, .string x.2.2]) (m := 1) rfl rfl (by omega) fun l4 H3 h3 n3 => ⟨l4, rfl, rfl, ⟨by omega, by omega, ?_⟩, by dsimp only; omega⟩
      rw [take_step j0 e2, ahead_add (of_decide_eq_true u)]
      have e : (aheadL (L.take j.toNat) off ++ [x]).flatMap eE = (aheadL (L.take j.toNat) off).flatMap eE ++ [.int .i64 x.1, .int .i64 x.2.1, .string x.2.2] := by simp
      show HL.Holds [own 51 3 l4 _, ro H] H3
      rw [e]; exact h3
    · rw [take_step j0 e2, ahead_skip (of_decide_eq_false u)]
      exact h1
  · have w := of_decide_eq_false w
    rw [List.take_of_length_le (by omega)] at h1
    exact k out H1 (lift_ro h h1)
theorem rbytes_spec {s : Sl} {l : List En} (h : Recs eE H s l) (hl : l.length ≤ 1000) (hi : ∀ e ∈ l, i64B e.1 ∧ i64B e.2.1) (k : ∀ H', HL.Sub H H' → K (.string (fileE l)) H') : FnH Tryz.prog 54 #[.slice s.p s.n s.c] H K := by
  apply logboomref7_Bytes_fn
  unfold logboomref7_Bytes_vc
  have hn := h.len
  refine rint3_spec (n := (s.n : Nat)) ⟨by omega, by omega⟩ fun H1 s1 => ⟨_, rfl, ?_⟩
  refine ⟨fun v i H' => 0 ≤ i ∧ i ≤ s.n ∧ HL.Sub H H' ∧ v = strN (encN l.length ++ (l.take i.toNat).flatMap eN), fun _ i _ => (s.n - i).toNat, ⟨Int.le_refl _, by omega, s1, by rw [hn]; simp⟩, ?_⟩
  rintro v i H2 ⟨i0, i1, s2, rfl⟩
  have hR := Recs.mono _ _ s2 h
  have hlen := flatN_len (l.take i.toNat)
  rw [List.length_take] at hlen
  have h10 := encN_len ((l.length : Nat) : Int)
  have hvb : ∀ b ∈ encN l.length ++ (l.take i.toNat).flatMap eN, b < 256 := fun b hb => by
    rcases List.mem_append.1 hb with z | z
    · exact encN_bytes _ b z
    · exact flatN_bytes _ b z
  have ev : (strN (encN l.length ++ (l.take i.toNat).flatMap eN)).size = (encN l.length).length + ((l.take i.toNat).flatMap eN).length := by rw [← nb_len, nb_str hvb, List.length_append]
  refine br_intro (fun w => ?_) (fun w => ?_)
  · have w := of_decide_eq_true w
    obtain ⟨q1, o1, x, x1, x2, x3⟩ := hR.at_ eElen (by decide) i0 w
    obtain ⟨b1, b2⟩ := hi x (List.mem_of_getElem? x2)
    have e1 : (strN (encN x.1)).size = (encN x.1).length := by rw [← nb_len, nb_str (encN_bytes _)]
    have e2 : (strN (encN x.2.1)).size = (encN x.2.1).length := by rw [← nb_len, nb_str (encN_bytes _)]
    have g1 := encN_len x.1
    have g2 := encN_len x.2.1
    refine ⟨q1, o1, x1, i0, w, _, x3 0 _ rfl, q1, o1, x1, i0, w, _, x3 1 _ rfl, rint3_spec b1 fun H3 s3 => ⟨_, rfl, s3, by rw [ev, e1]; omega, rint3_spec b2 fun H4 s4 => ⟨_, rfl, s3.trans s4, by rw [ByteArray.size_append, ev, e1, e2]; omega, rfl, ?_⟩⟩⟩
    rw [wrap64_id (n := i + 1) (by omega) (by omega)]
    refine ⟨⟨by omega, by omega, s2.trans (s3.trans s4), ?_⟩, by dsimp only; omega⟩
    rw [strN_app, strN_app, take_step i0 x2, List.flatMap_append]
    simp
  · have w := of_decide_eq_false w
    rw [List.take_of_length_le (by omega)] at *
    have hbl := bodyE_len l
    have hs1 : (strN (bodyE l)).size = (bodyE l).length := by rw [← nb_len, nb_str (bodyE_bytes l)]
    have hs2 : (strN (fourN (crcN (bodyE l)))).size = 4 := by rw [← nb_len, nb_str (fourN_bytes _)]; rfl
    have eF : strN (fourN (crcN (bodyE l))) ++ strN (bodyE l) = fileE l := strN_app _ _
    show FnH Tryz.prog 44 #[.string (strN (bodyE l))] H2 _
    refine rcrc_spec (by omega) ⟨_, rfl, four_spec (crcN_lt _ (nb_byte _)) fun H5 s5 => ⟨_, rfl, ?_, ?_⟩⟩
    · rw [nb_str (bodyE_bytes l)]
      show (strN (fourN (crcN (bodyE l)))).size + (strN (bodyE l)).size < _
      omega
    · rw [nb_str (bodyE_bytes l)]
      show K (.string (strN (fourN (crcN (bodyE l))) ++ strN (bodyE l))) H5
      rw [eF]; exact k H5 (s2.trans s5)
theorem rwrite_spec {c d : Nat} {size : Int} {F : Fs} {n : ByteArray} {L l : List En} {s : Sl} (h : HL.Holds (ownE s l :: rch c d n L :: rdsk d size F :: cs) H) (hl : l.length ≤ 1000) (hL : L.length ≤ 1000) (hi : ∀ e ∈ l, i64B e.1 ∧ i64B e.2.1)
    (k : ∀ H', HL.Holds (rch c d n (wrL size F n L l) :: rdsk d size (wrF size F n L l) :: cs) H' → K (.int .i64 (wrC size F n L l)) H') : FnH Tryz.prog 36 #[.pointer (some ⟨c, 0, none⟩), .slice s.p s.n s.c] H K := by
  apply logboomref7_Cache_write_fn
  unfold logboomref7_Cache_write_vc
  obtain ⟨sL, h1⟩ := rch_open.1 h.swap
  have hRL : Recs eE H sL L := Own.recs eElen (by decide) (h1.own 1 rfl) (by omega)
  have hRl : Recs eE H s l := Own.recs eElen (by decide) (h1.own 2 rfl) (by omega)
  have hsn := hRl.len
  have hsn2 := hRL.len
  have c2 : cellH H ⟨c, 0 + 2, none⟩ = some (.slice sL.p sL.n sL.c) := h1.cell 0 rfl rfl
  have go : ¬ l = L → (∃ p1 : Option Addr, cellH H ⟨c, 0, none⟩ = some (.pointer p1) ∧ ∃ s3 : ByteArray, cellH H ⟨c, 0 + 1, none⟩ = some (.string s3) ∧ FnH Tryz.prog 54 #[.slice s.p s.n s.c] H fun r2 H2 => ∃ s4 : ByteArray, r2 = .string s4 ∧ HL.Sub H H2 ∧
      FnH Tryz.prog 53 #[.pointer p1, .string s3, .string s4] H2 fun r3 H3 => ∃ n5 : Int, r3 = .int .i64 n5 ∧ br (n5 == 0) ((∃ u, cellH H3 ⟨c, 0 + 2, none⟩ = some u) ∧ frozenH H3 ⟨c, 0 + 2, none⟩ = false ∧ letH (Heap.set H3 ⟨c, 0 + 2, none⟩ (.slice s.p s.n s.c)) fun H4 => K (.int .i64 n5) H4) (K (.int .i64 n5) H3)) := fun hne => by
    unfold wrC wrF wrL at k
    rw [if_neg hne, if_neg hne, if_neg hne] at k
    refine ⟨_, h1.cell 0 rfl rfl, _, h1.cell 0 rfl rfl, rbytes_spec hRl hl hi fun H2 s2 => ⟨_, rfl, s2, ?_⟩⟩
    refine rreplace_spec (n := n) (b := fileE l) ((h1.up s2).pull 3 rfl) fun H3 h3 => ⟨_, rfl, br_intro (fun u => ?_) (fun u => ?_)⟩
    · have u : repC size F n (fileE l) = 0 := by simpa using u
      rw [if_pos u] at k
      refine h3.store 1 rfl (by simp) fun H4 h4 => k H4 (rch_open.2 ⟨s, ?_⟩)
      have h4 : HL.Holds (rdsk d size (repM size F n (fileE l)) :: blk c (.cells #[.pointer (some ⟨d, 0, none⟩), .string n, .slice s.p s.n s.c] 60 (0, 0)) :: ownE sL L :: ownE s l :: cs) H4 := h4
      exact ((h4.pull 2 rfl).tail.down 2)
    · have u : ¬ repC size F n (fileE l) = 0 := by simpa using u
      rw [if_neg u] at k
      refine k H3 (rch_open.2 ⟨sL, ?_⟩)
      exact ((h3.pull 3 rfl).tail.down 2)
  have ok : l = L → K (.int .i64 0) H := fun q => by
    unfold wrC wrF wrL at k
    rw [if_pos q, if_pos q, if_pos q] at k
    exact k H h.tail
  refine ⟨sL, c2, fun b i H' => H' = H ∧ 0 ≤ i ∧ i ≤ s.n ∧ (b = true ↔ (l.length = L.length ∧ l.take i.toNat = L.take i.toNat)), fun _ i _ => (s.n - i).toNat, ⟨rfl, Int.le_refl _, by omega, ?_⟩, ?_⟩
  · constructor
    · intro z
      have z : ((s.n : Nat) : Int) = sL.n := by simpa using z
      exact ⟨by omega, by simp⟩
    · rintro ⟨z, -⟩
      have : ((s.n : Nat) : Int) = sL.n := by omega
      simpa using this
  rintro b i H1 ⟨rfl, i0, i1, hb⟩
  have no : b = false → ¬ l = L := fun e z => by
    have := hb.2 ⟨by rw [z], by rw [z]⟩
    rw [e] at this; cases this
  refine br_intro (fun w => br_intro (fun u => ?_) (fun u => br_f u (go (no u)))) (fun w => br_intro (fun u => ok ?_) (fun u => go (no u)))
  · have w := of_decide_eq_true w
    obtain ⟨t1, t2⟩ := hb.1 u
    obtain ⟨q1, o1, x, x1, x2, x3⟩ := hRl.at_ eElen (by decide) i0 w
    obtain ⟨q2, o2, y, y1, y2, y3⟩ := hRL.at_ eElen (by decide) (j := i) i0 (by omega)
    have hst := list_eq_step t1 t2 x2 y2
    rw [wrap64_id (n := i + 1) (by omega) (by omega)]
    refine ⟨q1, o1, x1, i0, w, _, x3 0 _ rfl, _, x3 1 _ rfl, _, x3 2 _ rfl, sL, c2, q2, o2, y1, i0, by omega, _, y3 0 _ rfl, _, y3 1 _ rfl, _, y3 2 _ rfl, entry_eq ⟨_, rfl, rfl, ⟨rfl, by omega, by omega, ?_⟩, by dsimp only; omega⟩⟩
    rw [show (i + 1).toNat = i.toNat + 1 by omega]
    constructor
    · intro z
      exact ⟨t1, hst.1 (of_decide_eq_true z)⟩
    · rintro ⟨-, z⟩
      refine decide_eq_true (Decidable.byContradiction fun e => ?_)
      have g1 : (l.take (i.toNat + 1))[i.toNat]? = some x := by rw [List.getElem?_take, if_pos (by omega), x2]
      have g2 : (L.take (i.toNat + 1))[i.toNat]? = some y := by rw [List.getElem?_take, if_pos (by omega), y2]
      rw [z, g2] at g1
      exact e (Option.some.inj g1).symm
  · have w := of_decide_eq_false w
    obtain ⟨t1, t2⟩ := hb.1 u
    rw [List.take_of_length_le (by omega), List.take_of_length_le (by omega)] at t2
    exact t2
theorem ropen_spec {d : Nat} {size : Int} {F : Fs} {n : ByteArray} (h : HL.Holds (rdsk d size F :: cs) H) (k0 : ∀ H', openC F n ≠ 0 → HL.Holds (rdsk d size F :: cs) H' → K (.tuple #[.pointer none, .int .i64 (openC F n)]) H')
    (k1 : ∀ c H', openC F n = 0 → HL.Holds (rch c d n (openL F n) :: rdsk d size F :: cs) H' → K (.tuple #[.pointer (some ⟨c, 0, none⟩), .int .i64 0]) H') : FnH Tryz.prog 8 #[.pointer (some ⟨d, 0, none⟩), .string n] H K := by
  apply logboomref7_Open_fn
  unfold logboomref7_Open_vc
  have hsz : (getF F n).1.size ≤ 268435456 := by
    obtain ⟨s, hB, -⟩ := rdsk_open.1 h
    have := (hB.get n).1
    have := hB.use
    have := hB.s1
    omega
  refine rread_spec (j := 0) h rfl ⟨_, _, rfl, ?_⟩
  unfold openC at k0 k1
  unfold openL at k1
  by_cases e : lookL F n = none
  · rw [if_pos e, if_pos e] at k1
    rw [if_pos e]
    exact br_t rfl (h.new fun c H1 h1 => k1 c H1 rfl (rch_open.2 ⟨⟨none, 0, 0⟩, (h1.own_nil 51 3).swap⟩))
  · rw [if_neg e, if_neg e] at k1
    rw [if_neg e] at k0
    rw [if_neg e]
    refine br_f rfl (rread7_spec h hsz (fun H3 hc h3 => ⟨⟨none, 0, 0⟩, _, rfl, br_t (by simpa using hc) (k0 H3 hc h3)⟩) fun r H3 hc h3 => ⟨r, _, rfl, br_f rfl (h3.new fun c H4 h4 => k1 c H4 hc (rch_open.2 ⟨r, h4⟩))⟩)
theorem rlast_spec {c d i : Nat} {n : ByteArray} {L : List En} (h : HL.Holds cs H) (ei : cs[i]? = some (rch c d n L)) (hl : L.length ≤ 1000) (k : K (.int .i64 (lastR L)) H) : FnH Tryz.prog 26 #[.pointer (some ⟨c, 0, none⟩)] H K := by
  apply logboomref7_Cache_Last_fn
  unfold logboomref7_Cache_Last_vc
  obtain ⟨s, hc⟩ := h.read i ei rch_mono
  have hR : Recs eE H s L := Own.recs eElen (by decide) (hc.own 1 rfl) (by omega)
  have hn := hR.len
  unfold lastR at k
  refine ⟨s, hc.cell 0 rfl rfl, br_intro (fun q => ?_) (fun q => ?_)⟩
  · have q : ((s.n : Nat) : Int) = 0 := by simpa using q
    have : L = [] := List.eq_nil_of_length_eq_zero (by omega)
    rw [this] at k; exact k
  · have q : ¬ ((s.n : Nat) : Int) = 0 := by simpa using q
    refine ⟨s, hc.cell 0 rfl rfl, s, hc.cell 0 rfl rfl, ?_⟩
    rw [wrap64_id (n := (s.n : Int) - 1) (by omega) (by omega)]
    obtain ⟨b, o, x, e1, e2, e3⟩ := hR.at_ eElen (by decide) (j := (s.n : Int) - 1) (by omega) (by omega)
    have el : L.getLast? = some x := by
      rw [List.getLast?_eq_getElem?, ← e2]; congr 1; omega
    rw [el] at k
    exact ⟨b, o, e1, by omega, by omega, _, e3 0 _ rfl, k⟩
theorem rall_spec {c d i : Nat} {n : ByteArray} {L : List En} (h : HL.Holds cs H) (ei : cs[i]? = some (rch c d n L)) (hl : L.length ≤ 1000) (k : ∀ (r : Sl) H', HL.Sub H H' → HL.Holds (ownE r L :: cs) H' → K (.slice r.p r.n r.c) H') : FnH Tryz.prog 22 #[.pointer (some ⟨c, 0, none⟩)] H K := by
  apply logboomref7_Cache_All_fn
  unfold logboomref7_Cache_All_vc
  obtain ⟨s, hc⟩ := h.read i ei rch_mono
  have hR : Recs eE H s L := Own.recs eElen (by decide) (hc.own 1 rfl) (by omega)
  have hn := hR.len
  have hW := Holds.whole H
  intro q1 hq1
  refine letH_intro fun H1 g1 => ?_
  have s1 : HL.Sub H H1 := by rw [g1]; exact HL.Sub.new hq1 _
  have h1 : HL.Holds [blk q1 (.cells #[] 51 (0, 0)), ro H] H1 := by rw [g1]; exact hW.add hq1 _
  have h2 : HL.Holds [own 51 3 ⟨some ⟨q1, 0, none⟩, 0, 0⟩ [], ro H] H1 := h1.head fun A hA => ⟨by simp, Nat.le_refl _, .inr ⟨q1, #[], rfl, hA, by simp, fun i hi => by simp at hi⟩⟩
  refine ⟨s, (hc.up s1).cell 0 rfl rfl, ?_⟩
  refine Holds.append (s := ⟨some ⟨q1, 0, none⟩, 0, 0⟩) okEn okEn.under h2 (hR.cells.sub s1) (by rw [flat_len eElen, hn]) (noTups_eE _) (by show 0 + s.n ≤ _; omega) fun r H' h' n' => ⟨r, rfl, k r H' (h'.sub 1 rfl) (lift_ro h h')⟩
theorem rcut_spec7 {c d : Nat} {size : Int} {F : Fs} {n : ByteArray} {L : List En} {off : Int} (h : HL.Holds (rch c d n L :: rdsk d size F :: cs) H) (hL : EOk L)
    (k : ∀ H', HL.Holds (rch c d n (cutR size F n L off).2.2 :: rdsk d size (cutR size F n L off).2.1 :: cs) H' → K (.int .i64 (cutR size F n L off).1) H') : FnH Tryz.prog 12 #[.pointer (some ⟨c, 0, none⟩), .int .i64 off] H K := by
  apply logboomref7_Cache_Cut_fn
  unfold logboomref7_Cache_Cut_vc
  have hlen := hL.len
  unfold cutR at k
  refine rmay_spec ⟨_, rfl, br_intro (fun q => ?_) (fun q => ?_)⟩
  · have q : ¬ mayP off := nd_t q
    rw [if_pos q] at k; dsimp only at k; exact k H h
  have q : mayP off := nd_f q
  rw [if_neg (fun z => z q)] at k
  dsimp only [wr] at k
  have hfl : (aheadL L off).length ≤ L.length := List.length_filter_le _ _
  exact rahead_spec (i := 0) h rfl (by omega) fun s H2 h2 => ⟨s, rfl, rwrite_spec h2 (by omega) (by omega) (ahead_may hL off) fun H3 h3 => ⟨_, rfl, k H3 h3⟩⟩
theorem rbegin_spec {c d : Nat} {size : Int} {F : Fs} {n : ByteArray} {L : List En} {ep off : Int} (h : HL.Holds (rch c d n L :: rdsk d size F :: cs) H) (hL : EOk L)
    (k : ∀ H', HL.Holds (rch c d n (beginR size F n L ep off).2.2 :: rdsk d size (beginR size F n L ep off).2.1 :: cs) H' → K (.int .i64 (beginR size F n L ep off).1) H') : FnH Tryz.prog 10 #[.pointer (some ⟨c, 0, none⟩), .int .i64 ep, .int .i64 off] H K := by
  apply logboomref7_Cache_Begin_fn
  unfold logboomref7_Cache_Begin_vc
  have hlen := hL.len
  unfold beginR at k
  refine rmay_spec ⟨_, rfl, rmay_spec ⟨_, rfl, br_intro (fun q => ?_) (fun q => br_intro (fun q2 => ?_) (fun q2 => ?_))⟩⟩
  · have q : ¬ mayP ep := nd_t q
    rw [if_pos (fun z => q z.1)] at k; dsimp only at k; exact k H h
  · have q2 : ¬ mayP off := nd_t q2
    rw [if_pos (fun z => q2 z.2)] at k; dsimp only at k; exact k H h
  have q : mayP ep := nd_f q
  have q2 : mayP off := nd_f q2
  rw [if_neg (fun z => z ⟨q, q2⟩)] at k
  obtain ⟨s, hc⟩ := rch_open.1 h
  have hR : Recs eE H s L := Own.recs eElen (by decide) (hc.own 1 rfl) (by omega)
  have hn := hR.len
  have hfl : (aheadL L off).length ≤ L.length := List.length_filter_le _ _
  have go : (∀ H', HL.Holds (rch c d n (goB size F n L ep off).2.2 :: rdsk d size (goB size F n L ep off).2.1 :: cs) H' → K (.int .i64 (goB size F n L ep off).1) H') →
      FnH Tryz.prog 35 #[.pointer (some ⟨c, 0, none⟩), .int .i64 off] H fun r3 H3 => ∃ l4 : Sl, r3 = .slice l4.p l4.n l4.c ∧ ∀ q2 : Nat, H3 q2 = none → letH (Heap.upd H3 q2 (.cells #[.int .i64 ep, .int .i64 off, .string (⟨#[]⟩ : ByteArray)] 51 (0, 0))) fun H4 =>
        runH Tryz.prog (Builtin.append_ #[44, 44] 44 #[.slice l4.p l4.n l4.c, .slice (some ⟨q2, 0, none⟩) 1 1]) H4 fun r4 H5 => ∃ l5 : Sl, r4 = .slice l5.p l5.n l5.c ∧ br (decide ((l5.n : Int) > 200)) (K (.int .i64 3) H5)
          (FnH Tryz.prog 36 #[.pointer (some ⟨c, 0, none⟩), .slice l5.p l5.n l5.c] H5 fun r5 H6 => ∃ n3 : Int, r5 = .int .i64 n3 ∧ K (.int .i64 n3) H6) := fun k => by
    unfold goB at k
    refine rahead_spec (i := 0) h rfl (by omega) fun r H3 h3 => ⟨r, rfl, ?_⟩
    have hrl := (h3.own 0 rfl).1
    rw [flat_len eElen] at hrl
    refine Holds.push okEn h3 (xs := [.int .i64 ep, .int .i64 off, .string (⟨#[]⟩ : ByteArray)]) (m := 1) rfl rfl (by omega) fun r2 H4 h4 n4 => ⟨r2, rfl, ?_⟩
    have e4 : (aheadL L off).flatMap eE ++ [.int .i64 ep, .int .i64 off, .string (⟨#[]⟩ : ByteArray)] = (aheadL L off ++ [(ep, off, (⟨#[]⟩ : ByteArray))]).flatMap eE := by simp
    rw [e4] at h4
    have h5 : HL.Holds (ownE r2 (aheadL L off ++ [(ep, off, ⟨#[]⟩)]) :: rch c d n L :: rdsk d size F :: cs) H4 := h4
    have hr2 := (h5.own 0 rfl).1
    rw [flat_len eElen, List.length_append] at hr2
    simp only [List.length_cons, List.length_nil] at hr2
    refine br_intro (fun w => ?_) (fun w => ?_)
    · have w := of_decide_eq_true w
      rw [if_pos (by omega)] at k; dsimp only at k; exact k H4 h5.tail
    · have w := of_decide_eq_false w
      rw [if_neg (by omega)] at k
      dsimp only [wr] at k
      refine rwrite_spec (s := r2) (l := aheadL L off ++ [(ep, off, ⟨#[]⟩)]) h5 (by simp; omega) (by omega) (fun e he => ?_) fun H5 h5 => ⟨_, rfl, k H5 h5⟩
      rcases List.mem_append.1 he with w | w
      · exact ahead_may hL off e w
      · simp only [List.mem_singleton] at w
        subst w
        show i64B ep ∧ i64B off
        exact ⟨⟨by omega, by omega⟩, by omega, by omega⟩
  refine ⟨s, hc.cell 0 rfl rfl, br_intro (fun w => ?_) (fun w => ?_)⟩
  · have w := of_decide_eq_true w
    refine ⟨s, hc.cell 0 rfl rfl, s, hc.cell 0 rfl rfl, ?_⟩
    rw [wrap64_id (n := (s.n : Int) - 1) (by omega) (by omega)]
    obtain ⟨b, o, x, e1, e2, e3⟩ := hR.at_ eElen (by decide) (j := (s.n : Int) - 1) (by omega) (by omega)
    have el : L.getLast? = some x := by
      rw [List.getLast?_eq_getElem?, ← e2]; congr 1; omega
    rw [el] at k
    dsimp only at k
    refine ⟨b, o, e1, by omega, by omega, _, e3 0 _ rfl, _, e3 1 _ rfl, _, e3 2 _ rfl, HL.Sub.refl _, br_intro (fun u => br_intro (fun v => ?_) (fun v => br_intro (fun u2 => ?_) (fun u2 => ?_))) (fun u => br_intro (fun u2 => ?_) (fun u2 => ?_))⟩
    · have u : ep = x.1 := by simpa using u
      have v := of_decide_eq_true v
      rw [if_pos ⟨u, v⟩] at k; dsimp only at k; exact k H h
    · have v := of_decide_eq_false v
      have u2 := of_decide_eq_true u2
      rw [if_neg (fun z => v z.2), if_pos u2] at k; dsimp only at k; exact k H h
    · have v := of_decide_eq_false v
      have u2 := of_decide_eq_false u2
      rw [if_neg (fun z => v z.2), if_neg u2] at k; exact go k
    · have u : ¬ ep = x.1 := by simpa using u
      have u2 := of_decide_eq_true u2
      rw [if_neg (fun z => u z.1), if_pos u2] at k; dsimp only at k; exact k H h
    · have u : ¬ ep = x.1 := by simpa using u
      have u2 := of_decide_eq_false u2
      rw [if_neg (fun z => u z.1), if_neg u2] at k; exact go k
  · have w := of_decide_eq_false w
    have e0' : L = [] := List.eq_nil_of_length_eq_zero (by omega)
    have el : L.getLast? = none := by rw [e0']; rfl
    rw [el] at k
    exact go k
end
end Go.Proofs.YtdgmifbcbmndgaaGreatDoor
