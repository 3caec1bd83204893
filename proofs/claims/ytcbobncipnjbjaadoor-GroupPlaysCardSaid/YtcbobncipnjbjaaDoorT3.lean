/- Chapter 15: the names, and both held against one another. -/
import Derived.Test.YtcbobncipnjbjaaDoorT2
import Derived.Test.YtcbobncipnjbjaaDoorLays
import Derived.Test.YtcbobncipnjbjaaDoorHlSorted
namespace Go.Proofs.YtcbobncipnjbjaaDoor
open Go Go.HL Go.RowKit Go.Maps Go.Shelf
set_option maxHeartbeats 1600000
set_option maxRecDepth 10000

theorem sortsA (m : Nat) : AnyZ.SortsIn Tryd.prog Tryd.sortedA_ren Fence.wide m :=
  ⟨fun blk off cap ss W hH hblk hsz => callsIn_wide.2 (AnyM.slices_Sort_string Tryd.sortA blk off cap ss W hH hblk hsz),
   fun p cap W => callsIn_wide.2 (AnyM.slices_Sort_string_none Tryd.sortA p cap W)⟩
theorem keys_spec {cs : List Chunk} {H : Heap} {b : Nat} {K : Value → Heap → Prop} (h : HL.Holds cs H) (k : ∀ q H', HL.Holds (blk q (.cells #[.map (some b)] 53 (0, 0)) :: cs) H' → K (.func (.func 54) #[] #[.pointer (some ⟨q, 0, none⟩)]) H') :
    FnH Tryd.prog 49 #[.map (some b)] H K :=
  keys_fn (T := 53) (g := 54) (fun w => (callsIn_wide (n := 5)).1 (AnyZ.keys_in Tryd.keysA Fence.wide 5 trivial rfl (some b) w)) h k
theorem sorted_spec {cs : List Chunk} {H : Heap} {q b : Nat} {l : List (ByteArray × Value)} {K : Value → Heap → Prop} (h : HL.Holds (blk q (.cells #[.map (some b)] 53 (0, 0)) :: mp b encS l :: cs) H) (hn : (l.map Prod.fst).Nodup) (hlen : l.length ≤ 268435456)
    (hwf : ∀ x ∈ l.map Prod.fst, x.size ≤ 9223372036854775807)
    (k : ∀ (s : Sl) H', HL.Holds (HL.own 9 1 s ((((l.map Prod.fst).map fun x => x.data.toList).mergeSort fun x y => decide (x ≤ y)).map Go.Proofs.encStr) :: mp b encS l :: cs) H' → K (.slice s.p s.n s.c) H') :
    FnH Tryd.prog 48 #[.func (.func 54) #[] #[.pointer (some ⟨q, 0, none⟩)]] H K :=
  sortedStr_fn (g := 54) (kt := 9) (by kernel_rfl)
    (fun Bm b nn D0 w hBm hm hown => AnyZ.keys_gives (ρ := Tryd.keysA_ren) { Tryd.keysA with } Fence.wide _ trivial rfl (by omega) Bm b nn D0 w hBm hm hown)
    (fun lb S N w hN hNb hseq => (callsIn_wide (n := 5)).1 (AnyZ.sorted_in Tryd.sortedA Fence.wide 5 trivial trivial trivial trivial rfl (by omega) (sortsA _) (enters_of Tryd.func53 (by kernel_rfl) rfl) 54 lb trivial (enters_of Tryd.func54 (by kernel_rfl) rfl) S N hN hNb w hseq))
    h hn hlen hwf k
abbrev eS : ByteArray → List Value := fun s => [.string s]
theorem eSlen : ∀ a, (eS a).length = 1 := fun _ => rfl
theorem encStr_of (s : ByteArray) : Go.Proofs.encStr s.data.toList = .string s := by simp [Go.Proofs.encStr]
theorem sorted_keys {ks ns : List ByteArray} (hp : ks.Perm ns) (hs : ns.Pairwise fun a b => ltB a b = true) : ((ks.map fun x => x.data.toList).mergeSort fun x y => decide (x ≤ y)).map Go.Proofs.encStr = ns.flatMap eS := by
  have e2 : (ks.map fun x => x.data.toList).mergeSort (fun x y => decide (x ≤ y)) = (ns.map fun x => x.data.toList).mergeSort fun x y => decide (x ≤ y) :=
    mergeSort_of_perm (hp.map _)
  rw [e2]
  have e3 : (ns.map fun x => x.data.toList).mergeSort (fun x y => decide (x ≤ y)) = ns.map fun x => x.data.toList := by
    refine List.mergeSort_of_pairwise ?_
    rw [List.pairwise_map]
    refine hs.imp fun {a b} hab => ?_
    simp only [decide_eq_true_eq]
    exact List.le_of_lt (ltB_iff.1 hab)
  rw [e3, List.map_map]
  have e4 : (Go.Proofs.encStr ∘ fun x : ByteArray => x.data.toList) = fun x => Value.string x := by
    funext x; exact encStr_of x
  rw [e4]
  clear hs hp e2 e3
  induction ns with
  | nil => rfl
  | cons a l ih => rw [List.map_cons, ih]; rfl
theorem gNames_spec {cs : List Chunk} {H : Heap} {g : Nat} {G F : List (ByteArray × Grp)} {ep : Int} {K : Value → Heap → Prop} (h : HL.Holds (grs g G ep :: cs) H) (hp : F.Perm G) (hs : SortedL ltB F) (hl : G.length ≤ 1000) (hn : ∀ p ∈ G, nameB p.1 = true)
    (k : ∀ (s : Sl) H', HL.Holds (own 9 1 s ((F.map Prod.fst).flatMap eS) :: grs g G ep :: cs) H' → K (.slice s.p s.n s.c) H') : FnH Tryd.prog 41 #[ptrV g] H K := by
  apply groups_Groups_Names_fn
  unfold groups_Groups_Names_vc
  obtain ⟨mb, ps, e, h1⟩ := grs_open.1 h
  have ek : (hptr ps).map Prod.fst = G.map Prod.fst := by rw [← e]; simp [hptr, hmod, Function.comp_def]
  have hnd : ((hptr ps).map Prod.fst).Nodup := by rw [ek]; exact (hp.map Prod.fst).nodup_iff.1 (hs.nodup ltB_ok)
  have hlen : (hptr ps).length = G.length := by
    have := congrArg List.length ek
    simpa using this
  refine ⟨some mb, h1.cell 0 rfl rfl, keys_spec h1.swap fun q H1 h2 => ⟨_, rfl, sorted_spec h2 hnd (by omega) (fun x hx => ?_) fun s H2 h3 => ⟨s, rfl, k s H2 ?_⟩⟩⟩
  · rw [ek] at hx
    obtain ⟨p, hp', rfl⟩ := List.mem_map.1 hx
    have := hn p hp'
    unfold nameB at this
    simp only [Bool.and_eq_true, decide_eq_true_eq] at this
    omega
  · rw [ek, sorted_keys (hp.symm.map Prod.fst) (List.pairwise_map.2 hs)] at h3
    have h4 : HL.Holds (blk g (.cells #[.map (some mb), .int .i64 ep] 55 (0, 0)) :: mp mb encS (hptr ps) :: own 9 1 s ((F.map Prod.fst).flatMap eS) :: HL.Holds (ps.map hgrp) :: cs) H2 := (h3.pull 2 rfl).perm ((List.Perm.swap _ _ _).cons _)
    have h5 := h4.perm (((List.Perm.swap _ _ _).cons _).cons _)
    exact (grs_open.2 ⟨mb, ps, e, h5⟩).swap
theorem same_spec {H : Heap} {t : Told} {a b : Sl} {K : Value → Heap → Prop} (ha : Ints H a t.parts) (hb : Ints H b t.parts) (k : K (.bool true) H) : FnH Tryd.prog 21 #[toldV t a, toldV t b] H K := by
  apply logboomlaw15_same_fn
  unfold logboomlaw15_same_vc
  refine sameList_spec ha hb ⟨_, rfl, br_t (by simp) (br_t (by simp) (br_t (by simp) (br_t (by simp) ?_)))⟩
  have : (t.offset == t.offset) = true := by simp
  rw [this]; exact k
/-- What is kept of all groups. -/
def Good (G : List (ByteArray × Grp)) : Prop := ∀ p ∈ G, nameB p.1 = true ∧ p.2.mem.Nodup ∧ ∀ a ∈ p.2.mem, a ≤ p.2.ever
def noN : ByteArray := ⟨#[110, 111, 32, 115, 117, 99, 104, 32, 103, 114, 111, 117, 112]⟩
theorem Good.none {G : List (ByteArray × Grp)} (h : Good G) : lookL G noN = none := by
  refine lookL_none fun hm => ?_
  obtain ⟨p, hp, e⟩ := List.mem_map.1 hm
  have := (h p hp).1
  rw [e] at this
  have e2 : nameB noN = false := by decide +kernel
  rw [e2] at this; cases this
theorem Good.look {G : List (ByteArray × Grp)} (h : Good G) (n : ByteArray) : (theX G n).mem.Nodup ∧ ∀ a ∈ (theX G n).mem, a ≤ (theX G n).ever := by
  unfold theX
  cases e : lookL G n with
  | none => exact ⟨List.nodup_nil, fun a ha => by cases ha⟩
  | some x =>
    obtain ⟨i, hi⟩ := lookL_idx e
    exact (h (n, x) (List.mem_of_getElem? (idxL_get hi))).2
theorem Good.put {G : List (ByteArray × Grp)} (h : Good G) {n : ByteArray} {x : Grp} (h1 : nameB n = true) (h2 : x.mem.Nodup) (h3 : ∀ a ∈ x.mem, a ≤ x.ever) : Good (putL G n x) := fun p hp => by
  rcases putL_mem hp with e | e
  · rw [e]; exact ⟨h1, h2, h3⟩
  · exact h p e
theorem Good.apply {G : List (ByteArray × Grp)} (h : Good G) (m : Rec) (L : List Int) : Good (applyG G m L) := by
  obtain ⟨g1, g2⟩ := h.look m.name
  unfold applyG
  split
  · unfold joinG
    split
    · rename_i hc
      have hr := (join_ok hc).1
      unfold rightB at hr
      simp only [Bool.and_eq_true] at hr
      refine h.put hr.1.1 ?_ ?_
      · show (addX (theX G m.name) m.a).mem.Nodup
        unfold addX
        split
        · refine List.pairwise_append.2 ⟨g1, List.pairwise_singleton .., fun a ha b hb => ?_⟩
          simp only [List.mem_singleton] at hb
          have := g2 a ha
          omega
        · exact g1
      · intro a ha
        have ha : a ∈ (addX (theX G m.name) m.a).mem := ha
        show a ≤ (addX (theX G m.name) m.a).ever
        unfold addX at ha ⊢
        split at ha
        · rename_i z
          rw [if_pos z]
          rcases List.mem_append.1 ha with w | w
          · have := g2 a w
            show a ≤ (theX G m.name).ever + 1
            omega
          · simp only [List.mem_singleton] at w
            show a ≤ (theX G m.name).ever + 1
            omega
        · rename_i z
          rw [if_neg z]
          exact g2 a ha
    · exact h
  · split
    · split
      · rename_i hc
        have hn : nameB m.name = true := by
          cases e : lookL G m.name with
          | none =>
            unfold doesC at hc
            rw [e] at hc; cases hc
          | some x =>
            obtain ⟨i, hi⟩ := lookL_idx e
            exact (h (m.name, x) (List.mem_of_getElem? (idxL_get hi))).1
        refine h.put hn ?_ ?_
        · unfold doesX
          split
          · exact List.Pairwise.filter _ g1
          · split
            · unfold commitG
              split
              · exact g1
              · exact g1
            · exact g1
        · intro a ha
          unfold doesX at ha ⊢
          split at ha
          · rename_i z
            rw [if_pos z]
            exact g2 a (List.mem_filter.1 ha).1
          · rename_i z
            rw [if_neg z]
            split at ha
            · rename_i z2
              rw [if_pos z2]
              unfold commitG at ha ⊢
              split at ha
              · rename_i z3
                rw [if_pos z3]; exact g2 a ha
              · rename_i z3
                rw [if_neg z3]; exact g2 a ha
            · rename_i z2
              rw [if_neg z2]; exact g2 a ha
      · exact h
    · exact h
theorem putL_len {l : List (ByteArray × Grp)} {k : ByteArray} {v : Grp} : (putL l k v).length ≤ l.length + 1 := by
  induction l with
  | nil => exact Nat.le_refl _
  | cons a l ih =>
    unfold putL
    split
    · simp
    · simp only [List.length_cons]; omega
theorem applyG_len (G : List (ByteArray × Grp)) (m : Rec) (L : List Int) : (applyG G m L).length ≤ G.length + 1 := by
  have hp : ∀ n x, (putL G n x).length ≤ G.length + 1 := fun n x => putL_len
  unfold applyG joinG
  split
  · split
    · exact hp _ _
    · omega
  · split
    · split
      · exact hp _ _
      · omega
    · omega
theorem alike_spec {cs : List Chunk} {H : Heap} {g r : Nat} {G : List (ByteArray × Grp)} {ep part : Int} {N : Nat} {K : Value → Heap → Prop} (hF : Fine G 1000000) (hG : Good G) (hl : G.length ≤ 1000) (hN : N ≤ 100000) (h : HL.Holds (grs g G ep :: rgrs r G ep N :: cs) H)
    (k : ∀ H', HL.Holds (grs g G ep :: rgrs r G ep N :: cs) H' → K (.bool true) H') : FnH Tryd.prog 23 #[ptrV g, ptrV r, .int .i64 part] H K := by
  apply logboomlaw15_alike_fn
  unfold logboomlaw15_alike_vc
  have hS := hF.small
  have hN0 := hG.none
  obtain ⟨rs, ps, ⟨hp, hs⟩, -⟩ := rgrs_open.1 h.swap
  clear rs
  have hr0 := h.read 1 rfl rgrs_mono
  refine gNames_spec h hp hs hl (fun p hp => (hG p hp).1) fun s H1 h1 => ⟨s, rfl, ?_⟩
  have hg1 := h1.read 1 rfl grs_mono
  obtain ⟨⟨rs, ps2⟩, ⟨hp2, hs2⟩, hr1⟩ := h1.read 2 rfl rgrs_mono
  have eps : hmod ps2 = hmod ps := sorted_eq ltB_ok (hp2.trans hp.symm) hs2 hs
  simp only at hp2 hs2 hr1
  rw [← eps] at h1
  clear hp hs eps ps
  have hplen : ps2.length = G.length := by
    have := hp2.length_eq
    simpa using this
  have hsn : s.n = G.length := by
    have := (h1.own 0 rfl).1
    rw [flat_len eSlen] at this
    simp only [List.length_map, Nat.mul_one] at this
    omega
  have hR : Recs eP H1 rs ps2 := Own.recs ePlen (by decide) (hr1.own 1 rfl) (by omega)
  have hrn := hR.len
  have hgs : HL.Holds (ps2.map (rf N)) H1 := hr1.read 2 rfl (Holds.mono _)
  have c0 : ∀ H', HL.Sub H1 H' → cellH H' ⟨r, 0, none⟩ = some (.slice rs.p rs.n rs.c) := fun H' s' => cellH_sub s' (hr1.cell 0 rfl rfl)
  have hRS : Recs eS H1 s ((hmod ps2).map Prod.fst) := Own.recs eSlen (by decide) (h1.own 0 rfl) (by simp; omega)
  refine ⟨rs, c0 H1 (HL.Sub.refl _), br_f ?_ ⟨ep, hr1.cell 0 rfl rfl, gEpoch_spec hg1 ⟨_, rfl, HL.Sub.refl _, br_f (by simp) ?_⟩⟩⟩
  · have : ((s.n : Nat) : Int) = rs.n := by omega
    simp [this]
  refine ⟨fun i H' => HL.Sub H1 H' ∧ 0 ≤ i ∧ i ≤ s.n, fun i _ => (s.n - i).toNat, ⟨HL.Sub.refl _, Int.le_refl _, by omega⟩, ?_⟩
  rintro i H3 ⟨s3, i0, i1⟩
  refine br_intro (fun q => ?_) (fun q => ?_)
  · have q := of_decide_eq_true q
    obtain ⟨q1, o1, p, e1, e2, e3⟩ := (Recs.mono _ _ s3 hR).at_ ePlen (by decide) (j := i) i0 (by omega)
    have c1 : cellH H3 ⟨q1, o1 + i.toNat, none⟩ = some (ptrV p.2.1) := by
      have := e3 0 _ rfl
      simpa using this
    obtain ⟨n, b, x⟩ := p
    have hgx : rgrp b n x N H1 := Holds.one (f := rf N) (fun _ => rgrp_mono) hgs e2
    have hmG : (n, x) ∈ G := hp2.mem_iff.1 (List.mem_map.2 ⟨_, List.mem_of_getElem? e2, rfl⟩)
    have hlk : lookL G n = some x := (lookL_iff ((hp2.map Prod.fst).nodup_iff.1 (hs2.nodup ltB_ok))).2 hmG
    have hsm := hS _ hmG
    have hsm : Small x := hsm
    have hxn : x.mem.Nodup := (hG _ hmG).2.1
    obtain ⟨sm, sp, so, sn, fo, fn, gi⟩ := rgrp_in hsm hN hgx
    have cn : ∀ H', HL.Sub H1 H' → cellH H' ⟨b, 0, none⟩ = some (.string n) := fun H' s' => cellH_sub s' (gi.cell rfl)
    have cg : ∀ H', HL.Sub H1 H' → cellH H' ⟨b, 0 + 1, none⟩ = some (.int .i64 x.gen) := fun H' s' => cellH_sub s' (gi.cell rfl)
    have cm : ∀ H', HL.Sub H1 H' → cellH H' ⟨b, 0 + 3, none⟩ = some (.slice sm.p sm.n sm.c) := fun H' s' => cellH_sub s' (gi.cell rfl)
    refine ⟨rs, c0 H3 s3, q1, o1, e1, i0, by omega, _, c1, ptrm_intro rfl ⟨n, cn H3 s3, ptrm_intro rfl ⟨sm, cm H3 s3, gMembers_spec (n := n) hS (grs_mono _ _ s3 hg1) fun r3 H4 s4 h4 => ⟨r3, rfl, s4, ?_⟩⟩⟩⟩
    rw [hlk] at h4
    refine sameList_spec h4 (gi.mem.sub (s3.trans s4)) ⟨_, rfl, s4, ?_⟩
    have s5 := s3.trans s4
    obtain ⟨q4, o4, y, f1, f2, f3⟩ := (Recs.mono _ _ s5 hRS).at_ eSlen (by decide) (j := i) i0 q
    have ey : y = n := by
      rw [List.getElem?_map, List.getElem?_map, e2] at f2
      simpa using f2.symm
    subst ey
    have c4 : cellH H4 ⟨q4, o4 + i.toNat, none⟩ = some (.string y) := by
      have := f3 0 _ rfl
      simpa using this
    refine ⟨q4, o4, f1, i0, q, y, c4, ptrm_intro rfl ⟨y, cn H4 s5, ?_⟩⟩
    rw [str_eq]
    refine br_f (by simp) (ptrm_intro rfl ⟨y, cn H4 s5, ptrm_intro rfl ⟨x.gen, cg H4 s5, gGen_spec (n := y) hS (grs_mono _ _ s5 hg1) ⟨_, rfl, HL.Sub.refl _, ?_⟩⟩⟩)
    rw [hlk]
    refine br_f (by simp) (br_f (by simp) (ptrm_intro rfl ⟨y, cn H4 s5, gOwner_spec (n := y) hS (grs_mono _ _ s5 hg1) fun H7 s7 => ⟨_, rfl, s7, rowner_spec (b := b) (n := y) (x := x) hsm hN hxn (rgrp_mono _ _ (s5.trans s7) hgx) fun H8 s8 => ⟨_, rfl, s7.trans s8, ?_⟩⟩⟩))
    rw [hlk]
    have s58 := s5.trans (s7.trans s8)
    refine br_f (by simp) (ptrm_intro rfl ⟨y, cn H4 s5, gOffset_spec (n := y) hS (grs_mono _ _ s58 hg1) ⟨_, rfl, s7.trans s8, roffset_spec (b := b) (n := y) (x := x) hsm hN (rgrp_mono _ _ s58 hgx) ⟨_, rfl, s7.trans s8, ?_⟩⟩⟩)
    rw [hlk]
    refine br_f (by simp) ?_
    refine ⟨fun p H' => HL.Sub H1 H' ∧ 1 ≤ p ∧ p ≤ 17, fun p _ => (17 - p).toNat, ⟨s58, Int.le_refl _, by omega⟩, ?_⟩
    rintro p H11 ⟨s11, p0, p1⟩
    refine br_intro (fun w => ?_) (fun w => ?_)
    · have w := of_decide_eq_true w
      refine ptrm_intro rfl ⟨y, cn H11 s11, gOwner_spec (n := y) hS (grs_mono _ _ s11 hg1) fun H12 s12 => ⟨_, rfl, rowner_spec (b := b) (n := y) (x := x) hsm hN hxn (rgrp_mono _ _ (s11.trans s12) hgx) fun H13 s13 => ⟨_, rfl, ?_⟩⟩⟩
      rw [hlk]
      have s1113 := s11.trans (s12.trans s13)
      refine br_f (by simp) (ptrm_intro rfl ⟨y, cn H13 s1113, gOffset_spec (n := y) hS (grs_mono _ _ s1113 hg1) ⟨_, rfl, roffset_spec (b := b) (n := y) (x := x) hsm hN (rgrp_mono _ _ s1113 hgx) ⟨_, rfl, ?_⟩⟩⟩)
      rw [hlk, wrap64_id (n := p + 1) (by omega) (by omega)]
      exact br_f (by simp) ⟨rfl, ⟨s1113, by omega, by omega⟩, by dsimp only; omega⟩
    · rw [wrap64_id (n := i + 1) (by omega) (by omega)]
      exact ⟨rfl, ⟨s11, by omega, by omega⟩, by dsimp only; omega⟩
  · have hg3 := grs_mono _ _ s3 hg1
    refine gGen_spec (n := noN) hS hg3 ⟨_, rfl, ?_⟩
    rw [hN0]
    refine br_t rfl (gMembers_spec (n := noN) hS hg3 fun r4 H4 s4 h4 => ⟨r4, rfl, ?_⟩)
    rw [hN0] at h4
    have e4 : r4.n = 0 := h4.len
    refine br_t (by rw [e4]; rfl) (gOwner_spec (n := noN) hS (grs_mono _ _ s4 hg3) fun H5 s5 => ⟨_, rfl, ?_⟩)
    rw [hN0]
    refine br_t rfl (gOffset_spec (n := noN) hS (grs_mono _ _ (s4.trans s5) hg3) ⟨_, rfl, ?_⟩)
    rw [hN0]
    have : (((none : Option Grp).map fun x => offM x part).getD (-1) == -1) = true := rfl
    rw [this]
    exact k H5 (h1.tail.up (s3.trans (s4.trans s5)))
end Go.Proofs.YtcbobncipnjbjaaDoor
