/- Chapter 8: a table as it lies in memory; Cut. -/
import Derived.Test.YtkabaoigablphaaS3
namespace Go.Proofs.Ytkabaoigablphaa
open Go.HL
set_option maxHeartbeats 800000
set_option maxRecDepth 10000

abbrev encI : Int → Value := fun n => .int .i64 n
theorem kint : KeyOK Try.prog 3 encI := KeyOK.int (by kernel_rfl)
theorem u53 : Try.prog.underlying 53 = some (.map 3 56) := by kernel_rfl
theorem z56 : zeroT Try.prog 56 = some (.slice none 0 0) := by kernel_rfl
abbrev Tb := List (Int × List Nt)
/-- What a producer has, and where it lies. -/
abbrev Hd := Int × Sl × List Nt
abbrev tmap (ps : List Hd) : List (Int × Value) := ps.map fun p => (p.1, .slice p.2.1.p p.2.1.n p.2.1.c)
abbrev tmod (ps : List Hd) : Tb := ps.map fun p => (p.1, p.2.2)
abbrev hown (p : Hd) : Chunk := ownN p.2.1 p.2.2
theorem hown_mono (p : Hd) : Mono (hown p) := Own.mono
def tab (t : Nat) (T : Tb) : Chunk := fun H => ∃ q : Nat × List Hd, (tmod q.2 = T ∧ (T.map Prod.fst).Nodup) ∧ Holds [blk t (.cells #[.map (some q.1)] 55 (0, 0)), mp q.1 encI (tmap q.2), Holds (q.2.map hown)] H
theorem tab_mono {t : Nat} {T : Tb} : Mono (tab t T) := fun _ _ hs ⟨q, e, h⟩ => ⟨q, e, h.up hs⟩
theorem tab_open {cs : List Chunk} {H : Heap} {t : Nat} {T : Tb} : Holds (tab t T :: cs) H ↔ ∃ mb ps, (tmod ps = T ∧ (T.map Prod.fst).Nodup) ∧ Holds (blk t (.cells #[.map (some mb)] 55 (0, 0)) :: mp mb encI (tmap ps) :: Holds (ps.map hown) :: cs) H := by
  constructor
  · intro h
    obtain ⟨q, h⟩ := Holds.ex.1 h
    obtain ⟨e, h⟩ := Holds.pure.1 h
    exact ⟨q.1, q.2, e, Holds.flat.1 h⟩
  · rintro ⟨mb, ps, e, h⟩
    exact Holds.ex.2 ⟨(mb, ps), Holds.pure.2 ⟨e, Holds.flat.2 h⟩⟩
theorem idx_tmap {ps : List Hd} {k : Int} : idxL (tmap ps) k = (idxL ps k).map fun q => (q.1, (.slice q.2.1.p q.2.1.n q.2.1.c : Value)) := idxL_map (f := fun p : Sl × List Nt => (.slice p.1.p p.1.n p.1.c : Value))
theorem idx_tmod {ps : List Hd} {k : Int} : idxL (tmod ps) k = (idxL ps k).map fun q => (q.1, q.2.2) := idxL_map (f := fun p : Sl × List Nt => p.2)
theorem keys_tmap (ps : List Hd) : (tmap ps).map Prod.fst = (tmod ps).map Prod.fst := by simp [tmap, tmod, Function.comp_def]
/-- A map's value, and the notes that it holds. -/
theorem look_held {ps : List Hd} {k : Int} {v : Value} (h : lookL (tmap ps) k = some v) : ∃ j s l, ps[j]? = some (k, s, l) ∧ v = .slice s.p s.n s.c ∧ idxL ps k = some (j, s, l) ∧ lookL (tmod ps) k = some l := by
  unfold lookL at h
  rw [idx_tmap] at h
  cases e : idxL ps k with
  | none => rw [e] at h; cases h
  | some q =>
    obtain ⟨j, s, l⟩ := q
    rw [e] at h
    simp only [Option.map_some, Option.some.injEq] at h
    exact ⟨j, s, l, idxL_get e, h.symm, rfl, by unfold lookL; rw [idx_tmod, e]; rfl⟩
def Low (T : Tb) (N : Nat) : Prop := ∀ p ∈ T, p.2.length ≤ N
theorem Low.look {T : Tb} {N : Nat} (h : Low T N) {k : Int} {l : List Nt} (e : lookL T k = some l) : l.length ≤ N := by
  obtain ⟨i, hi⟩ := lookL_idx e
  exact h (k, l) (List.mem_of_getElem? (idxL_get hi))
theorem Holds.onto {c : Chunk} {cs : List Chunk} {H5 H6 : Heap} (h : Holds [c, ro H5] H6) (h5 : Holds cs H5) : Holds (c :: cs) H6 := by
  obtain ⟨A, B, e, d, p, q⟩ := h
  have q : Holds [ro H5] B := q
  exact ⟨A, B, e, d, p, h5.up (q.read 0 rfl (ro_mono _))⟩
theorem left_keys {α : Type} {l : List (Int × α)} {d : List Int} : (l.filter fun p => decide (p.1 ∉ d)).length = ((l.map Prod.fst).filter fun k => decide (k ∉ d)).length := by
  rw [List.filter_map, List.length_map]; rfl
theorem tmap_set {ps : List Hd} {j : Nat} {k : Int} {s r : Sl} {l l' : List Nt} (e : idxL ps k = some (j, s, l)) : tmap (ps.set j (k, r, l')) = putL (tmap ps) k (.slice r.p r.n r.c) := by
  rw [putL_set (i := j) (v := .slice s.p s.n s.c) (by rw [idx_tmap, e]; rfl)]
  simp [tmap, List.map_set]
theorem tmod_set {ps : List Hd} {j : Nat} {k : Int} {s r : Sl} {l l' : List Nt} (e : idxL ps k = some (j, s, l)) : tmod (ps.set j (k, r, l')) = putL (tmod ps) k l' := by
  rw [putL_set (i := j) (v := l) (by rw [idx_tmod, e]; rfl)]
  simp [tmod, List.map_set]
theorem tmap_del {ps : List Hd} {j : Nat} {k : Int} {s : Sl} {l : List Nt} (e : idxL ps k = some (j, s, l)) : tmap (ps.eraseIdx j) = delL (tmap ps) k := by
  rw [delL_erase (i := j) (v := .slice s.p s.n s.c) (by rw [idx_tmap, e]; rfl)]
  exact (erase_map ..).symm
theorem tmod_del {ps : List Hd} {j : Nat} {k : Int} {s : Sl} {l : List Nt} (e : idxL ps k = some (j, s, l)) : tmod (ps.eraseIdx j) = delL (tmod ps) k := by
  rw [delL_erase (i := j) (v := l) (by rw [idx_tmod, e]; rfl)]
  exact (erase_map ..).symm
def cutF (off : Int) : Int → List Nt → Option (List Nt) := fun _ l => if aheadM l off > 0 then some (l.take (aheadM l off)) else none
def cutM (T : Tb) (off : Int) : Tb := T.filterMap fun p => (cutF off p.1 p.2).map fun v => (p.1, v)
theorem cut_spec {cs : List Chunk} {H : Heap} {t : Nat} {T : Tb} {off : Int} {K : Value → Heap → Prop} (h : Holds (tab t T :: cs) H) (hL : Low T 100000) (k : ∀ H', Holds (tab t (cutM T off) :: cs) H' → K (.tuple #[]) H') :
    FnH Try.prog 11 #[.pointer (some ⟨t, 0, none⟩), .int .i64 off] H K := by
  apply dedup_Table_Cut_fn
  unfold dedup_Table_Cut_vc
  obtain ⟨mb, ps, ⟨eT, hN⟩, h⟩ := tab_open.1 h
  have hkeys : ((tmap ps).map Prod.fst).Nodup := by rw [keys_tmap, eT]; exact hN
  refine ⟨some mb, h.cell 0 rfl rfl, Holds.range (h.swap) u53 hkeys fun r H1 h1 => ⟨_, rfl, ?_⟩⟩
  refine ⟨fun H => ∃ done ps', tmod ps' = stepL (cutF off) done T ∧ Holds (rng mb r encI (tmap ps') done :: blk t (.cells #[.map (some mb)] 55 (0, 0)) :: Holds (ps'.map hown) :: cs) H, rngLeft mb r, ⟨[], ps, by rw [stepL_nil]; exact eT, h1⟩, ?_⟩
  rintro H2 ⟨done, ps', eS, h2⟩
  have hleft := rng_left h2
  refine Holds.next h2 (fun hall => .inl ⟨rfl, ?_⟩) (fun key v H3 hl hk h3 => .inr ⟨_, _, rfl, ?_⟩)
  · refine k H2 (tab_open.2 ⟨mb, ps', ⟨?_, ?_⟩, (rng_stop h2).swap⟩)
    · rw [eS]
      refine stepL_all fun p hp => ?_
      rw [← eS] at hp
      obtain ⟨x, hx, rfl⟩ := List.mem_map.1 hp
      exact hall _ (List.mem_map.2 ⟨x, hx, rfl⟩)
    · have := stepL_sub (f := cutF off) (done := done) (l := T)
      have e2 : stepL (cutF off) done T = cutM T off := stepL_all fun p hp => by
        rw [← eS] at hp
        obtain ⟨x, hx, rfl⟩ := List.mem_map.1 hp
        exact hall _ (List.mem_map.2 ⟨x, hx, rfl⟩)
      rw [← e2]; exact hN.sublist this
  obtain ⟨j, s, l, e1, rfl, e2, e3⟩ := look_held hl
  refine Holds.entry h3 hl ⟨_, _, rfl, key, rfl, s, rfl, ?_⟩
  have e4 : lookL T key = some l := by rw [← stepL_look hk hN (f := cutF off), ← eS]; exact e3
  have hlow := hL.look e4
  have hrec : ∀ {H}, Holds (rng mb r encI (tmap ps') (key :: done) :: blk t (.cells #[.map (some mb)] 55 (0, 0)) :: Holds (ps'.map hown) :: cs) H → Recs eN H s l := fun {H} h => by
    have := h.read 2 rfl (Holds.mono _)
    have h4 := Holds.read this j (by rw [List.getElem?_map, e1]; rfl) (hown_mono (key, s, l))
    exact Own.recs eNlen (by decide) h4 (by show l.length ≤ _; omega)
  have hl3 := hrec h3
  refine ahead_spec hl3 fun H5 s5 => ⟨_, rfl, ?_⟩
  have h5 := h3.up s5
  have hle := aheadM_le l off
  have hn := hl3.len
  have hcap := hl3.cap
  refine br_intro (fun q => ?_) (fun q => ?_)
  · have q := of_decide_eq_true q
    refine ⟨some mb, h5.cell 1 rfl rfl, by omega, by omega, ?_⟩
    have hup := (hrec h5).upto eNlen (j := (aheadM l off : Int)) (by omega) (by omega)
    refine clone_spec (s := s.upto (aheadM l off : Int) 4) (Holds.whole H5) hup (by simp; omega) fun r2 H6 h6 n6 => ⟨r2, rfl, h6.sub 1 rfl, ?_⟩
    have h7 := Holds.onto h6 h5
    refine Holds.rngPut h7.swap u53 kint hl fun H7 h8 => ⟨rfl, ⟨key :: done, ps'.set j (key, r2, l.take (aheadM l off)), ?_, ?_⟩, ?_⟩
    · rw [tmod_set e2, eS]
      exact stepL_put hk hN e4 (by unfold cutF; rw [if_pos (by omega)])
    · rw [tmap_set e2]
      have h9 := (h8.pull 3 rfl).pick e1
      have h10 : Holds (ownN r2 (l.take (aheadM l off)) :: Holds ((ps'.eraseIdx j).map hown) :: rng mb r encI (putL (tmap ps') key (.slice r2.p r2.n r2.c)) (key :: done) :: blk t (.cells #[.map (some mb)] 55 (0, 0)) :: cs) H7 := (h9.tail).pull 2 rfl
      exact (Holds.back (f := hown) (a := (key, r2, l.take (aheadM l off))) h10 (List.getElem?_eq_some_iff.1 e1).1).down 2
    · rw [hleft, rng_left h8, left_keys, putL_keys hl, ← left_keys]
      exact left_lt hl hk
  · have q := of_decide_eq_false q
    refine ⟨some mb, h5.cell 1 rfl rfl, Holds.rngDel h5 u53 kint hl fun H8 h8 => ⟨rfl, rfl, ⟨key :: done, ps'.eraseIdx j, ?_, ?_⟩, ?_⟩⟩
    · rw [tmod_del e2, eS]
      exact stepL_del hk hN e4 (by unfold cutF; rw [if_neg (by omega)])
    · rw [tmap_del e2]
      exact (((h8.pull 2 rfl).pick e1).tail).down 2
    · rw [hleft, rng_left h8, ← tmap_del e2]
      refine Nat.lt_of_le_of_lt ?_ (left_lt hl hk)
      refine List.Sublist.length_le (List.Sublist.filter _ ?_)
      exact (List.eraseIdx_sublist _ _).map _
end Go.Proofs.Ytkabaoigablphaa
