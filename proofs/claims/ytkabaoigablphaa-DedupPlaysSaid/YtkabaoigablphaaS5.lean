/- Chapter 8: Delete; New. -/
import Derived.Test.YtkabaoigablphaaS4
namespace Go.Proofs.Ytkabaoigablphaa
open Go.HL
set_option maxHeartbeats 800000
set_option maxRecDepth 10000

theorem new_spec {cs : List Chunk} {H : Heap} {K : Value → Heap → Prop} (h : Holds cs H) (k : ∀ t H', Holds (tab t [] :: cs) H' → K (.pointer (some ⟨t, 0, none⟩)) H') : FnH Try.prog 8 #[] H K := by
  apply dedup_New_fn
  unfold dedup_New_vc
  refine h.newMap encI fun mb H1 h1 => h1.new fun t H2 h2 => k t H2 (tab_open.2 ⟨mb, [], ⟨rfl, List.nodup_nil⟩, ?_⟩)
  have h3 : Holds (Holds ([].map hown) :: blk t (.cells #[.map (some mb)] 55 (0, 0)) :: mp mb encI [] :: cs) H2 := h2.cons_emp True.intro
  exact h3.down 2
def delF (off : Int) : Int → List Nt → Option (List Nt) := fun _ l => some (latestM (l.take (aheadM l off)) 5 ++ l.drop (aheadM l off))
def delM (T : Tb) (off : Int) : Tb := T.filterMap fun p => (delF off p.1 p.2).map fun v => (p.1, v)
theorem latestM_le (l : List Nt) (m : Nat) : (latestM l m).length ≤ l.length := by unfold latestM; rw [List.length_drop]; omega
theorem delete_spec {cs : List Chunk} {H : Heap} {t : Nat} {T : Tb} {off : Int} {K : Value → Heap → Prop} (h : Holds (tab t T :: cs) H) (hL : Low T 100000) (k : ∀ H', Holds (tab t (delM T off) :: cs) H' → K (.tuple #[]) H') :
    FnH Try.prog 12 #[.pointer (some ⟨t, 0, none⟩), .int .i64 off] H K := by
  apply dedup_Table_Delete_fn
  unfold dedup_Table_Delete_vc
  obtain ⟨mb, ps, ⟨eT, hN⟩, h⟩ := tab_open.1 h
  have hkeys : ((tmap ps).map Prod.fst).Nodup := by rw [keys_tmap, eT]; exact hN
  refine ⟨some mb, h.cell 0 rfl rfl, Holds.range (h.swap) u53 hkeys fun r H1 h1 => ⟨_, rfl, ?_⟩⟩
  refine ⟨fun H => ∃ done ps', tmod ps' = stepL (delF off) done T ∧ Holds (rng mb r encI (tmap ps') done :: blk t (.cells #[.map (some mb)] 55 (0, 0)) :: Holds (ps'.map hown) :: cs) H, rngLeft mb r, ⟨[], ps, by rw [stepL_nil]; exact eT, h1⟩, ?_⟩
  rintro H2 ⟨done, ps', eS, h2⟩
  have hleft := rng_left h2
  refine Holds.next h2 (fun hall => .inl ⟨rfl, ?_⟩) (fun key v H3 hl hk h3 => .inr ⟨_, _, rfl, ?_⟩)
  · have e2 : stepL (delF off) done T = delM T off := stepL_all fun p hp => by
      rw [← eS] at hp
      obtain ⟨x, hx, rfl⟩ := List.mem_map.1 hp
      exact hall _ (List.mem_map.2 ⟨x, hx, rfl⟩)
    refine k H2 (tab_open.2 ⟨mb, ps', ⟨eS.trans e2, ?_⟩, (rng_stop h2).swap⟩)
    have := stepL_sub (f := delF off) (done := done) (l := T)
    rw [← e2]; exact hN.sublist this
  obtain ⟨j, s, l, e1, rfl, e2, e3⟩ := look_held hl
  refine Holds.entry h3 hl ⟨_, _, rfl, key, rfl, s, rfl, ?_⟩
  have e4 : lookL T key = some l := by rw [← stepL_look hk hN (f := delF off), ← eS]; exact e3
  have hlow := hL.look e4
  have hrec : ∀ {H}, Holds (rng mb r encI (tmap ps') (key :: done) :: blk t (.cells #[.map (some mb)] 55 (0, 0)) :: Holds (ps'.map hown) :: cs) H → Recs eN H s l := fun {H} h => by
    have := h.read 2 rfl (Holds.mono _)
    have h4 := Holds.read this j (by rw [List.getElem?_map, e1]; rfl) (hown_mono (key, s, l))
    exact Own.recs eNlen (by decide) h4 (by show l.length ≤ _; omega)
  have hl3 := hrec h3
  refine ahead_spec hl3 fun H5 s5 => ⟨_, rfl, ?_⟩
  have h5 := h3.up s5
  have hle := aheadM_le l off
  have hn := hl3.len
  have hcap := hl3.cap
  have hup := (hrec h5).upto eNlen (j := (aheadM l off : Int)) (by omega) (by omega)
  have hfr := (hrec h5).from_ eNlen (j := (aheadM l off : Int)) (by omega) (by omega)
  refine ⟨some mb, h5.cell 1 rfl rfl, by omega, by omega, by omega, by omega, ?_⟩
  refine latest_spec (s := s.upto (aheadM l off : Int) 4) (most := 5) hup fun a ha => ⟨a, rfl, HL.Sub.refl _, (Holds.whole H5).newS fun q1 H7 s7 h7 => ⟨s7, ?_⟩⟩
  refine concat_spec (a := a) (b := s.from_ (aheadM l off : Int) 4) (i := 0) h7 ⟨ro_mono H5, fun A hA => Recs.mono _ _ hA ha⟩ ⟨ro_mono H5, fun A hA => Recs.mono _ _ hA hfr⟩ rfl ?_ ?_ fun r2 H8 h8 n8 => ⟨r2, rfl, h8.sub 1 rfl, ?_⟩
  · have := latestM_le (l.take (aheadM l off : Int).toNat) 5
    rw [List.length_take] at this; omega
  · rw [List.length_drop]; omega
  have h9 := Holds.onto h8 h5
  have ez : (aheadM l off : Int).toNat = aheadM l off := by omega
  rw [ez] at h9
  refine Holds.rngPut h9.swap u53 kint hl fun H10 h10 => ⟨rfl, ⟨key :: done, ps'.set j (key, r2, latestM (l.take (aheadM l off)) 5 ++ l.drop (aheadM l off)), ?_, ?_⟩, ?_⟩
  · rw [tmod_set e2, eS]
    exact stepL_put hk hN e4 rfl
  · rw [tmap_set e2]
    have h11 := (h10.pull 3 rfl).pick e1
    have h12 : Holds (ownN r2 (latestM (l.take (aheadM l off)) 5 ++ l.drop (aheadM l off)) :: Holds ((ps'.eraseIdx j).map hown) :: rng mb r encI (putL (tmap ps') key (.slice r2.p r2.n r2.c)) (key :: done) :: blk t (.cells #[.map (some mb)] 55 (0, 0)) :: cs) H10 := (h11.tail).pull 2 rfl
    exact (Holds.back (f := hown) (a := (key, r2, latestM (l.take (aheadM l off)) 5 ++ l.drop (aheadM l off))) h12 (List.getElem?_eq_some_iff.1 e1).1).down 2
  · rw [hleft, rng_left h10, left_keys, putL_keys hl, ← left_keys]
    exact left_lt hl hk
end Go.Proofs.Ytkabaoigablphaa
