/- Chapter 9: RaftlogFull: the walk. -/
import Derived.Test.YtmneimfhcjkinaaDoorL2
namespace Go.Proofs.YtmneimfhcjkinaaDoor
open Go Go.HL
set_option maxHeartbeats 3200000
set_option maxRecDepth 10000

theorem zero5 : zeroT Tryd.prog 5 = some (.int .u8 0) := by kernel_rfl
theorem zeros_bytes (n : Nat) : zerosL (Value.int .u8 0).cells.toList n = (List.replicate n (0 : Nat)).map fun b : Nat => Value.int .u8 (b : Int) := by
  induction n with
  | zero => rfl
  | succ n ih => rw [List.replicate_succ, List.map_cons, ← ih]; rfl
structure FullS (st : RS) (n : Nat) : Prop where
  index : st.index = 0
  snapped : st.snapped = 0
  ones : ∀ x ∈ st.l, x.1 = 1
  len : st.l.length ≤ n
theorem full_put {room : Int} {st : RS} {n : Nat} (h : FullS st n) (hG : StOk st) (hn : n ≤ 40) {data : ByteArray} (hd : data.size ≤ 300) :
    putX room st (lastX st).1 [(1, (lastX st).1 + 1, data)] = (7, st) ∨ putX room st (lastX st).1 [(1, (lastX st).1 + 1, data)] = (0, { st with l := st.l ++ [(1, (lastX st).1 + 1, data)] }) := by
  have hl := hG.good.last
  have h0 := h.index
  have hlen := h.len
  generalize he : (lastX st).1 = e at *
  have e1 : ¬ (e < 0 ∨ e > e) := fun z => by rcases z with z | z <;> omega
  have e2 : rightX e 0 none [(1, e + 1, data)] = 0 := by
    have : enC e 0 none (1, e + 1, data) = 0 := by
      unfold enC
      rw [if_neg, if_neg (by show ¬ data.size > 2048; omega)]
      rintro (z | z | z | ⟨y, z, -⟩)
      · exact z (by show e + 1 = e + 1 + ((0 : Nat) : Int); omega)
      · have : e + 1 > 1000000000 := z
        omega
      · exact z ⟨by show (1 : Int) ≤ 1; decide, by show (1 : Int) ≤ 1000000000; decide⟩
      · cases z
    show (if enC e 0 none (1, e + 1, data) ≠ 0 then enC e 0 none (1, e + 1, data) else 0) = 0
    rw [this]; rfl
  have e3 : stripB st (1, e + 1, data) = false := by
    have ha : atX st (e + 1) = none := by
      unfold atX
      rw [if_neg (by omega)]
      exact List.getElem?_eq_none (by omega)
    rw [strip_none (x := (1, e + 1, data)) ha]
    exact decide_eq_false (by show ¬ e + 1 ≤ st.index; omega)
  have e4 : [((1 : Int), e + 1, data)].dropWhile (stripB st) = [(1, e + 1, data)] := by rw [List.dropWhile_cons, if_neg (by rw [e3]; decide)]
  have e5 : (e + 1 - st.index - 1).toNat = st.l.length := by omega
  have e6 : ¬ (1 : Int) < aheadX st st.l.length := by
    unfold aheadX
    split
    · rw [h.snapped]; decide
    · rename_i hne
      have : st.l.length - 1 < st.l.length := by omega
      rw [List.getElem?_eq_getElem this]
      have := h.ones _ (List.getElem_mem this)
      dsimp only
      omega
  unfold putX
  rw [he, if_neg e1, if_neg (fun z => z e2), e4]
  dsimp only
  rw [e5, if_neg e6, List.drop_length, List.take_length]
  split
  · exact .inl rfl
  · exact .inr rfl
section
variable {K : Value → Heap → Prop}
theorem full9 {H0 : Heap} {size : Int} {sizes : Sl} {L : List Int} (hb : i64B size) (hs : Ints H0 sizes L) (hw : ∀ n ∈ L, -9223372036854775808 ≤ n ∧ n ≤ 9223372036854775807) (k : ∀ H', HL.Sub H0 H' → K (.bool true) H') : FnH Tryd.prog 4 #[.int .i64 size, .slice sizes.p sizes.n sizes.c] H0 K := by
  apply logboomlaw9_RaftlogFull_fn
  unfold logboomlaw9_RaftlogFull_vc
  have hsl := hs.len
  have hsb := hs.big
  obtain ⟨z0, z1⟩ := pickI_in (c := size) (n := 3000) (by decide) hb.1 hb.2
  refine shown9_spec (Holds.whole H0) fun H1 h1 => ⟨_, rfl, pick9_spec (by decide) ⟨_, rfl, ?_⟩⟩
  rw [wrap64_id (n := 1 + pickI size 3000) (by omega) (by omega)]
  obtain ⟨sz, hsz⟩ : ∃ sz, 1 + pickI size 3000 = sz := ⟨_, rfl⟩
  rw [hsz]
  refine dnew_spec h1 (fun q => by omega) fun _ _ d H2 h2 => ⟨_, _, rfl, br_f rfl (br_f rfl (br_f rfl (LogAt.open h2 fun c H3 h3 => ⟨_, _, rfl, br_f rfl (br_f rfl ?_)⟩)))⟩
  refine ⟨fun i H' => 0 ≤ i ∧ i ≤ 40 ∧ ∃ st, FullS st i.toNat ∧ LogAt [ro H0] H' c d sz st, fun i _ => (40 - i).toNat, ⟨Int.le_refl _, by decide, st0, ⟨rfl, rfl, fun x hx => (by cases hx), Nat.le_refl _⟩, h3⟩, ?_⟩
  clear h1 h2 h3
  rintro i H5 ⟨i0, i1, st, hF, h5⟩
  obtain ⟨F5, f5, g5⟩ := h5.at_
  refine br_intro (fun q => br_intro (fun q2 => ?_) (fun _ => k H5 (g5.sub 2 rfl))) (fun _ => k H5 (g5.sub 2 rfl))
  have q := of_decide_eq_true q
  have q2 := of_decide_eq_true q2
  have hG := h5.ok
  have hx := hG.index
  have hlen := hF.len
  have hl := hG.good.last
  rw [hF.index] at hl
  have hfa := from_all (st := st) (by omega)
  rw [hF.index] at hfa
  have hfa : fromX st 1 1000000 = st.l := hfa
  rw [wrap64_id (n := i + 1) (by omega) (by omega)]
  refine last9_spec (i := 0) g5 rfl hG.len ⟨_, _, rfl, from9_spec (i := 0) (x := 1) (m := 1000000) g5 rfl hG.len hx.1 hx.2 (by decide) fun l1 H7 s7 h7 => ⟨l1, rfl, ?_⟩⟩
  rw [hfa] at h7
  obtain ⟨q3, o3, p1, p2, p3, p4⟩ := Ints.at_ (hs.sub (h7.sub 3 rfl)) i0 q
  have hm : L.getD i.toNat 0 ∈ L := getD_mem i0 (by omega)
  obtain ⟨y0, y1⟩ := pickI_in (c := L.getD i.toNat 0) (n := 300) (by decide) (hw _ hm).1 (hw _ hm).2
  refine ⟨q3, o3, p1, i0, q, _, p4, pick9_spec (by decide) ⟨_, rfl, ?_⟩⟩
  obtain ⟨nn, hnn⟩ : ∃ nn : Nat, pickI (L.getD i.toNat 0) 300 = (nn : Int) := ⟨(pickI (L.getD i.toNat 0) 300).toNat, by omega⟩
  rw [hnn]
  rw [hnn] at y1
  refine Holds.makeSlice okBy zero5 h7 (by omega) fun bq H9 h9 => ⟨⟨some ⟨bq, 0, none⟩, nn, nn⟩, rfl, ?_⟩
  rw [zeros_bytes] at h9
  have hown : Own H9 5 1 ⟨some ⟨bq, 0, none⟩, nn, nn⟩ ((List.replicate nn (0 : Nat)).map fun b : Nat => Value.int .u8 (b : Int)) := ⟨by simp, Nat.le_refl _, .inr ⟨bq, _, rfl, h9.get 0 rfl, by simp, fun j hj => by simp at hj; simp [hj]⟩⟩
  have hbz : ∀ b ∈ List.replicate nn (0 : Nat), b < 256 := fun b hb => by rw [List.eq_of_mem_replicate hb]; decide
  refine toStr (r := ⟨some ⟨bq, 0, none⟩, nn, nn⟩) hown hbz ⟨_, rfl, ?_⟩
  have hdsz : (strN (List.replicate nn 0)).size ≤ 300 := by rw [strN_size hbz, List.length_replicate]; omega
  generalize strN (List.replicate nn 0) = data at *
  have h10 : HL.Holds (ownE l1 st.l :: lgc c d st :: dsk d sz F5 :: [ro H0]) H9 := h9.tail
  clear h9 h7 hown p4
  rw [wrap64_id (n := (lastX st).1 + 1) (by omega) (by omega)]
  refine h10.new fun q4 H11 h11 => ?_
  have w11 : LogAt (blk q4 (.cells #[.int .i64 1, .int .i64 ((lastX st).1 + 1), .string data] 43 (0, 0)) :: ownE l1 st.l :: [ro H0]) H11 c d sz st := ⟨⟨F5, f5, (h11.pull 3 rfl).pull 3 rfl⟩, hG, h5.up⟩
  have gx : ∀ q : Nat, Gives (blk q (.cells #[.int .i64 1, .int .i64 ((lastX st).1 + 1), .string data] 43 (0, 0))) fun A => Recs eE A ⟨some ⟨q, 0, none⟩, 1, 1⟩ [(1, (lastX st).1 + 1, data)] := fun q => ⟨blk_mono _ _, fun A hA => ⟨rfl, Nat.le_refl _, by show (1 : Nat) ≤ _; decide, CellsAt.block hA fun i hi => by
    have hi : i < 3 := hi
    have : i = 0 ∨ i = 1 ∨ i = 2 := by omega
    rcases this with rfl | rfl | rfl <;> rfl⟩⟩
  have fin : ∀ {Z : Heap → Prop} (st' : RS) (w : Sl) (xs : List Chunk) (H' : Heap), st'.l.length ≤ 1000 → st'.index = 0 → LogAt (ownE w st'.l :: (xs ++ [ro H0])) H' c d sz st' → (∀ H19, LogAt [ro H0] H19 c d sz st' → Z H19) →
      FnH Tryd.prog 8 #[.pointer (some ⟨d, 0, none⟩), .string (⟨#[114]⟩ : ByteArray)] H' fun r14 H17 => ∃ p3 : Option Addr, ∃ n9 : Int, r14 = .tuple #[.pointer p3, .int .i64 n9] ∧ br (!true) (K (.bool false) H17) (br (Option.isNone p3) (K (.bool false) H17) (br ((n9 : Int) != 0) (K (.bool false) H17)
        (ptrm p3 fun q7 o5 => FnH Tryd.prog 14 #[.pointer (some ⟨q7, o5, none⟩), .int .i64 1, .int .i64 1000000] H17 fun r15 H18 => ∃ l5 : Sl, r15 = .slice l5.p l5.n l5.c ∧ FnH Tryd.prog 17 #[.slice l5.p l5.n l5.c, .slice w.p w.n w.c] H18 fun r16 H19 => ∃ b3 : Bool, r16 = .bool b3 ∧ br (!b3) (K (.bool false) H19) (Z H19)))) := fun {Z} st' w xs H' hlen' hi' hL hZ => by
    obtain ⟨⟨F6, f6, g6⟩, hG', hU'⟩ := hL
    have hx' := hG'.index
    have hfa' := from_all (st := st') (by omega)
    rw [hi'] at hfa'
    have hfa' : fromX st' 1 1000000 = st'.l := hfa'
    refine open9_spec (g6.pull 1 rfl) f6 hG' fun m H17 h17 => ⟨_, _, rfl, br_f rfl (br_f rfl (br_f rfl ?_))⟩
    have h17 : HL.Holds (lgc m d st' :: dsk d sz F6 :: lgc c d st' :: ownE w st'.l :: (xs ++ [ro H0])) H17 := h17
    refine from9_spec (i := 0) (x := 1) (m := 1000000) h17 rfl hG'.len hx'.1 hx'.2 (by decide) fun l5 H18 s18 h18 => ⟨l5, rfl, ?_⟩
    rw [hfa'] at h18
    have hR1 : Recs eE H18 l5 st'.l := Own.recs eElen (by decide) (h18.own 0 rfl) (by omega)
    have hR2 : Recs eE H18 w st'.l := Own.recs eElen (by decide) (h18.own 4 rfl) (by omega)
    refine same_spec hR1 hR2 ⟨_, rfl, br_f (by simp) (hZ H18 ⟨⟨F6, f6, ?_⟩, hG', hU'⟩)⟩
    have h19 : HL.Holds (dsk d sz F6 :: lgc c d st' :: ownE w st'.l :: (xs ++ [ro H0])) H18 := h18.tail.tail
    have h20 : HL.Holds ((xs ++ [ro H0]) ++ [dsk d sz F6, lgc c d st']) H18 := ((h19.swap.perm (by
      show List.Perm ([lgc c d st', dsk d sz F6] ++ (ownE w st'.l :: (xs ++ [ro H0]))) ((ownE w st'.l :: (xs ++ [ro H0])) ++ [dsk d sz F6, lgc c d st'])
      refine List.perm_append_comm.trans ?_
      exact List.Perm.append_left _ (List.Perm.swap _ _ _))).tail)
    have h21 : ∀ (ys : List Chunk), HL.Holds (ys ++ ([ro H0] ++ [dsk d sz F6, lgc c d st'])) H18 → HL.Holds ([ro H0] ++ [dsk d sz F6, lgc c d st']) H18 := fun ys => by
      induction ys with
      | nil => exact id
      | cons y ys ih => exact fun h => ih h.tail
    have h22 := h21 xs (by rw [← List.append_assoc]; exact h20)
    exact h22.perm (by show List.Perm [ro H0, dsk d sz F6, lgc c d st'] [lgc c d st', dsk d sz F6, ro H0]; exact (List.Perm.swap _ _ _).trans (((List.Perm.swap _ _ _).cons _).trans (List.Perm.swap _ _ _)))
  have keep : ∀ {st' : RS}, st'.index = st.index → FullS st' (i + 1).toNat → ∀ H19, LogAt [ro H0] H19 c d sz st' → 0 ≤ i + 1 ∧ i + 1 ≤ 40 ∧ ∃ st, FullS st (i + 1).toNat ∧ LogAt [ro H0] H19 c d sz st := fun _ hF' H19 h19 => ⟨by omega, by omega, _, hF', h19⟩
  refine w11.put (i := 0) (s := ⟨some ⟨q4, 0, none⟩, 1, 1⟩) (l2 := [(1, (lastX st).1 + 1, data)]) (gx q4) rfl (by show (1 : Nat) ≤ _; decide) (by show st.l.length + 1 ≤ _; omega) fun F12 st' H12 _ _ e12 h12 _ _ _ => ⟨_, rfl, ?_⟩
  rcases full_put (room := sz - useF F12) hF hG (by omega) hdsz with e | e
  · rw [e] at e12 ⊢
    have e12 : st' = st := e12
    subst e12
    obtain ⟨F13, f13, g13⟩ := h12.at_
    refine from9_spec (i := 0) (x := 1) (m := 1000000) g13 rfl hG.len hx.1 hx.2 (by decide) fun l3 H13 s13 h13 => ⟨l3, rfl, br_f rfl (br_f rfl ?_)⟩
    rw [hfa] at h13
    have hR1 : Recs eE H13 l3 st'.l := Own.recs eElen (by decide) (h13.own 0 rfl) (by omega)
    have hR2 : Recs eE H13 l1 st'.l := Own.recs eElen (by decide) (h13.own 4 rfl) (by omega)
    refine same_spec hR1 hR2 ⟨_, rfl, ?_⟩
    rw [decide_eq_true rfl]
    have w13 : LogAt (ownE l1 st'.l :: ([] ++ [ro H0])) H13 c d sz st' := ⟨⟨F13, f13, (h13.tail.pull 2 rfl).tail⟩, hG, h12.up⟩
    exact fin st' l1 [] H13 (by omega) hF.index w13 fun H19 h19 => ⟨rfl, keep rfl ⟨hF.index, hF.snapped, hF.ones, by omega⟩ H19 h19, by dsimp only; omega⟩
  · rw [e] at e12 ⊢
    have e12 : st' = { st with l := st.l ++ [(1, (lastX st).1 + 1, data)] } := e12
    have hi' : st'.index = 0 := by rw [e12]; exact hF.index
    have hl' : st'.l = st.l ++ [(1, (lastX st).1 + 1, data)] := by rw [e12]
    have hn' : st'.l.length = st.l.length + 1 := by rw [hl']; simp
    have hF' : FullS st' (i + 1).toNat := ⟨hi', by rw [e12]; exact hF.snapped, fun x hx => by
      rw [hl'] at hx
      rcases List.mem_append.1 hx with z | z
      · exact hF.ones x z
      · rw [List.mem_singleton.1 z], by omega⟩
    have hG' := h12.ok
    have hx' := hG'.index
    have hfa' := from_all (st := st') (by omega)
    rw [hi'] at hfa'
    have hfa' : fromX st' 1 1000000 = st'.l := hfa'
    obtain ⟨F13, f13, g13⟩ := h12.at_
    refine from9_spec (i := 0) (x := 1) (m := 1000000) g13 rfl hG'.len hx'.1 hx'.2 (by decide) fun l3 H13 s13 h13 => ⟨l3, rfl, br_t rfl ?_⟩
    rw [hfa'] at h13
    have h13b : HL.Holds (ownE l1 st.l :: ownE l3 st'.l :: lgc c d st' :: dsk d sz F13 :: [ro H0]) H13 := ((h13.pull 3 rfl).tail).pull 3 rfl
    have hln : l1.n = st.l.length := (Own.recs eElen (by decide) (h13b.own 0 rfl) (by omega)).len
    refine Holds.push okEn h13b (xs := [.int .i64 1, .int .i64 ((lastX st).1 + 1), .string data]) (m := 1) rfl rfl (by omega) fun l4 H15 h15 n15 => ⟨l4, rfl, ?_⟩
    have e4 : st.l.flatMap eE ++ [.int .i64 1, .int .i64 ((lastX st).1 + 1), .string data] = st'.l.flatMap eE := by rw [hl', List.flatMap_append]; rfl
    rw [e4] at h15
    have hR1 : Recs eE H15 l3 st'.l := Own.recs eElen (by decide) (h15.own 1 rfl) (by omega)
    have hR2 : Recs eE H15 l4 st'.l := Own.recs eElen (by decide) (h15.own 0 rfl) (by omega)
    refine same_spec hR1 hR2 ⟨_, rfl, ?_⟩
    rw [decide_eq_true rfl]
    have w13 : LogAt (ownE l4 st'.l :: ([] ++ [ro H0])) H15 c d sz st' := ⟨⟨F13, f13, ((h15.pull 1 rfl).tail).down 2⟩, hG', h12.up⟩
    exact fin st' l4 [] H15 (by omega) hi' w13 fun H19 h19 => ⟨rfl, keep (by rw [e12]) hF' H19 h19, by dsimp only; omega⟩
end
end Go.Proofs.YtmneimfhcjkinaaDoor
