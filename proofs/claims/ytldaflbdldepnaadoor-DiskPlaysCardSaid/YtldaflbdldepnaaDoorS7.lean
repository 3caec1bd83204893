/- Chapter 1: the rest of the document's disk's calls. -/
import Derived.Test.YtldaflbdldepnaaDoorS6
namespace Go.Proofs.YtldaflbdldepnaaDoor
open Go Go.HL
set_option maxRecDepth 10000
set_option maxHeartbeats 1600000

section
variable {cs : List Chunk} {H : Heap} {r : Nat} {size : Int} {F : Fs} {K : Value → Heap → Prop} {n b : ByteArray}
theorem at_neg {q : decide (atI F n < 0) = true} : lookL F n = none := by
  have q := of_decide_eq_true q
  rcases look_cases F n with z | ⟨i, f, z1, z2, z3⟩
  · exact z
  · rw [atI_some z1] at q; omega
theorem at_pos {q : decide (atI F n < 0) = false} : ∃ i f, idxL F n = some (i, f) ∧ lookL F n = some f ∧ F[i]? = some (n, f) ∧ atI F n = i := by
  have q := of_decide_eq_false q
  rcases look_cases F n with z | ⟨i, f, z1, z2, z3⟩
  · rw [atI_none z] at q; omega
  · exact ⟨i, f, z1, z2, z3, atI_some z1⟩
/-- The cells of a file that is there. -/
theorem rcells {s : Sl} {i : Nat} {f : Fi} (hR : Recs eF H s F) (h : F[i]? = some (n, f)) : ∃ q o, s.p = some ⟨q, o, none⟩ ∧ (i : Int) < s.n ∧ cellH H ⟨q, o + Int.toNat (i : Int) * 3, none⟩ = some (.string n) ∧ cellH H ⟨q, o + Int.toNat (i : Int) * 3 + 1, none⟩ = some (.string f.1) ∧ cellH H ⟨q, o + Int.toNat (i : Int) * 3 + 2, none⟩ = some (.int .i64 f.2) := by
  have hlt := (List.getElem?_eq_some_iff.1 h).1
  have hl := hR.len
  obtain ⟨q1, o1, p, e1, e2, e3⟩ := hR.at_ eFlen (by decide) (j := (i : Int)) (by omega) (by omega)
  have ei : (i : Int).toNat = i := by omega
  rw [ei] at e2
  obtain rfl : p = (n, f) := by rw [h] at e2; exact (Option.some.inj e2).symm
  exact ⟨q1, o1, e1, by omega, e3 0 _ rfl, e3 1 _ rfl, e3 2 _ rfl⟩
/-- A cell of a file is written. -/
theorem rset {s : Sl} {i j : Nat} {f g : Fi} {q o : Nat} {v : Value} {X : Heap → Prop} (h : Holds (blk r (.cells #[.int .i64 size, .slice s.p s.n s.c] 68 (0, 0)) :: ownF s F :: cs) H) (hi : F[i]? = some (n, f)) (hq : s.p = some ⟨q, o, none⟩) (hj : j < 3) (he : eF (n, g) = (eF (n, f)).set j v)
    (k : ∀ H', Holds (blk r (.cells #[.int .i64 size, .slice s.p s.n s.c] 68 (0, 0)) :: ownF s (F.set i (n, g)) :: cs) H' → X H') :
    (∃ u, cellH H ⟨q, o + Int.toNat (i : Int) * 3 + j, none⟩ = some u) ∧ frozenH H ⟨q, o + Int.toNat (i : Int) * 3 + j, none⟩ = false ∧ letH (H.set ⟨q, o + Int.toNat (i : Int) * 3 + j, none⟩ v) X := by
  have hlt := (List.getElem?_eq_some_iff.1 hi).1
  have ei : (i : Int).toNat = i := by omega
  rw [ei]
  have hset := Holds.setCell (h.swap) hq (j := i * 3 + j) (by rw [flat_len eFlen]; omega) (v := v) (f := X) fun H6 h6 => k H6 ?_
  · rw [← Nat.add_assoc] at hset; exact hset
  · rw [flat_set eFlen hi (a' := (n, g)) hj he] at h6
    exact h6.swap
theorem rsync_spec (h : Holds (rdsk r size F :: cs) H) (k : ∀ H', Holds (rdsk r size (synM F n) :: cs) H' → K (.int .i64 (if lookL F n = none then 8 else 0)) H') : FnH Tryd.prog 34 #[.pointer (some ⟨r, 0, none⟩), .string n] H K := by
  apply logboomref1_Disk_Sync_fn
  unfold logboomref1_Disk_Sync_vc
  obtain ⟨s, hB, hh⟩ := rdsk_open.1 h
  have hR : Recs eF H s F := rdsk_recs hB hh (i := 1) rfl
  unfold synM at k
  refine rat_spec (i := 0) h rfl ⟨_, rfl, br_intro (fun q => ?_) (fun q => ?_)⟩
  · have z := at_neg (q := q)
    rw [if_pos z, if_pos z] at k; exact k H h
  · obtain ⟨i, f, z1, z2, z3, z4⟩ := at_pos (q := q)
    rw [z4]
    rw [if_neg (fun z => by rw [z2] at z; cases z), if_neg (fun z => by rw [z2] at z; cases z), get_some z1] at k
    obtain ⟨q1, o1, c1, c2, c3, c4, c5⟩ := rcells hR z3
    have hs := hB.safe _ (List.mem_of_getElem? z3)
    have hu := useF_le (List.mem_of_getElem? z3)
    refine ⟨s, hh.cell 0 rfl rfl, s, hh.cell 0 rfl rfl, q1, o1, c1, by omega, c2, _, c4, q1, o1, c1, by omega, c2, rset (j := 2) (g := (f.1, (f.1.size : Int))) hh z3 c1 (by decide) rfl fun H' h' => ?_⟩
    refine k H' (rdsk_open.2 ⟨s, hB.ins (hB.named z2) (fun e => by rw [z2] at e; cases e) (by rw [get_some z1]; have := hB.use; dsimp only; omega) ⟨by dsimp only; omega, Int.le_refl _⟩, ?_⟩)
    rw [ins_set hB.sorted z1]; exact h'
theorem rcut_spec {m : Int} (h : Holds (rdsk r size F :: cs) H) (k : ∀ H', Holds (rdsk r size (cutM F n m) :: cs) H' → K (.int .i64 (cutC F n m)) H') : FnH Tryd.prog 36 #[.pointer (some ⟨r, 0, none⟩), .string n, .int .i64 m] H K := by
  apply logboomref1_Disk_Cut_fn
  unfold logboomref1_Disk_Cut_vc
  obtain ⟨s, hB, hh⟩ := rdsk_open.1 h
  have hR : Recs eF H s F := rdsk_recs hB hh (i := 1) rfl
  have bad : ∀ c : Int, c ≠ 0 → cutC F n m = c → K (.int .i64 c) H := fun c c0 e => by
    have k := k H (by unfold cutM; rw [if_pos (by rw [e]; exact c0)]; exact h)
    rw [e] at k; exact k
  refine rat_spec (i := 0) h rfl ⟨_, rfl, br_intro (fun q => ?_) (fun q => ?_)⟩
  · exact bad 8 (by decide) (by unfold cutC; rw [if_pos (at_neg (q := q))])
  · obtain ⟨i, f, z1, z2, z3, z4⟩ := at_pos (q := q)
    rw [z4]
    have hne : ¬ lookL F n = none := fun z => by rw [z2] at z; cases z
    obtain ⟨q1, o1, c1, c2, c3, c4, c5⟩ := rcells hR z3
    have hs := hB.safe _ (List.mem_of_getElem? z3)
    have hu := useF_le (List.mem_of_getElem? z3)
    have eg := get_some z1
    refine ⟨s, hh.cell 0 rfl rfl, q1, o1, c1, by omega, c2, br_intro (fun q2 => ?_) (fun q2 => ⟨_, c4, br_intro (fun q3 => ?_) (fun q3 => ?_)⟩)⟩
    · exact bad 1 (by decide) (by unfold cutC; rw [if_neg hne, if_pos (.inl (of_decide_eq_true q2))])
    · exact bad 1 (by decide) (by unfold cutC; rw [if_neg hne, eg, if_pos (.inr (of_decide_eq_true q3))])
    · have q2 := of_decide_eq_false q2
      have q3 := of_decide_eq_false q3
      have e : cutC F n m = 0 := by unfold cutC; rw [if_neg hne, eg, if_neg (fun z => z.elim q2 q3)]
      unfold cutM at k
      rw [e, if_neg (fun z => z rfl), eg] at k
      have es : (f.1.extract 0 m.toNat).size = m.toNat := ext_size (by omega)
      refine ⟨_, c4, by omega, by omega, rset (j := 1) (g := (f.1.extract 0 m.toNat, f.2)) hh z3 c1 (by decide) rfl fun H' h' => ?_⟩
      have hlt := (List.getElem?_eq_some_iff.1 z3).1
      have z5 : (F.set i (n, (f.1.extract 0 m.toNat, f.2)))[i]? = some (n, (f.1.extract 0 m.toNat, f.2)) := by rw [List.getElem?_set_self hlt]
      have hlen : (F.set i (n, (f.1.extract 0 m.toNat, f.2))).length ≤ 256 := by rw [List.length_set]; exact hB.few
      have hR2 : Recs eF H' s (F.set i (n, (f.1.extract 0 m.toNat, f.2))) := Own.recs eFlen (by decide) (h'.own 1 rfl) (by omega)
      obtain ⟨q2', o2, d1, d2, d3, d4, d5⟩ := rcells hR2 z5
      obtain ⟨rfl, rfl⟩ : q2' = q1 ∧ o2 = o1 := by rw [c1] at d1; simp only [Option.some.injEq, Addr.mk.injEq, and_true] at d1; exact ⟨d1.1.symm, d1.2.symm⟩
      refine ⟨_, d5, rset (j := 2) (g := (f.1.extract 0 m.toNat, if m < f.2 then m else f.2)) h' z5 c1 (by decide) rfl fun H2 h2 => ?_⟩
      rw [List.set_set] at h2
      refine k H2 (rdsk_open.2 ⟨s, hB.ins (hB.named z2) (fun e => absurd e hne) ?_ ?_, ?_⟩)
      · rw [eg]; dsimp only; rw [es]; have := hB.use; dsimp only at hu; omega
      · dsimp only; rw [es]; dsimp only at hs; split <;> omega
      · rw [ins_set hB.sorted z1]; exact h2
theorem rread_spec {j : Nat} (h : Holds cs H) (ej : cs[j]? = some (rdsk r size F)) (k : K (.tuple #[.string (getF F n).1, .int .i64 (if lookL F n = none then 8 else 0)]) H) : FnH Tryd.prog 42 #[.pointer (some ⟨r, 0, none⟩), .string n] H K := by
  apply logboomref1_Disk_Read_fn
  unfold logboomref1_Disk_Read_vc
  obtain ⟨s, hB, hh⟩ := h.read j ej rdsk_mono
  have hR : Recs eF H s F := rdsk_recs hB hh (i := 1) rfl
  refine rat_spec h ej ⟨_, rfl, br_intro (fun q => ?_) (fun q => ?_)⟩
  · have z := at_neg (q := q)
    unfold getF at k
    rw [if_pos z, z] at k; exact k
  · obtain ⟨i, f, z1, z2, z3, z4⟩ := at_pos (q := q)
    rw [z4]
    rw [if_neg (fun z => by rw [z2] at z; cases z), get_some z1] at k
    obtain ⟨q1, o1, c1, c2, c3, c4, c5⟩ := rcells hR z3
    exact ⟨s, hh.cell 0 rfl rfl, q1, o1, c1, by omega, c2, _, c4, k⟩
theorem rsize_spec {j : Nat} (h : Holds cs H) (ej : cs[j]? = some (rdsk r size F)) (k : K (.int .i64 (getF F n).1.size) H) : FnH Tryd.prog 43 #[.pointer (some ⟨r, 0, none⟩), .string n] H K := by
  apply logboomref1_Disk_Size_fn
  unfold logboomref1_Disk_Size_vc
  exact rread_spec h ej ⟨_, _, rfl, k⟩
theorem rsynced_spec {j : Nat} (h : Holds cs H) (ej : cs[j]? = some (rdsk r size F)) (k : K (.int .i64 (getF F n).2) H) : FnH Tryd.prog 44 #[.pointer (some ⟨r, 0, none⟩), .string n] H K := by
  apply logboomref1_Disk_Synced_fn
  unfold logboomref1_Disk_Synced_vc
  obtain ⟨s, hB, hh⟩ := h.read j ej rdsk_mono
  have hR : Recs eF H s F := rdsk_recs hB hh (i := 1) rfl
  refine rat_spec h ej ⟨_, rfl, br_intro (fun q => ?_) (fun q => ?_)⟩
  · have z := at_neg (q := q)
    unfold getF at k
    rw [z] at k; exact k
  · obtain ⟨i, f, z1, z2, z3, z4⟩ := at_pos (q := q)
    rw [z4]
    rw [get_some z1] at k
    obtain ⟨q1, o1, c1, c2, c3, c4, c5⟩ := rcells hR z3
    exact ⟨s, hh.cell 0 rfl rfl, q1, o1, c1, by omega, c2, _, c5, k⟩
theorem rremove_spec (h : Holds (rdsk r size F :: cs) H) (k : ∀ H', Holds (rdsk r size (remM F n) :: cs) H' → K (.int .i64 (if lookL F n = none then 8 else 0)) H') : FnH Tryd.prog 41 #[.pointer (some ⟨r, 0, none⟩), .string n] H K := by
  apply logboomref1_Disk_Remove_fn
  unfold logboomref1_Disk_Remove_vc
  unfold remM at k
  refine rat_spec (i := 0) h rfl ⟨_, rfl, br_intro (fun q => ?_) (fun q => ?_)⟩
  · have z := at_neg (q := q)
    rw [if_pos z, if_pos z] at k; exact k H h
  · obtain ⟨i, f, z1, z2, z3, z4⟩ := at_pos (q := q)
    rw [z4]
    rw [if_neg (fun z => by rw [z2] at z; cases z), if_neg (fun z => by rw [z2] at z; cases z)] at k
    exact rdrop_spec h z1 fun H1 h1 => ⟨rfl, k H1 h1⟩
theorem ins_del {f : Fi} (hs : SortedL ltB F) : insL ltB (delL F n) n f = insL ltB F n f := by
  refine sorted_eq ltB_ok ?_ (insL_sorted ltB_ok (delL_sorted hs)) (insL_sorted ltB_ok hs)
  refine (insL_perm ltB_ok (delL_sorted hs)).trans (List.Perm.trans ?_ (insL_perm ltB_ok hs).symm)
  refine List.Perm.cons _ ?_
  rw [delL_fresh]
  intro hm
  obtain ⟨x, hx, e⟩ := List.mem_map.1 hm
  rw [delL_filter (hs.nodup ltB_ok)] at hx
  have := (List.mem_filter.1 hx).2
  simp [e] at this
theorem look_gone (hs : SortedL ltB F) : lookL (delL F n) n = none := by rw [look_del (hs.nodup ltB_ok), if_pos rfl]
theorem rreplace_spec (h : Holds (rdsk r size F :: cs) H) (k : ∀ H', Holds (rdsk r size (repM size F n b) :: cs) H' → K (.int .i64 (repC size F n b)) H') : FnH Tryd.prog 37 #[.pointer (some ⟨r, 0, none⟩), .string n, .string b] H K := by
  apply logboomref1_Disk_Replace_fn
  unfold logboomref1_Disk_Replace_vc
  obtain ⟨s, hB, hh⟩ := rdsk_open.1 h
  have hR : Recs eF H s F := rdsk_recs hB hh (i := 1) rfl
  have bad : repC size F n b ≠ 0 → K (.int .i64 (repC size F n b)) H := fun c0 => k H (by unfold repM; rw [if_pos c0]; exact h)
  have er : roomC F n ≠ 0 → repC size F n b = roomC F n := fun q => by unfold repC; rw [if_pos q]
  refine made_spec (i := 0) h rfl ⟨_, rfl, br_intro (fun q => ?_) (fun q => ?_)⟩
  · have q : roomC F n ≠ 0 := by simpa using q
    have bad := bad (by rw [er q]; exact q)
    rw [er q] at bad; exact bad
  have q : roomC F n = 0 := by simpa using q
  obtain ⟨h1, h2⟩ := roomC_ok q
  have := hB.use; have := hB.s1; have := useF_nonneg F
  have g := hB.get n
  refine rat_spec (i := 0) h rfl ⟨_, rfl, rfree_spec (i := 0) h rfl ⟨_, rfl, ?_⟩⟩
  rcases look_cases F n with z | ⟨i, f, z1, z2, z3⟩
  · rw [atI_none z]
    have eg : (getF F n).1.size = 0 := by unfold getF; rw [z]; rfl
    refine br_f rfl (br_intro (fun q2 => ?_) (fun q2 => ?_))
    · have q2 := of_decide_eq_true q2
      have e : repC size F n b = 7 := by unfold repC; rw [if_neg (fun z => z q), if_pos (by rw [eg]; omega)]
      rw [e] at bad; exact bad (by decide)
    · have q2 := of_decide_eq_false q2
      have e : repC size F n b = 0 := by unfold repC; rw [if_neg (fun z => z q), if_neg (by rw [eg]; omega)]
      unfold repM at k
      rw [e, if_neg (fun z => z rfl)] at k
      exact br_f rfl (rput_spec (f := (b, (b.size : Int))) h z (hB.ins h1 h2 (by dsimp only; omega) ⟨by dsimp only; omega, Int.le_refl _⟩) fun H1 h1 => ⟨rfl, k H1 h1⟩)
  · rw [atI_some z1]
    have eg : (getF F n).1.size = f.1.size := by rw [get_some z1]
    obtain ⟨q1, o1, c1, c2, c3, c4, c5⟩ := rcells hR z3
    have hu := useF_le (List.mem_of_getElem? z3)
    dsimp only at hu
    refine br_t (decide_eq_true (by omega)) ⟨s, hh.cell 0 rfl rfl, q1, o1, c1, by omega, c2, _, c4, ?_⟩
    rw [wrap64_id (by omega) (by omega)]
    refine br_intro (fun q2 => ?_) (fun q2 => ?_)
    · have q2 := of_decide_eq_true q2
      have e : repC size F n b = 7 := by unfold repC; rw [if_neg (fun z => z q), if_pos (by rw [eg]; omega)]
      rw [e] at bad; exact bad (by decide)
    · have q2 := of_decide_eq_false q2
      have e : repC size F n b = 0 := by unfold repC; rw [if_neg (fun z => z q), if_neg (by rw [eg]; omega)]
      unfold repM at k
      rw [e, if_neg (fun z => z rfl)] at k
      have hb : DkB size (insL ltB F n (b, (b.size : Int))) := hB.ins h1 h2 (by dsimp only; omega) ⟨by dsimp only; omega, Int.le_refl _⟩
      refine br_t (decide_eq_true (by omega)) (rdrop_spec h z1 fun H1 h1 => ⟨rfl, rput_spec (f := (b, (b.size : Int))) h1 (look_gone hB.sorted) (by rw [ins_del hB.sorted]; exact hb) fun H2 h2 => ⟨rfl, k H2 ?_⟩⟩)
      rw [ins_del hB.sorted] at h2; exact h2
theorem rrename_spec {to : ByteArray} (h : Holds (rdsk r size F :: cs) H) (k : ∀ H', Holds (rdsk r size (renM F n to) :: cs) H' → K (.int .i64 (renC F n to)) H') : FnH Tryd.prog 39 #[.pointer (some ⟨r, 0, none⟩), .string n, .string to] H K := by
  apply logboomref1_Disk_Rename_fn
  unfold logboomref1_Disk_Rename_vc
  obtain ⟨s, hB, hh⟩ := rdsk_open.1 h
  have hR : Recs eF H s F := rdsk_recs hB hh (i := 1) rfl
  have bad : ∀ c : Int, renC F n to = c → (c ≠ 0 ∨ n = to) → K (.int .i64 c) H := fun c e c0 => by
    have k := k H (by unfold renM; rw [if_pos (by rw [e]; exact c0)]; exact h)
    rw [e] at k; exact k
  refine rname_spec ⟨_, rfl, rat_spec (i := 0) h rfl ⟨_, rfl, br_intro (fun q => ?_) (fun q => br_intro (fun q2 => ?_) (fun q2 => ?_))⟩⟩
  · exact bad 1 (by unfold renC; rw [if_pos (by simpa using q)]) (.inl (by decide))
  · exact bad 8 (by unfold renC; rw [if_neg (by simpa using q), if_pos (at_neg (q := q2))]) (.inl (by decide))
  · obtain ⟨i, f, z1, z2, z3, z4⟩ := at_pos (q := q2)
    have q : namedB to = true := by simpa using q
    have hne : ¬ lookL F n = none := fun z => by rw [z2] at z; cases z
    have e : renC F n to = 0 := by unfold renC; rw [if_neg (by rw [q]; simp), if_neg hne]
    rw [z4, str_eq]
    refine br_intro (fun q3 => bad 0 e (.inr (of_decide_eq_true q3))) (fun q3 => ?_)
    have q3 := of_decide_eq_false q3
    unfold renM at k
    rw [e, if_neg (fun z => z.elim (fun z => z rfl) q3), get_some z1] at k
    obtain ⟨q1, o1, c1, c2, c3, c4, c5⟩ := rcells hR z3
    have hB1 := hB.del (n := n)
    have hb : DkB size (insL ltB (delL F n) to f) := by
      have g := hB.get n
      rw [get_some z1] at g
      have e1 := useF_del hB.sorted n
      rw [get_some z1] at e1
      have := hB.use
      have g2 := hB1.get to
      have e2 := useF_nonneg (delL F n)
      refine hB1.ins q (fun _ => ?_) (by omega) g.2
      rw [delL_erase z1]
      have := (List.getElem?_eq_some_iff.1 (idxL_get z1)).1
      have := hB.few
      rw [List.length_eraseIdx]; split <;> omega
    refine ⟨s, hh.cell 0 rfl rfl, q1, o1, c1, by omega, c2, _, c3, _, c4, _, c5, rdrop_spec h z1 fun H1 h1 => ⟨rfl, rat_spec (i := 0) h1 rfl ⟨_, rfl, ?_⟩⟩⟩
    rcases look_cases (delL F n) to with y | ⟨j, g, y1, y2, y3⟩
    · rw [atI_none y]
      exact br_f rfl (rput_spec (f := f) h1 y hb fun H2 h2 => ⟨rfl, k H2 h2⟩)
    · rw [atI_some y1]
      refine br_t (decide_eq_true (by omega)) (rdrop_spec h1 y1 fun H2 h2 => ⟨rfl, rput_spec (f := f) h2 (look_gone hB1.sorted) (by rw [ins_del hB1.sorted]; exact hb) fun H3 h3 => ⟨rfl, k H3 ?_⟩⟩)
      rw [ins_del hB1.sorted] at h3; exact h3
end
end Go.Proofs.YtldaflbdldepnaaDoor
