/- Chapter 1: the document's disk's calls. -/
import Derived.Test.YtldaflbdldepnaaDoorS5
namespace Go.Proofs.YtldaflbdldepnaaDoor
open Go Go.HL
set_option maxRecDepth 10000
set_option maxHeartbeats 1600000

section
variable {cs : List Chunk} {H : Heap} {r : Nat} {size : Int} {F : Fs} {K : Value → Heap → Prop} {n b : ByteArray}
theorem rnew_spec (h : Holds cs H) (k0 : (size < 1 ∨ size > 16777216) → K (.pointer none) H) (k : 1 ≤ size → size ≤ 16777216 → ∀ r H', Holds (rdsk r size [] :: cs) H' → K (.pointer (some ⟨r, 0, none⟩)) H') : FnH Tryd.prog 21 #[.int .i64 size] H K := by
  apply logboomref1_New_fn
  unfold logboomref1_New_vc
  refine br_intro (fun q => k0 (.inl (of_decide_eq_true q))) (fun q => br_intro (fun q2 => k0 (.inr (of_decide_eq_true q2))) (fun q2 => ?_))
  have q := of_decide_eq_false q
  have q2 := of_decide_eq_false q2
  refine h.new fun r H1 h1 => k (by omega) (by omega) r H1 (rdsk_open.2 ⟨⟨none, 0, 0⟩, ⟨by omega, by omega, List.Pairwise.nil, ?_, by simp, by simp, by simp⟩, (h1.own_nil 71 3).swap⟩)
  show (0 : Int) ≤ size
  omega
theorem fresh_lt {m : Nat} {p : ByteArray × Fi} (hs : SortedL ltB F) (h1 : F[m]? = some p) (h2 : ltB p.1 n = false) (h3 : lookL F n = none) : ∀ x ∈ F.drop m, ltB n x.1 = true := by
  obtain ⟨hm, rfl⟩ := List.getElem?_eq_some_iff.1 h1
  have hne : ∀ x ∈ F, x.1 ≠ n := fun x hx e => by
    have := (lookL_iff (hs.nodup ltB_ok) (k := n) (v := x.2)).2 (by rw [← e]; exact hx)
    rw [h3] at this; cases this
  have h0 : ltB n F[m].1 = true := by
    rcases ltB_ok.tri n F[m].1 (fun e => hne _ (List.getElem_mem hm) e.symm) with z | z
    · exact z
    · rw [h2] at z; cases z
  intro x hx
  rw [List.drop_eq_getElem_cons hm] at hx
  have hd : SortedL ltB (F.drop m) := List.Pairwise.sublist (List.drop_sublist _ _) hs
  rw [List.drop_eq_getElem_cons hm] at hd
  rcases List.mem_cons.1 hx with e | e
  · rw [e]; exact h0
  · exact ltB_ok.trans _ _ _ h0 ((List.pairwise_cons.1 hd).1 x e)
theorem ins_split {A B : Fs} {f : Fi} (h1 : ∀ x ∈ A, ltB x.1 n = true) (h2 : ∀ x ∈ B, ltB n x.1 = true) : insL ltB (A ++ B) n f = A ++ (n, f) :: B := by
  induction A with
  | nil =>
    cases B with
    | nil => rfl
    | cons p B =>
      have := h2 p List.mem_cons_self
      show insL ltB (p :: B) n f = _
      unfold insL
      rw [if_neg (ltB_ok.ne this), if_pos this]; rfl
  | cons a A ih =>
    have ha := h1 a List.mem_cons_self
    show insL ltB (a :: (A ++ B)) n f = _
    unfold insL
    rw [if_neg (fun e => ltB_ok.ne ha e.symm), if_neg (by rw [ltB_ok.asymm ha]; simp), ih fun x hx => h1 x (List.mem_cons_of_mem _ hx)]; rfl
/-- Files made anew: the beginning, one, the rest. -/
theorem put_tail {s : Sl} {m : Int} {f : Fi} (hB : DkB size F) (h : Holds (blk r (.cells #[.int .i64 size, .slice s.p s.n s.c] 68 (0, 0)) :: ownF s F :: cs) H) (m0 : 0 ≤ m) (m1 : m ≤ s.n) (hi : insL ltB F n f = F.take m.toNat ++ (n, f) :: F.drop m.toNat) (hb : DkB size (insL ltB F n f))
    (k : ∀ H', Holds (rdsk r size (insL ltB F n f) :: cs) H' → K (.tuple #[]) H') :
    ∀ q2 : Nat, H q2 = none → letH (Heap.upd H q2 (.cells #[] 71 (0, 0))) fun H2 =>
      ∃ l3 : Sl, cellH H2 ⟨r, 0 + 1, none⟩ = some (.slice l3.p l3.n l3.c) ∧ 0 ≤ m ∧ m ≤ ((l3.c : Nat) : Int) ∧
      runH Tryd.prog (Builtin.append_ #[66, 66] 66 #[.slice (some ⟨q2, 0, none⟩) 0 0, .slice (slP l3.p l3.c (0 : Int) 3) (Int.toNat (m - (0 : Int))) (Int.toNat (((l3.c : Nat) : Int) - (0 : Int)))]) H2 fun r1 H3 =>
        ∃ l4 : Sl, r1 = .slice l4.p l4.n l4.c ∧ ∀ q3 : Nat, H3 q3 = none → letH (Heap.upd H3 q3 (.cells #[.string n, .string f.1, .int .i64 f.2] 71 (0, 0))) fun H4 =>
        runH Tryd.prog (Builtin.append_ #[66, 66] 66 #[.slice l4.p l4.n l4.c, .slice (some ⟨q3, 0, none⟩) 1 1]) H4 fun r2 H5 =>
          ∃ l5 : Sl, r2 = .slice l5.p l5.n l5.c ∧ ∃ l6 : Sl, cellH H5 ⟨r, 0 + 1, none⟩ = some (.slice l6.p l6.n l6.c) ∧ 0 ≤ m ∧ m ≤ ((l6.n : Nat) : Int) ∧
          runH Tryd.prog (Builtin.append_ #[66, 66] 66 #[.slice l5.p l5.n l5.c, .slice (slP l6.p l6.c m 3) (Int.toNat (((l6.n : Nat) : Int) - m)) (Int.toNat (((l6.c : Nat) : Int) - m))]) H5 fun r3 H6 =>
            ∃ l7 : Sl, r3 = .slice l7.p l7.n l7.c ∧ (∃ u, cellH H6 ⟨r, 0 + 1, none⟩ = some u) ∧ frozenH H6 ⟨r, 0 + 1, none⟩ = false ∧
            letH (Heap.set H6 ⟨r, 0 + 1, none⟩ (.slice l7.p l7.n l7.c)) fun H7 => K (.tuple #[]) H7 := by
  have hfew := hB.few
  have hR0 : Recs eF H s F := rdsk_recs hB h (i := 1) rfl
  have hn := hR0.len
  have hcap := hR0.cap
  refine h.newS fun q2 H2 s2 h2 => ⟨s, h2.cell 1 rfl rfl, m0, by omega, ?_⟩
  have h3 : Holds (own 71 3 ⟨some ⟨q2, 0, none⟩, 0, 0⟩ [] :: blk r (.cells #[.int .i64 size, .slice s.p s.n s.c] 68 (0, 0)) :: ownF s F :: cs) H2 := h2.head fun A hA => ⟨rfl, Nat.le_refl _, .inr ⟨q2, #[], rfl, hA, rfl, fun i hi => by simp at hi⟩⟩
  have hup := (rdsk_recs hB h3 (i := 2) rfl).upto eFlen m0 m1
  have hul := hup.len
  rw [List.length_take] at hul
  refine Holds.append (s := ⟨some ⟨q2, 0, none⟩, 0, 0⟩) ok66 ok66.under h3 hup.cells (by rw [flat_len eFlen, List.length_take]; omega) (noTups_files _) (by show 0 + (s.upto m 3).n ≤ _; omega) fun l4 H3 h4 n4 => ⟨l4, rfl, ?_⟩
  have n4 : l4.n = min m.toNat F.length := by rw [n4]; show 0 + (s.upto m 3).n = _; omega
  refine Holds.push (s := l4) (vs := [] ++ (F.take m.toNat).flatMap eF) ok66 h4 (xs := eF (n, f)) (m := 1) (by rfl) (by rfl) (by omega) fun l5 H5 h5 n5 => ⟨l5, rfl, s, h5.cell 1 rfl rfl, m0, m1, ?_⟩
  have hfr := (rdsk_recs hB h5 (i := 2) rfl).from_ eFlen m0 m1
  have hfl := hfr.len
  rw [List.length_drop] at hfl
  refine Holds.append (s := l5) ok66 ok66.under h5 hfr.cells (by rw [flat_len eFlen, List.length_drop]; omega) (noTups_files _) (by omega) fun l7 H6 h6 n6 => ⟨l7, rfl, ?_⟩
  refine Holds.store h6 1 rfl (by simp) fun H7 h7 => k H7 (rdsk_open.2 ⟨l7, hb, ?_⟩)
  have e : ([] ++ (F.take m.toNat).flatMap eF) ++ eF (n, f) ++ (F.drop m.toNat).flatMap eF = (insL ltB F n f).flatMap eF := by rw [hi]; simp
  have h8 : Holds (own 71 3 l7 (([] ++ (F.take m.toNat).flatMap eF) ++ eF (n, f) ++ (F.drop m.toNat).flatMap eF) :: blk r (.cells #[.int .i64 size, .slice l7.p l7.n l7.c] 68 (0, 0)) :: ownF s F :: cs) H7 := h7
  rw [e] at h8
  exact (h8.swap.pull 2 rfl).tail
theorem rput_spec {f : Fi} (h : Holds (rdsk r size F :: cs) H) (hn : lookL F n = none) (hb : DkB size (insL ltB F n f)) (k : ∀ H', Holds (rdsk r size (insL ltB F n f) :: cs) H' → K (.tuple #[]) H') :
    FnH Tryd.prog 54 #[.pointer (some ⟨r, 0, none⟩), .agg #[.string n, .string f.1, .int .i64 f.2]] H K := by
  apply logboomref1_Disk_put_fn
  unfold logboomref1_Disk_put_vc
  obtain ⟨s, hB, hh⟩ := rdsk_open.1 h
  have hR : Recs eF H s F := rdsk_recs hB hh (i := 1) rfl
  have hl := hR.len
  have hbg := hR.big
  refine ⟨fun m H1 => H1 = H ∧ 0 ≤ m ∧ m ≤ s.n ∧ ∀ x ∈ F.take m.toNat, ltB x.1 n = true, fun m _ => (s.n - m).toNat, ⟨rfl, Int.le_refl _, by omega, by simp⟩, ?_⟩
  rintro m H1 ⟨rfl, m0, m1, hx⟩
  have hsp : F.take m.toNat ++ F.drop m.toNat = F := List.take_append_drop _ _
  refine ⟨s, hh.cell 0 rfl rfl, br_intro (fun q => ?_) (fun q => ?_)⟩
  · have q := of_decide_eq_true q
    obtain ⟨q1, o1, p, e1, e2, e3⟩ := hR.at_ eFlen (by decide) m0 q
    refine ⟨s, hh.cell 0 rfl rfl, q1, o1, e1, m0, q, _, e3 0 _ rfl, ?_⟩
    rw [wrap64_id (n := m + 1) (by omega) (by omega)]
    refine br_intro (fun c => ⟨rfl, ⟨rfl, by omega, by omega, fun x hx2 => ?_⟩, by dsimp only; omega⟩) (fun c => ?_)
    · rw [take_step m0 e2] at hx2
      rcases List.mem_append.1 hx2 with y | y
      · exact hx x y
      · simp only [List.mem_singleton] at y; rw [y]; exact c
    · have hd := fresh_lt hB.sorted e2 c hn
      have hi := ins_split (f := f) hx hd
      rw [hsp] at hi
      exact put_tail hB hh m0 m1 hi hb k
  · have q := of_decide_eq_false q
    have hd : ∀ x ∈ F.drop m.toNat, ltB n x.1 = true := by rw [List.drop_eq_nil_of_le (by omega)]; simp
    have hi := ins_split (f := f) hx hd
    rw [hsp] at hi
    exact put_tail hB hh m0 m1 hi hb k
theorem rdrop_spec {i : Nat} {f : Fi} (h : Holds (rdsk r size F :: cs) H) (hi : idxL F n = some (i, f)) (k : ∀ H', Holds (rdsk r size (delL F n) :: cs) H' → K (.tuple #[]) H') :
    FnH Tryd.prog 55 #[.pointer (some ⟨r, 0, none⟩), .int .i64 i] H K := by
  apply logboomref1_Disk_drop_fn
  unfold logboomref1_Disk_drop_vc
  obtain ⟨s, hB, hh⟩ := rdsk_open.1 h
  have hfew := hB.few
  have hlt := (List.getElem?_eq_some_iff.1 (idxL_get hi)).1
  have hR0 : Recs eF H s F := rdsk_recs hB hh (i := 1) rfl
  have hn := hR0.len
  have hcap := hR0.cap
  refine hh.newS fun q2 H2 s2 h2 => ⟨s, h2.cell 1 rfl rfl, by omega, by omega, ?_⟩
  have h3 : Holds (own 71 3 ⟨some ⟨q2, 0, none⟩, 0, 0⟩ [] :: blk r (.cells #[.int .i64 size, .slice s.p s.n s.c] 68 (0, 0)) :: ownF s F :: cs) H2 := h2.head fun A hA => ⟨rfl, Nat.le_refl _, .inr ⟨q2, #[], rfl, hA, rfl, fun i hi => by simp at hi⟩⟩
  have hup := (rdsk_recs hB h3 (i := 2) rfl).upto eFlen (j := (i : Int)) (by omega) (by omega)
  have hul := hup.len
  rw [List.length_take] at hul
  refine Holds.append (s := ⟨some ⟨q2, 0, none⟩, 0, 0⟩) ok66 ok66.under h3 hup.cells (by rw [flat_len eFlen, List.length_take]; omega) (noTups_files _) (by show 0 + (s.upto (i : Int) 3).n ≤ _; omega) fun l4 H3 h4 n4 => ⟨l4, rfl, ?_⟩
  have n4 : l4.n = min (i : Int).toNat F.length := by rw [n4]; show 0 + (s.upto (i : Int) 3).n = _; omega
  rw [wrap64_id (n := (i : Int) + 1) (by omega) (by omega)]
  have hfr := (rdsk_recs hB h4 (i := 2) rfl).from_ eFlen (j := (i : Int) + 1) (by omega) (by omega)
  have hfl := hfr.len
  rw [List.length_drop] at hfl
  refine ⟨s, h4.cell 1 rfl rfl, by omega, by omega, Holds.append (s := l4) ok66 ok66.under h4 hfr.cells (by rw [flat_len eFlen, List.length_drop]; omega) (noTups_files _) (by omega) fun l7 H6 h6 n6 => ⟨l7, rfl, ?_⟩⟩
  refine Holds.store h6 1 rfl (by simp) fun H7 h7 => k H7 (rdsk_open.2 ⟨l7, hB.del, ?_⟩)
  have e : ([] ++ (F.take (i : Int).toNat).flatMap eF) ++ (F.drop ((i : Int) + 1).toNat).flatMap eF = (delL F n).flatMap eF := by
    rw [delL_erase hi, List.eraseIdx_eq_take_drop_succ]
    have e1 : (i : Int).toNat = i := by omega
    have e2 : ((i : Int) + 1).toNat = i + 1 := by omega
    rw [e1, e2]; simp
  have h8 : Holds (own 71 3 l7 (([] ++ (F.take (i : Int).toNat).flatMap eF) ++ (F.drop ((i : Int) + 1).toNat).flatMap eF) :: blk r (.cells #[.int .i64 size, .slice l7.p l7.n l7.c] 68 (0, 0)) :: ownF s F :: cs) H7 := h7
  rw [e] at h8
  exact (h8.swap.pull 2 rfl).tail
theorem made_spec {i : Nat} (h : Holds cs H) (ei : cs[i]? = some (rdsk r size F)) (k : K (.int .i64 (roomC F n)) H) : FnH Tryd.prog 52 #[.pointer (some ⟨r, 0, none⟩), .string n] H K := by
  apply logboomref1_Disk_made_fn
  unfold logboomref1_Disk_made_vc
  obtain ⟨s, hB, hh⟩ := h.read i ei rdsk_mono
  have hR : Recs eF H s F := rdsk_recs hB hh (i := 1) rfl
  have hl := hR.len
  unfold roomC at k
  refine rname_spec ⟨_, rfl, br_intro (fun q => ?_) (fun q => rat_spec h ei ⟨_, rfl, br_intro (fun q2 => ⟨s, hh.cell 0 rfl rfl, br_intro (fun q3 => ?_) (fun q3 => ?_)⟩) (fun q2 => ?_)⟩)⟩
  · rw [if_pos (by simpa using q)] at k; exact k
  · rw [if_neg (by simpa using q)] at k
    have q3 := of_decide_eq_true q3
    have q2 := of_decide_eq_true q2
    rcases look_cases F n with z | ⟨i, f, z1, z2, z3⟩
    · rw [if_pos ⟨z, by omega⟩] at k; exact k
    · rw [atI_some z1] at q2; omega
  · rw [if_neg (by simpa using q)] at k
    have q3 := of_decide_eq_false q3
    rw [if_neg (fun z => by omega)] at k; exact k
  · rw [if_neg (by simpa using q)] at k
    have q2 := of_decide_eq_false q2
    rcases look_cases F n with z | ⟨i, f, z1, z2, z3⟩
    · rw [atI_none z] at q2; omega
    · rw [if_neg (fun z => by rw [z2] at z; cases z.1)] at k; exact k
theorem ins_ins {f g : Fi} (hs : SortedL ltB F) : insL ltB (insL ltB F n f) n g = insL ltB F n g := by
  refine sorted_eq ltB_ok ?_ (insL_sorted ltB_ok (insL_sorted ltB_ok hs)) (insL_sorted ltB_ok hs)
  refine (insL_perm ltB_ok (insL_sorted ltB_ok hs)).trans (List.Perm.trans ?_ (insL_perm ltB_ok hs).symm)
  rw [del_ins hs]
theorem get_some {i : Nat} {f : Fi} (h : idxL F n = some (i, f)) : getF F n = f := by unfold getF lookL; rw [h]; rfl
/-- A text is put behind a file that is there. -/
theorem app_tail {i : Nat} {f : Fi} {Z : Int → Int → Heap → Prop} (h : Holds (rdsk r size F :: cs) H) (hi : idxL F n = some (i, f)) (hb : DkB size (insL ltB F n (f.1 ++ b.extract 0 (fitN size F b).toNat, f.2)))
    (k : ∀ H', Holds (rdsk r size (insL ltB F n (f.1 ++ b.extract 0 (fitN size F b).toNat, f.2)) :: cs) H' → Z (fitN size F b) b.size H') :
    ∃ l1 : Sl, cellH H ⟨r, 0 + 1, none⟩ = some (.slice l1.p l1.n l1.c) ∧ FnH Tryd.prog 53 #[.pointer (some ⟨r, 0, none⟩), .string n] H fun r4 H4 =>
      ∃ n3 : Int, r4 = .int .i64 n3 ∧ HL.Sub H H4 ∧ ∃ q1 : Nat, ∃ o1 : Nat, (l1.p : Option Addr) = some ⟨q1, o1, none⟩ ∧ 0 ≤ n3 ∧ n3 < ((l1.n : Nat) : Int) ∧
      FnH Tryd.prog 46 #[.pointer (some ⟨r, 0, none⟩)] H4 fun r5 H5 => ∃ n4 : Int, r5 = .int .i64 n4 ∧ ∃ s1 : ByteArray, cellH H5 ⟨q1, o1 + Int.toNat n3 * 3 + 1, none⟩ = some (.string s1) ∧
        0 ≤ (if ((b.size : Nat) : Int) < n4 then ((b.size : Nat) : Int) else n4) ∧ (if ((b.size : Nat) : Int) < n4 then ((b.size : Nat) : Int) else n4) ≤ ((b.size : Nat) : Int) ∧
        s1.size + (b.extract (Int.toNat (0 : Int)) (Int.toNat (if ((b.size : Nat) : Int) < n4 then ((b.size : Nat) : Int) else n4))).size < 9223372036854775808 ∧
        (∃ u, cellH H5 ⟨q1, o1 + Int.toNat n3 * 3 + 1, none⟩ = some u) ∧ frozenH H5 ⟨q1, o1 + Int.toNat n3 * 3 + 1, none⟩ = false ∧
        letH (Heap.set H5 ⟨q1, o1 + Int.toNat n3 * 3 + 1, none⟩ (.string (s1 ++ (b.extract (Int.toNat (0 : Int)) (Int.toNat (if ((b.size : Nat) : Int) < n4 then ((b.size : Nat) : Int) else n4)))))) fun H6 =>
          Z (if ((b.size : Nat) : Int) < n4 then ((b.size : Nat) : Int) else n4) b.size H6 := by
  obtain ⟨s, hB, hh⟩ := rdsk_open.1 h
  have hR : Recs eF H s F := rdsk_recs hB hh (i := 1) rfl
  have hl := hR.len
  have hlt := (List.getElem?_eq_some_iff.1 (idxL_get hi)).1
  have hs1 := hB.s1; have huse := hB.use
  have hle := useF_le (List.mem_of_getElem? (idxL_get hi))
  dsimp only at hle
  obtain ⟨f1, f2, f3⟩ := fitN_in hB b
  refine ⟨s, hh.cell 0 rfl rfl, rat_spec (i := 0) h rfl ?_⟩
  rw [atI_some hi]
  obtain ⟨q1, o1, p, e1, e2, e3⟩ := hR.at_ eFlen (by decide) (j := (i : Int)) (by omega) (by omega)
  have ei : (i : Int).toNat = i := by omega
  rw [ei] at e2 e3
  obtain rfl : p = (n, f) := by rw [idxL_get hi] at e2; exact (Option.some.inj e2).symm
  refine ⟨_, rfl, HL.Sub.refl _, q1, o1, e1, by omega, by omega, rfree_spec (i := 0) h rfl ⟨_, rfl, f.1, by rw [ei]; exact e3 1 _ rfl, ?_⟩⟩
  have ef : (if (b.size : Int) < size - useF F then (b.size : Int) else size - useF F) = fitN size F b := by unfold fitN; split <;> split <;> omega
  rw [ef, ei]
  have esx : (b.extract (Int.toNat 0) (fitN size F b).toNat).size = (fitN size F b).toNat := ext_size (by omega)
  refine ⟨f1, f2, by rw [esx]; omega, ?_⟩
  have hset := Holds.setCell (hh.swap) e1 (j := i * 3 + 1) (by rw [flat_len eFlen]; omega) (v := .string (f.1 ++ b.extract (Int.toNat 0) (fitN size F b).toNat)) (f := fun H6 => Z (fitN size F b) b.size H6) fun H6 h6 => k H6 (rdsk_open.2 ⟨s, hb, ?_⟩)
  · rw [← Nat.add_assoc] at hset; exact hset
  · rw [flat_set eFlen (idxL_get hi) (a' := (n, (f.1 ++ b.extract 0 (fitN size F b).toNat, f.2))) (by decide) rfl] at h6
    rw [ins_set hB.sorted hi]
    exact h6.swap
theorem rappend_spec (h : Holds (rdsk r size F :: cs) H) (k : ∀ H', Holds (rdsk r size (appM size F n b) :: cs) H' → K (.int .i64 (appC size F n b)) H') : FnH Tryd.prog 33 #[.pointer (some ⟨r, 0, none⟩), .string n, .string b] H K := by
  apply logboomref1_Disk_Append_fn
  unfold logboomref1_Disk_Append_vc
  obtain ⟨s, hB, hh⟩ := rdsk_open.1 h
  unfold appC appM at k
  refine made_spec (i := 0) h rfl ⟨_, rfl, br_intro (fun q => ?_) (fun q => ?_)⟩
  · have q : roomC F n ≠ 0 := by simpa using q
    rw [if_pos q, if_pos q] at k; exact k H h
  have q : roomC F n = 0 := by simpa using q
  rw [if_neg (fun z => z q), if_neg (fun z => z q)] at k
  obtain ⟨r1, r2⟩ := roomC_ok q
  have happ := app_ok (b := b) hB q
  have fin : ∀ {c : Int} {H' : Heap}, c = (if fitN size F b < b.size then 7 else 0) → Holds (rdsk r size (insL ltB F n (appF size F n b)) :: cs) H' → K (.int .i64 c) H' := fun hc h' => by rw [hc]; exact k _ h'
  refine rat_spec (i := 0) h rfl ⟨_, rfl, br_intro (fun q2 => ?_) (fun q2 => ?_)⟩
  · have q2 := of_decide_eq_true q2
    have hno : lookL F n = none := by
      rcases look_cases F n with z | ⟨i, f, z1, z2, z3⟩
      · exact z
      · rw [atI_some z1] at q2; omega
    have e0 : getF F n = f0 := by unfold getF; rw [hno]; rfl
    have e0s : (f0.1.size : Int) = 0 := rfl
    have h0 : DkB size (insL ltB F n f0) := hB.ins r1 r2 (by have := hB.use; rw [e0]; omega) ⟨Int.le_refl _, Int.le_refl _⟩
    refine rput_spec (f := f0) h hno h0 fun H1 h1 => ⟨rfl, ?_⟩
    have hl0 : lookL (insL ltB F n f0) n = some f0 := by rw [look_ins ltB_ok hB.sorted, if_pos rfl]
    obtain ⟨i, hi⟩ := lookL_idx hl0
    have eu : useF (insL ltB F n f0) = useF F := by rw [useF_ins hB.sorted, e0]; omega
    have efit : fitN size (insL ltB F n f0) b = fitN size F b := by unfold fitN; rw [eu]
    have eA : insL ltB (insL ltB F n f0) n (f0.1 ++ b.extract 0 (fitN size (insL ltB F n f0) b).toNat, f0.2) = insL ltB F n (appF size F n b) := by
      rw [ins_ins hB.sorted, efit]
      unfold appF; rw [e0]
    refine app_tail (Z := fun x y H => br (decide (x < y)) (K (.int .i64 7) H) (K (.int .i64 0) H)) h1 hi (by rw [eA]; exact happ) fun H2 h2 => ?_
    rw [eA] at h2
    rw [efit]
    exact br_intro (fun z => fin (by rw [if_pos (of_decide_eq_true z)]) h2) (fun z => fin (by rw [if_neg (of_decide_eq_false z)]) h2)
  · have q2 := of_decide_eq_false q2
    rcases look_cases F n with z | ⟨i, f, z1, z2, z3⟩
    · rw [atI_none z] at q2; omega
    · have eA : insL ltB F n (f.1 ++ b.extract 0 (fitN size F b).toNat, f.2) = insL ltB F n (appF size F n b) := by
        unfold appF; rw [get_some z1]
      refine app_tail (Z := fun x y H => br (decide (x < y)) (K (.int .i64 7) H) (K (.int .i64 0) H)) h z1 (by rw [eA]; exact happ) fun H2 h2 => ?_
      rw [eA] at h2
      exact br_intro (fun z => fin (by rw [if_pos (of_decide_eq_true z)]) h2) (fun z => fin (by rw [if_neg (of_decide_eq_false z)]) h2)
end
end Go.Proofs.YtldaflbdldepnaaDoor
