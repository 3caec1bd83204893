/- The document's disk (out of chapter 1). -/
import Derived.Test.YtokceblmbmajgaaGreatDoorDk
import Derived.Test.YtokceblmbmajgaaGreatDoorWr

/- Chapter 1: the document's disk. -/
namespace Go.Proofs.YtokceblmbmajgaaGreatDoor
open Go Go.HL
set_option maxRecDepth 10000
set_option maxHeartbeats 1600000

theorem okRFiles : ElemOK Tryz.prog 59 101 3 := ElemOK.of (by kernel_rfl)
abbrev eF : ByteArray × Fi → List Value := fun p => [.string p.1, .string p.2.1, .int .i64 p.2.2]
theorem eFlen : ∀ x, (eF x).length = 3 := fun _ => rfl
theorem noTups_files (l : Fs) : noTups (l.flatMap eF) = true := by
  induction l with
  | nil => rfl
  | cons a l ih => exact ih
abbrev ownF (s : Sl) (l : Fs) : Chunk := own 101 3 s (l.flatMap eF)
def rdsk (r : Nat) (size : Int) (F : Fs) : Chunk := fun H => ∃ s : Sl, DkB size F ∧ Holds [blk r (.cells #[.int .i64 size, .slice s.p s.n s.c] 61 (0, 0)), ownF s F] H
theorem rdsk_mono {r : Nat} {size : Int} {F : Fs} : Mono (rdsk r size F) := fun _ _ hs ⟨q, e, h⟩ => ⟨q, e, h.up hs⟩
theorem rdsk_open {cs : List Chunk} {H : Heap} {r : Nat} {size : Int} {F : Fs} : Holds (rdsk r size F :: cs) H ↔ ∃ s : Sl, DkB size F ∧ Holds (blk r (.cells #[.int .i64 size, .slice s.p s.n s.c] 61 (0, 0)) :: ownF s F :: cs) H := by
  constructor
  · intro h
    obtain ⟨s, h⟩ := Holds.ex.1 h
    obtain ⟨e, h⟩ := Holds.pure.1 h
    exact ⟨s, e, Holds.flat.1 h⟩
  · rintro ⟨s, e, h⟩
    exact Holds.ex.2 ⟨s, Holds.pure.2 ⟨e, Holds.flat.2 h⟩⟩
/-- A cell of a slice of one's own is written. -/
theorem Holds.setCell {e sz : Nat} {s : Sl} {vs : List Value} {cs : List Chunk} {H : Heap} (h : Holds (own e sz s vs :: cs) H) {q o : Nat} (hq : s.p = some ⟨q, o, none⟩) {j : Nat} (hj : j < vs.length) {v : Value} {f : Heap → Prop} (k : ∀ H', Holds (own e sz s (vs.set j v) :: cs) H' → f H') :
    (∃ u, cellH H ⟨q, o + j, none⟩ = some u) ∧ frozenH H ⟨q, o + j, none⟩ = false ∧ letH (H.set ⟨q, o + j, none⟩ v) f := by
  have ho := h.own 0 rfl
  have hl := ho.1
  have hpos : 0 < s.n := by
    rcases Nat.eq_zero_or_pos s.n with z | z
    · rw [z, Nat.zero_mul] at hl; omega
    · exact z
  obtain ⟨b, arr, hp, hb, hs, ha⟩ := ho.some_ hpos
  rw [hp] at hq
  simp only [Option.some.injEq, Addr.mk.injEq, and_true] at hq
  obtain ⟨rfl, rfl⟩ := hq
  have hc := ho.2.1
  have hi : j < arr.size := by
    have := Nat.mul_le_mul_right sz hc
    omega
  rw [Nat.zero_add]
  refine ⟨⟨arr[j], by rw [cellH_eq hb]; exact Array.getElem?_eq_getElem hi⟩, frozenH_eq hb, letH_intro fun H1 g1 => k H1 ?_⟩
  rw [g1, Heap.set_block hb]
  refine h.ownUpd hp hb (by rw [List.length_set]; exact hl) (by simpa using hs) fun i hi2 => ?_
  simp only [List.length_set] at hi2
  rw [Array.getElem?_setIfInBounds, List.getElem_set]
  by_cases z : j = i
  · subst z; simp [hi]
  · rw [if_neg z, if_neg z]; exact ha i hi2
theorem flat_set {α : Type} {enc : α → List Value} {k : Nat} (hk : ∀ a, (enc a).length = k) : ∀ {l : List α} {j : Nat} {a a' : α} {f : Nat} {v : Value}, l[j]? = some a → f < k → enc a' = (enc a).set f v → (l.flatMap enc).set (j * k + f) v = (l.set j a').flatMap enc := by
  intro l
  induction l with
  | nil => intro j a a' f v h; simp at h
  | cons b l ih =>
    intro j a a' f v h hf he
    cases j with
    | zero =>
      simp at h; subst h
      rw [List.flatMap_cons, Nat.zero_mul, Nat.zero_add, List.set_append_left _ _ (by rw [hk]; exact hf), ← he]
      rfl
    | succ j =>
      rw [List.flatMap_cons, List.set_append_right _ _ (by rw [hk, Nat.succ_mul]; omega), hk]
      have e : (j + 1) * k + f - k = j * k + f := by rw [Nat.succ_mul]; omega
      rw [e, ih (by simpa using h) hf he]
      rfl
theorem ins_set {F : Fs} {n : ByteArray} {i : Nat} {f v : Fi} (hs : SortedL ltB F) (h : idxL F n = some (i, f)) : insL ltB F n v = F.set i (n, v) := by
  induction F generalizing i with
  | nil => cases h
  | cons p l ih =>
    obtain ⟨h1, h2⟩ := List.pairwise_cons.1 hs
    unfold idxL at h
    unfold insL
    split at h
    · rename_i e
      simp only [Option.some.injEq, Prod.mk.injEq] at h
      rw [if_pos e, ← h.1]; rfl
    · rename_i e
      obtain ⟨q, hq, e2⟩ := Option.map_eq_some_iff.1 h
      simp only [Prod.mk.injEq] at e2
      obtain ⟨rfl, rfl⟩ := e2
      have hm := List.mem_of_getElem? (idxL_get hq)
      have hlt := h1 _ hm
      rw [if_neg e, if_neg (by rw [ltB_ok.asymm hlt]; simp), ih h2 hq]; rfl
theorem uRDk : True := trivial
section
variable {cs : List Chunk} {H : Heap} {r : Nat} {size : Int} {F : Fs} {K : Value → Heap → Prop} {n b : ByteArray}
def atI (F : Fs) (n : ByteArray) : Int := match idxL F n with | some q => q.1 | none => -1
theorem atI_none (h : lookL F n = none) : atI F n = -1 := by
  unfold lookL at h
  unfold atI
  cases e : idxL F n with
  | none => rfl
  | some q => rw [e] at h; cases h
theorem atI_some {i : Nat} {f : Fi} (h : idxL F n = some (i, f)) : atI F n = i := by unfold atI; rw [h]
theorem look_cases (F : Fs) (n : ByteArray) : lookL F n = none ∨ ∃ i f, idxL F n = some (i, f) ∧ lookL F n = some f ∧ F[i]? = some (n, f) := by
  cases e : lookL F n with
  | none => exact .inl rfl
  | some f =>
    obtain ⟨i, hi⟩ := lookL_idx e
    exact .inr ⟨i, f, hi, rfl, idxL_get hi⟩
theorem idx_first {F : Fs} {n : ByteArray} {m : Nat} {p : ByteArray × Fi} (h1 : ∀ x ∈ F.take m, ¬ x.1 = n) (h2 : F[m]? = some p) (h3 : p.1 = n) : idxL F n = some (m, p.2) := by
  induction F generalizing m with
  | nil => simp at h2
  | cons a F ih =>
    unfold idxL
    cases m with
    | zero =>
      simp at h2; subst h2
      rw [if_pos h3.symm]
    | succ m =>
      have ha : ¬ a.1 = n := h1 a (by simp)
      rw [if_neg (fun e => ha e.symm), ih (m := m) (fun x hx => h1 x (by rw [List.take_succ_cons]; exact List.mem_cons_of_mem _ hx)) (by simpa using h2)]
      rfl
theorem rdsk_recs {s : Sl} (hB : DkB size F) (h : Holds cs H) {i : Nat} (ei : cs[i]? = some (ownF s F)) : Recs eF H s F := by
  have := hB.few
  exact Own.recs eFlen (by decide) (h.own i ei) (by omega)
theorem rat_spec {i : Nat} (h : Holds cs H) (ei : cs[i]? = some (rdsk r size F)) (k : K (.int .i64 (atI F n)) H) : FnH Tryz.prog 57 #[.pointer (some ⟨r, 0, none⟩), .string n] H K := by
  apply logboomref1_Disk_at_fn
  unfold logboomref1_Disk_at_vc
  obtain ⟨s, hB, hh⟩ := h.read i ei rdsk_mono
  have hR : Recs eF H s F := rdsk_recs hB hh (i := 1) rfl
  have hn := hR.len
  have hbg := hR.big
  refine ⟨fun m H1 => H1 = H ∧ 0 ≤ m ∧ m ≤ s.n ∧ ∀ x ∈ F.take m.toNat, ¬ x.1 = n, fun m _ => (s.n - m).toNat, ⟨rfl, Int.le_refl _, by omega, by simp⟩, ?_⟩
  rintro m H1 ⟨rfl, m0, m1, hx⟩
  refine ⟨s, hh.cell 0 rfl rfl, br_intro (fun q => ?_) (fun q => ?_)⟩
  · have q := of_decide_eq_true q
    obtain ⟨q1, o1, p, e1, e2, e3⟩ := hR.at_ eFlen (by decide) m0 q
    refine ⟨s, hh.cell 0 rfl rfl, q1, o1, e1, m0, q, _, e3 0 _ rfl, ?_⟩
    rw [str_eq, wrap64_id (n := m + 1) (by omega) (by omega)]
    refine br_intro (fun c => ?_) (fun c => ⟨rfl, ⟨rfl, by omega, by omega, fun x hx2 => ?_⟩, by dsimp only; omega⟩)
    · have c := of_decide_eq_true c
      have := atI_some (idx_first hx e2 c)
      have e : ((m.toNat : Nat) : Int) = m := by omega
      rw [this, e] at k; exact k
    · have c := of_decide_eq_false c
      rw [take_step m0 e2] at hx2
      rcases List.mem_append.1 hx2 with y | y
      · exact hx x y
      · simp only [List.mem_singleton] at y; rw [y]; exact c
  · have q := of_decide_eq_false q
    rw [List.take_of_length_le (by omega)] at hx
    have : lookL F n = none := by
      refine lookL_none fun hm => ?_
      obtain ⟨x, hx2, e⟩ := List.mem_map.1 hm
      exact hx x hx2 e
    rw [atI_none this] at k; exact k
theorem rfree_spec {i : Nat} (h : Holds cs H) (ei : cs[i]? = some (rdsk r size F)) (k : K (.int .i64 (size - useF F)) H) : FnH Tryz.prog 75 #[.pointer (some ⟨r, 0, none⟩)] H K := by
  apply logboomref1_Disk_Free_fn
  unfold logboomref1_Disk_Free_vc
  obtain ⟨s, hB, hh⟩ := h.read i ei rdsk_mono
  have hR : Recs eF H s F := rdsk_recs hB hh (i := 1) rfl
  have hn := hR.len
  have hbg := hR.big
  have hs0 := hB.s0; have hs1 := hB.s1; have hu := hB.use
  refine ⟨size, hh.cell 0 rfl rfl, fun a m H1 => H1 = H ∧ 0 ≤ m ∧ m ≤ s.n ∧ a = size - useF (F.take m.toNat), fun _ m _ => (s.n - m).toNat, ⟨rfl, Int.le_refl _, by omega, by show size = size - 0; omega⟩, ?_⟩
  rintro a m H1 ⟨rfl, m0, m1, ha⟩
  refine ⟨s, hh.cell 0 rfl rfl, br_intro (fun q => ?_) (fun q => ?_)⟩
  · have q := of_decide_eq_true q
    obtain ⟨q1, o1, p, e1, e2, e3⟩ := hR.at_ eFlen (by decide) m0 q
    have est : useF (F.take (m + 1).toNat) = useF (F.take m.toNat) + p.2.1.size := by
      rw [take_step m0 e2, useF_append, useF_cons]
      have : useF [] = 0 := rfl
      omega
    have hs2 : useF (F.take (m + 1).toNat) ≤ useF F := by
      have : useF (F.take (m + 1).toNat ++ F.drop (m + 1).toNat) = useF (F.take (m + 1).toNat) + useF (F.drop (m + 1).toNat) := useF_append _ _
      rw [List.take_append_drop] at this
      have := useF_nonneg (F.drop (m + 1).toNat)
      omega
    have ht0 := useF_nonneg (F.take m.toNat)
    refine ⟨s, hh.cell 0 rfl rfl, q1, o1, e1, m0, q, _, e3 1 _ rfl, rfl, ?_⟩
    rw [wrap64_id (n := m + 1) (by omega) (by omega), wrap64_id (n := a - (p.2.1.size : Int)) (by omega) (by omega)]
    exact ⟨⟨rfl, by omega, by omega, by omega⟩, by dsimp only; omega⟩
  · have q := of_decide_eq_false q
    rw [List.take_of_length_le (by omega)] at ha
    rw [ha]; exact k
/-- The bytes of names, as the document says it. -/
def clsB (c : Nat) : Bool := (decide (97 ≤ c) && decide (c ≤ 122)) || (decide (48 ≤ c) && decide (c ≤ 57)) || decide (c = 45) || decide (c = 46)
theorem cls_eq (c : UInt8) : nameCut.contains c = clsB c.toNat := by
  have key : ∀ n : Fin 256, nameCut.contains (UInt8.ofNat n.val) = clsB n.val := by decide +kernel
  have := key ⟨c.toNat, c.toNat_lt⟩
  simpa using this
theorem rname_spec {s : ByteArray} (k : K (.bool (namedB s)) H) : FnH Tryz.prog 90 #[.string s] H K := by
  apply logboomref1_Name_fn
  unfold logboomref1_Name_vc
  unfold namedB at k
  refine br_intro (fun q => ?_) (fun q => br_intro (fun q2 => ?_) (fun q2 => ?_))
  · have q := of_decide_eq_true q
    rw [decide_eq_false (show ¬ s.size ≠ 0 from fun z => z (by omega))] at k; simpa using k
  · have q2 := of_decide_eq_true q2
    rw [decide_eq_false (show ¬ s.size ≤ 64 by omega)] at k; simpa using k
  · have q := of_decide_eq_false q
    have q2 := of_decide_eq_false q2
    rw [decide_eq_true (show s.size ≠ 0 by omega), decide_eq_true (show s.size ≤ 64 by omega)] at k
    have hsz : s.size = s.data.toList.length := (Array.length_toList).symm
    refine ⟨fun m H1 => H1 = H ∧ 0 ≤ m ∧ m ≤ s.size ∧ (s.data.toList.take m.toNat).all (fun b => nameCut.contains b) = true, fun m _ => (s.size - m).toNat, ⟨rfl, Int.le_refl _, by omega, rfl⟩, ?_⟩
    rintro m H1 ⟨rfl, m0, m1, hx⟩
    refine br_intro (fun c => ?_) (fun c => ?_)
    · have c := of_decide_eq_true c
      have hm : m.toNat < s.data.toList.length := by omega
      obtain ⟨x, ex⟩ : ∃ x, s.data.toList[m.toNat]? = some x := ⟨_, List.getElem?_eq_getElem hm⟩
      have ex2 : s[m.toNat]? = some x := by
        have h2 : m.toNat < s.size := by omega
        rw [Array.getElem?_toList] at ex
        exact ex
      rw [wrap64_id (n := m + 1) (by omega) (by omega)]
      have yes : nameCut.contains x = true → (H1 = H1 ∧ 0 ≤ m + 1 ∧ m + 1 ≤ s.size ∧ (s.data.toList.take (m + 1).toNat).all (fun b => nameCut.contains b) = true) ∧ (s.size - (m + 1)).toNat < (s.size - m).toNat := fun z => ⟨⟨rfl, by omega, by omega, by rw [take_step m0 ex, List.all_append, hx]; simpa using z⟩, by omega⟩
      have no : nameCut.contains x = false → K (.bool false) H1 := fun z => by
        have : (s.data.toList.all fun b => nameCut.contains b) = false := by
          refine Bool.eq_false_iff.2 fun y => ?_
          have := List.all_eq_true.1 y x (List.mem_of_getElem? ex)
          rw [z] at this; cases this
        rw [this] at k; exact k
      rw [cls_eq] at yes no
      refine ⟨m0, x, ex2, ?_⟩
      have cv : ∀ {P : Prop} [Decidable P] {b : Bool}, decide P = b → (P ↔ b = true) := fun {P} _ {b} h => by rw [← h]; simp
      have step : ∀ b : Bool, b = clsB x.toNat → (b = true → (H1 = H1 ∧ 0 ≤ m + 1 ∧ m + 1 ≤ s.size ∧ (s.data.toList.take (m + 1).toNat).all (fun b => nameCut.contains b) = true) ∧ (s.size - (m + 1)).toNat < (s.size - m).toNat) ∧ (b = false → K (.bool false) H1) := fun b hb => ⟨fun z => yes (by rw [← hb]; exact z), fun z => no (by rw [← hb]; exact z)⟩
      have T : clsB x.toNat = true → _ := yes
      have E : clsB x.toNat = false → _ := no
      unfold clsB at T E
      refine br_intro (fun c1 => br_intro (fun c2 => br_intro (fun c3 => br_intro (fun c4 => E ?_) (fun c4 => ⟨rfl, T ?_⟩)) (fun c3 => ⟨rfl, T ?_⟩)) (fun c2 => br_intro (fun c3 => br_intro (fun c4 => br_intro (fun c5 => E ?_) (fun c5 => ⟨rfl, T ?_⟩)) (fun c4 => ⟨rfl, T ?_⟩)) (fun c3 => ⟨rfl, T ?_⟩)))
        (fun c1 => br_intro (fun c2 => br_intro (fun c3 => br_intro (fun c4 => br_intro (fun c5 => E ?_) (fun c5 => ⟨rfl, T ?_⟩)) (fun c4 => ⟨rfl, T ?_⟩)) (fun c3 => br_intro (fun c4 => br_intro (fun c5 => br_intro (fun c6 => E ?_) (fun c6 => ⟨rfl, T ?_⟩)) (fun c5 => ⟨rfl, T ?_⟩)) (fun c4 => ⟨rfl, T ?_⟩))) (fun c2 => ⟨rfl, T ?_⟩))
      all_goals
        simp only [bne_iff_ne, ne_eq, decide_eq_true_eq, decide_eq_false_iff_not, bne_eq_false_iff_eq] at *
        simp only [Bool.or_eq_true, Bool.and_eq_true, decide_eq_true_eq, Bool.or_eq_false_iff, Bool.and_eq_false_iff, decide_eq_false_iff_not]
        omega
    · have c := of_decide_eq_false c
      rw [List.take_of_length_le (by omega)] at hx
      rw [hx] at k; exact k
end
end Go.Proofs.YtokceblmbmajgaaGreatDoor

/- Chapter 1: the document's disk's calls. -/
namespace Go.Proofs.YtokceblmbmajgaaGreatDoor
open Go Go.HL
set_option maxRecDepth 10000
set_option maxHeartbeats 1600000

section
variable {cs : List Chunk} {H : Heap} {r : Nat} {size : Int} {F : Fs} {K : Value → Heap → Prop} {n b : ByteArray}
theorem rnew_spec (h : Holds cs H) (k0 : (size < 1 ∨ size > 16777216) → K (.pointer none) H) (k : 1 ≤ size → size ≤ 16777216 → ∀ r H', Holds (rdsk r size [] :: cs) H' → K (.pointer (some ⟨r, 0, none⟩)) H') : FnH Tryz.prog 7 #[.int .i64 size] H K := by
  apply logboomref1_New_fn
  unfold logboomref1_New_vc
  refine br_intro (fun q => k0 (.inl (of_decide_eq_true q))) (fun q => br_intro (fun q2 => k0 (.inr (of_decide_eq_true q2))) (fun q2 => ?_))
  have q := of_decide_eq_false q
  have q2 := of_decide_eq_false q2
  refine h.new fun r H1 h1 => k (by omega) (by omega) r H1 (rdsk_open.2 ⟨⟨none, 0, 0⟩, ⟨by omega, by omega, List.Pairwise.nil, ?_, by simp, by simp, by simp⟩, (h1.own_nil 101 3).swap⟩)
  show (0 : Int) ≤ size
  omega
theorem fresh_lt {m : Nat} {p : ByteArray × Fi} (hs : SortedL ltB F) (h1 : F[m]? = some p) (h2 : ltB p.1 n = false) (h3 : lookL F n = none) : ∀ x ∈ F.drop m, ltB n x.1 = true := by
  obtain ⟨hm, rfl⟩ := List.getElem?_eq_some_iff.1 h1
  have hne : ∀ x ∈ F, x.1 ≠ n := fun x hx e => by
    have := (lookL_iff (hs.nodup ltB_ok) (k := n) (v := x.2)).2 (by rw [← e]; exact hx)
    rw [h3] at this; cases this
  have h0 : ltB n F[m].1 = true := by
    rcases ltB_ok.tri n F[m].1 (fun e => hne _ (List.getElem_mem hm) e.symm) with z | z
    · exact z
    · rw [h2] at z; cases z
  intro x hx
  rw [List.drop_eq_getElem_cons hm] at hx
  have hd : SortedL ltB (F.drop m) := List.Pairwise.sublist (List.drop_sublist _ _) hs
  rw [List.drop_eq_getElem_cons hm] at hd
  rcases List.mem_cons.1 hx with e | e
  · rw [e]; exact h0
  · exact ltB_ok.trans _ _ _ h0 ((List.pairwise_cons.1 hd).1 x e)
theorem ins_split {A B : Fs} {f : Fi} (h1 : ∀ x ∈ A, ltB x.1 n = true) (h2 : ∀ x ∈ B, ltB n x.1 = true) : insL ltB (A ++ B) n f = A ++ (n, f) :: B := by
  induction A with
  | nil =>
    cases B with
    | nil => rfl
    | cons p B =>
      have := h2 p List.mem_cons_self
      show insL ltB (p :: B) n f = _
      unfold insL
      rw [if_neg (ltB_ok.ne this), if_pos this]; rfl
  | cons a A ih =>
    have ha := h1 a List.mem_cons_self
    show insL ltB (a :: (A ++ B)) n f = _
    unfold insL
    rw [if_neg (fun e => ltB_ok.ne ha e.symm), if_neg (by rw [ltB_ok.asymm ha]; simp), ih fun x hx => h1 x (List.mem_cons_of_mem _ hx)]; rfl
/-- Files made anew: the beginning, one, the rest. -/
theorem put_tail {s : Sl} {m : Int} {f : Fi} (hB : DkB size F) (h : Holds (blk r (.cells #[.int .i64 size, .slice s.p s.n s.c] 61 (0, 0)) :: ownF s F :: cs) H) (m0 : 0 ≤ m) (m1 : m ≤ s.n) (hi : insL ltB F n f = F.take m.toNat ++ (n, f) :: F.drop m.toNat) (hb : DkB size (insL ltB F n f))
    (k : ∀ H', Holds (rdsk r size (insL ltB F n f) :: cs) H' → K (.tuple #[]) H') :
    ∀ q2 : Nat, H q2 = none → letH (Heap.upd H q2 (.cells #[] 101 (0, 0))) fun H2 =>
      ∃ l3 : Sl, cellH H2 ⟨r, 0 + 1, none⟩ = some (.slice l3.p l3.n l3.c) ∧ 0 ≤ m ∧ m ≤ ((l3.c : Nat) : Int) ∧
      runH Tryz.prog (Builtin.append_ #[59, 59] 59 #[.slice (some ⟨q2, 0, none⟩) 0 0, .slice (slP l3.p l3.c (0 : Int) 3) (Int.toNat (m - (0 : Int))) (Int.toNat (((l3.c : Nat) : Int) - (0 : Int)))]) H2 fun r1 H3 =>
        ∃ l4 : Sl, r1 = .slice l4.p l4.n l4.c ∧ ∀ q3 : Nat, H3 q3 = none → letH (Heap.upd H3 q3 (.cells #[.string n, .string f.1, .int .i64 f.2] 101 (0, 0))) fun H4 =>
        runH Tryz.prog (Builtin.append_ #[59, 59] 59 #[.slice l4.p l4.n l4.c, .slice (some ⟨q3, 0, none⟩) 1 1]) H4 fun r2 H5 =>
          ∃ l5 : Sl, r2 = .slice l5.p l5.n l5.c ∧ ∃ l6 : Sl, cellH H5 ⟨r, 0 + 1, none⟩ = some (.slice l6.p l6.n l6.c) ∧ 0 ≤ m ∧ m ≤ ((l6.n : Nat) : Int) ∧
          runH Tryz.prog (Builtin.append_ #[59, 59] 59 #[.slice l5.p l5.n l5.c, .slice (slP l6.p l6.c m 3) (Int.toNat (((l6.n : Nat) : Int) - m)) (Int.toNat (((l6.c : Nat) : Int) - m))]) H5 fun r3 H6 =>
            ∃ l7 : Sl, r3 = .slice l7.p l7.n l7.c ∧ (∃ u, cellH H6 ⟨r, 0 + 1, none⟩ = some u) ∧ frozenH H6 ⟨r, 0 + 1, none⟩ = false ∧
            letH (Heap.set H6 ⟨r, 0 + 1, none⟩ (.slice l7.p l7.n l7.c)) fun H7 => K (.tuple #[]) H7 := by
  have hfew := hB.few
  have hR0 : Recs eF H s F := rdsk_recs hB h (i := 1) rfl
  have hn := hR0.len
  have hcap := hR0.cap
  refine h.newS fun q2 H2 s2 h2 => ⟨s, h2.cell 1 rfl rfl, m0, by omega, ?_⟩
  have h3 : Holds (own 101 3 ⟨some ⟨q2, 0, none⟩, 0, 0⟩ [] :: blk r (.cells #[.int .i64 size, .slice s.p s.n s.c] 61 (0, 0)) :: ownF s F :: cs) H2 := h2.head fun A hA => ⟨rfl, Nat.le_refl _, .inr ⟨q2, #[], rfl, hA, rfl, fun i hi => by simp at hi⟩⟩
  have hup := (rdsk_recs hB h3 (i := 2) rfl).upto eFlen m0 m1
  have hul := hup.len
  rw [List.length_take] at hul
  refine Holds.append (s := ⟨some ⟨q2, 0, none⟩, 0, 0⟩) okRFiles okRFiles.under h3 hup.cells (by rw [flat_len eFlen, List.length_take]; omega) (noTups_files _) (by show 0 + (s.upto m 3).n ≤ _; omega) fun l4 H3 h4 n4 => ⟨l4, rfl, ?_⟩
  have n4 : l4.n = min m.toNat F.length := by rw [n4]; show 0 + (s.upto m 3).n = _; omega
  refine Holds.push (s := l4) (vs := [] ++ (F.take m.toNat).flatMap eF) okRFiles h4 (xs := eF (n, f)) (m := 1) (by rfl) (by rfl) (by omega) fun l5 H5 h5 n5 => ⟨l5, rfl, s, h5.cell 1 rfl rfl, m0, m1, ?_⟩
  have hfr := (rdsk_recs hB h5 (i := 2) rfl).from_ eFlen m0 m1
  have hfl := hfr.len
  rw [List.length_drop] at hfl
  refine Holds.append (s := l5) okRFiles okRFiles.under h5 hfr.cells (by rw [flat_len eFlen, List.length_drop]; omega) (noTups_files _) (by omega) fun l7 H6 h6 n6 => ⟨l7, rfl, ?_⟩
  refine Holds.store h6 1 rfl (by simp) fun H7 h7 => k H7 (rdsk_open.2 ⟨l7, hb, ?_⟩)
  have e : ([] ++ (F.take m.toNat).flatMap eF) ++ eF (n, f) ++ (F.drop m.toNat).flatMap eF = (insL ltB F n f).flatMap eF := by rw [hi]; simp
  have h8 : Holds (own 101 3 l7 (([] ++ (F.take m.toNat).flatMap eF) ++ eF (n, f) ++ (F.drop m.toNat).flatMap eF) :: blk r (.cells #[.int .i64 size, .slice l7.p l7.n l7.c] 61 (0, 0)) :: ownF s F :: cs) H7 := h7
  rw [e] at h8
  exact (h8.swap.pull 2 rfl).tail
theorem rput_spec {f : Fi} (h : Holds (rdsk r size F :: cs) H) (hn : lookL F n = none) (hb : DkB size (insL ltB F n f)) (k : ∀ H', Holds (rdsk r size (insL ltB F n f) :: cs) H' → K (.tuple #[]) H') :
    FnH Tryz.prog 74 #[.pointer (some ⟨r, 0, none⟩), .agg #[.string n, .string f.1, .int .i64 f.2]] H K := by
  apply logboomref1_Disk_put_fn
  unfold logboomref1_Disk_put_vc
  obtain ⟨s, hB, hh⟩ := rdsk_open.1 h
  have hR : Recs eF H s F := rdsk_recs hB hh (i := 1) rfl
  have hl := hR.len
  have hbg := hR.big
  refine ⟨fun m H1 => H1 = H ∧ 0 ≤ m ∧ m ≤ s.n ∧ ∀ x ∈ F.take m.toNat, ltB x.1 n = true, fun m _ => (s.n - m).toNat, ⟨rfl, Int.le_refl _, by omega, by simp⟩, ?_⟩
  rintro m H1 ⟨rfl, m0, m1, hx⟩
  have hsp : F.take m.toNat ++ F.drop m.toNat = F := List.take_append_drop _ _
  refine ⟨s, hh.cell 0 rfl rfl, br_intro (fun q => ?_) (fun q => ?_)⟩
  · have q := of_decide_eq_true q
    obtain ⟨q1, o1, p, e1, e2, e3⟩ := hR.at_ eFlen (by decide) m0 q
    refine ⟨s, hh.cell 0 rfl rfl, q1, o1, e1, m0, q, _, e3 0 _ rfl, ?_⟩
    rw [wrap64_id (n := m + 1) (by omega) (by omega)]
    refine br_intro (fun c => ⟨rfl, ⟨rfl, by omega, by omega, fun x hx2 => ?_⟩, by dsimp only; omega⟩) (fun c => ?_)
    · rw [take_step m0 e2] at hx2
      rcases List.mem_append.1 hx2 with y | y
      · exact hx x y
      · simp only [List.mem_singleton] at y; rw [y]; exact c
    · have hd := fresh_lt hB.sorted e2 c hn
      have hi := ins_split (f := f) hx hd
      rw [hsp] at hi
      exact put_tail hB hh m0 m1 hi hb k
  · have q := of_decide_eq_false q
    have hd : ∀ x ∈ F.drop m.toNat, ltB n x.1 = true := by rw [List.drop_eq_nil_of_le (by omega)]; simp
    have hi := ins_split (f := f) hx hd
    rw [hsp] at hi
    exact put_tail hB hh m0 m1 hi hb k
theorem made_spec {i : Nat} (h : Holds cs H) (ei : cs[i]? = some (rdsk r size F)) (k : K (.int .i64 (roomC F n)) H) : FnH Tryz.prog 73 #[.pointer (some ⟨r, 0, none⟩), .string n] H K := by
  apply logboomref1_Disk_made_fn
  unfold logboomref1_Disk_made_vc
  obtain ⟨s, hB, hh⟩ := h.read i ei rdsk_mono
  have hR : Recs eF H s F := rdsk_recs hB hh (i := 1) rfl
  have hl := hR.len
  unfold roomC at k
  refine rname_spec ⟨_, rfl, br_intro (fun q => ?_) (fun q => rat_spec h ei ⟨_, rfl, br_intro (fun q2 => ⟨s, hh.cell 0 rfl rfl, br_intro (fun q3 => ?_) (fun q3 => ?_)⟩) (fun q2 => ?_)⟩)⟩
  · rw [if_pos (by simpa using q)] at k; exact k
  · rw [if_neg (by simpa using q)] at k
    have q3 := of_decide_eq_true q3
    have q2 := of_decide_eq_true q2
    rcases look_cases F n with z | ⟨i, f, z1, z2, z3⟩
    · rw [if_pos ⟨z, by omega⟩] at k; exact k
    · rw [atI_some z1] at q2; omega
  · rw [if_neg (by simpa using q)] at k
    have q3 := of_decide_eq_false q3
    rw [if_neg (fun z => by omega)] at k; exact k
  · rw [if_neg (by simpa using q)] at k
    have q2 := of_decide_eq_false q2
    rcases look_cases F n with z | ⟨i, f, z1, z2, z3⟩
    · rw [atI_none z] at q2; omega
    · rw [if_neg (fun z => by rw [z2] at z; cases z.1)] at k; exact k
theorem ins_ins {f g : Fi} (hs : SortedL ltB F) : insL ltB (insL ltB F n f) n g = insL ltB F n g := by
  refine sorted_eq ltB_ok ?_ (insL_sorted ltB_ok (insL_sorted ltB_ok hs)) (insL_sorted ltB_ok hs)
  refine (insL_perm ltB_ok (insL_sorted ltB_ok hs)).trans (List.Perm.trans ?_ (insL_perm ltB_ok hs).symm)
  rw [del_ins hs]
theorem get_some {i : Nat} {f : Fi} (h : idxL F n = some (i, f)) : getF F n = f := by unfold getF lookL; rw [h]; rfl
/-- A text is put behind a file that is there. -/
theorem app_tail {i : Nat} {f : Fi} {Z : Int → Int → Heap → Prop} (h : Holds (rdsk r size F :: cs) H) (hi : idxL F n = some (i, f)) (hb : DkB size (insL ltB F n (f.1 ++ b.extract 0 (fitN size F b).toNat, f.2)))
    (k : ∀ H', Holds (rdsk r size (insL ltB F n (f.1 ++ b.extract 0 (fitN size F b).toNat, f.2)) :: cs) H' → Z (fitN size F b) b.size H') :
    ∃ l1 : Sl, cellH H ⟨r, 0 + 1, none⟩ = some (.slice l1.p l1.n l1.c) ∧ FnH Tryz.prog 57 #[.pointer (some ⟨r, 0, none⟩), .string n] H fun r4 H4 =>
      ∃ n3 : Int, r4 = .int .i64 n3 ∧ HL.Sub H H4 ∧ ∃ q1 : Nat, ∃ o1 : Nat, (l1.p : Option Addr) = some ⟨q1, o1, none⟩ ∧ 0 ≤ n3 ∧ n3 < ((l1.n : Nat) : Int) ∧
      FnH Tryz.prog 75 #[.pointer (some ⟨r, 0, none⟩)] H4 fun r5 H5 => ∃ n4 : Int, r5 = .int .i64 n4 ∧ ∃ s1 : ByteArray, cellH H5 ⟨q1, o1 + Int.toNat n3 * 3 + 1, none⟩ = some (.string s1) ∧
        0 ≤ (if ((b.size : Nat) : Int) < n4 then ((b.size : Nat) : Int) else n4) ∧ (if ((b.size : Nat) : Int) < n4 then ((b.size : Nat) : Int) else n4) ≤ ((b.size : Nat) : Int) ∧
        s1.size + (b.extract (Int.toNat (0 : Int)) (Int.toNat (if ((b.size : Nat) : Int) < n4 then ((b.size : Nat) : Int) else n4))).size < 9223372036854775808 ∧
        (∃ u, cellH H5 ⟨q1, o1 + Int.toNat n3 * 3 + 1, none⟩ = some u) ∧ frozenH H5 ⟨q1, o1 + Int.toNat n3 * 3 + 1, none⟩ = false ∧
        letH (Heap.set H5 ⟨q1, o1 + Int.toNat n3 * 3 + 1, none⟩ (.string (s1 ++ (b.extract (Int.toNat (0 : Int)) (Int.toNat (if ((b.size : Nat) : Int) < n4 then ((b.size : Nat) : Int) else n4)))))) fun H6 =>
          Z (if ((b.size : Nat) : Int) < n4 then ((b.size : Nat) : Int) else n4) b.size H6 := by
  obtain ⟨s, hB, hh⟩ := rdsk_open.1 h
  have hR : Recs eF H s F := rdsk_recs hB hh (i := 1) rfl
  have hl := hR.len
  have hlt := (List.getElem?_eq_some_iff.1 (idxL_get hi)).1
  have hs1 := hB.s1; have huse := hB.use
  have hle := useF_le (List.mem_of_getElem? (idxL_get hi))
  dsimp only at hle
  obtain ⟨f1, f2, f3⟩ := fitN_in hB b
  refine ⟨s, hh.cell 0 rfl rfl, rat_spec (i := 0) h rfl ?_⟩
  rw [atI_some hi]
  obtain ⟨q1, o1, p, e1, e2, e3⟩ := hR.at_ eFlen (by decide) (j := (i : Int)) (by omega) (by omega)
  have ei : (i : Int).toNat = i := by omega
  rw [ei] at e2 e3
  obtain rfl : p = (n, f) := by rw [idxL_get hi] at e2; exact (Option.some.inj e2).symm
  refine ⟨_, rfl, HL.Sub.refl _, q1, o1, e1, by omega, by omega, rfree_spec (i := 0) h rfl ⟨_, rfl, f.1, by rw [ei]; exact e3 1 _ rfl, ?_⟩⟩
  have ef : (if (b.size : Int) < size - useF F then (b.size : Int) else size - useF F) = fitN size F b := by unfold fitN; split <;> split <;> omega
  rw [ef, ei]
  have esx : (b.extract (Int.toNat 0) (fitN size F b).toNat).size = (fitN size F b).toNat := ext_size (by omega)
  refine ⟨f1, f2, by rw [esx]; omega, ?_⟩
  have hset := Holds.setCell (hh.swap) e1 (j := i * 3 + 1) (by rw [flat_len eFlen]; omega) (v := .string (f.1 ++ b.extract (Int.toNat 0) (fitN size F b).toNat)) (f := fun H6 => Z (fitN size F b) b.size H6) fun H6 h6 => k H6 (rdsk_open.2 ⟨s, hb, ?_⟩)
  · rw [← Nat.add_assoc] at hset; exact hset
  · rw [flat_set eFlen (idxL_get hi) (a' := (n, (f.1 ++ b.extract 0 (fitN size F b).toNat, f.2))) (by decide) rfl] at h6
    rw [ins_set hB.sorted hi]
    exact h6.swap
theorem rappend_spec (h : Holds (rdsk r size F :: cs) H) (k : ∀ H', Holds (rdsk r size (appM size F n b) :: cs) H' → K (.int .i64 (appC size F n b)) H') : FnH Tryz.prog 51 #[.pointer (some ⟨r, 0, none⟩), .string n, .string b] H K := by
  apply logboomref1_Disk_Append_fn
  unfold logboomref1_Disk_Append_vc
  obtain ⟨s, hB, hh⟩ := rdsk_open.1 h
  unfold appC appM at k
  refine made_spec (i := 0) h rfl ⟨_, rfl, br_intro (fun q => ?_) (fun q => ?_)⟩
  · have q : roomC F n ≠ 0 := by simpa using q
    rw [if_pos q, if_pos q] at k; exact k H h
  have q : roomC F n = 0 := by simpa using q
  rw [if_neg (fun z => z q), if_neg (fun z => z q)] at k
  obtain ⟨r1, r2⟩ := roomC_ok q
  have happ := app_ok (b := b) hB q
  have fin : ∀ {c : Int} {H' : Heap}, c = (if fitN size F b < b.size then 7 else 0) → Holds (rdsk r size (insL ltB F n (appF size F n b)) :: cs) H' → K (.int .i64 c) H' := fun hc h' => by rw [hc]; exact k _ h'
  refine rat_spec (i := 0) h rfl ⟨_, rfl, br_intro (fun q2 => ?_) (fun q2 => ?_)⟩
  · have q2 := of_decide_eq_true q2
    have hno : lookL F n = none := by
      rcases look_cases F n with z | ⟨i, f, z1, z2, z3⟩
      · exact z
      · rw [atI_some z1] at q2; omega
    have e0 : getF F n = f0 := by unfold getF; rw [hno]; rfl
    have e0s : (f0.1.size : Int) = 0 := rfl
    have h0 : DkB size (insL ltB F n f0) := hB.ins r1 r2 (by have := hB.use; rw [e0]; omega) ⟨Int.le_refl _, Int.le_refl _⟩
    refine rput_spec (f := f0) h hno h0 fun H1 h1 => ⟨rfl, ?_⟩
    have hl0 : lookL (insL ltB F n f0) n = some f0 := by rw [look_ins ltB_ok hB.sorted, if_pos rfl]
    obtain ⟨i, hi⟩ := lookL_idx hl0
    have eu : useF (insL ltB F n f0) = useF F := by rw [useF_ins hB.sorted, e0]; omega
    have efit : fitN size (insL ltB F n f0) b = fitN size F b := by unfold fitN; rw [eu]
    have eA : insL ltB (insL ltB F n f0) n (f0.1 ++ b.extract 0 (fitN size (insL ltB F n f0) b).toNat, f0.2) = insL ltB F n (appF size F n b) := by
      rw [ins_ins hB.sorted, efit]
      unfold appF; rw [e0]
    refine app_tail (Z := fun x y H => br (decide (x < y)) (K (.int .i64 7) H) (K (.int .i64 0) H)) h1 hi (by rw [eA]; exact happ) fun H2 h2 => ?_
    rw [eA] at h2
    rw [efit]
    exact br_intro (fun z => fin (by rw [if_pos (of_decide_eq_true z)]) h2) (fun z => fin (by rw [if_neg (of_decide_eq_false z)]) h2)
  · have q2 := of_decide_eq_false q2
    rcases look_cases F n with z | ⟨i, f, z1, z2, z3⟩
    · rw [atI_none z] at q2; omega
    · have eA : insL ltB F n (f.1 ++ b.extract 0 (fitN size F b).toNat, f.2) = insL ltB F n (appF size F n b) := by
        unfold appF; rw [get_some z1]
      refine app_tail (Z := fun x y H => br (decide (x < y)) (K (.int .i64 7) H) (K (.int .i64 0) H)) h z1 (by rw [eA]; exact happ) fun H2 h2 => ?_
      rw [eA] at h2
      exact br_intro (fun z => fin (by rw [if_pos (of_decide_eq_true z)]) h2) (fun z => fin (by rw [if_neg (of_decide_eq_false z)]) h2)
end
end Go.Proofs.YtokceblmbmajgaaGreatDoor

/- Chapter 1: the rest of the document's disk's calls. -/
namespace Go.Proofs.YtokceblmbmajgaaGreatDoor
open Go Go.HL
set_option maxRecDepth 10000
set_option maxHeartbeats 1600000

section
variable {cs : List Chunk} {H : Heap} {r : Nat} {size : Int} {F : Fs} {K : Value → Heap → Prop} {n b : ByteArray}
theorem at_neg {q : decide (atI F n < 0) = true} : lookL F n = none := by
  have q := of_decide_eq_true q
  rcases look_cases F n with z | ⟨i, f, z1, z2, z3⟩
  · exact z
  · rw [atI_some z1] at q; omega
theorem at_pos {q : decide (atI F n < 0) = false} : ∃ i f, idxL F n = some (i, f) ∧ lookL F n = some f ∧ F[i]? = some (n, f) ∧ atI F n = i := by
  have q := of_decide_eq_false q
  rcases look_cases F n with z | ⟨i, f, z1, z2, z3⟩
  · rw [atI_none z] at q; omega
  · exact ⟨i, f, z1, z2, z3, atI_some z1⟩
/-- The cells of a file that is there. -/
theorem rcells {s : Sl} {i : Nat} {f : Fi} (hR : Recs eF H s F) (h : F[i]? = some (n, f)) : ∃ q o, s.p = some ⟨q, o, none⟩ ∧ (i : Int) < s.n ∧ cellH H ⟨q, o + Int.toNat (i : Int) * 3, none⟩ = some (.string n) ∧ cellH H ⟨q, o + Int.toNat (i : Int) * 3 + 1, none⟩ = some (.string f.1) ∧ cellH H ⟨q, o + Int.toNat (i : Int) * 3 + 2, none⟩ = some (.int .i64 f.2) := by
  have hlt := (List.getElem?_eq_some_iff.1 h).1
  have hl := hR.len
  obtain ⟨q1, o1, p, e1, e2, e3⟩ := hR.at_ eFlen (by decide) (j := (i : Int)) (by omega) (by omega)
  have ei : (i : Int).toNat = i := by omega
  rw [ei] at e2
  obtain rfl : p = (n, f) := by rw [h] at e2; exact (Option.some.inj e2).symm
  exact ⟨q1, o1, e1, by omega, e3 0 _ rfl, e3 1 _ rfl, e3 2 _ rfl⟩
/-- A cell of a file is written. -/
theorem rset {s : Sl} {i j : Nat} {f g : Fi} {q o : Nat} {v : Value} {X : Heap → Prop} (h : Holds (blk r (.cells #[.int .i64 size, .slice s.p s.n s.c] 61 (0, 0)) :: ownF s F :: cs) H) (hi : F[i]? = some (n, f)) (hq : s.p = some ⟨q, o, none⟩) (hj : j < 3) (he : eF (n, g) = (eF (n, f)).set j v)
    (k : ∀ H', Holds (blk r (.cells #[.int .i64 size, .slice s.p s.n s.c] 61 (0, 0)) :: ownF s (F.set i (n, g)) :: cs) H' → X H') :
    (∃ u, cellH H ⟨q, o + Int.toNat (i : Int) * 3 + j, none⟩ = some u) ∧ frozenH H ⟨q, o + Int.toNat (i : Int) * 3 + j, none⟩ = false ∧ letH (H.set ⟨q, o + Int.toNat (i : Int) * 3 + j, none⟩ v) X := by
  have hlt := (List.getElem?_eq_some_iff.1 hi).1
  have ei : (i : Int).toNat = i := by omega
  rw [ei]
  have hset := Holds.setCell (h.swap) hq (j := i * 3 + j) (by rw [flat_len eFlen]; omega) (v := v) (f := X) fun H6 h6 => k H6 ?_
  · rw [← Nat.add_assoc] at hset; exact hset
  · rw [flat_set eFlen hi (a' := (n, g)) hj he] at h6
    exact h6.swap
theorem rsync_spec (h : Holds (rdsk r size F :: cs) H) (k : ∀ H', Holds (rdsk r size (synM F n) :: cs) H' → K (.int .i64 (if lookL F n = none then 8 else 0)) H') : FnH Tryz.prog 24 #[.pointer (some ⟨r, 0, none⟩), .string n] H K := by
  apply logboomref1_Disk_Sync_fn
  unfold logboomref1_Disk_Sync_vc
  obtain ⟨s, hB, hh⟩ := rdsk_open.1 h
  have hR : Recs eF H s F := rdsk_recs hB hh (i := 1) rfl
  unfold synM at k
  refine rat_spec (i := 0) h rfl ⟨_, rfl, br_intro (fun q => ?_) (fun q => ?_)⟩
  · have z := at_neg (q := q)
    rw [if_pos z, if_pos z] at k; exact k H h
  · obtain ⟨i, f, z1, z2, z3, z4⟩ := at_pos (q := q)
    rw [z4]
    rw [if_neg (fun z => by rw [z2] at z; cases z), if_neg (fun z => by rw [z2] at z; cases z), get_some z1] at k
    obtain ⟨q1, o1, c1, c2, c3, c4, c5⟩ := rcells hR z3
    have hs := hB.safe _ (List.mem_of_getElem? z3)
    have hu := useF_le (List.mem_of_getElem? z3)
    refine ⟨s, hh.cell 0 rfl rfl, s, hh.cell 0 rfl rfl, q1, o1, c1, by omega, c2, _, c4, q1, o1, c1, by omega, c2, rset (j := 2) (g := (f.1, (f.1.size : Int))) hh z3 c1 (by decide) rfl fun H' h' => ?_⟩
    refine k H' (rdsk_open.2 ⟨s, hB.ins (hB.named z2) (fun e => by rw [z2] at e; cases e) (by rw [get_some z1]; have := hB.use; dsimp only; omega) ⟨by dsimp only; omega, Int.le_refl _⟩, ?_⟩)
    rw [ins_set hB.sorted z1]; exact h'
theorem rcut_spec {m : Int} (h : Holds (rdsk r size F :: cs) H) (k : ∀ H', Holds (rdsk r size (cutM F n m) :: cs) H' → K (.int .i64 (cutC F n m)) H') : FnH Tryz.prog 54 #[.pointer (some ⟨r, 0, none⟩), .string n, .int .i64 m] H K := by
  apply logboomref1_Disk_Cut_fn
  unfold logboomref1_Disk_Cut_vc
  obtain ⟨s, hB, hh⟩ := rdsk_open.1 h
  have hR : Recs eF H s F := rdsk_recs hB hh (i := 1) rfl
  have bad : ∀ c : Int, c ≠ 0 → cutC F n m = c → K (.int .i64 c) H := fun c c0 e => by
    have k := k H (by unfold cutM; rw [if_pos (by rw [e]; exact c0)]; exact h)
    rw [e] at k; exact k
  refine rat_spec (i := 0) h rfl ⟨_, rfl, br_intro (fun q => ?_) (fun q => ?_)⟩
  · exact bad 8 (by decide) (by unfold cutC; rw [if_pos (at_neg (q := q))])
  · obtain ⟨i, f, z1, z2, z3, z4⟩ := at_pos (q := q)
    rw [z4]
    have hne : ¬ lookL F n = none := fun z => by rw [z2] at z; cases z
    obtain ⟨q1, o1, c1, c2, c3, c4, c5⟩ := rcells hR z3
    have hs := hB.safe _ (List.mem_of_getElem? z3)
    have hu := useF_le (List.mem_of_getElem? z3)
    have eg := get_some z1
    refine ⟨s, hh.cell 0 rfl rfl, q1, o1, c1, by omega, c2, br_intro (fun q2 => ?_) (fun q2 => ⟨_, c4, br_intro (fun q3 => ?_) (fun q3 => ?_)⟩)⟩
    · exact bad 1 (by decide) (by unfold cutC; rw [if_neg hne, if_pos (.inl (of_decide_eq_true q2))])
    · exact bad 1 (by decide) (by unfold cutC; rw [if_neg hne, eg, if_pos (.inr (of_decide_eq_true q3))])
    · have q2 := of_decide_eq_false q2
      have q3 := of_decide_eq_false q3
      have e : cutC F n m = 0 := by unfold cutC; rw [if_neg hne, eg, if_neg (fun z => z.elim q2 q3)]
      unfold cutM at k
      rw [e, if_neg (fun z => z rfl), eg] at k
      have es : (f.1.extract 0 m.toNat).size = m.toNat := ext_size (by omega)
      refine ⟨_, c4, by omega, by omega, rset (j := 1) (g := (f.1.extract 0 m.toNat, f.2)) hh z3 c1 (by decide) rfl fun H' h' => ?_⟩
      have hlt := (List.getElem?_eq_some_iff.1 z3).1
      have z5 : (F.set i (n, (f.1.extract 0 m.toNat, f.2)))[i]? = some (n, (f.1.extract 0 m.toNat, f.2)) := by rw [List.getElem?_set_self hlt]
      have hlen : (F.set i (n, (f.1.extract 0 m.toNat, f.2))).length ≤ 256 := by rw [List.length_set]; exact hB.few
      have hR2 : Recs eF H' s (F.set i (n, (f.1.extract 0 m.toNat, f.2))) := Own.recs eFlen (by decide) (h'.own 1 rfl) (by omega)
      obtain ⟨q2', o2, d1, d2, d3, d4, d5⟩ := rcells hR2 z5
      obtain ⟨rfl, rfl⟩ : q2' = q1 ∧ o2 = o1 := by rw [c1] at d1; simp only [Option.some.injEq, Addr.mk.injEq, and_true] at d1; exact ⟨d1.1.symm, d1.2.symm⟩
      refine ⟨_, d5, rset (j := 2) (g := (f.1.extract 0 m.toNat, if m < f.2 then m else f.2)) h' z5 c1 (by decide) rfl fun H2 h2 => ?_⟩
      rw [List.set_set] at h2
      refine k H2 (rdsk_open.2 ⟨s, hB.ins (hB.named z2) (fun e => absurd e hne) ?_ ?_, ?_⟩)
      · rw [eg]; dsimp only; rw [es]; have := hB.use; dsimp only at hu; omega
      · dsimp only; rw [es]; dsimp only at hs; split <;> omega
      · rw [ins_set hB.sorted z1]; exact h2
theorem rread_spec {j : Nat} (h : Holds cs H) (ej : cs[j]? = some (rdsk r size F)) (k : K (.tuple #[.string (getF F n).1, .int .i64 (if lookL F n = none then 8 else 0)]) H) : FnH Tryz.prog 31 #[.pointer (some ⟨r, 0, none⟩), .string n] H K := by
  apply logboomref1_Disk_Read_fn
  unfold logboomref1_Disk_Read_vc
  obtain ⟨s, hB, hh⟩ := h.read j ej rdsk_mono
  have hR : Recs eF H s F := rdsk_recs hB hh (i := 1) rfl
  refine rat_spec h ej ⟨_, rfl, br_intro (fun q => ?_) (fun q => ?_)⟩
  · have z := at_neg (q := q)
    unfold getF at k
    rw [if_pos z, z] at k; exact k
  · obtain ⟨i, f, z1, z2, z3, z4⟩ := at_pos (q := q)
    rw [z4]
    rw [if_neg (fun z => by rw [z2] at z; cases z), get_some z1] at k
    obtain ⟨q1, o1, c1, c2, c3, c4, c5⟩ := rcells hR z3
    exact ⟨s, hh.cell 0 rfl rfl, q1, o1, c1, by omega, c2, _, c4, k⟩
theorem rsize_spec {j : Nat} (h : Holds cs H) (ej : cs[j]? = some (rdsk r size F)) (k : K (.int .i64 (getF F n).1.size) H) : FnH Tryz.prog 53 #[.pointer (some ⟨r, 0, none⟩), .string n] H K := by
  apply logboomref1_Disk_Size_fn
  unfold logboomref1_Disk_Size_vc
  exact rread_spec h ej ⟨_, _, rfl, k⟩
theorem rsynced_spec {j : Nat} (h : Holds cs H) (ej : cs[j]? = some (rdsk r size F)) (k : K (.int .i64 (getF F n).2) H) : FnH Tryz.prog 35 #[.pointer (some ⟨r, 0, none⟩), .string n] H K := by
  apply logboomref1_Disk_Synced_fn
  unfold logboomref1_Disk_Synced_vc
  obtain ⟨s, hB, hh⟩ := h.read j ej rdsk_mono
  have hR : Recs eF H s F := rdsk_recs hB hh (i := 1) rfl
  refine rat_spec h ej ⟨_, rfl, br_intro (fun q => ?_) (fun q => ?_)⟩
  · have z := at_neg (q := q)
    unfold getF at k
    rw [z] at k; exact k
  · obtain ⟨i, f, z1, z2, z3, z4⟩ := at_pos (q := q)
    rw [z4]
    rw [get_some z1] at k
    obtain ⟨q1, o1, c1, c2, c3, c4, c5⟩ := rcells hR z3
    exact ⟨s, hh.cell 0 rfl rfl, q1, o1, c1, by omega, c2, _, c5, k⟩
theorem ins_del {f : Fi} (hs : SortedL ltB F) : insL ltB (delL F n) n f = insL ltB F n f := by
  refine sorted_eq ltB_ok ?_ (insL_sorted ltB_ok (delL_sorted hs)) (insL_sorted ltB_ok hs)
  refine (insL_perm ltB_ok (delL_sorted hs)).trans (List.Perm.trans ?_ (insL_perm ltB_ok hs).symm)
  refine List.Perm.cons _ ?_
  rw [delL_fresh]
  intro hm
  obtain ⟨x, hx, e⟩ := List.mem_map.1 hm
  rw [delL_filter (hs.nodup ltB_ok)] at hx
  have := (List.mem_filter.1 hx).2
  simp [e] at this
theorem look_gone (hs : SortedL ltB F) : lookL (delL F n) n = none := by rw [look_del (hs.nodup ltB_ok), if_pos rfl]
end
end Go.Proofs.YtokceblmbmajgaaGreatDoor

/- Chapter 1: the document's disk's crash. -/
namespace Go.Proofs.YtokceblmbmajgaaGreatDoor
open Go Go.HL
set_option maxRecDepth 10000
set_option maxHeartbeats 1600000

theorem set_mid {α : Type} {D R : List α} {p v : α} {i : Nat} (h : D.length = i) : (D ++ p :: R).set i v = D ++ v :: R := by
  subst h
  rw [List.set_append_right _ _ (Nat.le_refl _), Nat.sub_self]; rfl
theorem get_mid {α : Type} {D R : List α} {p : α} {i : Nat} (h : D.length = i) : (D ++ p :: R)[i]? = some p := by
  subst h
  rw [List.getElem?_append_right (Nat.le_refl _), Nat.sub_self]; rfl
theorem headD_drop (L : List Int) (i : Nat) : (L.drop i).headD 0 = L.getD i 0 := by
  induction L generalizing i with
  | nil => simp
  | cons a l ih => cases i with
    | zero => rfl
    | succ i => exact ih i
section
variable {cs : List Chunk} {H : Heap} {r : Nat} {size : Int} {F : Fs} {K : Value → Heap → Prop}
theorem rcrash_spec {keep : Sl} {L : List Int} {c0 : Chunk} {i0 : Nat} (h : Holds (rdsk r size F :: cs) H) (g : Gives c0 fun A => Ints A keep L) (ei : cs[i0]? = some c0) (hw : ∀ n ∈ L, i64B n)
    (k : ∀ H', Holds (rdsk r size (crashF L F) :: cs) H' → K (.tuple #[]) H') : FnH Tryz.prog 29 #[.pointer (some ⟨r, 0, none⟩), .slice keep.p keep.n keep.c] H K := by
  apply logboomref1_Disk_Crash_fn
  unfold logboomref1_Disk_Crash_vc
  have hfew : F.length ≤ 256 := by
    obtain ⟨s, hB, -⟩ := rdsk_open.1 h
    exact hB.few
  refine ⟨fun kk ii H => ∃ D, Holds (rdsk r size (D ++ F.drop ii.toNat) :: cs) H ∧ (D.length : Int) = ii ∧ 0 ≤ kk ∧ kk ≤ ii ∧ ii ≤ F.length ∧ crashF L F = D ++ crashF (L.drop kk.toNat) (F.drop ii.toNat), fun _ ii _ => (F.length - ii).toNat,
    ⟨[], h, rfl, Int.le_refl _, Int.le_refl _, by omega, rfl⟩, ?_⟩
  rintro kk ii H1 ⟨D, h1, hD, k0, k1, i1, hc⟩
  obtain ⟨s, hB, hh⟩ := rdsk_open.1 h1
  have hR : Recs eF H1 s (D ++ F.drop ii.toNat) := rdsk_recs hB hh (i := 1) rfl
  have hl := hR.len
  rw [List.length_append, List.length_drop] at hl
  refine ⟨s, hh.cell 0 rfl rfl, br_intro (fun q => ?_) (fun q => ?_)⟩
  · have q := of_decide_eq_true q
    obtain ⟨i, rfl⟩ := Int.eq_ofNat_of_zero_le (show 0 ≤ ii by omega)
    have hi : ((i : Int)).toNat = i := by omega
    have hDl : D.length = i := by omega
    have hm : i < F.length := by omega
    have em : ((i : Int) + 1).toNat = i + 1 := by omega
    have ed := List.drop_eq_getElem_cons hm
    rw [hi, ed] at h1 hc hB hh hR
    generalize F[i] = p at *
    rw [wrap64_id (n := (i : Int) + 1) (by omega) (by omega), wrap64_id (n := kk + 1) (by omega) (by omega)]
    have z3 : (D ++ p :: F.drop (i + 1))[i]? = some (p.1, p.2) := get_mid hDl
    obtain ⟨q1, o1, c1, c2, c3, c4, c5⟩ := rcells hR z3
    have hlook := look_mid hB.sorted
    have eg : getF (D ++ p :: F.drop (i + 1)) p.1 = p.2 := by unfold getF; rw [hlook]; rfl
    have hsafe := hB.safe p (by simp)
    have huse := useF_le (F := D ++ p :: F.drop (i + 1)) (p := p) (by simp)
    have hB1 := hB.use
    have hB2 := hB.s1
    refine ⟨s, hh.cell 0 rfl rfl, q1, o1, c1, by omega, c2, _, c4, _, c5, ?_⟩
    rw [wrap64_id (n := (p.2.1.size : Int) - p.2.2) (by omega) (by omega)]
    rw [crashF_cons] at hc
    refine br_intro (fun q2 => ?_) (fun q2 => ?_)
    · rw [if_pos (by simpa using q2)] at hc
      refine ⟨rfl, ⟨D ++ [p], ?_, by simp; omega, k0, by omega, by omega, ?_⟩, by dsimp only; omega⟩
      · rw [em, List.append_assoc]; exact h1
      · rw [em, hc]; simp
    rw [if_neg (by simpa using q2), headD_drop, List.drop_drop] at hc
    have q2 : ¬ (p.2.1.size : Int) - p.2.2 = 0 := by simpa using q2
    rw [wrap64_id (n := (p.2.1.size : Int) - p.2.2 + 1) (by omega) (by omega)]
    have stepK : ∀ (x y : Int), x = L.getD kk.toNat 0 → i64B x → y = pickI x ((p.2.1.size : Int) - p.2.2 + 1) → ∀ {X : Heap → Prop}, (∀ H5, (∃ D2, Holds (rdsk r size (D2 ++ F.drop ((i : Int) + 1).toNat) :: cs) H5 ∧ (D2.length : Int) = (i : Int) + 1 ∧ 0 ≤ kk + 1 ∧ kk + 1 ≤ (i : Int) + 1 ∧ (i : Int) + 1 ≤ F.length ∧ crashF L F = D2 ++ crashF (L.drop (kk + 1).toNat) (F.drop ((i : Int) + 1).toNat)) → X H5) →
        ∃ s2 : ByteArray, cellH H1 ⟨q1, o1 + Int.toNat (i : Int) * 3 + 1, none⟩ = some (.string s2) ∧ ∃ n3 : Int, cellH H1 ⟨q1, o1 + Int.toNat (i : Int) * 3 + 2, none⟩ = some (.int .i64 n3) ∧
          (p.2.1.size : Int) - p.2.2 + 1 ≠ 0 ∧ 0 ≤ IntKind.wrap .i64 (n3 + y) ∧ IntKind.wrap .i64 (n3 + y) ≤ (s2.size : Int) ∧
          (∃ u, cellH H1 ⟨q1, o1 + Int.toNat (i : Int) * 3 + 1, none⟩ = some u) ∧ frozenH H1 ⟨q1, o1 + Int.toNat (i : Int) * 3 + 1, none⟩ = false ∧
          letH (Heap.set H1 ⟨q1, o1 + Int.toNat (i : Int) * 3 + 1, none⟩ (.string (s2.extract (Int.toNat 0) (Int.toNat (IntKind.wrap .i64 (n3 + y)))))) fun H2 =>
          ∃ s3 : ByteArray, cellH H2 ⟨q1, o1 + Int.toNat (i : Int) * 3 + 1, none⟩ = some (.string s3) ∧
          (∃ u, cellH H2 ⟨q1, o1 + Int.toNat (i : Int) * 3 + 2, none⟩ = some u) ∧ frozenH H2 ⟨q1, o1 + Int.toNat (i : Int) * 3 + 2, none⟩ = false ∧
          letH (Heap.set H2 ⟨q1, o1 + Int.toNat (i : Int) * 3 + 2, none⟩ (.int .i64 (s3.size : Int))) X := fun x y hx hxw hy X hX => by
      obtain ⟨y0, y1⟩ := pickI_in (c := x) (n := (p.2.1.size : Int) - p.2.2 + 1) (by omega) hxw.1 hxw.2
      rw [← hy] at y0 y1
      refine ⟨_, c4, _, c5, by omega, ?_⟩
      rw [wrap64_id (n := p.2.2 + y) (by omega) (by omega)]
      have es : (p.2.1.extract 0 (p.2.2 + y).toNat).size = (p.2.2 + y).toNat := ext_size (by omega)
      refine ⟨by omega, by omega, rset (j := 1) (g := (p.2.1.extract 0 (p.2.2 + y).toNat, p.2.2)) hh z3 c1 (by decide) rfl fun H' h' => ?_⟩
      rw [set_mid hDl] at h'
      have z5 : (D ++ (p.1, (p.2.1.extract 0 (p.2.2 + y).toNat, p.2.2)) :: F.drop (i + 1))[i]? = some (p.1, (p.2.1.extract 0 (p.2.2 + y).toNat, p.2.2)) := get_mid hDl
      have hlen : (D ++ (p.1, (p.2.1.extract 0 (p.2.2 + y).toNat, p.2.2)) :: F.drop (i + 1)).length ≤ 256 := by
        simp only [List.length_append, List.length_cons, List.length_drop]; omega
      have hR2 : Recs eF H' s (D ++ (p.1, (p.2.1.extract 0 (p.2.2 + y).toNat, p.2.2)) :: F.drop (i + 1)) := Own.recs eFlen (by decide) (h'.own 1 rfl) (by omega)
      obtain ⟨q2', o2, d1, d2, d3, d4, d5⟩ := rcells hR2 z5
      obtain ⟨rfl, rfl⟩ : q2' = q1 ∧ o2 = o1 := by rw [c1] at d1; simp only [Option.some.injEq, Addr.mk.injEq, and_true] at d1; exact ⟨d1.1.symm, d1.2.symm⟩
      refine ⟨_, d4, rset (j := 2) (g := (p.2.1.extract 0 (p.2.2 + y).toNat, ((p.2.1.extract 0 (p.2.2 + y).toNat).size : Int))) h' z5 c1 (by decide) rfl fun H2 h2 => ?_⟩
      rw [set_mid hDl, es] at h2
      have ey : (((p.2.2 + y).toNat : Nat) : Int) = p.2.2 + y := by omega
      rw [ey] at h2
      refine hX H2 ⟨D ++ [(p.1, (p.2.1.extract 0 (p.2.2 + y).toNat, p.2.2 + y))], ?_, by simp; omega, by omega, by omega, by omega, ?_⟩
      · rw [em, List.append_assoc]
        have hb : DkB size (insL ltB (D ++ p :: F.drop (i + 1)) p.1 (p.2.1.extract 0 (p.2.2 + y).toNat, p.2.2 + y)) := hB.ins (hB.names p (by simp)) (fun e => by rw [hlook] at e; cases e) (by rw [eg]; dsimp only; rw [es]; omega) (by dsimp only; rw [es]; omega)
        rw [ins_mid hB.sorted] at hb
        exact rdsk_open.2 ⟨s, hb, h2⟩
      · have e1 : (kk + 1).toNat = kk.toNat + 1 := by omega
        rw [em, e1, hc, hy, hx]; simp
    have hI : Ints H1 keep L := g.at_ h1 (i0 + 1) (by simpa using ei)
    have hkl := hI.len
    refine br_intro (fun q3 => ?_) (fun q3 => ?_)
    · have q3 := of_decide_eq_true q3
      obtain ⟨q5, o5, f1, f2, f3, f4⟩ := hI.at_ k0 q3
      have hmem : L.getD kk.toNat 0 ∈ L := by
        have : kk.toNat < L.length := by omega
        rw [List.getD_eq_getElem?_getD, List.getElem?_eq_getElem this]
        exact List.getElem_mem this
      have hx := hw _ hmem
      refine ⟨q5, o5, f1, f2, f3, _, f4, br_intro (fun q4 => ?_) (fun q4 => ?_)⟩
      · exact stepK _ _ rfl hx (by unfold pickI; rw [if_pos (of_decide_eq_true q4)]) fun H5 z => ⟨rfl, z, by dsimp only; omega⟩
      · exact stepK _ _ rfl hx (by unfold pickI; rw [if_neg (of_decide_eq_false q4)]) fun H5 z => ⟨rfl, z, by dsimp only; omega⟩
    · have q3 := of_decide_eq_false q3
      have e0 : 0 = L.getD kk.toNat 0 := by
        rw [List.getD_eq_getElem?_getD, List.getElem?_eq_none (by omega)]; rfl
      refine br_intro (fun q4 => by have := of_decide_eq_true q4; omega) (fun q4 => ?_)
      exact stepK 0 _ e0 ⟨by decide, by decide⟩ (by unfold pickI; rw [if_neg (by omega)]) fun H5 z => ⟨rfl, z, by dsimp only; omega⟩
  · have q := of_decide_eq_false q
    have e : F.drop ii.toNat = [] := List.drop_eq_nil_of_le (by omega)
    rw [e] at hc h1
    have e2 : crashF (L.drop kk.toNat) [] = [] := by cases L.drop kk.toNat <;> rfl
    rw [e2, List.append_nil] at hc
    rw [List.append_nil] at h1
    rw [hc] at k
    exact k H1 h1
end
end Go.Proofs.YtokceblmbmajgaaGreatDoor
