/- Chapter 1: the document's disk. -/
import Derived.Test.YtldaflbdldepnaaDoorS4
import Derived.Test.YtldaflbdldepnaaDoorV3
namespace Go.Proofs.YtldaflbdldepnaaDoor
open Go Go.HL
set_option maxRecDepth 10000
set_option maxHeartbeats 1600000

theorem ok66 : ElemOK Tryd.prog 66 71 3 := ElemOK.of (by kernel_rfl)
abbrev eF : ByteArray × Fi → List Value := fun p => [.string p.1, .string p.2.1, .int .i64 p.2.2]
theorem eFlen : ∀ x, (eF x).length = 3 := fun _ => rfl
theorem noTups_files (l : Fs) : noTups (l.flatMap eF) = true := by
  induction l with
  | nil => rfl
  | cons a l ih => exact ih
abbrev ownF (s : Sl) (l : Fs) : Chunk := own 71 3 s (l.flatMap eF)
def rdsk (r : Nat) (size : Int) (F : Fs) : Chunk := fun H => ∃ s : Sl, DkB size F ∧ Holds [blk r (.cells #[.int .i64 size, .slice s.p s.n s.c] 68 (0, 0)), ownF s F] H
theorem rdsk_mono {r : Nat} {size : Int} {F : Fs} : Mono (rdsk r size F) := fun _ _ hs ⟨q, e, h⟩ => ⟨q, e, h.up hs⟩
theorem rdsk_open {cs : List Chunk} {H : Heap} {r : Nat} {size : Int} {F : Fs} : Holds (rdsk r size F :: cs) H ↔ ∃ s : Sl, DkB size F ∧ Holds (blk r (.cells #[.int .i64 size, .slice s.p s.n s.c] 68 (0, 0)) :: ownF s F :: cs) H := by
  constructor
  · intro h
    obtain ⟨s, h⟩ := Holds.ex.1 h
    obtain ⟨e, h⟩ := Holds.pure.1 h
    exact ⟨s, e, Holds.flat.1 h⟩
  · rintro ⟨s, e, h⟩
    exact Holds.ex.2 ⟨s, Holds.pure.2 ⟨e, Holds.flat.2 h⟩⟩
/-- A cell of a slice of one's own is written. -/
theorem Holds.setCell {e sz : Nat} {s : Sl} {vs : List Value} {cs : List Chunk} {H : Heap} (h : Holds (own e sz s vs :: cs) H) {q o : Nat} (hq : s.p = some ⟨q, o, none⟩) {j : Nat} (hj : j < vs.length) {v : Value} {f : Heap → Prop} (k : ∀ H', Holds (own e sz s (vs.set j v) :: cs) H' → f H') :
    (∃ u, cellH H ⟨q, o + j, none⟩ = some u) ∧ frozenH H ⟨q, o + j, none⟩ = false ∧ letH (H.set ⟨q, o + j, none⟩ v) f := by
  have ho := h.own 0 rfl
  have hl := ho.1
  have hpos : 0 < s.n := by
    rcases Nat.eq_zero_or_pos s.n with z | z
    · rw [z, Nat.zero_mul] at hl; omega
    · exact z
  obtain ⟨b, arr, hp, hb, hs, ha⟩ := ho.some_ hpos
  rw [hp] at hq
  simp only [Option.some.injEq, Addr.mk.injEq, and_true] at hq
  obtain ⟨rfl, rfl⟩ := hq
  have hc := ho.2.1
  have hi : j < arr.size := by
    have := Nat.mul_le_mul_right sz hc
    omega
  rw [Nat.zero_add]
  refine ⟨⟨arr[j], by rw [cellH_eq hb]; exact Array.getElem?_eq_getElem hi⟩, frozenH_eq hb, letH_intro fun H1 g1 => k H1 ?_⟩
  rw [g1, Heap.set_block hb]
  refine h.ownUpd hp hb (by rw [List.length_set]; exact hl) (by simpa using hs) fun i hi2 => ?_
  simp only [List.length_set] at hi2
  rw [Array.getElem?_setIfInBounds, List.getElem_set]
  by_cases z : j = i
  · subst z; simp [hi]
  · rw [if_neg z, if_neg z]; exact ha i hi2
theorem flat_set {α : Type} {enc : α → List Value} {k : Nat} (hk : ∀ a, (enc a).length = k) : ∀ {l : List α} {j : Nat} {a a' : α} {f : Nat} {v : Value}, l[j]? = some a → f < k → enc a' = (enc a).set f v → (l.flatMap enc).set (j * k + f) v = (l.set j a').flatMap enc := by
  intro l
  induction l with
  | nil => intro j a a' f v h; simp at h
  | cons b l ih =>
    intro j a a' f v h hf he
    cases j with
    | zero =>
      simp at h; subst h
      rw [List.flatMap_cons, Nat.zero_mul, Nat.zero_add, List.set_append_left _ _ (by rw [hk]; exact hf), ← he]
      rfl
    | succ j =>
      rw [List.flatMap_cons, List.set_append_right _ _ (by rw [hk, Nat.succ_mul]; omega), hk]
      have e : (j + 1) * k + f - k = j * k + f := by rw [Nat.succ_mul]; omega
      rw [e, ih (by simpa using h) hf he]
      rfl
theorem ins_set {F : Fs} {n : ByteArray} {i : Nat} {f v : Fi} (hs : SortedL ltB F) (h : idxL F n = some (i, f)) : insL ltB F n v = F.set i (n, v) := by
  induction F generalizing i with
  | nil => cases h
  | cons p l ih =>
    obtain ⟨h1, h2⟩ := List.pairwise_cons.1 hs
    unfold idxL at h
    unfold insL
    split at h
    · rename_i e
      simp only [Option.some.injEq, Prod.mk.injEq] at h
      rw [if_pos e, ← h.1]; rfl
    · rename_i e
      obtain ⟨q, hq, e2⟩ := Option.map_eq_some_iff.1 h
      simp only [Prod.mk.injEq] at e2
      obtain ⟨rfl, rfl⟩ := e2
      have hm := List.mem_of_getElem? (idxL_get hq)
      have hlt := h1 _ hm
      rw [if_neg e, if_neg (by rw [ltB_ok.asymm hlt]; simp), ih h2 hq]; rfl
theorem u68 : True := trivial
section
variable {cs : List Chunk} {H : Heap} {r : Nat} {size : Int} {F : Fs} {K : Value → Heap → Prop} {n b : ByteArray}
def atI (F : Fs) (n : ByteArray) : Int := match idxL F n with | some q => q.1 | none => -1
theorem atI_none (h : lookL F n = none) : atI F n = -1 := by
  unfold lookL at h
  unfold atI
  cases e : idxL F n with
  | none => rfl
  | some q => rw [e] at h; cases h
theorem atI_some {i : Nat} {f : Fi} (h : idxL F n = some (i, f)) : atI F n = i := by unfold atI; rw [h]
theorem look_cases (F : Fs) (n : ByteArray) : lookL F n = none ∨ ∃ i f, idxL F n = some (i, f) ∧ lookL F n = some f ∧ F[i]? = some (n, f) := by
  cases e : lookL F n with
  | none => exact .inl rfl
  | some f =>
    obtain ⟨i, hi⟩ := lookL_idx e
    exact .inr ⟨i, f, hi, rfl, idxL_get hi⟩
theorem idx_first {F : Fs} {n : ByteArray} {m : Nat} {p : ByteArray × Fi} (h1 : ∀ x ∈ F.take m, ¬ x.1 = n) (h2 : F[m]? = some p) (h3 : p.1 = n) : idxL F n = some (m, p.2) := by
  induction F generalizing m with
  | nil => simp at h2
  | cons a F ih =>
    unfold idxL
    cases m with
    | zero =>
      simp at h2; subst h2
      rw [if_pos h3.symm]
    | succ m =>
      have ha : ¬ a.1 = n := h1 a (by simp)
      rw [if_neg (fun e => ha e.symm), ih (m := m) (fun x hx => h1 x (by rw [List.take_succ_cons]; exact List.mem_cons_of_mem _ hx)) (by simpa using h2)]
      rfl
theorem rdsk_recs {s : Sl} (hB : DkB size F) (h : Holds cs H) {i : Nat} (ei : cs[i]? = some (ownF s F)) : Recs eF H s F := by
  have := hB.few
  exact Own.recs eFlen (by decide) (h.own i ei) (by omega)
theorem rat_spec {i : Nat} (h : Holds cs H) (ei : cs[i]? = some (rdsk r size F)) (k : K (.int .i64 (atI F n)) H) : FnH Tryd.prog 53 #[.pointer (some ⟨r, 0, none⟩), .string n] H K := by
  apply logboomref1_Disk_at_fn
  unfold logboomref1_Disk_at_vc
  obtain ⟨s, hB, hh⟩ := h.read i ei rdsk_mono
  have hR : Recs eF H s F := rdsk_recs hB hh (i := 1) rfl
  have hn := hR.len
  have hbg := hR.big
  refine ⟨fun m H1 => H1 = H ∧ 0 ≤ m ∧ m ≤ s.n ∧ ∀ x ∈ F.take m.toNat, ¬ x.1 = n, fun m _ => (s.n - m).toNat, ⟨rfl, Int.le_refl _, by omega, by simp⟩, ?_⟩
  rintro m H1 ⟨rfl, m0, m1, hx⟩
  refine ⟨s, hh.cell 0 rfl rfl, br_intro (fun q => ?_) (fun q => ?_)⟩
  · have q := of_decide_eq_true q
    obtain ⟨q1, o1, p, e1, e2, e3⟩ := hR.at_ eFlen (by decide) m0 q
    refine ⟨s, hh.cell 0 rfl rfl, q1, o1, e1, m0, q, _, e3 0 _ rfl, ?_⟩
    rw [str_eq, wrap64_id (n := m + 1) (by omega) (by omega)]
    refine br_intro (fun c => ?_) (fun c => ⟨rfl, ⟨rfl, by omega, by omega, fun x hx2 => ?_⟩, by dsimp only; omega⟩)
    · have c := of_decide_eq_true c
      have := atI_some (idx_first hx e2 c)
      have e : ((m.toNat : Nat) : Int) = m := by omega
      rw [this, e] at k; exact k
    · have c := of_decide_eq_false c
      rw [take_step m0 e2] at hx2
      rcases List.mem_append.1 hx2 with y | y
      · exact hx x y
      · simp only [List.mem_singleton] at y; rw [y]; exact c
  · have q := of_decide_eq_false q
    rw [List.take_of_length_le (by omega)] at hx
    have : lookL F n = none := by
      refine lookL_none fun hm => ?_
      obtain ⟨x, hx2, e⟩ := List.mem_map.1 hm
      exact hx x hx2 e
    rw [atI_none this] at k; exact k
theorem rfree_spec {i : Nat} (h : Holds cs H) (ei : cs[i]? = some (rdsk r size F)) (k : K (.int .i64 (size - useF F)) H) : FnH Tryd.prog 46 #[.pointer (some ⟨r, 0, none⟩)] H K := by
  apply logboomref1_Disk_Free_fn
  unfold logboomref1_Disk_Free_vc
  obtain ⟨s, hB, hh⟩ := h.read i ei rdsk_mono
  have hR : Recs eF H s F := rdsk_recs hB hh (i := 1) rfl
  have hn := hR.len
  have hbg := hR.big
  have hs0 := hB.s0; have hs1 := hB.s1; have hu := hB.use
  refine ⟨size, hh.cell 0 rfl rfl, fun a m H1 => H1 = H ∧ 0 ≤ m ∧ m ≤ s.n ∧ a = size - useF (F.take m.toNat), fun _ m _ => (s.n - m).toNat, ⟨rfl, Int.le_refl _, by omega, by show size = size - 0; omega⟩, ?_⟩
  rintro a m H1 ⟨rfl, m0, m1, ha⟩
  refine ⟨s, hh.cell 0 rfl rfl, br_intro (fun q => ?_) (fun q => ?_)⟩
  · have q := of_decide_eq_true q
    obtain ⟨q1, o1, p, e1, e2, e3⟩ := hR.at_ eFlen (by decide) m0 q
    have est : useF (F.take (m + 1).toNat) = useF (F.take m.toNat) + p.2.1.size := by
      rw [take_step m0 e2, useF_append, useF_cons]
      have : useF [] = 0 := rfl
      omega
    have hs2 : useF (F.take (m + 1).toNat) ≤ useF F := by
      have : useF (F.take (m + 1).toNat ++ F.drop (m + 1).toNat) = useF (F.take (m + 1).toNat) + useF (F.drop (m + 1).toNat) := useF_append _ _
      rw [List.take_append_drop] at this
      have := useF_nonneg (F.drop (m + 1).toNat)
      omega
    have ht0 := useF_nonneg (F.take m.toNat)
    refine ⟨s, hh.cell 0 rfl rfl, q1, o1, e1, m0, q, _, e3 1 _ rfl, rfl, ?_⟩
    rw [wrap64_id (n := m + 1) (by omega) (by omega), wrap64_id (n := a - (p.2.1.size : Int)) (by omega) (by omega)]
    exact ⟨⟨rfl, by omega, by omega, by omega⟩, by dsimp only; omega⟩
  · have q := of_decide_eq_false q
    rw [List.take_of_length_le (by omega)] at ha
    rw [ha]; exact k
/-- The bytes of names, as the document says it. -/
def clsB (c : Nat) : Bool := (decide (97 ≤ c) && decide (c ≤ 122)) || (decide (48 ≤ c) && decide (c ≤ 57)) || decide (c = 45) || decide (c = 46)
theorem cls_eq (c : UInt8) : nameCut.contains c = clsB c.toNat := by
  have key : ∀ n : Fin 256, nameCut.contains (UInt8.ofNat n.val) = clsB n.val := by decide +kernel
  have := key ⟨c.toNat, c.toNat_lt⟩
  simpa using this
theorem rname_spec {s : ByteArray} (k : K (.bool (namedB s)) H) : FnH Tryd.prog 56 #[.string s] H K := by
  apply logboomref1_Name_fn
  unfold logboomref1_Name_vc
  unfold namedB at k
  refine br_intro (fun q => ?_) (fun q => br_intro (fun q2 => ?_) (fun q2 => ?_))
  · have q := of_decide_eq_true q
    rw [decide_eq_false (show ¬ s.size ≠ 0 from fun z => z (by omega))] at k; simpa using k
  · have q2 := of_decide_eq_true q2
    rw [decide_eq_false (show ¬ s.size ≤ 64 by omega)] at k; simpa using k
  · have q := of_decide_eq_false q
    have q2 := of_decide_eq_false q2
    rw [decide_eq_true (show s.size ≠ 0 by omega), decide_eq_true (show s.size ≤ 64 by omega)] at k
    have hsz : s.size = s.data.toList.length := (Array.length_toList).symm
    refine ⟨fun m H1 => H1 = H ∧ 0 ≤ m ∧ m ≤ s.size ∧ (s.data.toList.take m.toNat).all (fun b => nameCut.contains b) = true, fun m _ => (s.size - m).toNat, ⟨rfl, Int.le_refl _, by omega, rfl⟩, ?_⟩
    rintro m H1 ⟨rfl, m0, m1, hx⟩
    refine br_intro (fun c => ?_) (fun c => ?_)
    · have c := of_decide_eq_true c
      have hm : m.toNat < s.data.toList.length := by omega
      obtain ⟨x, ex⟩ : ∃ x, s.data.toList[m.toNat]? = some x := ⟨_, List.getElem?_eq_getElem hm⟩
      have ex2 : s[m.toNat]? = some x := by
        have h2 : m.toNat < s.size := by omega
        rw [Array.getElem?_toList] at ex
        exact ex
      rw [wrap64_id (n := m + 1) (by omega) (by omega)]
      have yes : nameCut.contains x = true → (H1 = H1 ∧ 0 ≤ m + 1 ∧ m + 1 ≤ s.size ∧ (s.data.toList.take (m + 1).toNat).all (fun b => nameCut.contains b) = true) ∧ (s.size - (m + 1)).toNat < (s.size - m).toNat := fun z => ⟨⟨rfl, by omega, by omega, by rw [take_step m0 ex, List.all_append, hx]; simpa using z⟩, by omega⟩
      have no : nameCut.contains x = false → K (.bool false) H1 := fun z => by
        have : (s.data.toList.all fun b => nameCut.contains b) = false := by
          refine Bool.eq_false_iff.2 fun y => ?_
          have := List.all_eq_true.1 y x (List.mem_of_getElem? ex)
          rw [z] at this; cases this
        rw [this] at k; exact k
      rw [cls_eq] at yes no
      refine ⟨m0, x, ex2, ?_⟩
      have cv : ∀ {P : Prop} [Decidable P] {b : Bool}, decide P = b → (P ↔ b = true) := fun {P} _ {b} h => by rw [← h]; simp
      have step : ∀ b : Bool, b = clsB x.toNat → (b = true → (H1 = H1 ∧ 0 ≤ m + 1 ∧ m + 1 ≤ s.size ∧ (s.data.toList.take (m + 1).toNat).all (fun b => nameCut.contains b) = true) ∧ (s.size - (m + 1)).toNat < (s.size - m).toNat) ∧ (b = false → K (.bool false) H1) := fun b hb => ⟨fun z => yes (by rw [← hb]; exact z), fun z => no (by rw [← hb]; exact z)⟩
      have T : clsB x.toNat = true → _ := yes
      have E : clsB x.toNat = false → _ := no
      unfold clsB at T E
      refine br_intro (fun c1 => br_intro (fun c2 => br_intro (fun c3 => br_intro (fun c4 => E ?_) (fun c4 => ⟨rfl, T ?_⟩)) (fun c3 => ⟨rfl, T ?_⟩)) (fun c2 => br_intro (fun c3 => br_intro (fun c4 => br_intro (fun c5 => E ?_) (fun c5 => ⟨rfl, T ?_⟩)) (fun c4 => ⟨rfl, T ?_⟩)) (fun c3 => ⟨rfl, T ?_⟩)))
        (fun c1 => br_intro (fun c2 => br_intro (fun c3 => br_intro (fun c4 => br_intro (fun c5 => E ?_) (fun c5 => ⟨rfl, T ?_⟩)) (fun c4 => ⟨rfl, T ?_⟩)) (fun c3 => br_intro (fun c4 => br_intro (fun c5 => br_intro (fun c6 => E ?_) (fun c6 => ⟨rfl, T ?_⟩)) (fun c5 => ⟨rfl, T ?_⟩)) (fun c4 => ⟨rfl, T ?_⟩))) (fun c2 => ⟨rfl, T ?_⟩))
      all_goals
        simp only [bne_iff_ne, ne_eq, decide_eq_true_eq, decide_eq_false_iff_not, bne_eq_false_iff_eq] at *
        simp only [Bool.or_eq_true, Bool.and_eq_true, decide_eq_true_eq, Bool.or_eq_false_iff, Bool.and_eq_false_iff, decide_eq_false_iff_not]
        omega
    · have c := of_decide_eq_false c
      rw [List.take_of_length_le (by omega)] at hx
      rw [hx] at k; exact k
end
end Go.Proofs.YtldaflbdldepnaaDoor
