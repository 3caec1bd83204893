/- Chapter 15: the document's join. -/
import Derived.Test.YtcbobncipnjbjaaDoorS8
namespace Go.Proofs.YtcbobncipnjbjaaDoor
open Go Go.HL
set_option maxHeartbeats 1600000
set_option maxRecDepth 10000

/-- The bytes of names, as the document says it. -/
def clsB (c : Nat) : Bool := (decide (97 ≤ c) && decide (c ≤ 122)) || (decide (48 ≤ c) && decide (c ≤ 57)) || decide (c = 45)
theorem cls_eq (c : UInt8) : nameCut.contains c = clsB c.toNat := by
  have key : ∀ n : Fin 256, nameCut.contains (UInt8.ofNat n.val) = clsB n.val := by decide +kernel
  have := key ⟨c.toNat, c.toNat_lt⟩
  simpa using this
theorem rright_spec {s : ByteArray} {H : Heap} {K : Value → Heap → Prop} (k : K (.bool (nameB s)) H) : FnH Tryd.prog 47 #[.string s] H K := by
  apply logboomref15_right_fn
  unfold logboomref15_right_vc
  unfold nameB at k
  refine br_intro (fun q => ?_) (fun q => br_intro (fun q2 => ?_) (fun q2 => ?_))
  · have q := of_decide_eq_true q
    rw [decide_eq_false (show ¬ s.size ≠ 0 from fun z => z (by omega))] at k; simpa using k
  · have q2 := of_decide_eq_true q2
    rw [decide_eq_false (show ¬ s.size ≤ 32 by omega)] at k; simpa using k
  · have q := of_decide_eq_false q
    have q2 := of_decide_eq_false q2
    rw [decide_eq_true (show s.size ≠ 0 by omega), decide_eq_true (show s.size ≤ 32 by omega)] at k
    have hsz : s.size = s.data.toList.length := (Array.length_toList).symm
    refine ⟨fun m H1 => H1 = H ∧ 0 ≤ m ∧ m ≤ s.size ∧ (s.data.toList.take m.toNat).all (fun b => nameCut.contains b) = true, fun m _ => (s.size - m).toNat, ⟨rfl, Int.le_refl _, by omega, rfl⟩, ?_⟩
    rintro m H1 ⟨rfl, m0, m1, hx⟩
    refine br_intro (fun c => ?_) (fun c => ?_)
    · have c := of_decide_eq_true c
      have hm : m.toNat < s.data.toList.length := by omega
      obtain ⟨x, ex⟩ : ∃ x, s.data.toList[m.toNat]? = some x := ⟨_, List.getElem?_eq_getElem hm⟩
      have ex2 : s[m.toNat]? = some x := by
        have h2 : m.toNat < s.size := by omega
        rw [Array.getElem?_toList] at ex
        exact ex
      rw [wrap64_id (n := m + 1) (by omega) (by omega)]
      have yes : nameCut.contains x = true → (H1 = H1 ∧ 0 ≤ m + 1 ∧ m + 1 ≤ s.size ∧ (s.data.toList.take (m + 1).toNat).all (fun b => nameCut.contains b) = true) ∧ (s.size - (m + 1)).toNat < (s.size - m).toNat := fun z => ⟨⟨rfl, by omega, by omega, by rw [take_step m0 ex, List.all_append, hx]; simpa using z⟩, by omega⟩
      have no : nameCut.contains x = false → K (.bool false) H1 := fun z => by
        have : (s.data.toList.all fun b => nameCut.contains b) = false := by
          refine Bool.eq_false_iff.2 fun y => ?_
          have := List.all_eq_true.1 y x (List.mem_of_getElem? ex)
          rw [z] at this; cases this
        rw [this] at k; exact k
      rw [cls_eq] at yes no
      have T : clsB x.toNat = true → _ := yes
      have E : clsB x.toNat = false → _ := no
      unfold clsB at T E
      have R : ∀ {P : UInt8 → Prop}, P x → 0 ≤ m ∧ ∃ c : UInt8, s[m.toNat]? = some c ∧ P c := fun p => ⟨m0, x, ex2, p⟩
      have last : br (((x.toNat : Nat) : Int) != 45) (K (.bool false) H1) (SelfEq ([.v (.string s)], [], []) ∧ (H1 = H1 ∧ 0 ≤ m + 1 ∧ m + 1 ≤ s.size ∧ (s.data.toList.take (m + 1).toNat).all (fun b => nameCut.contains b) = true) ∧ (s.size - (m + 1)).toNat < (s.size - m).toNat) ∨ True := .inr trivial
      clear last
      refine R (br_intro (fun c1 => R (br_intro (fun c2 => R (br_intro (fun c3 => E ?_) (fun c3 => ⟨rfl, T ?_⟩))) (fun c2 => R (br_intro (fun c3 => R (br_intro (fun c4 => E ?_) (fun c4 => ⟨rfl, T ?_⟩))) (fun c3 => ⟨rfl, T ?_⟩)))))
        (fun c1 => R (br_intro (fun c2 => R (br_intro (fun c3 => R (br_intro (fun c4 => E ?_) (fun c4 => ⟨rfl, T ?_⟩))) (fun c3 => R (br_intro (fun c4 => R (br_intro (fun c5 => E ?_) (fun c5 => ⟨rfl, T ?_⟩))) (fun c4 => ⟨rfl, T ?_⟩))))) (fun c2 => ⟨rfl, T ?_⟩))))
      all_goals
        simp only [bne_iff_ne, ne_eq, decide_eq_true_eq, decide_eq_false_iff_not, bne_eq_false_iff_eq] at *
        simp only [Bool.or_eq_true, Bool.and_eq_true, decide_eq_true_eq, Bool.or_eq_false_iff, Bool.and_eq_false_iff, decide_eq_false_iff_not]
        omega
    · have c := of_decide_eq_false c
      rw [List.take_of_length_le (by omega)] at hx
      rw [hx] at k; exact k
/-! ### all groups -/
abbrev rf (N : Nat) (p : Held) : Chunk := rgrp p.2.1 p.1 p.2.2 N
def rgrs (r : Nat) (G : List (ByteArray × Grp)) (ep : Int) (N : Nat) : Chunk := fun H => ∃ q : Sl × List Held, ((hmod q.2).Perm G ∧ SortedL ltB (hmod q.2)) ∧
  HL.Holds [blk r (.cells #[.slice q.1.p q.1.n q.1.c, .int .i64 ep] 46 (0, 0)), own 63 1 q.1 (q.2.flatMap eP), HL.Holds (q.2.map (rf N))] H
theorem rgrs_mono {r : Nat} {G : List (ByteArray × Grp)} {ep : Int} {N : Nat} : Mono (rgrs r G ep N) := fun _ _ hs ⟨q, e, h⟩ => ⟨q, e, h.up hs⟩
theorem rgrs_open {cs : List Chunk} {H : Heap} {r : Nat} {G : List (ByteArray × Grp)} {ep : Int} {N : Nat} : HL.Holds (rgrs r G ep N :: cs) H ↔ ∃ s ps, ((hmod ps).Perm G ∧ SortedL ltB (hmod ps)) ∧
    HL.Holds (blk r (.cells #[.slice s.p s.n s.c, .int .i64 ep] 46 (0, 0)) :: own 63 1 s (ps.flatMap eP) :: HL.Holds (ps.map (rf N)) :: cs) H := by
  unfold rgrs
  rw [Holds.ex]
  constructor
  · rintro ⟨⟨s, ps⟩, h⟩
    obtain ⟨e, h⟩ := Holds.pure.1 h
    exact ⟨s, ps, e, Holds.flat.1 h⟩
  · rintro ⟨s, ps, e, h⟩
    exact ⟨(s, ps), Holds.pure.2 ⟨e, Holds.flat.2 h⟩⟩
theorem noTups_ptrs (ps : List Held) : noTups (ps.flatMap eP) = true := by
  induction ps with
  | nil => rfl
  | cons a l ih => exact ih
/-- All groups but one, which lies open. -/
def RHole (r : Nat) (ep : Int) (N : Nat) (cs : List Chunk) (n : ByteArray) (b : Nat) (x : Grp) (G : List (ByteArray × Grp)) (H : Heap) : Prop :=
  ∃ (s : Sl) (ps : List Held) (i : Nat) (y : Grp), ps[i]? = some (n, b, y) ∧ (∀ z, SortedL ltB (hmod (ps.set i (n, b, z))) ∧ (hmod (ps.set i (n, b, z))).Perm (putL G n z)) ∧
    HL.Holds (rgrp b n x N :: HL.Holds ((ps.eraseIdx i).map (rf N)) :: blk r (.cells #[.slice s.p s.n s.c, .int .i64 ep] 46 (0, 0)) :: own 63 1 s (ps.flatMap eP) :: cs) H
theorem ptrs_set {ps : List Held} {i : Nat} {n : ByteArray} {b : Nat} {y z : Grp} (e : ps[i]? = some (n, b, y)) : (ps.set i (n, b, z)).flatMap eP = ps.flatMap eP := by
  induction ps generalizing i with
  | nil => rfl
  | cons a l ih =>
    cases i with
    | zero => simp at e; subst e; rfl
    | succ i => rw [List.set_cons_succ, List.flatMap_cons, List.flatMap_cons, ih (by simpa using e)]
theorem RHole.close {r : Nat} {ep : Int} {N : Nat} {cs : List Chunk} {n : ByteArray} {b : Nat} {x : Grp} {G : List (ByteArray × Grp)} {H : Heap} (h : RHole r ep N cs n b x G H) : HL.Holds (rgrs r (putL G n x) ep N :: cs) H := by
  obtain ⟨s, ps, i, y, e, hz, h⟩ := h
  have h2 := Holds.back (f := rf N) (ps := ps) (i := i) (a := (n, b, x)) h (List.getElem?_eq_some_iff.1 e).1
  refine rgrs_open.2 ⟨s, ps.set i (n, b, x), ⟨(hz x).2, (hz x).1⟩, ?_⟩
  rw [ptrs_set e]
  exact h2.down 2
theorem RHole.turn {r : Nat} {ep : Int} {N : Nat} {cs : List Chunk} {n : ByteArray} {b : Nat} {x : Grp} {G : List (ByteArray × Grp)} {H : Heap} (h : RHole r ep N cs n b x G H) :
    ∃ ds, HL.Holds (rgrp b n x N :: ds) H ∧ (∀ x' H', HL.Holds (rgrp b n x' N :: ds) H' → RHole r ep N cs n b x' G H') ∧ (∀ i c, cs[i]? = some c → ds[i + 3]? = some c) := by
  obtain ⟨s, ps, i, y, e, hz, h⟩ := h
  exact ⟨_, h, fun x' H' h' => ⟨s, ps, i, y, e, hz, h'⟩, fun i c hc => by simpa using hc⟩
theorem insL_split {l : List (ByteArray × Grp)} {k : ByteArray} {v : Grp} : ∀ {i : Nat}, (∀ p ∈ l.take i, ltB p.1 k = true) → (l.length ≤ i ∨ ∃ p, l[i]? = some p ∧ ltB p.1 k = false ∧ p.1 ≠ k) → insL ltB l k v = l.take i ++ (k, v) :: l.drop i := by
  induction l with
  | nil => intro i _ _; simp [insL]
  | cons a l ih =>
    intro i h1 h2
    cases i with
    | zero =>
      rcases h2 with q | ⟨p, q1, q2, q3⟩
      · simp at q
      · simp at q1; subst q1
        unfold insL
        rw [if_neg (fun e => q3 e.symm)]
        rcases ltB_ok.tri a.1 k q3 with z | z
        · rw [q2] at z; cases z
        · rw [if_pos z]; rfl
    | succ i =>
      have ha := h1 a (by simp)
      unfold insL
      rw [if_neg (fun e => by rw [e, ltB_ok.irr] at ha; cases ha), if_neg (by rw [ltB_ok.asymm ha]; simp)]
      rw [ih (i := i) (fun p hp => h1 p (by rw [List.take_succ_cons]; exact List.mem_cons_of_mem _ hp)) (by
        rcases h2 with q | ⟨p, q1, q2, q3⟩
        · left; simpa using q
        · right; exact ⟨p, by simpa using q1, q2, q3⟩)]
      rfl
theorem ins_set {F : List (ByteArray × Grp)} {n : ByteArray} {i : Nat} {f v : Grp} (hs : SortedL ltB F) (h : idxL F n = some (i, f)) : insL ltB F n v = F.set i (n, v) := by
  induction F generalizing i with
  | nil => cases h
  | cons p l ih =>
    obtain ⟨h1, h2⟩ := List.pairwise_cons.1 hs
    unfold idxL at h
    unfold insL
    split at h
    · rename_i e
      simp only [Option.some.injEq, Prod.mk.injEq] at h
      rw [if_pos e, ← h.1]; rfl
    · rename_i e
      obtain ⟨q, hq, e2⟩ := Option.map_eq_some_iff.1 h
      simp only [Prod.mk.injEq] at e2
      obtain ⟨rfl, rfl⟩ := e2
      have hm := List.mem_of_getElem? (idxL_get hq)
      have hlt := h1 _ hm
      rw [if_neg e, if_neg (by rw [ltB_ok.asymm hlt]; simp), ih h2 hq]; rfl
/-- What is there under a name, in both lists. -/
theorem look_both {G : List (ByteArray × Grp)} {ps : List Held} (hp : (hmod ps).Perm G) (hs : SortedL ltB (hmod ps)) (n : ByteArray) :
    (lookL G n = none ∧ idxL ps n = none) ∨ ∃ i b x, lookL G n = some x ∧ idxL ps n = some (i, b, x) ∧ ps[i]? = some (n, b, x) ∧ ∀ z, SortedL ltB (hmod (ps.set i (n, b, z))) ∧ (hmod (ps.set i (n, b, z))).Perm (putL G n z) := by
  have hl := look_perm hp (hs.nodup ltB_ok) n
  unfold lookL at hl
  rw [idx_mod] at hl
  cases e : idxL ps n with
  | none => rw [e] at hl; exact .inl ⟨hl.symm, rfl⟩
  | some q =>
    obtain ⟨i, b, x⟩ := q
    rw [e] at hl
    have hm : idxL (hmod ps) n = some (i, x) := by rw [idx_mod, e]; rfl
    refine .inr ⟨i, b, x, hl.symm, rfl, idxL_get e, fun z => ?_⟩
    have e2 : hmod (ps.set i (n, b, z)) = insL ltB (hmod ps) n z := by rw [ins_set hs hm]; simp [hmod, List.map_set]
    rw [e2]
    exact ⟨insL_sorted ltB_ok hs, (put_ins ltB_ok hp.symm hs n z).symm⟩
theorem RgOk.new (N : Nat) : RgOk newGrp [] [] N := ⟨fun _ => rfl, fun _ => rfl, Nat.zero_le _, Nat.zero_le _⟩
theorem RgOk.same {x y : Grp} {fo fn : List (Int × Int)} {N : Nat} (h : RgOk x fo fn N) (h1 : y.off = x.off) (h2 : y.num = x.num) : RgOk y fo fn N :=
  ⟨fun p => by rw [h.off]; unfold offM; rw [h1], fun a => by rw [h.num, h2], h.offN, h.numN⟩
theorem rising_step {L : List Int} {i : Nat} {p : Int} (h : L[i]? = some p) : risingB 0 (L.take (i + 1)) = (risingB 0 (L.take i) && (decide (((L.take i).getLast?).getD 0 < p) && decide (p ≤ 16))) := by
  obtain ⟨h1, h2⟩ := List.getElem?_eq_some_iff.1 h
  rw [List.take_succ_eq_append_getElem h1, h2, rising_drop]
  simp [risingB]
theorem rising_last : ∀ {l : List Int} {a : Int}, risingB a l = true → a ≤ l.getLast?.getD a := by
  intro l
  induction l with
  | nil => intro a _; exact Int.le_refl _
  | cons p l ih =>
    intro a h
    simp only [risingB, Bool.and_eq_true, decide_eq_true_eq] at h
    have := ih h.2
    cases l with
    | nil => simp; omega
    | cons b l =>
      rw [List.getLast?_cons_cons]
      cases e : (b :: l).getLast? with
      | none => simp at e
      | some x => rw [e] at this; simp only [Option.getD_some] at this ⊢; omega
end Go.Proofs.YtcbobncipnjbjaaDoor
