/- Chapter 15: lists of numbers: Index, Contains, Clone, Assign. -/
import Derived.Test.YtcbobncipnjbjaaDoorV3
import Derived.Test.YtcbobncipnjbjaaDoorHlLaw
namespace Go.Proofs.YtcbobncipnjbjaaDoor
open Go.HL
set_option maxHeartbeats 400000
set_option maxRecDepth 10000

def i64B (n : Int) : Prop := -9223372036854775808 ≤ n ∧ n ≤ 9223372036854775807
theorem ok22 : ElemOK Tryd.prog 22 3 1 := ElemOK.of (by kernel_rfl)
theorem ok24 : ElemOK Tryd.prog 24 22 1 := ElemOK.of (by kernel_rfl)
/-- Where a number stands first; -1: nowhere. -/
def idxI : List Int → Int → Int
  | [], _ => -1
  | a :: l, v => if v = a then 0 else (if idxI l v < 0 then -1 else idxI l v + 1)
theorem idxI_app_not {l m : List Int} {v : Int} (h : v ∉ l) : idxI (l ++ m) v = if idxI m v < 0 then -1 else idxI m v + l.length := by
  induction l with
  | nil => 
    simp only [List.nil_append, List.length_nil]
    split
    · have : ∀ m : List Int, idxI m v < 0 → idxI m v = -1 := by
        intro m
        induction m with
        | nil => intro _; rfl
        | cons b m ih =>
          unfold idxI
          split
          · intro q; omega
          · split
            · intro _; rfl
            · intro q; omega
      rename_i q; exact this m q
    · simp
  | cons a l ih =>
    simp only [List.mem_cons, not_or] at h
    simp only [List.cons_append, idxI]
    rw [if_neg h.1, ih h.2]
    split
    · simp
    · rename_i q
      rw [if_neg (by omega)]
      simp only [List.length_cons]; omega
theorem idxI_not {l : List Int} {v : Int} (h : v ∉ l) : idxI l v = -1 := by
  have := idxI_app_not (m := []) h
  simpa [idxI] using this
theorem idxI_at {l m : List Int} {v : Int} (h : v ∉ l) : idxI (l ++ v :: m) v = l.length := by
  rw [idxI_app_not h]
  have : idxI (v :: m) v = 0 := by unfold idxI; rw [if_pos rfl]
  rw [this]; simp
theorem idxI_mem {l : List Int} {v : Int} : 0 ≤ idxI l v ↔ v ∈ l := by
  induction l with
  | nil => simp [idxI]
  | cons a l ih =>
    unfold idxI
    simp only [List.mem_cons]
    split
    · rename_i q; simp [q]
    · rename_i q
      split
      · rename_i q2
        constructor
        · intro x; omega
        · rintro (x | x)
          · exact absurd x q
          · have := ih.2 x; omega
      · rename_i q2
        constructor
        · intro _; exact .inr (ih.1 (by omega))
        · intro _; omega
theorem index_spec {H : Heap} {s : Sl} {l : List Int} {v : Int} {K : Value → Heap → Prop} (h : Ints H s l) (k : K (.int .i64 (idxI l v)) H) : FnH Tryd.prog 46 #[.slice s.p s.n s.c, .int .i64 v] H K := by
  apply slices_Index_Lint_int_fn
  unfold slices_Index_Lint_int_vc
  have hl := h.len
  have hb := h.big
  refine ⟨fun n H1 => H1 = H ∧ 0 ≤ n ∧ n ≤ s.n ∧ v ∉ l.take n.toNat, fun n _ => (s.n - n).toNat, ⟨rfl, Int.le_refl _, by omega, by simp⟩, ?_⟩
  rintro n H1 ⟨rfl, n0, n1, hn⟩
  refine br_intro (fun q => ?_) (fun q => ?_)
  · have q := of_decide_eq_true q
    obtain ⟨b, o, g1, g2, g3, g4⟩ := h.at_ n0 q
    have hnl : n.toNat < l.length := by omega
    have ex := List.take_append_drop n.toNat l
    rw [List.drop_eq_getElem_cons hnl] at ex
    have eg : l.getD n.toNat 0 = l[n.toNat] := by simp [List.getD, hnl]
    refine ⟨b, o, g1, g2, g3, _, g4, br_intro (fun q2 => ?_) (fun q2 => ?_)⟩
    · have q2 : v = l.getD n.toNat 0 := by simpa using q2
      have : idxI l v = n := by
        rw [← ex, ← eg, ← q2, idxI_at hn]
        simp; omega
      rw [this] at k; exact k
    · have q2 : ¬ v = l.getD n.toNat 0 := by simpa using q2
      rw [wrap64_id (by omega) (by omega)]
      refine ⟨rfl, ⟨rfl, by omega, by omega, ?_⟩, by dsimp only; omega⟩
      rw [take_next (d := 0) n0 (by omega)]
      simp only [List.mem_append, List.mem_singleton, not_or]
      exact ⟨hn, q2⟩
  · have q := of_decide_eq_false q
    rw [take_all (by omega)] at hn
    rw [idxI_not hn] at k; exact k
theorem contains_spec {H : Heap} {s : Sl} {l : List Int} {v : Int} {K : Value → Heap → Prop} (h : Ints H s l) (k : K (.bool (decide (v ∈ l))) H) : FnH Tryd.prog 31 #[.slice s.p s.n s.c, .int .i64 v] H K := by
  apply slices_Contains_Lint_int_fn
  refine index_spec h ⟨_, rfl, ?_⟩
  have : decide (idxI l v ≥ 0) = decide (v ∈ l) := by
    by_cases q : v ∈ l
    · rw [decide_eq_true q, decide_eq_true (idxI_mem.2 q)]
    · rw [decide_eq_false q, decide_eq_false (fun x => q (idxI_mem.1 x))]
  rw [this]; exact k
abbrev iv (l : List Int) : List Value := l.map (Value.int .i64)
theorem clone_spec {cs : List Chunk} {H : Heap} {s : Sl} {l : List Int} {K : Value → Heap → Prop} (h : Holds cs H) (hl : Ints H s l) (hb : l.length ≤ 1000000) (k : ∀ (r : Sl) H', Holds (own 3 1 r (iv l) :: cs) H' → r.n = l.length → K (.slice r.p r.n r.c) H') :
    FnH Tryd.prog 24 #[.slice s.p s.n s.c] H K := by
  apply slices_Clone_Lint_int_fn
  unfold slices_Clone_Lint_int_vc
  refine br_intro (fun q => ?_) (fun q => ?_)
  · have : s.p = none := Option.isNone_iff_eq_none.1 q
    have := hl.pnone this
    subst this
    exact k ⟨none, 0, 0⟩ H (h.own_nil _ _) rfl
  · intro q1 hq1
    refine letH_intro fun H1 g1 => ?_
    have h1 : Holds (blk q1 (.cells #[] 3 (0, 0)) :: cs) H1 := by rw [g1]; exact h.add hq1 _
    have hx : CellsAt H1 s.p (iv l) := by rw [g1]; exact hl.cells.sub (Sub.new hq1 _)
    have h2 : Holds (own 3 1 ⟨some ⟨q1, 0, none⟩, 0, 0⟩ [] :: cs) H1 := h1.head fun A hA => ⟨rfl, Nat.le_refl _, .inr ⟨q1, #[], rfl, hA, rfl, fun i hi => by simp at hi⟩⟩
    refine Holds.append (s := ⟨some ⟨q1, 0, none⟩, 0, 0⟩) ok22 ok22.under h2 hx (by simp [hl.len]) (noTups_ints _ _) (by rw [hl.len]; show 0 + l.length ≤ _; omega) fun r H' h' n' => ⟨r, rfl, k r H' h' ?_⟩
    rw [n', hl.len]; simp
/-- How many of so many go to the first of so many. -/
def ceilN (a b : Nat) : Nat := a / b + if a % b ≠ 0 then 1 else 0
theorem ceilN_le {a b : Nat} (hb : 0 < b) : ceilN a b ≤ a := by
  unfold ceilN
  have h := Nat.div_add_mod a b
  have h2 : a / b ≤ b * (a / b) := Nat.le_mul_of_pos_left _ hb
  split <;> omega
/-- Ranges for so many members. -/
def assignM : Nat → List Int → List (List Int)
  | 0, _ => []
  | k + 1, p => p.take (ceilN p.length (k + 1)) :: assignM k (p.drop (ceilN p.length (k + 1)))
theorem assignM_len : ∀ (k : Nat) (p : List Int), (assignM k p).length = k := by
  intro k
  induction k with
  | zero => intro p; rfl
  | succ k ih => intro p; simp [assignM, ih]
abbrev slv (p : Sl × List Int) : Value := .slice p.1.p p.1.n p.1.c
/-- A list of lists. -/
def lists (r : Sl) (LL : List (List Int)) : Chunk := fun H => ∃ ps : List (Sl × List Int), ps.map Prod.snd = LL ∧ Holds [own 22 1 r (ps.map slv), Holds (ps.map fun p => ints p.1 p.2)] H
theorem lists_mono {r : Sl} {LL : List (List Int)} : Mono (lists r LL) := fun _ _ hs ⟨ps, e, h⟩ => ⟨ps, e, h.up hs⟩
theorem Holds.one {α : Type} {f : α → Chunk} {ps : List α} {H : Heap} (hm : ∀ a, Mono (f a)) (h : Holds (ps.map f) H) {i : Nat} {a : α} (e : ps[i]? = some a) : f a H :=
  h.read i (by rw [List.getElem?_map, e]; rfl) (hm a)
theorem lists_at {r : Sl} {LL : List (List Int)} {H : Heap} (h : lists r LL H) : r.n = LL.length ∧ ∀ j : Int, 0 ≤ j → j < r.n → ∃ q o s, r.p = some ⟨q, o, none⟩ ∧ cellH H ⟨q, o + j.toNat, none⟩ = some (.slice s.p s.n s.c) ∧ Ints H s (LL.getD j.toNat []) := by
  obtain ⟨ps, e, h⟩ := h
  have ho := h.own 0 rfl
  have hl := ho.1
  simp only [List.length_map, Nat.mul_one] at hl
  refine ⟨by rw [← e]; simp [hl], fun j j0 j1 => ?_⟩
  have hj : j.toNat < ps.length := by omega
  obtain ⟨q, o, e1, e2⟩ := ho.cells j.toNat (by simpa using hj)
  refine ⟨q, o, (ps[j.toNat]).1, e1, by rw [e2]; simp, ?_⟩
  have h2 := h.read 1 rfl (Holds.mono _)
  have h3 := Holds.one (fun a => Ints.mono) h2 (List.getElem?_eq_getElem hj)
  have : LL.getD j.toNat [] = (ps[j.toNat]).2 := by rw [← e]; simp [List.getD, hj]
  rw [this]; exact h3
theorem assign_spec {cs : List Chunk} {H : Heap} {mem parts : Sl} {L : List Int} {c0 : Chunk} {i : Nat} {K : Value → Heap → Prop} (h : Holds cs H) (g : Gives c0 (ints parts L)) (hi : cs[i]? = some c0) (hm : mem.n ≤ 1000000) (hL : L.length ≤ 1000000)
    (k : ∀ (r : Sl) H', Holds (lists r (assignM mem.n L) :: cs) H' → K (.slice r.p r.n r.c) H') : FnH Tryd.prog 10 #[.slice mem.p mem.n mem.c, .slice parts.p parts.n parts.c] H K := by
  apply groups_Assign_fn
  unfold groups_Assign_vc
  refine ⟨fun p l n H1 => ∃ (ps : List (Sl × List Int)) (rest : List Int), 0 ≤ n ∧ n ≤ mem.n ∧ ps.length = n.toNat ∧ ps.map Prod.snd ++ assignM (mem.n - n.toNat) rest = assignM mem.n L ∧ (∀ A, c0 A → Ints A p rest) ∧ rest.length ≤ 1000000 ∧
      Holds (own 22 1 l (ps.map slv) :: Holds (ps.map fun p => ints p.1 p.2) :: cs) H1, fun _ _ n _ => (mem.n - n).toNat, ⟨[], L, Int.le_refl _, by omega, rfl, rfl, g.give, hL, ?_⟩, ?_⟩
  · exact (show Holds (Holds [] :: cs) H from h.cons_emp True.intro).own_nil _ _
  rintro p l n H1 ⟨ps, rest, n0, n1, hps, eA, hp, hr, h1⟩
  have hlo := (h1.own 0 rfl).1
  simp only [List.length_map, Nat.mul_one] at hlo
  refine br_intro (fun q => ?_) (fun q => ?_)
  case refine_2 =>
    have q := of_decide_eq_false q
    have : mem.n - n.toNat = 0 := by omega
    rw [this] at eA
    refine k l H1 (Holds.head (c := Holds [own 22 1 l (ps.map slv), Holds (ps.map fun p => ints p.1 p.2)]) (fun A hA => ⟨ps, by rw [← eA]; simp [assignM], hA⟩) ((Holds.flat (cs := [own 22 1 l (ps.map slv), Holds (ps.map fun p => ints p.1 p.2)])).2 h1))
  have q := of_decide_eq_true q
  obtain ⟨kk, ek⟩ : ∃ kk, mem.n - n.toNat = kk + 1 := ⟨mem.n - n.toNat - 1, by omega⟩
  have hP := hp _ (h1.read (i + 2) (by simpa using hi) g.mono)
  have hpl := hP.len
  have hpc := hP.cap
  have ed : IntKind.wrap .i64 ((mem.n : Int) - n) = ((kk + 1 : Nat) : Int) := by rw [wrap64_id (by omega) (by omega)]; omega
  have eq1 : Int.tdiv (p.n : Int) ((kk + 1 : Nat) : Int) = ((rest.length / (kk + 1) : Nat) : Int) := by rw [hpl, Int.tdiv_eq_ediv_of_nonneg (by omega)]; simp
  have eq2 : Int.tmod (p.n : Int) ((kk + 1 : Nat) : Int) = ((rest.length % (kk + 1) : Nat) : Int) := by rw [hpl, Int.tmod_eq_emod_of_nonneg (by omega)]; simp
  have hle := ceilN_le (a := rest.length) (b := kk + 1) (by omega)
  have hdle : rest.length / (kk + 1) ≤ rest.length := Nat.div_le_self _ _
  have hce : ceilN rest.length (kk + 1) = rest.length / (kk + 1) + if rest.length % (kk + 1) ≠ 0 then 1 else 0 := rfl
  generalize rest.length / (kk + 1) = dq at *
  generalize rest.length % (kk + 1) = dr at *
  rw [ed]
  refine ⟨by omega, by omega, ?_⟩
  rw [eq1, eq2, wrap64_id (n := (dq : Int)) (by omega) (by omega)]
  -- one member's range
  have step : ∀ c : Int, c = (ceilN rest.length (kk + 1) : Nat) → 0 ≤ c ∧ c ≤ (p.c : Int) ∧ FnH Tryd.prog 24 #[.slice (slP p.p p.c (0 : Int) 1) (Int.toNat (c - (0 : Int))) (Int.toNat ((p.c : Nat) - (0 : Int)))] H1 fun r1 H2 =>
      ∃ l1 : Sl, r1 = .slice l1.p l1.n l1.c ∧ ∀ q1 : Nat, H2 q1 = none → letH (Heap.upd H2 q1 (.cells #[.slice l1.p l1.n l1.c] 22 (0, 0))) fun H3 =>
        runH Tryd.prog (Builtin.append_ #[24, 24] 24 #[.slice l.p l.n l.c, .slice (some ⟨q1, 0, none⟩) 1 1]) H3 fun r2 H4 =>
          ∃ l2 : Sl, r2 = .slice l2.p l2.n l2.c ∧ 0 ≤ c ∧ c ≤ (p.n : Int) ∧ SelfEq ([.v (.slice mem.p mem.n mem.c), .v (.int .i64 (mem.n : Nat))], [], []) ∧
          (∃ (ps : List (Sl × List Int)) (rest : List Int), 0 ≤ IntKind.wrap .i64 (n + 1) ∧ IntKind.wrap .i64 (n + 1) ≤ mem.n ∧ ps.length = (IntKind.wrap .i64 (n + 1)).toNat ∧ ps.map Prod.snd ++ assignM (mem.n - (IntKind.wrap .i64 (n + 1)).toNat) rest = assignM mem.n L ∧
            (∀ A, c0 A → Ints A ⟨slP p.p p.c c 1, Int.toNat ((p.n : Nat) - c), Int.toNat ((p.c : Nat) - c)⟩ rest) ∧ rest.length ≤ 1000000 ∧ Holds (own 22 1 l2 (ps.map slv) :: Holds (ps.map fun p => ints p.1 p.2) :: cs) H4) ∧
          (mem.n - IntKind.wrap .i64 (n + 1)).toNat < (mem.n - n).toNat := fun c hc => by
    refine ⟨by omega, by omega, ?_⟩
    have hup := hP.upto (j := c) (by omega) (by omega)
    have ect : c.toNat = ceilN rest.length (kk + 1) := by omega
    rw [ect] at hup
    refine clone_spec (s := p.upto c 1) h1 hup (by simp; omega) fun r1 H2 h2 n2 => ⟨r1, rfl, ?_⟩
    have h3 : Holds (own 22 1 l (ps.map slv) :: own 3 1 r1 (iv (rest.take (ceilN rest.length (kk + 1)))) :: Holds (ps.map fun p => ints p.1 p.2) :: cs) H2 := h2.swap
    refine Holds.push ok24 h3 (m := 1) rfl rfl (by omega) fun l2 H4 h4 n4 => ⟨l2, rfl, by omega, by omega, rfl, ⟨ps ++ [(r1, rest.take (ceilN rest.length (kk + 1)))], rest.drop (ceilN rest.length (kk + 1)), ?_⟩, ?_⟩
    · rw [wrap64_id (by omega) (by omega)]
      have e1 : (n + 1).toNat = n.toNat + 1 := by omega
      refine ⟨by omega, by omega, by rw [e1]; simp [hps], ?_, fun A hA => ?_, by simp; omega, ?_⟩
      · rw [← eA, ek]
        have : mem.n - (n + 1).toNat = kk := by omega
        rw [this]
        simp [assignM]
      · have := (hp A hA).from_ (j := c) (by omega) (by have := (hp A hA).len; omega)
        rw [ect] at this; exact this
      · have h5 : Holds (ints r1 (rest.take (ceilN rest.length (kk + 1))) :: Holds (ps.map fun p => ints p.1 p.2) :: own 22 1 l2 (ps.map slv ++ [slv (r1, rest.take (ceilN rest.length (kk + 1)))]) :: cs) H4 :=
          (h4.perm ((List.Perm.swap _ _ _).trans ((List.Perm.swap _ _ _).cons _))).head fun A hA => Own.ints hA (by simp; omega)
        have h6 := Holds.more (f := fun p : Sl × List Int => ints p.1 p.2) (a := (r1, rest.take (ceilN rest.length (kk + 1)))) h5
        rw [List.map_append]
        exact h6.swap
    · rw [wrap64_id (by omega) (by omega)]; omega
  refine br_intro (fun q2 => ?_) (fun q2 => ?_)
  · have q2 : ¬ (dr : Int) = 0 := by simpa using q2
    rw [wrap64_id (n := (dq : Int) + 1) (by omega) (by omega)]
    exact step _ (by rw [hce, if_pos (by omega)]; omega)
  · have q2 : (dr : Int) = 0 := by simpa using q2
    exact step _ (by rw [hce, if_neg (by omega)]; omega)
end Go.Proofs.YtcbobncipnjbjaaDoor
