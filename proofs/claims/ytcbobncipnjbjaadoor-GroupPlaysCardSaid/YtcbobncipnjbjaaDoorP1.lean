/- Ranges for members, in plain Lean. -/
import Derived.Test.YtcbobncipnjbjaaDoorLRules
namespace Go.Proofs.YtcbobncipnjbjaaDoor
open Go.HL
set_option maxHeartbeats 800000
set_option maxRecDepth 10000

theorem ceilN_one (a : Nat) : ceilN a 1 = a := by
  unfold ceilN
  rw [Nat.div_one, Nat.mod_one]; simp
theorem assignM_flat : ∀ (k : Nat) (p : List Int), 0 < k → (assignM k p).flatten = p := by
  intro k
  induction k with
  | zero => intro p h; omega
  | succ k ih =>
    intro p _
    simp only [assignM, List.flatten_cons]
    rcases Nat.eq_zero_or_pos k with e | e
    · subst e
      rw [Nat.zero_add, ceilN_one, List.take_length]
      simp [assignM]
    · rw [ih _ e, List.take_append_drop]
theorem assignM_apart {k : Nat} {p : List Int} (hp : p.Nodup) (hk : 0 < k) : (assignM k p).Pairwise fun a b => ∀ x, x ∈ a → ∀ y, y ∈ b → x ≠ y :=
  (List.pairwise_flatten.1 (by rw [assignM_flat k p hk]; exact hp)).2
theorem owner_at {x : Grp} (hn : x.prt.Nodup) {k : Nat} (hk : k < x.mem.length) {p : Int} (hp : p ∈ (assignM x.mem.length x.prt).getD k []) : ownerM x p = x.mem.getD k 0 := by
  have hl := assignM_len x.mem.length x.prt
  have hk2 : k < (assignM x.mem.length x.prt).length := by rw [hl]; exact hk
  have ha := List.pairwise_iff_getElem.1 (assignM_apart (k := x.mem.length) hn (by omega))
  have e : (assignM x.mem.length x.prt).getD k [] = (assignM x.mem.length x.prt)[k] := by rw [List.getD, List.getElem?_eq_getElem hk2]; rfl
  rw [e] at hp
  unfold ownerM
  rw [ownerIn_drop (i := k) hl.symm fun j hj hpj => ?_]
  · rw [List.drop_eq_getElem_cons hk, List.drop_eq_getElem_cons hk2]
    simp only [ownerIn]
    rw [if_pos hp, List.getD, List.getElem?_eq_getElem hk]; rfl
  · have hj2 : j < (assignM x.mem.length x.prt).length := by omega
    have e2 : (assignM x.mem.length x.prt).getD j [] = (assignM x.mem.length x.prt)[j] := by rw [List.getD, List.getElem?_eq_getElem hj2]; rfl
    rw [e2] at hpj
    exact ha j k hj2 hk2 hj _ hpj _ hp rfl
theorem idx_at {l : List Int} (hn : l.Nodup) {k : Nat} (hk : k < l.length) : idxI l (l.getD k 0) = k := by
  have e : l.getD k 0 = l[k] := by rw [List.getD, List.getElem?_eq_getElem hk]; rfl
  have e2 : l = l.take k ++ l[k] :: l.drop (k + 1) := by rw [← List.drop_eq_getElem_cons hk, List.take_append_drop]
  have hn2 : (l.take k ++ l[k] :: l.drop (k + 1)).Nodup := by rw [← e2]; exact hn
  have h3 : l[k] ∉ l.take k := fun hm => by
    have := (List.pairwise_append.1 hn2).2.2 _ hm _ (List.mem_cons_self ..)
    exact this rfl
  rw [e]
  generalize l[k] = v at *
  conv => lhs; rw [e2]
  rw [idxI_at h3, List.length_take]
  omega
/-- The share of a member, by its place. -/
theorem of_at {x : Grp} (hn : x.mem.Nodup) {k : Nat} (hk : k < x.mem.length) : ofM x (x.mem.getD k 0) = (assignM x.mem.length x.prt).getD k [] := by
  unfold ofM
  rw [idx_at hn hk]; rfl
/-- 1, 2, .. -/
def up (n : Nat) : List Int := (List.range n).map fun i : Nat => (i : Int) + 1
theorem up_succ (n : Nat) : up (n + 1) = up n ++ [(n : Int) + 1] := by simp [up, List.range_succ]
theorem up_len (n : Nat) : (up n).length = n := by simp [up]
theorem up_nodup (n : Nat) : (up n).Nodup := by
  refine List.Pairwise.map _ (fun a b h => ?_) List.nodup_range
  intro e
  have : (a : Int) = b := by omega
  exact h (by omega)
/-- What GroupOwners keeps of its group. -/
structure Ok (x : Grp) (L : List Int) : Prop where
  nod : x.mem.Nodup
  le : ∀ m ∈ x.mem, m ≤ x.ever
  prt : x.mem ≠ [] → x.prt = L
theorem Ok.new (L : List Int) : Ok (theX [] gN) L := ⟨List.nodup_nil, fun m h => (by cases h), fun h => absurd rfl h⟩
def mA0 : Rec := ⟨1, 0, 0, 0, 0, gN, eN⟩
theorem Ok.join {G : List (ByteArray × Grp)} {L : List Int} (h : Ok (theX G gN) L) : Ok (theX (applyG G mA0 L) gN) L := by
  have e : applyG G mA0 L = if joinC G mA0 L = 0 then putL G gN (joinX (theX G gN) 0 L) else G := rfl
  rw [e]
  split
  · show Ok (theX (putL G gN _) gN) L
    rw [the_put]
    refine ⟨?_, ?_, fun _ => rfl⟩
    · show ((theX G gN).mem ++ [(theX G gN).ever + 1]).Nodup
      refine List.pairwise_append.2 ⟨h.nod, List.pairwise_singleton .., fun a ha b hb => ?_⟩
      simp only [List.mem_singleton] at hb
      have := h.le a ha
      omega
    · intro m hm
      show m ≤ (theX G gN).ever + 1
      have hm : m ∈ (theX G gN).mem ++ [(theX G gN).ever + 1] := hm
      rcases List.mem_append.1 hm with z | z
      · have := h.le m z; omega
      · simp only [List.mem_singleton] at z; omega
  · exact h
def mL0 (a : Int) : Rec := ⟨2, a, 0, 0, 0, gN, eN⟩
theorem Ok.leave {G : List (ByteArray × Grp)} {L : List Int} (h : Ok (theX G gN) L) (a : Int) : Ok (theX (applyG G (mL0 a) []) gN) L := by
  have e : applyG G (mL0 a) [] = if doesC G (mL0 a) = 0 then putL G gN (leaveG (theX G gN) a) else G := rfl
  rw [e]
  split
  · rw [the_put]
    refine ⟨List.Pairwise.filter _ h.nod, fun m hm => h.le m (List.mem_filter.1 hm).1, fun hne => h.prt fun e2 => hne ?_⟩
    show butI (theX G gN).mem a = []
    rw [e2]; rfl
  · exact h
def mS0 (a b : Int) : Rec := ⟨6, a, b, 0, 0, gN, eN⟩
theorem the_some {G : List (ByteArray × Grp)} (h : (theX G gN).mem ≠ []) : lookL G gN = some (theX G gN) := by
  unfold theX at h ⊢
  cases e : lookL G gN with
  | none => rw [e] at h; exact absurd rfl h
  | some x => rfl
theorem sync_same {G : List (ByteArray × Grp)} {ep a : Int} (h : a ∈ (theX G gN).mem) : applyG G (mS0 a (theX G gN).gen) [] = G ∧ applyT G ep (mS0 a (theX G gN).gen) [] = ⟨0, a, (theX G gN).gen, 0, ofM (theX G gN) a⟩ ∧ applyE ep (mS0 a (theX G gN).gen) = ep := by
  have hs := the_some (G := G) (fun e => by rw [e] at h; cases h)
  have hc : doesC G (mS0 a (theX G gN).gen) = 0 := by
    show (match lookL G gN with | none => (8 : Int) | some x => if (6 : Int) ≠ 4 ∧ a ∉ x.mem then 17 else if ((6 : Int) = 3 ∨ (6 : Int) = 6) ∧ (theX G gN).gen ≠ x.gen then 18 else 0) = 0
    rw [hs]
    show (if (6 : Int) ≠ 4 ∧ a ∉ (theX G gN).mem then (17 : Int) else if ((6 : Int) = 3 ∨ (6 : Int) = 6) ∧ (theX G gN).gen ≠ (theX G gN).gen then 18 else 0) = 0
    rw [if_neg (fun z => z.2 h), if_neg (fun z => z.2 rfl)]
  refine ⟨?_, ?_, rfl⟩
  · have e : applyG G (mS0 a (theX G gN).gen) [] = if doesC G (mS0 a (theX G gN).gen) = 0 then putL G gN (theX G gN) else G := rfl
    rw [e, if_pos hc, putL_self hs]
  · have e : applyT G ep (mS0 a (theX G gN).gen) [] = if doesC G (mS0 a (theX G gN).gen) = 0 then ⟨0, a, (theX G gN).gen, 0, ofM (theX G gN) a⟩ else errT (doesC G (mS0 a (theX G gN).gen)) := rfl
    rw [e, if_pos hc]
/-- Members, in memory of their own. -/
theorem gMembers2_spec {cs : List Chunk} {H : Heap} {g : Nat} {G : List (ByteArray × Grp)} {ep : Int} {n : ByteArray} {K : Value → Heap → Prop} (hs : AllSmall G) (h : Holds (grs g G ep :: cs) H) (k : ∀ (r : Sl) H', Holds (ints r (theX G n).mem :: grs g G ep :: cs) H' → K (.slice r.p r.n r.c) H') :
    FnH Tryd.prog 17 #[.pointer (some ⟨g, 0, none⟩), .string n] H K := by
  apply groups_Groups_Members_fn
  obtain ⟨mb, l, c1, c2, hm, -, ⟨e1, e2⟩ | ⟨b, x, e1, e2, hg⟩⟩ := ask (h.read 0 rfl grs_mono) n
  · have eX : (theX G n).mem = [] := by unfold theX; rw [e1]; rfl
    rw [eX] at k
    refine ⟨some mb, c1, runH_lookup1 u53 kstr z56 hm (k := n) ?_⟩
    rw [e2]; exact ⟨none, rfl, br_f rfl (k ⟨none, 0, 0⟩ H (Holds.intsNil h))⟩
  · have eX : theX G n = x := by unfold theX; rw [e1]; rfl
    rw [eX] at k
    have hsm := look_small hs e1
    obtain ⟨sm, sp, mo, mn, gi⟩ := grp_in hsm hg
    have := hsm.mem
    refine ⟨some mb, c1, runH_lookup1 u53 kstr z56 hm (k := n) ?_⟩
    rw [e2]
    exact ⟨_, rfl, br_t rfl (ptrm_intro rfl ⟨sm, gi.cell rfl, clone_spec h gi.mem (by omega) fun r H' h' n' => ⟨r, rfl, k r H' (h'.head fun A hA => own_ints hA (by omega))⟩⟩)⟩
end Go.Proofs.YtcbobncipnjbjaaDoor
