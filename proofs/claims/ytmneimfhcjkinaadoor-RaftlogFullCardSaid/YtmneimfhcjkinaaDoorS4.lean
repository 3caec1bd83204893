/- Chapter 9: From; right. -/
import Derived.Test.YtmneimfhcjkinaaDoorS3
namespace Go.Proofs.YtmneimfhcjkinaaDoor
open Go Go.HL
set_option maxHeartbeats 1600000
set_option maxRecDepth 10000

def fromX (st : RS) (i m : Int) : List En := if atX st i = none ∨ m < 1 then [] else (st.l.drop (i - st.index - 1).toNat).take m.toNat
/-- What is wrong with an entry: 0 nothing, 1 its numbers, 2 its length. -/
def enC (after : Int) (i : Nat) (p : Option En) (x : En) : Int := if x.2.1 ≠ after + 1 + i ∨ x.2.1 > 1000000000 ∨ ¬ (1 ≤ x.1 ∧ x.1 ≤ 1000000000) ∨ (∃ y, p = some y ∧ x.1 < y.1) then 1 else if x.2.2.size > 2048 then 2 else 0
def rightX (after : Int) : Nat → Option En → List En → Int
  | _, _, [] => 0
  | i, p, x :: l => if enC after i p x ≠ 0 then enC after i p x else rightX after (i + 1) (some x) l
theorem nd_t {p : Prop} [Decidable p] (h : (!decide p) = true) : ¬ p := fun z => by rw [decide_eq_true z] at h; cases h
theorem nd_f {p : Prop} [Decidable p] (h : (!decide p) = false) : p := Decidable.byContradiction fun z => by rw [decide_eq_false z] at h; cases h
section
variable {cs : List Chunk} {H : Heap} {K : Value → Heap → Prop}
theorem from9_spec {c d i : Nat} {st : RS} {x m : Int} (h : HL.Holds cs H) (ei : cs[i]? = some (lgc c d st)) (hl : st.l.length ≤ 100000) (h0 : 0 ≤ st.index) (h1 : st.index ≤ 1000000000) (hx : x ≤ 9223372036854775807)
    (k : ∀ (r : Sl) H', HL.Sub H H' → HL.Holds (ownE r (fromX st x m) :: cs) H' → K (.slice r.p r.n r.c) H') : FnH Tryd.prog 14 #[.pointer (some ⟨c, 0, none⟩), .int .i64 x, .int .i64 m] H K := by
  apply raftlog_state_From_fn
  unfold raftlog_state_From_vc
  have nil : fromX st x m = [] → K (.slice none 0 0) H := fun e => by
    rw [e] at k
    exact k ⟨none, 0, 0⟩ H (HL.Sub.refl _) (h.own_nil 43 3)
  obtain ⟨s, hc⟩ := h.read i ei lgc_mono
  have hR := lgc_recs hl hc
  have hn := hR.len
  have hcap := hR.cap
  have c5 : cellH H ⟨c, 0 + 5, none⟩ = some (.slice s.p s.n s.c) := hc.cell 0 rfl rfl
  refine at9_spec h ei hl h0 h1 hx (fun e => ⟨_, _, _, _, rfl, br_t rfl (nil ?_)⟩) fun e he => ⟨_, _, _, _, rfl, br_f rfl (br_intro (fun q => nil ?_) (fun q => ⟨s, c5, _, hc.cell 0 rfl rfl, ?_⟩))⟩
  · unfold fromX; rw [if_pos (.inl e)]
  · have q := of_decide_eq_true q
    unfold fromX; rw [if_pos (.inr q)]
  have q := of_decide_eq_false q
  unfold fromX at k
  rw [if_neg (by rintro (z | z); (rw [he] at z; cases z); exact q z)] at k
  have hi : ¬ x ≤ st.index := fun z => by unfold atX at he; rw [if_pos z] at he; cases he
  have hj : (x - st.index - 1).toNat < st.l.length := by
    unfold atX at he; rw [if_neg hi] at he
    exact (List.getElem?_eq_some_iff.1 he).1
  rw [wrap64_id (n := x - st.index) (by omega) (by omega), wrap64_id (n := x - st.index - 1) (by omega) (by omega)]
  have hkk : ∃ kk : Int, x - st.index - 1 = kk := ⟨_, rfl⟩
  obtain ⟨kk, hkk⟩ := hkk
  rw [hkk] at hj k ⊢
  have hmm : ∃ mm : Int, (if ((Int.toNat (((s.n : Nat) : Int) - kk) : Nat) : Int) < m then ((Int.toNat (((s.n : Nat) : Int) - kk) : Nat) : Int) else m) = mm := ⟨_, rfl⟩
  obtain ⟨mm, hmm⟩ := hmm
  rw [hmm]
  have hf := hR.from_ eElen (j := kk) (by omega) (by omega)
  have m0 : 0 ≤ mm := by rw [← hmm]; split <;> omega
  have m1 : mm ≤ ((s.from_ kk 3).n : Int) := by
    show mm ≤ ((Int.toNat (((s.n : Nat) : Int) - kk) : Nat) : Int)
    rw [← hmm]; split <;> omega
  have hu := hf.upto eElen (j := mm) m0 m1
  have em : (st.l.drop kk.toNat).take mm.toNat = (st.l.drop kk.toNat).take m.toNat := by
    rw [← hmm]
    split
    · rw [List.take_of_length_le (by rw [List.length_drop]; omega), List.take_of_length_le (by rw [List.length_drop]; omega)]
    · rfl
  rw [em] at hu
  exact ⟨by omega, by omega, by omega, by omega, eclone_spec (s := (s.from_ kk 3).upto mm 3) h hu (by rw [List.length_take, List.length_drop]; omega) fun r H' s' h' => ⟨r, rfl, k r H' s' h'⟩⟩
theorem right9_spec {s : Sl} {l : List En} {after : Int} (h : Recs eE H s l) (ha : 0 ≤ after) (hb : after ≤ 1000000000) (hl : l.length ≤ 1000000) (k : K (.int .i64 (rightX after 0 none l)) H) : FnH Tryd.prog 34 #[.int .i64 after, .slice s.p s.n s.c] H K := by
  apply raftlog_right_fn
  unfold raftlog_right_vc
  have hn := h.len
  refine ⟨fun i H' => H' = H ∧ 0 ≤ i ∧ i ≤ s.n ∧ rightX after 0 none l = rightX after i.toNat (if i = 0 then none else l[(i - 1).toNat]?) (l.drop i.toNat), fun i _ => (s.n - i).toNat, ⟨rfl, Int.le_refl _, by omega, rfl⟩, ?_⟩
  rintro i H1 ⟨rfl, i0, i1, he⟩
  refine br_intro (fun w => ?_) (fun w => ?_)
  · have w := of_decide_eq_true w
    obtain ⟨q, o, x, x1, x2, x3⟩ := h.at_ eElen (by decide) i0 w
    have hx := (List.getElem?_eq_some_iff.1 x2)
    obtain ⟨hx1, hx2⟩ := hx
    rw [List.drop_eq_getElem_cons hx1, hx2] at he
    obtain ⟨p, hp⟩ : ∃ p, (if i = 0 then none else l[(i - 1).toNat]?) = p := ⟨_, rfl⟩
    rw [hp] at he
    have ew : IntKind.wrap .i64 (IntKind.wrap .i64 (after + 1) + i) = after + 1 + i := by
      rw [wrap64_id (n := after + 1) (by omega) (by omega)]
      exact wrap64_id (by omega) (by omega)
    rw [ew, wrap64_id (n := i + 1) (by omega) (by omega)]
    have t1 : (i + 1).toNat = i.toNat + 1 := by omega
    have t2 : (i + 1 - 1).toNat = i.toNat := by omega
    have t3 : ¬ i + 1 = 0 := by omega
    have t4 : 0 ≤ i + 1 := by omega
    have t5 : i + 1 ≤ s.n := by omega
    have t6 : ((s.n : Int) - (i + 1)).toNat < ((s.n : Int) - i).toNat := by omega
    -- the entry's own test
    refine ⟨q, o, x1, i0, w, _, x3 0 _ rfl, _, x3 1 _ rfl, _, x3 2 _ rfl, fun b H' => H' = H1 ∧ (b = true ↔ (x.2.1 ≠ after + 1 + (i.toNat : Nat) ∨ x.2.1 > 1000000000 ∨ ¬ (1 ≤ x.1 ∧ x.1 ≤ 1000000000) ∨ (∃ y, p = some y ∧ x.1 < y.1))), ?_, ?_⟩
    · have hi : ((i.toNat : Nat) : Int) = i := by omega
      rw [hi]
      refine br_intro (fun u => ⟨rfl, rfl, ?_⟩) (fun u => br_intro (fun u2 => ⟨rfl, rfl, ?_⟩) (fun u2 => ?_))
      · have u : ¬ x.2.1 = after + 1 + i := by simpa using u
        exact ⟨fun _ => .inl u, fun _ => rfl⟩
      · exact ⟨fun _ => .inr (.inl (of_decide_eq_true u2)), fun _ => rfl⟩
      · have u : x.2.1 = after + 1 + i := by simpa using u
        have u2 := of_decide_eq_false u2
        apply raftlog_within_fn
        unfold raftlog_within_vc
        refine br_intro (fun v => ⟨_, rfl, HL.Sub.refl _, br_intro (fun v2 => ⟨rfl, rfl, ?_⟩) (fun v2 => br_intro (fun v3 => ?_) (fun v3 => ⟨rfl, rfl, ?_⟩))⟩) (fun v => ⟨_, rfl, HL.Sub.refl _, br_t rfl ⟨rfl, rfl, ?_⟩⟩)
        · have v2 : ¬ x.1 ≤ 1000000000 := nd_t v2
          exact ⟨fun _ => .inr (.inr (.inl fun z => v2 z.2)), fun _ => rfl⟩
        · have v := of_decide_eq_true v
          have v2 : x.1 ≤ 1000000000 := nd_f v2
          have v3 := of_decide_eq_true v3
          rw [wrap64_id (n := i - 1) (by omega) (by omega)]
          obtain ⟨q', o', y, y1, y2, y3⟩ := h.at_ eElen (by decide) (j := i - 1) (by omega) (by omega)
          rw [if_neg (by omega), y2] at hp
          refine ⟨q', o', y1, by omega, by omega, _, y3 0 _ rfl, rfl, rfl, ?_⟩
          rw [← hp, decide_eq_true_eq]
          constructor
          · intro z; exact .inr (.inr (.inr ⟨y, rfl, z⟩))
          · rintro (z | z | z | ⟨y', z1, z2⟩)
            · exact absurd u z
            · exact absurd z u2
            · exact absurd ⟨v, v2⟩ z
            · cases z1; exact z2
        · have v := of_decide_eq_true v
          have v2 : x.1 ≤ 1000000000 := nd_f v2
          have v3 := of_decide_eq_false v3
          rw [if_pos (by omega)] at hp
          rw [← hp]
          constructor
          · intro z; cases z
          · rintro (z | z | z | ⟨y', z1, z2⟩)
            · exact absurd u z
            · exact absurd z u2
            · exact absurd ⟨v, v2⟩ z
            · cases z1
        · have v := of_decide_eq_false v
          exact ⟨fun _ => .inr (.inr (.inl fun z => v z.1)), fun _ => rfl⟩
    · rintro b H3 ⟨rfl, hbb⟩
      have hc : rightX after i.toNat p (x :: l.drop (i.toNat + 1)) = if enC after i.toNat p x ≠ 0 then enC after i.toNat p x else rightX after (i.toNat + 1) (some x) (l.drop (i.toNat + 1)) := rfl
      rw [hc] at he
      refine br_intro (fun u => ?_) (fun u => br_intro (fun u2 => ?_) (fun u2 => ⟨rfl, ⟨rfl, t4, t5, ?_⟩, t6⟩))
      · have e1 : enC after i.toNat p x = 1 := by unfold enC; rw [if_pos (hbb.1 u)]
        rw [e1, if_pos (by decide)] at he
        rw [he] at k; exact k
      · have u2 := of_decide_eq_true u2
        have e1 : enC after i.toNat p x = 2 := by
          unfold enC
          rw [if_neg (fun z => by rw [hbb.2 z] at u; cases u), if_pos (by clear hbb; omega)]
        rw [e1, if_pos (by decide)] at he
        rw [he] at k; exact k
      · have u2 := of_decide_eq_false u2
        have e1 : enC after i.toNat p x = 0 := by
          unfold enC
          rw [if_neg (fun z => by rw [hbb.2 z] at u; cases u), if_neg (by clear hbb; omega)]
        rw [e1, if_neg (by decide)] at he
        rw [he, t1, if_neg t3, t2, x2]
  · have w := of_decide_eq_false w
    rw [List.drop_eq_nil_of_le (by omega)] at he
    have e0 : ∀ p, rightX after i.toNat p [] = 0 := fun _ => rfl
    rw [he, e0] at k; exact k
end
end Go.Proofs.YtmneimfhcjkinaaDoor
