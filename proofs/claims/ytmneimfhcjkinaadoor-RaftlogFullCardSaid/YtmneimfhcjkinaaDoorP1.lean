/- Chapter 9: what every call keeps. -/
import Derived.Test.YtmneimfhcjkinaaDoorS7
namespace Go.Proofs.YtmneimfhcjkinaaDoor
open Go Go.HL
set_option maxHeartbeats 1600000
set_option maxRecDepth 10000

theorem dsk_room {cs : List Chunk} {H : Heap} {d : Nat} {size : Int} {F : Fs} (h : HL.Holds (dsk d size F :: cs) H) : useF F ≤ size ∧ size ≤ 16777216 := by
  obtain ⟨mb, fs, ⟨hB, -⟩, -⟩ := dsk_open.1 h
  exact ⟨hB.use, hB.s1⟩
theorem from_all {st : RS} (h : st.l.length ≤ 1000000) : fromX st (st.index + 1) 1000000 = st.l := by
  have e : st.index + 1 - st.index - 1 = 0 := by omega
  have n : ¬ st.index + 1 ≤ st.index := by omega
  unfold fromX atX
  rw [if_neg n, e]
  cases hl : st.l with
  | nil => rw [if_pos (.inl rfl)]
  | cons x l =>
    rw [if_neg (by rintro (z | z); (cases z); omega)]
    rw [hl] at h
    exact List.take_of_length_le h
theorem StR.crash {F : Fs} {st : RS} (h : StR F st) (L : List Int) : StR (crashF L F) st := by
  obtain ⟨a, b, c, rfl, h⟩ := h
  rw [crash_mk]
  exact ⟨a, b, c, rfl, h⟩
/-- The last term is not above the entries' first. -/
def UpS (st : RS) : Prop := ∀ x, st.l[0]? = some x → st.snapped ≤ x.1
def st0 : RS := ⟨0, 0, 0, 0, ⟨#[]⟩, []⟩
theorem StR.zero : StR [] st0 := ⟨none, none, none, rfl, .inl ⟨rfl, rfl⟩, .inl ⟨rfl, rfl, rfl, rfl⟩, .inl ⟨rfl, rfl, rfl⟩⟩
theorem StOk.zero : StOk st0 := ⟨⟨by decide, by decide⟩, ⟨by decide, by decide⟩, ⟨by decide, by decide⟩, by decide, ⟨fun x hx => (by cases hx), fun i x hx => (by cases hx), fun i x y hx => (by cases hx)⟩, by decide⟩
theorem UpS.zero : UpS st0 := fun x hx => by cases hx
/-- Turn. -/
theorem turn_keeps {size : Int} {F : Fs} {st : RS} (t v : Int) (hS : StR F st) (hG : StOk st) : StR (turnX size F st t v).2.1 (turnX size F st t v).2.2 ∧ StOk (turnX size F st t v).2.2 ∧
    (turnX size F st t v).2.2.l = st.l ∧ (turnX size F st t v).2.2.index = st.index ∧ (turnX size F st t v).2.2.snapped = st.snapped ∧
    st.term ≤ (turnX size F st t v).2.2.term ∧ ((turnX size F st t v).2.2.term = st.term → st.vote ≠ 0 → (turnX size F st t v).2.2.vote = st.vote) := by
  unfold turnX
  split
  · exact ⟨hS, hG, rfl, rfl, rfl, Int.le_refl _, fun _ _ => rfl⟩
  rename_i q
  split
  · exact ⟨hS, hG, rfl, rfl, rfl, Int.le_refl _, fun _ _ => rfl⟩
  rename_i q1
  split
  · exact ⟨hS, hG, rfl, rfl, rfl, Int.le_refl _, fun _ _ => rfl⟩
  split
  · exact ⟨hS, hG, rfl, rfl, rfl, Int.le_refl _, fun _ _ => rfl⟩
  rename_i q3
  have q : inX t 0 ∧ inX v 0 := Decidable.byContradiction q
  obtain ⟨a, b, c, rfl, ha, hb, hc⟩ := hS
  obtain ⟨r1, r2⟩ := rep_term size a b c (termB t v)
  split
  · rename_i u
    rw [r1] at u
    rw [r2]
    split at u
    · rename_i z
      rw [if_pos z]
      exact ⟨⟨a, b, c, rfl, ha, hb, hc⟩, hG, rfl, rfl, rfl, Int.le_refl _, fun _ _ => rfl⟩
    · exact absurd rfl u
  · rename_i u
    rw [r1] at u
    rw [r2]
    split at u
    · exact absurd (by decide) u
    · rename_i z
      rw [if_neg z]
      refine ⟨⟨a, b, some (termB t v), rfl, ha, hb, .inr rfl⟩, ⟨q.1, q.2, hG.index, hG.data, hG.good, hG.len⟩, rfl, rfl, rfl, ?_, fun e n => absurd ⟨e, n⟩ q3⟩
      show st.term ≤ t
      omega
theorem GoodL.drop {index : Int} {l : List En} (h : GoodL index l) (k : Nat) : GoodL (index + k) (l.drop k) := by
  refine ⟨fun x hx => h.ok x (List.mem_of_mem_drop hx), fun i x hx => ?_, fun i x y hx hy => ?_⟩
  · rw [List.getElem?_drop] at hx
    have := h.idx _ _ hx
    omega
  · rw [List.getElem?_drop] at hx hy
    exact h.up _ _ _ hx hy
theorem GoodL.nil (index : Int) : GoodL index [] := ⟨fun x hx => (by cases hx), fun i x hx => (by simp at hx), fun i x y hx => (by simp at hx)⟩
theorem GoodL.mono {index : Int} {l : List En} (h : GoodL index l) : ∀ {j : Nat} {i : Nat} {x y : En}, l[i]? = some x → l[i + j]? = some y → x.1 ≤ y.1
  | 0, i, x, y, hx, hy => by rw [Nat.add_zero, hx] at hy; cases hy; exact Int.le_refl _
  | j + 1, i, x, y, hx, hy => by
    have hlt := (List.getElem?_eq_some_iff.1 hy).1
    obtain ⟨z, hz⟩ : ∃ z, l[i + j]? = some z := ⟨l[i + j], List.getElem?_eq_getElem (by omega)⟩
    exact Int.le_trans (h.mono hx hz) (h.up _ _ _ hz hy)
/-- Snap. -/
theorem snap_keeps {size : Int} {F : Fs} {st : RS} (i t : Int) (data : ByteArray) (hS : StR F st) (hG : StOk st) (hU : UpS st) (hu : useF F ≤ size) : StR (snapX size F st i t data).2.1 (snapX size F st i t data).2.2 ∧ StOk (snapX size F st i t data).2.2 ∧ UpS (snapX size F st i t data).2.2 ∧
    (snapX size F st i t data).2.2.l.length ≤ st.l.length ∧ (snapX size F st i t data).2.2.term = st.term ∧ (snapX size F st i t data).2.2.vote = st.vote := by
  unfold snapX
  split
  · exact ⟨hS, hG, hU, Nat.le_refl _, rfl, rfl⟩
  rename_i q
  split
  · exact ⟨hS, hG, hU, Nat.le_refl _, rfl, rfl⟩
  rename_i q1
  split
  · exact ⟨hS, hG, hU, Nat.le_refl _, rfl, rfl⟩
  rename_i q2
  split
  · exact ⟨hS, hG, hU, Nat.le_refl _, rfl, rfl⟩
  rename_i q3
  have q : inX i 1 ∧ inX t 1 := Decidable.byContradiction q
  obtain ⟨a, b, c, rfl, ha, hb, hc⟩ := hS
  obtain ⟨r1, r2⟩ := rep_snap size a b c (snapB i t data)
  split
  · rename_i u
    rw [r1] at u
    rw [r2]
    split at u
    · rename_i z
      rw [if_pos z]
      exact ⟨⟨a, b, c, rfl, ha, hb, hc⟩, hG, hU, Nat.le_refl _, rfl, rfl⟩
    · exact absurd rfl u
  · rename_i u
    rw [r1] at u
    rw [r2]
    split at u
    · exact absurd (by decide) u
    rename_i z
    rw [if_neg z]
    have hlen := leftX_len st i t
    obtain ⟨⟨x0, x1⟩, y0, y1⟩ := q
    have hgood : GoodL i (leftX st i t) ∧ (∀ x, (leftX st i t)[0]? = some x → t ≤ x.1) ∧ ∃ k, leftX st i t = [] ∨ leftX st i t = st.l.drop k := by
      unfold leftX
      split
      · rename_i e he
        split
        · rename_i et
          have hg := hG.good.drop (i - st.index).toNat
          have ei : st.index + ((i - st.index).toNat : Nat) = i := by omega
          rw [ei] at hg
          refine ⟨hg, fun x hx => ?_, _, .inr rfl⟩
          rw [List.getElem?_drop] at hx
          unfold atX at he
          rw [if_neg q2] at he
          have e2 : (i - st.index).toNat + 0 = (i - st.index - 1).toNat + 1 := by omega
          rw [e2] at hx
          have := hG.good.up _ _ _ he hx
          omega
        · exact ⟨GoodL.nil _, fun x hx => by simp at hx, 0, .inl rfl⟩
      · exact ⟨GoodL.nil _, fun x hx => by simp at hx, 0, .inl rfl⟩
    obtain ⟨g1, g2, kk, g3⟩ := hgood
    have hl2 := hG.len
    have hok : StOk { st with index := i, snapped := t, data := data, l := leftX st i t } := ⟨hG.term, hG.vote, ⟨by show (0 : Int) ≤ i; omega, x1⟩, by show data.size ≤ 60000; omega, g1, by show (leftX st i t).length ≤ _; omega⟩
    refine ⟨?_, hok, g2, hlen, rfl, rfl⟩
    unfold logF
    have hlk := look_log a (some (snapB i t data)) c
    rcases ha with ⟨rfl, e⟩ | rfl
    · have hlk : lookL (mkF none (some (snapB i t data)) c) nLog = none := hlk
      rw [if_pos hlk]
      refine ⟨none, _, c, rfl, .inl ⟨rfl, ?_⟩, .inr ⟨rfl, ⟨x0, x1⟩, y0, y1⟩, hc⟩
      show leftX st i t = []
      exact List.eq_nil_of_length_eq_zero (by rw [e] at hlen; simpa using hlen)
    · rw [if_neg (by rw [hlk]; simp)]
      obtain ⟨w1, w2⟩ := rep_log size (some (strN (st.l.flatMap entN))) (some (snapB i t data)) c (strN ((leftX st i t).flatMap entN))
      have hle : (strN ((leftX st i t).flatMap entN)).size ≤ (strN (st.l.flatMap entN)).size := by
        rw [strN_size (ents_bytes _), strN_size (ents_bytes _)]
        rcases g3 with g3 | g3
        · rw [g3]; simp
        · rw [g3]
          have e : st.l.flatMap entN = (st.l.take kk).flatMap entN ++ (st.l.drop kk).flatMap entN := by rw [← List.flatMap_append, List.take_append_drop]
          rw [e, List.length_append]; omega
      have e1 : sz (some (snapB i t data)) = ((snapB i t data).size : Int) := rfl
      have e2 : sz (some (strN (st.l.flatMap entN))) = ((strN (st.l.flatMap entN)).size : Int) := rfl
      rw [e2] at z
      rw [w2, if_neg (by rw [e1]; omega)]
      exact ⟨_, _, c, rfl, .inr rfl, .inr ⟨rfl, ⟨x0, x1⟩, y0, y1⟩, hc⟩
/-- Put. -/
theorem put_keeps {room : Int} {st : RS} {after : Int} {l2 : List En} (hG : StOk st) (hlen : st.l.length + l2.length ≤ 100000) (hU : UpS st) : StOk (putX room st after l2).2 ∧ UpS (putX room st after l2).2 ∧ (putX room st after l2).2.l.length ≤ st.l.length + l2.length ∧
    (putX room st after l2).2.term = st.term ∧ (putX room st after l2).2.vote = st.vote := by
  unfold putX
  split
  · exact ⟨hG, hU, Nat.le_add_right _ _, rfl, rfl⟩
  rename_i q
  split
  · exact ⟨hG, hU, Nat.le_add_right _ _, rfl, rfl⟩
  rename_i q1
  split
  · exact ⟨hG, hU, Nat.le_add_right _ _, rfl, rfl⟩
  rename_i x r hD
  split
  · exact ⟨hG, hU, Nat.le_add_right _ _, rfl, rfl⟩
  rename_i q3
  split
  · exact ⟨hG, hU, Nat.le_add_right _ _, rfl, rfl⟩
  have q1 : rightX after 0 none l2 = 0 := Decidable.byContradiction q1
  have hp := putAt hG q q1 hD
  have hg := hp.good hG.good q3
  have hle := hp.le
  have hpl := hp.len
  have hl : (st.l.take (x.2.1 - st.index - 1).toNat ++ x :: r).length ≤ st.l.length + l2.length := by rw [List.length_append, List.length_take]; omega
  refine ⟨⟨hG.term, hG.vote, hG.index, hG.data, hg, Nat.le_trans hl hlen⟩, fun y hy => ?_, hl, rfl, rfl⟩
  have hy : (st.l.take (x.2.1 - st.index - 1).toNat ++ x :: r)[0]? = some y := hy
  show st.snapped ≤ y.1
  by_cases e : (x.2.1 - st.index - 1).toNat = 0
  · rw [e, List.take_zero, List.nil_append] at hy
    simp only [List.getElem?_cons_zero, Option.some.injEq] at hy
    subst hy
    unfold aheadX at q3
    rw [if_pos e] at q3
    omega
  · rw [List.getElem?_append_left (by rw [List.length_take]; omega), List.getElem?_take, if_pos (by omega)] at hy
    exact hU y hy
end Go.Proofs.YtmneimfhcjkinaaDoor
