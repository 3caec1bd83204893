/- Chapter 8: what is written is read, what is read was written. -/
import Derived.Test.YtkabaoigablphaaW5
import Derived.Test.YtkabaoigablphaaHlAssoc
namespace Go.Proofs.Ytkabaoigablphaa
open Go Go.HL
set_option maxRecDepth 10000

def Chain : Nt → List Nt → Prop
  | _, [] => True
  | was, x :: l => NtOk was x ∧ Chain x l
def KeysOk : Int → Tb → Prop
  | _, [] => True
  | last, p :: T => (last < p.1 ∧ p.1 ≤ 1000000000 ∧ p.2 ≠ [] ∧ Chain was0 p.2) ∧ KeysOk p.1 T
theorem encL_cons (n : Int) (L : List Int) : encL (n :: L) = encN n ++ encL L := rfl
theorem rd1 {n : Int} (h : i64B n) (r : List Nat) : (readN (encN n ++ r)).1 = n ∧ (readN (encN n ++ r)).2.2 = 0 ∧ rest (encN n ++ r) = r := by
  have e := read_enc h.1 h.2 r
  unfold rest
  rw [e]
  refine ⟨rfl, rfl, ?_⟩
  have : Int.toNat ((encN n).length : Int) = (encN n).length := by omega
  dsimp only
  rw [this, List.drop_left]
theorem rd2 {l : List Nat} (hl : ∀ b ∈ l, b < 256) (h : (readN l).2.2 = 0) : l = encN (readN l).1 ++ rest l := by
  obtain ⟨r, h1, h2, -⟩ := read_ok (n := (readN l).1) (k := (readN l).2.1) hl (by rw [← h])
  unfold rest
  rw [h2]
  have : Int.toNat ((encN (readN l).1).length : Int) = (encN (readN l).1).length := by omega
  rw [this]
  conv => lhs; rw [h1]
  congr 1
  conv => rhs; rw [h1]
  rw [List.drop_left']
  rw [← h1]
theorem ntI4 (x : Nt) (r : List Nat) : encL (ntI x) ++ r = encN x.1 ++ (encN x.2.1 ++ (encN x.2.2.1 ++ (encN x.2.2.2 ++ r))) := by
  simp [encL, ntI]
theorem nt_rd {x : Nt} (h : ∀ n ∈ ntI x, i64B n) (r : List Nat) : ntGood (encL (ntI x) ++ r) ∧ ntR (encL (ntI x) ++ r) = x ∧ rest4 (encL (ntI x) ++ r) = r := by
  rw [ntI4]
  obtain ⟨a1, a2, a3⟩ := rd1 (n := x.1) (h _ (by simp [ntI])) (encN x.2.1 ++ (encN x.2.2.1 ++ (encN x.2.2.2 ++ r)))
  obtain ⟨b1, b2, b3⟩ := rd1 (n := x.2.1) (h _ (by simp [ntI])) (encN x.2.2.1 ++ (encN x.2.2.2 ++ r))
  obtain ⟨c1, c2, c3⟩ := rd1 (n := x.2.2.1) (h _ (by simp [ntI])) (encN x.2.2.2 ++ r)
  obtain ⟨d1, d2, d3⟩ := rd1 (n := x.2.2.2) (h _ (by simp [ntI])) r
  unfold ntGood ntR rest4
  rw [a3, b3, c3, d3, a1, b1, c1, d1, a2, b2, c2, d2]
  exact ⟨⟨rfl, rfl, rfl, rfl⟩, rfl, rfl⟩
theorem nt_rd2 {l : List Nat} (hl : ∀ b ∈ l, b < 256) (h : ntGood l) : l = encL (ntI (ntR l)) ++ rest4 l := by
  obtain ⟨h1, h2, h3, h4⟩ := h
  rw [ntI4]
  have e1 := rd2 hl h1
  have e2 := rd2 (rest_bytes hl) h2
  have e3 := rd2 (rest_bytes (rest_bytes hl)) h3
  have e4 := rd2 (rest_bytes (rest_bytes (rest_bytes hl))) h4
  show l = encN (readN l).1 ++ (encN (readN (rest l)).1 ++ (encN (readN (rest (rest l))).1 ++ (encN (readN (rest (rest (rest l)))).1 ++ rest (rest (rest (rest l))))))
  rw [← e4, ← e3, ← e2, ← e1]
theorem ok_i64 {was x : Nt} (h : NtOk was x) : ∀ n ∈ ntI x, i64B n := by
  obtain ⟨h1, h2, h3, h4, h5, -⟩ := h
  intro n hn
  simp only [ntI, List.mem_cons, List.not_mem_nil, or_false] at hn
  unfold i64B
  rcases hn with rfl | rfl | rfl | rfl <;> omega
theorem notesR_ok : ∀ {n : Nat} {was : Nt} {l : List Nat} {N : List Nt} {r : List Nat}, (∀ b ∈ l, b < 256) → notesR n was l = some (N, r) → l = encL (N.flatMap ntI) ++ r ∧ N.length = n ∧ Chain was N := by
  intro n
  induction n with
  | zero =>
    intro was l N r _ h
    simp only [notesR, Option.some.injEq, Prod.mk.injEq] at h
    obtain ⟨rfl, rfl⟩ := h
    exact ⟨rfl, rfl, trivial⟩
  | succ n ih =>
    intro was l N r hl h
    rw [notesR_succ] at h
    split at h
    · rename_i g
      obtain ⟨q, hq, e⟩ := Option.map_eq_some_iff.1 h
      simp only [Prod.mk.injEq] at e
      obtain ⟨rfl, rfl⟩ := e
      obtain ⟨i1, i2, i3⟩ := ih (N := q.1) (r := q.2) (rest_bytes (rest_bytes (rest_bytes (rest_bytes hl)))) hq
      refine ⟨?_, by rw [List.length_cons, i2], g.2, i3⟩
      rw [List.flatMap_cons, encL_app, List.append_assoc, ← i1]
      exact nt_rd2 hl g.1
    · cases h
theorem notesR_enc : ∀ {N : List Nt} {was : Nt} (r : List Nat), Chain was N → notesR N.length was (encL (N.flatMap ntI) ++ r) = some (N, r) := by
  intro N
  induction N with
  | nil => intro was r _; rfl
  | cons x N ih =>
    intro was r h
    rw [List.length_cons, notesR_succ, List.flatMap_cons, encL_app, List.append_assoc]
    obtain ⟨g1, g2, g3⟩ := nt_rd (ok_i64 h.1) (encL (N.flatMap ntI) ++ r)
    rw [g2, g3, if_pos ⟨g1, h.1⟩, ih r h.2]; rfl
theorem rowI_enc (p : Int × List Nt) (r : List Nat) : encL (rowI p) ++ r = encN p.1 ++ (encN (p.2.length : Int) ++ (encL (p.2.flatMap ntI) ++ r)) := by
  have : rowI p = p.1 :: (p.2.length : Int) :: p.2.flatMap ntI := rfl
  rw [this, encL_cons, encL_cons]; simp
theorem tabR_ok : ∀ {m : Nat} {last : Int} {l : List Nat} {T : Tb} {r : List Nat}, (∀ b ∈ l, b < 256) → tabR m last l = some (T, r) → l = encL (T.flatMap rowI) ++ r ∧ T.length = m ∧ KeysOk last T := by
  intro m
  induction m with
  | zero =>
    intro last l T r _ h
    simp only [tabR, Option.some.injEq, Prod.mk.injEq] at h
    obtain ⟨rfl, rfl⟩ := h
    exact ⟨rfl, rfl, trivial⟩
  | succ m ih =>
    intro last l T r hl h
    rw [tabR_succ] at h
    split at h
    · rename_i g
      obtain ⟨g1, g2, g3, g4, g5⟩ := g
      split at h
      · cases h
      · rename_i N hN
        obtain ⟨q, hq, e⟩ := Option.map_eq_some_iff.1 h
        simp only [Prod.mk.injEq] at e
        obtain ⟨rfl, rfl⟩ := e
        have hl2 := rest_bytes (rest_bytes hl)
        obtain ⟨i1, i2, i3⟩ := notesR_ok (N := N.1) (r := N.2) hl2 hN
        have hl3 : ∀ b ∈ N.2, b < 256 := fun b hb => hl2 b (by rw [i1]; exact List.mem_append_right _ hb)
        obtain ⟨j1, j2, j3⟩ := ih (T := q.1) (r := q.2) hl3 hq
        refine ⟨?_, by rw [List.length_cons, j2], ⟨g3, g4, fun e => ?_, i3⟩, j3⟩
        · rw [List.flatMap_cons, encL_app, List.append_assoc, ← j1, rowI_enc]
          dsimp only
          have e5 : ((N.1.length : Nat) : Int) = (readN (rest l)).1 := by rw [i2]; omega
          rw [e5, ← i1, ← rd2 (rest_bytes hl) g2, ← rd2 hl g1]
        · dsimp only at e
          rw [e] at i2
          simp only [List.length_nil] at i2
          omega
    · cases h
theorem tabR_enc : ∀ {T : Tb} {last : Int} (r : List Nat), 0 ≤ last → KeysOk last T → (∀ p ∈ T, p.2.length ≤ 100000000) → tabR T.length last (encL (T.flatMap rowI) ++ r) = some (T, r) := by
  intro T
  induction T with
  | nil => intro last r _ _ _; rfl
  | cons p T ih =>
    intro last r h0 h hs
    have hp := hs p List.mem_cons_self
    obtain ⟨⟨h1, h2, h3, h4⟩, h5⟩ := h
    rw [List.length_cons, tabR_succ, List.flatMap_cons, encL_app, List.append_assoc, rowI_enc]
    obtain ⟨a1, a2, a3⟩ := rd1 (n := p.1) (by unfold i64B; omega) (encN (p.2.length : Int) ++ (encL (p.2.flatMap ntI) ++ (encL (T.flatMap rowI) ++ r)))
    obtain ⟨b1, b2, b3⟩ := rd1 (n := (p.2.length : Int)) (by unfold i64B; omega) (encL (p.2.flatMap ntI) ++ (encL (T.flatMap rowI) ++ r))
    have hne : 0 < p.2.length := List.length_pos_iff.2 h3
    rw [if_pos (by unfold keyOk; rw [a3, a1, a2, b1, b2]; exact ⟨rfl, rfl, h1, h2, by omega⟩), a3, b3, b1, a1]
    have e : Int.toNat (p.2.length : Int) = p.2.length := by omega
    rw [e, notesR_enc _ h4]
    dsimp only
    rw [ih r (by omega) h5 fun q hq => hs q (List.mem_cons_of_mem _ hq)]; rfl
theorem loadM_ok {l : List Nat} {T : Tb} (hl : ∀ b ∈ l, b < 256) (h : loadM l = some T) : l = encL (bodyI T) ∧ KeysOk 0 T := by
  unfold loadM at h
  split at h
  · rename_i g
    cases e : tabR (readN l).1.toNat 0 (rest l) with
    | none => rw [e] at h; cases h
    | some q =>
      obtain ⟨T2, r⟩ := q
      rw [e] at h
      cases r with
      | cons a r => cases h
      | nil =>
        have h : some T2 = some T := h
        obtain rfl := Option.some.inj h
        obtain ⟨i1, i2, i3⟩ := tabR_ok (rest_bytes hl) e
        rw [List.append_nil] at i1
        refine ⟨?_, i3⟩
        have e1 : bodyI T2 = (T2.length : Int) :: T2.flatMap rowI := rfl
        have e2 : ((T2.length : Nat) : Int) = (readN l).1 := by rw [i2]; omega
        rw [e1, encL_cons, ← i1, e2]
        exact rd2 hl g.1
  · cases h
theorem loadM_enc {T : Tb} (h : KeysOk 0 T) (hs : ∀ p ∈ T, p.2.length ≤ 100000000) (hT : T.length ≤ 100000000) : loadM (encL (bodyI T)) = some T := by
  have e1 : encL (bodyI T) = encN (T.length : Int) ++ (encL (T.flatMap rowI) ++ []) := by rw [List.append_nil]; rfl
  obtain ⟨a1, a2, a3⟩ := rd1 (n := (T.length : Int)) (by unfold i64B; omega) (encL (T.flatMap rowI) ++ [])
  unfold loadM
  rw [e1, a1, a2, a3, if_pos ⟨rfl, by omega⟩]
  have e : Int.toNat (T.length : Int) = T.length := by omega
  rw [e, tabR_enc _ (Int.le_refl _) h hs]; rfl
/-- What stands in the rows is written as it is. -/
theorem KeysOk.sorted : ∀ {T : Tb} {last : Int}, KeysOk last T → T.Pairwise (fun p q => p.1 < q.1) ∧ ∀ p ∈ T, last < p.1 := by
  intro T
  induction T with
  | nil => intro last _; exact ⟨List.Pairwise.nil, by simp⟩
  | cons p T ih =>
    intro last h
    obtain ⟨h1, h2⟩ := ih h.2
    refine ⟨List.pairwise_cons.2 ⟨h2, h1⟩, fun q hq => ?_⟩
    rcases List.mem_cons.1 hq with rfl | hq
    · exact h.1.1
    · have := h2 q hq; have := h.1.1; omega
theorem KeysOk.keys {T : Tb} {last : Int} (h : KeysOk last T) : (T.map Prod.fst).Nodup := by
  refine List.Pairwise.imp (R := fun a b : Int => a < b) (fun h => by omega) ?_
  exact List.pairwise_map.2 h.sorted.1
theorem sortT_id {T : Tb} {last : Int} (h : KeysOk last T) : sortT T = T := by
  have hs : (T.map Prod.fst).Pairwise fun a b => decide (a ≤ b) = true := List.pairwise_map.2 (h.sorted.1.imp fun h => decide_eq_true (by omega))
  have e : keysS T = T.map Prod.fst := List.mergeSort_of_pairwise hs
  unfold sortT
  rw [e, List.map_map]
  refine List.ext_getElem? fun i => ?_
  rw [List.getElem?_map]
  cases hi : T[i]? with
  | none => rfl
  | some p =>
    have hm := List.mem_of_getElem? hi
    have := (lookL_iff h.keys (k := p.1) (v := p.2)).2 hm
    show some (p.1, (lookL T p.1).getD []) = some p
    rw [this]; rfl
theorem Chain.wf : ∀ {N : List Nt} {was : Nt}, Chain was N → ∀ x ∈ N, ∀ n ∈ ntI x, i64B n := by
  intro N
  induction N with
  | nil => intro was _ x hx; simp at hx
  | cons a N ih =>
    intro was h x hx
    rcases List.mem_cons.1 hx with rfl | hx
    · exact ok_i64 h.1
    · exact ih h.2 x hx
theorem KeysOk.wf : ∀ {T : Tb} {last : Int}, 0 ≤ last → KeysOk last T → WfT T := by
  intro T
  induction T with
  | nil => intro last _ _ p hp; simp at hp
  | cons a T ih =>
    intro last h0 h p hp
    have h1 := h.1
    rcases List.mem_cons.1 hp with rfl | hp
    · exact ⟨by unfold i64B; omega, Chain.wf h1.2.2.2⟩
    · exact ih (by omega) h.2 p hp
end Go.Proofs.Ytkabaoigablphaa
