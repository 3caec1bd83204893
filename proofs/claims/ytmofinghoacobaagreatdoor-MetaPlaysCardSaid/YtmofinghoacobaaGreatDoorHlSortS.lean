import Derived.Test.YtmofinghoacobaaGreatDoorHlSorted
namespace Go.HL
open Go Go.RowKit
set_option linter.unusedVariables false
theorem FnH.of_rowS {P : Program} {f : FuncId} {args : Array Value} {e sz : Nat} {S : List Value → Prop} {cs : List Chunk} {H : Heap} {K : Value → Heap → Prop} (h : Holds cs H)
    (hs : ∀ R w, HL.Fit H R w → Calls P f args w fun en w' => ∃ (v : Value) (n : Nat) (xs : List Value), en = .returned v ∧ S xs ∧ w'.ownsRow w.heap.size e sz v n xs ∧ Below w.heap.size w w')
    (k : ∀ (s : Sl) xs H', HL.Sub H H' → S xs → Holds (HL.own e sz s xs :: cs) H' → K (.slice s.p s.n s.c) H') : FnH P f args H K := by
  intro R w hf
  refine (hs R w hf).mono ?_
  rintro en w' ⟨v, n, xs, rfl, hS, ⟨hl, hv⟩, hb⟩
  have keep : ∀ b o, w.heap[b]? = some o → w'.heap[b]? = some o := fun b o h => by
    rw [hb.block _ (Array.getElem?_eq_some_iff.1 h).1]; exact h
  rcases hv with ⟨rfl, hn⟩ | ⟨g, cap, cur, rfl, hg, hw, hc1, hc2, hc3, hc4⟩
  · have e0 : xs = [] := List.length_eq_zero_iff.1 (by rw [hl, hn, Nat.zero_mul])
    subst e0
    exact ⟨_, H, rfl, ⟨fun b o h => keep b o (hf.own b o h), fun b o h => keep b o (hf.rest b o h), hf.apart⟩, ⟨hb.os, hb.tape, hb.output, hb.size⟩, k ⟨none, 0, 0⟩ [] H (HL.Sub.refl _) hS (h.own_nil e sz)⟩
  · have hlt : ∀ b o, w.heap[b]? = some o → b ≠ g := fun b o h => by
      have := (Array.getElem?_eq_some_iff.1 h).1; omega
    have hgH : H g = none := by
      cases q : H g with
      | none => rfl
      | some o => exact absurd rfl (hlt g o (hf.own g o q))
    refine ⟨_, H.upd g (.cells cur e (0, 0)), rfl, ⟨fun b o h => ?_, fun b o h => keep b o (hf.rest b o h), fun b o h => ?_⟩, ⟨hb.os, hb.tape, hb.output, hb.size⟩, k ⟨some ⟨g, 0, none⟩, n, cap⟩ xs _ (HL.Sub.new hgH _) hS ((h.add hgH (.cells cur e (0, 0))).head fun A hA => ?_)⟩
    · by_cases q : b = g
      · subst q; rw [Heap.upd_same] at h; rw [← h]; exact hw
      · rw [Heap.upd_ne _ _ q] at h; exact keep b o (hf.own b o h)
    · rw [Heap.upd_ne _ _ (hlt b o (hf.rest b o h))]; exact hf.apart b o h
    · subst hc4
      refine ⟨hl, hc1, .inr ⟨g, cur, rfl, hA, hc3, fun i hi => ?_⟩⟩
      rw [List.getElem_take, ← Array.getElem?_toList, List.getElem?_eq_getElem]
section
variable {κ : Type}
theorem sortedInt_fnS {P : Program} {fs g T kt : Nat} (hkt : P.underlying kt = some (.int .i64))
    (hkeys : ∀ (Bm b nn : Nat) (D0 : DataW Unit) (w : World), Bm < w.heap.size → w.cell? ⟨Bm, 0, none⟩ = some (.map (some b)) → w.ownsMap P kt anyR b nn D0 → SeqGives Fence.wide 2 P g #[.pointer (some ⟨Bm, 0, none⟩)] encZ (fun ss => ss.Perm (intKeys D0)) (Maps.size D0) w)
    (hsorted : ∀ (lb : Array Value) (S : List Int → Prop) (N : Nat) (w : World), N ≤ maxLen → N * 8 ≤ 140737488355328 → SeqGives Fence.wide 2 P g lb encZ S N w → Calls P fs #[.func (.func g) #[] lb] w fun e w' => ∃ (v : Value) (ss : List Int), e = .returned v ∧ S ss ∧
      w'.ownsRow w.heap.size kt 1 v ss.length ((ss.mergeSort (fun x y => decide (x ≤ y))).map encZ) ∧ (v = .slice none 0 0 ↔ ss = []) ∧ Below w.heap.size w w')
    {cs : List Chunk} {H : Heap} {q b : Nat} {l : List (Int × Value)} {K : Value → Heap → Prop} (h : Holds cs H) (hq0 : H q = some (.cells #[.map (some b)] T (0, 0))) (hm0 : MapR H b (fun n : Int => Value.int .i64 n) l) (hn : (l.map Prod.fst).Nodup) (hlen : l.length ≤ 268435456)
    (hwf : ∀ x ∈ l.map Prod.fst, -9223372036854775808 ≤ x ∧ x ≤ 9223372036854775807)
    (k : ∀ (s : Sl) H', HL.Sub H H' → Holds (HL.own kt 1 s (((l.map Prod.fst).mergeSort fun x y => decide (x ≤ y)).map (Value.int .i64)) :: cs) H' → K (.slice s.p s.n s.c) H') :
    FnH P fs #[.func (.func g) #[] #[.pointer (some ⟨q, 0, none⟩)]] H K := by
  refine FnH.of_rowS (S := fun xs => xs = ((l.map Prod.fst).mergeSort fun x y => decide (x ≤ y)).map (Value.int .i64)) (e := kt) (sz := 1) h (fun R w hf => ?_) fun s xs H' hs hxs h' => k s H' hs (by rw [← hxs]; exact h')
  obtain ⟨o, hb, ho⟩ := hm0
  have hw := hf.own _ _ hb
  have hq := hf.own _ _ hq0
  have hml : maxLen = 9223372036854775807 := rfl
  obtain ⟨D0, hown, es, rfl, hp⟩ := ownsMap_of (P := P) (kt := kt) (lit := fun n => Lit.int .i64 n) hw ho hn (fun x y e => by simpa using e) (fun x hx => by
    refine Go.Maps.keyOf_int_mk hkt ?_
    obtain ⟨h1, h2⟩ := hwf x hx
    have e2 : (Lit.int .i64 x).wf = (decide (-9223372036854775808 ≤ x) && decide (x ≤ 9223372036854775807)) := rfl
    rw [e2, decide_eq_true h1, decide_eq_true h2]; rfl) (by rw [hml]; omega)
  have hsz : Maps.size (DataW.map es) = l.length := by
    have := hp.length_eq
    simp only [List.length_map] at this
    exact this
  have hc : w.cell? ⟨q, 0, none⟩ = some (.map (some b)) := by simp [World.cell?, hq]
  have hqs : q < w.heap.size := (Array.getElem?_eq_some_iff.1 hq).1
  refine (hsorted _ _ _ w (by rw [hsz, hml]; omega) (by rw [hsz]; omega) (hkeys q b _ _ w hqs hc hown)).mono ?_
  rintro e w' ⟨v, ss, rfl, hS, hrow, -, hbl⟩
  refine ⟨v, _, _, rfl, ?_, hrow, hbl⟩
  have hk : (intKeys (DataW.map es)).Perm (l.map Prod.fst) := by
    have := hp.map intOf
    rw [List.map_map, List.map_map] at this
    have e3 : (l.map Prod.fst).map (intOf ∘ fun n => Lit.int .i64 n) = l.map Prod.fst := by
      have : (intOf ∘ fun n => Lit.int .i64 n) = id := rfl
      rw [this, List.map_id]
    rw [e3] at this
    exact this
  rw [mergeSort_of_perm_i (hS.trans hk)]
end
end Go.HL
