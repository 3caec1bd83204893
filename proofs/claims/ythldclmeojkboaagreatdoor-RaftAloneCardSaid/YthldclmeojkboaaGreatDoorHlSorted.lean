import Derived.Test.YthldclmeojkboaaGreatDoorHlRow
import Derived.Shelf.SlIterI.Nil
import Derived.Shelf.SlIter.Nil
namespace Go.HL
open Go Go.RowKit
set_option linter.unusedVariables false
theorem FnH.of_row {P : Program} {f : FuncId} {args : Array Value} {e sz : Nat} {S : List Value → Prop} {cs : List Chunk} {H : Heap} {K : Value → Heap → Prop} (h : Holds cs H)
    (hs : ∀ R w, HL.Fit H R w → Calls P f args w fun en w' => ∃ (v : Value) (n : Nat) (xs : List Value), en = .returned v ∧ S xs ∧ w'.ownsRow w.heap.size e sz v n xs ∧ Below w.heap.size w w')
    (k : ∀ (s : Sl) xs H', S xs → Holds (HL.own e sz s xs :: cs) H' → K (.slice s.p s.n s.c) H') : FnH P f args H K := by
  intro R w hf
  refine (hs R w hf).mono ?_
  rintro en w' ⟨v, n, xs, rfl, hS, ⟨hl, hv⟩, hb⟩
  have keep : ∀ b o, w.heap[b]? = some o → w'.heap[b]? = some o := fun b o h => by
    rw [hb.block _ (Array.getElem?_eq_some_iff.1 h).1]; exact h
  rcases hv with ⟨rfl, hn⟩ | ⟨g, cap, cur, rfl, hg, hw, hc1, hc2, hc3, hc4⟩
  · have e0 : xs = [] := List.length_eq_zero_iff.1 (by rw [hl, hn, Nat.zero_mul])
    subst e0
    exact ⟨_, H, rfl, ⟨fun b o h => keep b o (hf.own b o h), fun b o h => keep b o (hf.rest b o h), hf.apart⟩, ⟨hb.os, hb.tape, hb.output, hb.size⟩, k ⟨none, 0, 0⟩ [] H hS (h.own_nil e sz)⟩
  · have hlt : ∀ b o, w.heap[b]? = some o → b ≠ g := fun b o h => by
      have := (Array.getElem?_eq_some_iff.1 h).1; omega
    have hgH : H g = none := by
      cases q : H g with
      | none => rfl
      | some o => exact absurd rfl (hlt g o (hf.own g o q))
    refine ⟨_, H.upd g (.cells cur e (0, 0)), rfl, ⟨fun b o h => ?_, fun b o h => keep b o (hf.rest b o h), fun b o h => ?_⟩, ⟨hb.os, hb.tape, hb.output, hb.size⟩, k ⟨some ⟨g, 0, none⟩, n, cap⟩ xs _ hS ((h.add hgH (.cells cur e (0, 0))).head fun A hA => ?_)⟩
    · by_cases q : b = g
      · subst q; rw [Heap.upd_same] at h; rw [← h]; exact hw
      · rw [Heap.upd_ne _ _ q] at h; exact keep b o (hf.own b o h)
    · rw [Heap.upd_ne _ _ (hlt b o (hf.rest b o h))]; exact hf.apart b o h
    · subst hc4
      refine ⟨hl, hc1, .inr ⟨g, cur, rfl, hA, hc3, fun i hi => ?_⟩⟩
      rw [List.getElem_take, ← Array.getElem?_toList, List.getElem?_eq_getElem]
theorem FnH.of_alloc {P : Program} {f : FuncId} {args : Array Value} {o : Obj} {v : Nat → Value} {cs : List Chunk} {H : Heap} {K : Value → Heap → Prop} (h : Holds cs H)
    (hs : ∀ R w, HL.Fit H R w → Calls P f args w fun e w' => e = .returned (v w.heap.size) ∧ w' = w.alloc o) (k : ∀ q H', HL.Sub H H' → Holds (blk q o :: cs) H' → K (v q) H') : FnH P f args H K := by
  intro R w hf
  refine (hs R w hf).mono ?_
  rintro e w' ⟨rfl, rfl⟩
  have hlt : ∀ b o, w.heap[b]? = some o → b ≠ w.heap.size := fun b o h => by
    have := (Array.getElem?_eq_some_iff.1 h).1; omega
  have hgH : H w.heap.size = none := by
    cases q : H w.heap.size with
    | none => rfl
    | some o => exact absurd rfl (hlt _ o (hf.own _ o q))
  have hb : Below w.heap.size w (w.alloc o) := (Below.refl _ w).alloc (Nat.le_refl _) _
  have keep : ∀ b' o', w.heap[b']? = some o' → (w.alloc o).heap[b']? = some o' := fun b' o h => by
    rw [hb.block _ (Array.getElem?_eq_some_iff.1 h).1]; exact h
  refine ⟨_, H.upd w.heap.size o, rfl, ⟨fun b' o' h => ?_, fun b' o h => keep b' o (hf.rest b' o h), fun b' o h => ?_⟩, ⟨hb.os, hb.tape, hb.output, hb.size⟩, k _ _ (HL.Sub.new hgH _) (h.add hgH _)⟩
  · by_cases q : b' = w.heap.size
    · subst q; rw [Heap.upd_same] at h; rw [← h]
      show (w.heap.push _)[w.heap.size]? = _
      exact Array.getElem?_push_size
    · rw [Heap.upd_ne _ _ q] at h; exact keep b' o' (hf.own b' o' h)
  · rw [Heap.upd_ne _ _ (hlt b' o (hf.rest b' o h))]; exact hf.apart b' o h
theorem keys_fn {P : Program} {fk g T b : Nat} (hK : ∀ w, Calls P fk #[.map (some b)] w fun e w' => e = .returned (.func (.func g) #[] #[.pointer (some ⟨w.heap.size, 0, none⟩)]) ∧ w' = w.alloc (.cells #[.map (some b)] T))
    {cs : List Chunk} {H : Heap} {K : Value → Heap → Prop} (h : Holds cs H) (k : ∀ q H', Holds (blk q (.cells #[.map (some b)] T (0, 0)) :: cs) H' → K (.func (.func g) #[] #[.pointer (some ⟨q, 0, none⟩)]) H') : FnH P fk #[.map (some b)] H K :=
  FnH.of_alloc (v := fun q => .func (.func g) #[] #[.pointer (some ⟨q, 0, none⟩)]) h (fun _ w _ => hK w) fun q H' _ h' => k q H' h'
section
variable {κ : Type}
abbrev anyR : Value → Option (DataW Unit × List MemPlace) := fun _ => some (.nil, [])
theorem ownsMap_of {P : Program} {kt : TypeId} {enc : κ → Value} {lit : κ → Lit} {w : World} {b : Nat} {l : List (κ × Value)} {o : Obj} (hw : w.heap[b]? = some o) (ho : MapO o enc l) (hn : (l.map Prod.fst).Nodup) (hinj : ∀ x y, enc x = enc y → x = y)
    (hkey : ∀ x ∈ l.map Prod.fst, keyOf P kt (enc x) = some (lit x)) (hlen : l.length ≤ maxLen) :
    ∃ D0 : DataW Unit, w.ownsMap P kt anyR b l.length D0 ∧ ∃ es, D0 = .map es ∧ (es.map Prod.fst).Perm ((l.map Prod.fst).map lit) := by
  obtain ⟨es, clock, rfl, h2, h3⟩ := ho
  have hsz : es.size = l.length := by
    have := congrArg List.length h2
    simpa [kvs, encs] using this
  have hkeys : es.toList.map (·.key) = (l.map Prod.fst).map enc := by
    have := congrArg (List.map Prod.fst) h2
    simpa [kvs, encs, Function.comp_def] using this
  have hrd : ∀ x ∈ es.toList, ∃ a ∈ l.map Prod.fst, x.key = enc a := fun x hx => by
    have : x.key ∈ es.toList.map (·.key) := List.mem_map.2 ⟨x, hx, rfl⟩
    rw [hkeys] at this
    obtain ⟨a, ha, e⟩ := List.mem_map.1 this
    exact ⟨a, ha, e.symm⟩
  have hfit : Go.WideElems.Fit P kt anyR es clock := ⟨by rw [hsz]; exact hlen, by
    refine (Go.MapKept.stamped_iff _ _).2 ⟨h3.2, h3.1, ?_⟩
    have : (es.toList.map (·.key)).Pairwise (· ≠ ·) := by
      rw [hkeys]
      exact List.pairwise_map.2 (List.Pairwise.imp (fun {a b} hab e => hab (hinj _ _ e)) hn)
    exact List.pairwise_map.1 this, fun x hx => by
      obtain ⟨a, ha, e⟩ := hrd x hx
      refine ⟨(lit a, .nil), ?_⟩
      unfold Go.WideElems.rd
      rw [e, hkey a ha]; rfl⟩
  refine ⟨_, ⟨es, clock, hw, hfit, by omega, rfl⟩, _, rfl, ?_⟩
  refine ((Go.WideShapes.sorted_perm _).map Prod.fst).trans ?_
  have : (es.toList.map (Go.WideElems.rg P kt anyR)).map Prod.fst = (l.map Prod.fst).map lit := by
    rw [List.map_map]
    have e2 : ∀ (xs : List MapEntry) (ks : List κ), xs.map (·.key) = ks.map enc → (∀ a ∈ ks, a ∈ l.map Prod.fst) → xs.map (Prod.fst ∘ Go.WideElems.rg P kt anyR) = ks.map lit := by
      intro xs
      induction xs with
      | nil => intro ks h _; cases ks with
        | nil => rfl
        | cons a ks => simp at h
      | cons x xs ih =>
        intro ks h hm
        cases ks with
        | nil => simp at h
        | cons a ks =>
          simp only [List.map_cons, List.cons.injEq] at h
          rw [List.map_cons, List.map_cons, ih ks h.2 fun c hc => hm c (List.mem_cons_of_mem _ hc)]
          congr 1
          show (Go.WideElems.rg P kt anyR x).1 = lit a
          unfold Go.WideElems.rg Go.WideElems.rd
          rw [h.1, hkey a (hm a List.mem_cons_self)]; rfl
    exact e2 _ _ hkeys fun a ha => ha
  rw [this]
theorem sortedStr_fn {P : Program} {fs g T kt : Nat} (hkt : P.underlying kt = some .string)
    (hkeys : ∀ (Bm b nn : Nat) (D0 : DataW Unit) (w : World), Bm < w.heap.size → w.cell? ⟨Bm, 0, none⟩ = some (.map (some b)) → w.ownsMap P kt anyR b nn D0 → SeqGives Fence.wide 2 P g #[.pointer (some ⟨Bm, 0, none⟩)] Go.Proofs.encStr (fun ss => ss.Perm (strKeys D0)) (Maps.size D0) w)
    (hsorted : ∀ (lb : Array Value) (S : List (List UInt8) → Prop) (N : Nat) (w : World), N ≤ maxLen → N * 16 ≤ 140737488355328 → SeqGives Fence.wide 2 P g lb Go.Proofs.encStr S N w → Calls P fs #[.func (.func g) #[] lb] w fun e w' => ∃ (v : Value) (ss : List (List UInt8)), e = .returned v ∧ S ss ∧
      w'.ownsRow w.heap.size kt 1 v ss.length ((ss.mergeSort (fun x y => decide (x ≤ y))).map Go.Proofs.encStr) ∧ (v = .slice none 0 0 ↔ ss = []) ∧ Below w.heap.size w w')
    {cs : List Chunk} {H : Heap} {q b : Nat} {l : List (ByteArray × Value)} {K : Value → Heap → Prop} (h : Holds (blk q (.cells #[.map (some b)] T (0, 0)) :: mp b (fun s : ByteArray => Value.string s) l :: cs) H) (hn : (l.map Prod.fst).Nodup) (hlen : l.length ≤ 268435456)
    (hwf : ∀ x ∈ l.map Prod.fst, x.size ≤ 9223372036854775807)
    (k : ∀ (s : Sl) H', Holds (HL.own kt 1 s ((((l.map Prod.fst).map fun x => x.data.toList).mergeSort fun x y => decide (x ≤ y)).map Go.Proofs.encStr) :: mp b (fun s : ByteArray => Value.string s) l :: cs) H' → K (.slice s.p s.n s.c) H') :
    FnH P fs #[.func (.func g) #[] #[.pointer (some ⟨q, 0, none⟩)]] H K := by
  refine FnH.of_row (S := fun xs => xs = (((l.map Prod.fst).map fun x => x.data.toList).mergeSort fun x y => decide (x ≤ y)).map Go.Proofs.encStr) (e := kt) (sz := 1) h.tail (fun R w hf => ?_) fun s xs H' hxs h' => k s H' (by rw [← hxs]; exact h')
  obtain ⟨o, hb, ho⟩ := h.map 1 rfl
  have hw := hf.own _ _ hb
  have hq := hf.own _ _ (h.get 0 rfl)
  have hml : maxLen = 9223372036854775807 := rfl
  obtain ⟨D0, hown, es, rfl, hp⟩ := ownsMap_of (P := P) (kt := kt) (lit := fun s : ByteArray => Lit.string s.data.toList) hw ho hn (fun x y e => by simpa using e) (fun x hx => Go.WideMaps.keyOf_string_mk hkt (by rw [hml]; exact hwf x hx)) (by rw [hml]; omega)
  have hsz : Maps.size (DataW.map es) = l.length := by
    have := hp.length_eq
    simp only [List.length_map] at this
    exact this
  have hc : w.cell? ⟨q, 0, none⟩ = some (.map (some b)) := by simp [World.cell?, hq]
  have hqs : q < w.heap.size := (Array.getElem?_eq_some_iff.1 hq).1
  refine (hsorted _ _ _ w (by rw [hsz, hml]; omega) (by rw [hsz]; omega) (hkeys q b _ _ w hqs hc hown)).mono ?_
  rintro e w' ⟨v, ss, rfl, hS, hrow, -, hbl⟩
  refine ⟨v, _, _, rfl, ?_, hrow, hbl⟩
  have hk : (strKeys (DataW.map es)).Perm ((l.map Prod.fst).map fun x => x.data.toList) := by
    have := hp.map strOf
    rw [List.map_map, List.map_map] at this
    exact this
  rw [mergeSort_of_perm (hS.trans hk)]
end
end Go.HL
