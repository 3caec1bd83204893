/- Entries (Term, Index, Data): in memory, held against one another, copied. -/
import Derived.Test.YtmneimfhcjkinaaDoorV3
import Derived.Test.YtmneimfhcjkinaaDoorHlLaw
import Derived.Laws.StructEq
namespace Go.Proofs.YtmneimfhcjkinaaDoor
open Go Go.HL
set_option maxHeartbeats 800000
set_option maxRecDepth 10000

abbrev En := Int × Int × ByteArray
abbrev eE : En → List Value := fun e => [.int .i64 e.1, .int .i64 e.2.1, .string e.2.2]
theorem eElen : ∀ a, (eE a).length = 3 := fun _ => rfl
theorem okEn : ElemOK Tryd.prog 31 43 3 := ElemOK.of (by kernel_rfl)
theorem noTups_eE (l : List En) : noTups (l.flatMap eE) = true := by
  induction l with
  | nil => rfl
  | cons a l ih => exact ih
abbrev ownE (s : Sl) (l : List En) : Chunk := own 43 3 s (l.flatMap eE)
theorem cellI_eq {x y : Int} {cs ds : Array Value} {o d : Nat} (hx : cs[o]? = some (.int .i64 x)) (hy : ds[o]? = some (.int .i64 y)) {β : Type} {f : Bool → Sem β} {H : Heap} {K : β → Prop} (k : runR Tryd.prog (f (x == y)) H K) :
    runR Tryd.prog (do let u ← part 3 cs o; let v ← part 3 ds o; let b ← Op.equalIn (d + 1) 3 u v; f b) H K := by
  have hp : ∀ {zs : Array Value} {z : Int} {K' : Value → Prop}, zs[o]? = some (.int .i64 z) → K' (.int .i64 z) → runR Tryd.prog (part 3 zs o) H K' := fun h k => by
    unfold part
    refine runR_bind (runR_isAgg Tryd.underlying3 ?_)
    have : isAggT Tryd.prog 3 = false := by kernel_rfl
    rw [this]
    simp only [Bool.false_eq_true, if_false, h]
    exact k
  refine runR_bind (hp hx ?_)
  refine runR_bind (hp hy ?_)
  refine runR_bind ?_
  unfold Op.equalIn
  refine runR_bind (runR_underlying Tryd.underlying3 ?_)
  exact k
theorem cellS_eq {x y : ByteArray} {cs ds : Array Value} {o d : Nat} (hx : cs[o]? = some (.string x)) (hy : ds[o]? = some (.string y)) {β : Type} {f : Bool → Sem β} {H : Heap} {K : β → Prop} (k : runR Tryd.prog (f (x == y)) H K) :
    runR Tryd.prog (do let u ← part 9 cs o; let v ← part 9 ds o; let b ← Op.equalIn (d + 1) 9 u v; f b) H K := by
  have hp : ∀ {zs : Array Value} {z : ByteArray} {K' : Value → Prop}, zs[o]? = some (.string z) → K' (.string z) → runR Tryd.prog (part 9 zs o) H K' := fun h k => by
    unfold part
    refine runR_bind (runR_isAgg Tryd.underlying9 ?_)
    have : isAggT Tryd.prog 9 = false := by kernel_rfl
    rw [this]
    simp only [Bool.false_eq_true, if_false, h]
    exact k
  refine runR_bind (hp hx ?_)
  refine runR_bind (hp hy ?_)
  refine runR_bind ?_
  unfold Op.equalIn
  refine runR_bind (runR_underlying Tryd.underlying9 ?_)
  exact k
theorem entry_same {a b : En} {H : Heap} {F : Bool → Prop} (kF : F (decide (a = b))) : runR Tryd.prog (Op.equal 43 (.agg #[.int .i64 a.1, .int .i64 a.2.1, .string a.2.2]) (.agg #[.int .i64 b.1, .int .i64 b.2.1, .string b.2.2])) H F := by
  obtain ⟨a1, a2, a3⟩ := a
  obtain ⟨b1, b2, b3⟩ := b
  have kF : ∀ r : Bool, r = decide (a1 = b1 ∧ a2 = b2 ∧ a3 = b3) → F r := fun r hr => by
    rw [hr]
    have : decide ((a1, a2, a3) = (b1, b2, b3)) = decide (a1 = b1 ∧ a2 = b2 ∧ a3 = b3) := by simp
    rw [← this]; exact kF
  unfold Op.equal Op.maxDepth Op.equalIn
  refine runR_bind (runR_underlying Tryd.underlying43 ?_)
  dsimp only
  have hs : Tryd.prog.stoodInHeld 43 = false := by kernel_rfl
  refine runR_bind ?_
  show runR Tryd.prog (if Tryd.prog.stoodInHeld 43 = true then _ else _) H F
  rw [hs]
  simp only [Bool.false_eq_true, if_false, List.forIn_toArray, List.forIn_cons, List.forIn_nil]
  simp only [ne_eq, String.reduceEq, not_false_eq_true, if_true]
  refine runR_bind (runR_bind (cellI_eq (d := 9998) rfl rfl ?_))
  by_cases e1 : a1 = b1
  case neg =>
    rw [show (a1 == b1) = false by simpa using e1]
    exact kF false (decide_eq_false (fun z => e1 z.1)).symm
  rw [show (a1 == b1) = true by simpa using e1]
  refine runR_bind (cellI_eq (d := 9998) rfl rfl ?_)
  by_cases e2 : a2 = b2
  case neg =>
    rw [show (a2 == b2) = false by simpa using e2]
    exact kF false (decide_eq_false (fun z => e2 z.2.1)).symm
  rw [show (a2 == b2) = true by simpa using e2]
  refine runR_bind (cellS_eq (d := 9998) rfl rfl ?_)
  rw [beq_toListBytes, str_eq]
  by_cases e3 : a3 = b3
  case neg =>
    rw [decide_eq_false e3]
    exact kF false (decide_eq_false (fun z => e3 z.2.2)).symm
  rw [decide_eq_true e3]
  exact kF true (decide_eq_true ⟨e1, e2, e3⟩).symm
theorem entry_ne {a b : En} {H : Heap} {K : Value → Prop} (k : K (.bool (!decide (a = b)))) : runR Tryd.prog (binOp .neq 43 (.agg #[.int .i64 a.1, .int .i64 a.2.1, .string a.2.2]) (.agg #[.int .i64 b.1, .int .i64 b.2.1, .string b.2.2])) H K := by
  show runR Tryd.prog (Op.equal 43 (.agg #[.int .i64 a.1, .int .i64 a.2.1, .string a.2.2]) (.agg #[.int .i64 b.1, .int .i64 b.2.1, .string b.2.2]) >>= fun b => pure (.bool (!b))) H K
  exact runR_bind (entry_same k)
theorem entry_eq {a b : En} {H : Heap} {K : Value → Prop} (k : K (.bool (decide (a = b)))) : runR Tryd.prog (binOp .eql 43 (.agg #[.int .i64 a.1, .int .i64 a.2.1, .string a.2.2]) (.agg #[.int .i64 b.1, .int .i64 b.2.1, .string b.2.2])) H K := by
  show runR Tryd.prog (Op.equal 43 (.agg #[.int .i64 a.1, .int .i64 a.2.1, .string a.2.2]) (.agg #[.int .i64 b.1, .int .i64 b.2.1, .string b.2.2]) >>= fun b => pure (.bool b)) H K
  exact runR_bind (entry_same k)
theorem list_eq_step {α : Type} [DecidableEq α] {a b : List α} {i : Nat} {x y : α} (hl : a.length = b.length) (h : a.take i = b.take i) (hx : a[i]? = some x) (hy : b[i]? = some y) : (x = y → a.take (i + 1) = b.take (i + 1)) ∧ (¬ x = y → ¬ a = b) := by
  obtain ⟨h1, h2⟩ := List.getElem?_eq_some_iff.1 hx
  obtain ⟨h3, h4⟩ := List.getElem?_eq_some_iff.1 hy
  refine ⟨fun e => by rw [List.take_succ_eq_append_getElem h1, List.take_succ_eq_append_getElem h3, h, h2, h4, e], fun e z => ?_⟩
  subst z
  rw [hx] at hy
  exact e (Option.some.inj hy)
section
variable {H : Heap} {K : Value → Heap → Prop}
theorem same_spec {s t : Sl} {a b : List En} (ha : Recs eE H s a) (hb : Recs eE H t b) (k : K (.bool (decide (a = b))) H) : FnH Tryd.prog 17 #[.slice s.p s.n s.c, .slice t.p t.n t.c] H K := by
  apply logboomlaw9_same_fn
  unfold logboomlaw9_same_vc
  have hl := ha.len
  have hl2 := hb.len
  have hbg := ha.big
  refine br_intro (fun q => ?_) (fun q => ?_)
  · have q : ¬ ((s.n : Nat) : Int) = t.n := by simpa using q
    rw [decide_eq_false (fun e => q (by rw [hl, hl2, e]))] at k; exact k
  have q : ((s.n : Nat) : Int) = t.n := by simpa using q
  have hll : a.length = b.length := by omega
  refine ⟨fun i H1 => H1 = H ∧ 0 ≤ i ∧ i ≤ s.n ∧ a.take i.toNat = b.take i.toNat, fun i _ => (s.n - i).toNat, ⟨rfl, Int.le_refl _, by omega, by simp⟩, ?_⟩
  rintro i H1 ⟨rfl, i0, i1, he⟩
  refine br_intro (fun w => ?_) (fun w => ?_)
  · have w := of_decide_eq_true w
    obtain ⟨q1, o1, x, x1, x2, x3⟩ := ha.at_ eElen (by decide) i0 w
    obtain ⟨q2, o2, y, y1, y2, y3⟩ := hb.at_ eElen (by decide) (j := i) i0 (by omega)
    have hst := list_eq_step hll he x2 y2
    rw [wrap64_id (n := i + 1) (by omega) (by omega)]
    refine ⟨q1, o1, x1, i0, w, _, x3 0 _ rfl, _, x3 1 _ rfl, _, x3 2 _ rfl, q2, o2, y1, i0, by omega, _, y3 0 _ rfl, _, y3 1 _ rfl, _, y3 2 _ rfl, entry_ne ⟨_, rfl, br_intro (fun u => ?_) (fun u => ?_)⟩⟩
    · have u : ¬ x = y := by simpa using u
      rw [decide_eq_false (hst.2 u)] at k; exact k
    · have u : x = y := by simpa using u
      exact ⟨rfl, ⟨rfl, by omega, by omega, by rw [show (i + 1).toNat = i.toNat + 1 by omega]; exact hst.1 u⟩, by dsimp only; omega⟩
  · have w := of_decide_eq_false w
    rw [List.take_of_length_le (by omega), List.take_of_length_le (by omega)] at he
    rw [decide_eq_true he] at k; exact k
theorem eclone_spec {cs : List Chunk} {s : Sl} {l : List En} (h : HL.Holds cs H) (hR : Recs eE H s l) (hb : l.length ≤ 1000000) (k : ∀ (r : Sl) H', HL.Sub H H' → HL.Holds (ownE r l :: cs) H' → K (.slice r.p r.n r.c) H') : FnH Tryd.prog 32 #[.slice s.p s.n s.c] H K := by
  apply slices_Clone_Lapi_Entry_api_Entry_fn
  unfold slices_Clone_Lapi_Entry_api_Entry_vc
  have hl := hR.len
  refine br_intro (fun q => ?_) (fun q => ?_)
  · have hp : s.p = none := Option.isNone_iff_eq_none.1 q
    have e0 : l = [] := by
      cases l with
      | nil => rfl
      | cons a l =>
        have := hR.cells 0 (by simp)
        obtain ⟨b, o, e1, -⟩ := this
        rw [hp] at e1; cases e1
    subst e0
    exact k ⟨none, 0, 0⟩ H (HL.Sub.refl _) (h.own_nil 43 3)
  · have hW := Holds.whole H
    intro q1 hq1
    refine letH_intro fun H1 g1 => ?_
    have s1 : HL.Sub H H1 := by rw [g1]; exact HL.Sub.new hq1 _
    have h1 : HL.Holds [blk q1 (.cells #[] 43 (0, 0)), ro H] H1 := by rw [g1]; exact hW.add hq1 _
    have h2 : HL.Holds [own 43 3 ⟨some ⟨q1, 0, none⟩, 0, 0⟩ [], ro H] H1 := h1.head fun A hA => ⟨by simp, Nat.le_refl _, .inr ⟨q1, #[], rfl, hA, by simp, fun i hi => by simp at hi⟩⟩
    refine Holds.append (s := ⟨some ⟨q1, 0, none⟩, 0, 0⟩) okEn okEn.under h2 (hR.cells.sub s1) (by rw [flat_len eElen, hl]) (noTups_eE _) (by show 0 + s.n ≤ _; omega) fun r H' h' n' => ⟨r, rfl, k r H' (h'.sub 1 rfl) ?_⟩
    have h3 : HL.Holds (HL.Holds cs :: [ownE r l]) H' := (h'.swap.head (d := HL.Holds cs) fun A hA => h.up hA)
    exact ((Holds.flat.1 h3).perm List.perm_append_comm)
end
end Go.Proofs.YtmneimfhcjkinaaDoor
