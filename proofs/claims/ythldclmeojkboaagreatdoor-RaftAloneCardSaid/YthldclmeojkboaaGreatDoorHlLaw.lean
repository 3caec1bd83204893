import Derived.Test.YthldclmeojkboaaGreatDoorHlSep
import Derived.Laws.Strings
import Derived.WideShapes
namespace Go.HL
set_option linter.unusedVariables false
theorem br_t {c : Bool} {A B : Prop} (h : c = true) (k : A) : br c A B := br_intro (fun _ => k) (fun e => by rw [h] at e; cases e)
theorem br_f {c : Bool} {A B : Prop} (h : c = false) (k : B) : br c A B := br_intro (fun e => by rw [h] at e; cases e) (fun _ => k)
def pickI (c n : Int) : Int := Int.tmod (if c < 0 then IntKind.wrap .i64 (0 - IntKind.wrap .i64 (c + 1)) else c) n
theorem pick_formula {c n : Int} {H : Heap} {K : Value → Heap → Prop} (hn : n ≠ 0) (k : K (.int .i64 (pickI c n)) H) :
    br (decide (c < 0)) (n ≠ 0 ∧ K (.int .i64 (Int.tmod (IntKind.wrap .i64 (0 - (IntKind.wrap .i64 (c + 1)))) n)) H) (n ≠ 0 ∧ K (.int .i64 (Int.tmod c n)) H) := by
  unfold pickI at k
  refine br_intro (fun h => ⟨hn, ?_⟩) (fun h => ⟨hn, ?_⟩)
  · rw [if_pos (of_decide_eq_true h)] at k; exact k
  · rw [if_neg (of_decide_eq_false h)] at k; exact k
theorem pickI_in {c n : Int} (hn : 0 < n) (h0 : -9223372036854775808 ≤ c) (h1 : c ≤ 9223372036854775807) : 0 ≤ pickI c n ∧ pickI c n < n := by
  unfold pickI
  have key : ∀ x : Int, 0 ≤ x → 0 ≤ Int.tmod x n ∧ Int.tmod x n < n := fun x hx => ⟨Int.tmod_nonneg _ hx, Int.tmod_lt_of_pos _ hn⟩
  split
  · refine key _ ?_
    rw [wrap64_id (n := c + 1) (by omega) (by omega), wrap64_id (by omega) (by omega)]
    omega
  · exact key _ (by omega)
theorem Ints.mono {s : Sl} {l : List Int} : Mono (fun H => Ints H s l) := fun _ _ hs h => h.sub hs
abbrev ints (s : Sl) (l : List Int) : Chunk := fun H => Ints H s l
theorem Holds.litInts {cs : List Chunk} {H : Heap} {q T : Nat} {l : List Int} (h : Holds (blk q (.cells (l.map (Value.int .i64)).toArray T (0, 0)) :: cs) H) (hb : l.length ≤ 9223372036854775807) : Ints H ⟨some ⟨q, 0, none⟩, l.length, l.length⟩ l :=
  ⟨rfl, hb, Nat.le_refl _, CellsAt.block (h.get 0 rfl) fun i hi => by simp at hi; simp [hi]⟩
theorem str_eq (a b : ByteArray) : (a.toList == b.toList) = decide (a = b) := by
  rw [ByteArray.toList_eq, ByteArray.toList_eq]
  by_cases e : a = b
  · rw [decide_eq_true e, e]; simp
  · rw [decide_eq_false e]
    cases q : a.data.toList == b.data.toList with
    | false => rfl
    | true => exact absurd (Go.WideShapes.bytes_inj (by simpa using q)) e
end Go.HL
