/- Small functions that stand in many chapters' laws: their formulas, answered once. -/
import Derived.Test.YtmofinghoacobaaGreatDoorHlSep
import Derived.Laws.Strings
import Derived.WideShapes
namespace Go.HL
set_option linter.unusedVariables false

theorem br_t {c : Bool} {A B : Prop} (h : c = true) (k : A) : br c A B := br_intro (fun _ => k) (fun e => by rw [h] at e; cases e)
theorem br_f {c : Bool} {A B : Prop} (h : c = false) (k : B) : br c A B := br_intro (fun e => by rw [h] at e; cases e) (fun _ => k)
theorem Ints.mono {s : Sl} {l : List Int} : Mono (fun H => Ints H s l) := fun _ _ hs h => h.sub hs
abbrev ints (s : Sl) (l : List Int) : Chunk := fun H => Ints H s l
/-- The numbers of a literal. -/
theorem Holds.litInts {cs : List Chunk} {H : Heap} {q T : Nat} {l : List Int} (h : Holds (blk q (.cells (l.map (Value.int .i64)).toArray T (0, 0)) :: cs) H) (hb : l.length ≤ 9223372036854775807) : Ints H ⟨some ⟨q, 0, none⟩, l.length, l.length⟩ l :=
  ⟨rfl, hb, Nat.le_refl _, CellsAt.block (h.get 0 rfl) fun i hi => by simp at hi; simp [hi]⟩
/-- Two texts: the same? -/
theorem str_eq (a b : ByteArray) : (a.toList == b.toList) = decide (a = b) := by
  rw [ByteArray.toList_eq, ByteArray.toList_eq]
  by_cases e : a = b
  · rw [decide_eq_true e, e]; simp
  · rw [decide_eq_false e]
    cases q : a.data.toList == b.data.toList with
    | false => rfl
    | true => exact absurd (Go.WideShapes.bytes_inj (by simpa using q)) e
end Go.HL
