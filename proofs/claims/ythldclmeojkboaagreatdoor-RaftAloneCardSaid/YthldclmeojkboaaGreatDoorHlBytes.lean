import Derived.Test.YthldclmeojkboaaGreatDoorHlAppend
namespace Go.HL
open Go
set_option linter.unusedVariables false
def byts (r : Sl) (s : ByteArray) : Chunk := fun H => r.n = s.size ∧ CellsAt H r.p (strV s)
theorem own_byts {e : Nat} {r : Sl} {s : ByteArray} {H : Heap} (h : Own H e 1 r (strV s)) : byts r s H := ⟨by have := h.1; rw [strV_length, Nat.mul_one] at this; exact this.symm, h.cells⟩
theorem runH_pushes {P : Program} {H : Heap} {K : ByteArray → Heap → Prop} : ∀ (l : List UInt8) (acc : ByteArray), K (l.foldl (fun s b => s.push b) acc) H →
    runH P (forIn (l.map fun b => Value.int .u8 b.toNat) acc fun c s => do
      let .int .u8 n := c | stuck "bytesToString: byte expected"
      pure (ForInStep.yield (s.push (UInt8.ofNat n.toNat)))) H K := by
  intro l
  induction l with
  | nil => intro acc k; exact k
  | cons b l ih =>
    intro acc k
    rw [List.map_cons, List.forIn_cons]
    refine runH_bind ?_
    have e : UInt8.ofNat (Int.toNat ((b.toNat : Nat) : Int)) = b := by simp
    show runH P (match ForInStep.yield (acc.push (UInt8.ofNat (Int.toNat ((b.toNat : Nat) : Int)))) with | .done b => pure b | .yield b => _) H K
    rw [e]
    exact ih (acc.push b) k
theorem foldl_push (l : List UInt8) (acc : ByteArray) : (l.foldl (fun s b => s.push b) acc).data = acc.data ++ l.toArray := by
  induction l generalizing acc with
  | nil => simp
  | cons b l ih => rw [List.foldl_cons, ih]; apply Array.ext'; simp
theorem runH_toString {P : Program} {src dst e : TypeId} (hs : P.underlying src = some (.slice e)) (hd : P.underlying dst = some .string) (he : P.underlying e = some (.int .u8)) {H : Heap} {r : Sl} {s : ByteArray} (h : byts r s H) {K : Value → Heap → Prop} (k : K (.string s) H) :
    runH P (convert src dst (.slice r.p r.n r.c)) H K := by
  obtain ⟨hn, hc⟩ := h
  unfold convert
  refine runH_bind (runH_underlying hs ?_)
  refine runH_bind (runH_underlying hd ?_)
  dsimp only
  refine runH_bind (runH_underlying he ?_)
  show runH P (Conv.bytesToString (.slice r.p r.n r.c)) H K
  unfold Conv.bytesToString
  cases hp : r.p with
  | none =>
    rw [hp] at hc
    have : s.size = 0 := by
      rcases Nat.eq_zero_or_pos s.size with z | z
      · exact z
      · obtain ⟨b, o, h1, -⟩ := hc 0 (by rw [strV_length]; exact z)
        cases h1
    have e0 : s = .empty := by
      cases s with
      | mk d =>
        have : d.size = 0 := this
        have : d = #[] := Array.eq_empty_of_size_eq_zero this
        subst this; rfl
    rw [e0] at k; exact k
  | some a =>
    rw [hp] at hc
    have hload : ∀ {K2 : Array Value → Heap → Prop}, K2 (strV s).toArray H → runH P (loadCells a r.n) H K2 := fun {K2} k2 => by
      have := runH_firstCells (P := P) (sz := 1) (c := r.c) (n := r.n) (K := K2) hc (by rw [strV_length, Nat.mul_one, hn]) k2
      have e : Builtin.firstCells 1 r.n (.slice (some a) r.n r.c) = loadCells a (r.n * 1) := rfl
      rw [e, Nat.mul_one] at this; exact this
    refine runH_bind (hload ?_)
    rw [List.forIn_toArray]
    refine runH_bind ?_
    have e1 : strV s = s.data.toList.map fun b => Value.int .u8 b.toNat := by simp [strV]
    rw [e1]
    refine runH_pushes s.data.toList .empty ?_
    have e2 : s.data.toList.foldl (fun s b => s.push b) ByteArray.empty = s := by
      have := foldl_push s.data.toList ByteArray.empty
      cases h3 : s.data.toList.foldl (fun s b => s.push b) ByteArray.empty with
      | mk d =>
        rw [h3] at this
        have : d = s.data := by
          have : d = ByteArray.empty.data ++ s.data.toList.toArray := this
          rw [this]; apply Array.ext'; show (#[] ++ s.data.toList.toArray : Array UInt8).toList = _; simp
        rw [this]
    show K (.string (s.data.toList.foldl (fun s b => s.push b) ByteArray.empty)) H
    rw [e2]; exact k
end Go.HL
