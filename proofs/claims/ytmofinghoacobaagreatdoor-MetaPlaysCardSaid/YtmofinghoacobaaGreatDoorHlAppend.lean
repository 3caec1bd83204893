import Derived.Test.YtmofinghoacobaaGreatDoorHlSep
namespace Go.HL
open Go
set_option linter.unusedVariables false
def strV (s : ByteArray) : List Value := (s.data.map fun b => Value.int .u8 b.toNat).toList
theorem strV_length (s : ByteArray) : (strV s).length = s.size := by simp [strV]
theorem Holds.makeSlice {P : Program} {t e sz : Nat} (hE : ElemOK P t e sz) {z : Value} (hzT : zeroT P e = some z) {cs : List Chunk} {H : Heap} (h : Holds cs H) {n : Nat} (hb : n ≤ 268435456) {K : Value → Heap → Prop}
    (k : ∀ b H', Holds (blk b (.cells (zerosL z.cells.toList n).toArray e (0, 0)) :: cs) H' → K (.slice (some ⟨b, 0, none⟩) n n) H') : runH P (Instr.makeSlice t (.int .i64 (n : Int)) (.int .i64 (n : Int))) H K := by
  obtain ⟨i, z', hi, hsz, hby, hby0, hz, hzs⟩ := hE.info
  have ez : z' = z := by
    have : zeroT P e = some z' := by unfold zeroT; rw [hi]; exact hz
    rw [this] at hzT; exact Option.some.inj hzT
  subst ez
  have hsizeOf : sizeT P e = sz := by unfold sizeT; rw [hi]; exact hsz
  have hinfo : ∀ {K : TypeInfo → Heap → Prop}, K i H → runH P (typeInfo e) H K := fun k => runH_typeInfo hi k
  have hzp : 0 < z'.cells.size := by rw [hzs]; exact Nat.pos_of_ne_zero hE.pos
  have hw : IntKind.wrap .i64 (n : Int) = n := wrap64_id (by omega) (by omega)
  have stepI : ∀ {K' : Int → Heap → Prop}, K' n H → runH P (asInt (.int .i64 (n : Int))) H K' := fun h => h
  have hmb : i.bytes * n ≤ 1024 * 268435456 := Nat.mul_le_mul hby hb
  unfold Instr.makeSlice
  refine runH_bind (runH_underlying hE.under ?_)
  refine runH_bind (stepI ?_)
  refine runH_bind (stepI ?_)
  refine runH_bind (hinfo ?_)
  have p48i : (2 : Int) ^ 48 = 281474976710656 := by decide
  have c1 : (decide ((n : Int) < 0) || decide ((i.bytes : Int) * (n : Int) > 2 ^ 48) || decide ((n : Int) < 0) || decide ((n : Int) > (n : Int))) = false := by
    rw [p48i, decide_eq_false (show ¬ (n : Int) < 0 by omega), decide_eq_false (show ¬ (n : Int) > n by omega), decide_eq_false (show ¬ (i.bytes : Int) * (n : Int) > 281474976710656 by rw [← Int.natCast_mul]; omega)]; rfl
  simp only [hw, c1, Bool.false_eq_true, if_false, Int.toNat_natCast]
  refine runH_bind (runH_askRoom ?_)
  refine runH_bind (runH_sizeOf' hzT ?_)
  rw [hsizeOf]
  have fin : ∀ zz : Array Value, (n = 0 ∨ zz = z'.cells) → runH P (do let a ← newRow e ((Array.range (n * sz)).map fun x => zz[x % zz.size]!); Pure.pure (Value.slice (some a) n n) : Sem Value) H K := fun zz hzz => by
    have e1 : ((Array.range (n * sz)).map fun x => zz[x % zz.size]!) = (zerosL z'.cells.toList n).toArray := by
      rcases hzz with x | rfl
      · subst x; simp [zerosL]
      · apply Array.ext'
        have := zeros_eq z'.cells n hzp
        rw [hzs] at this
        simpa [hzs] using this
    rw [e1]
    refine runH_bind ?_
    intro b hb'
    exact k b _ (h.add hb' _)
  split
  · rename_i q
    refine runH_bind ?_
    refine fin #[] (.inl ?_)
    rcases Nat.mul_eq_zero.1 q with x | x
    · exact x
    · exact absurd x hE.pos
  · refine runH_bind (runH_zeroValue hzT ?_)
    refine runH_bind ?_
    exact fin z'.cells (.inr rfl)
end Go.HL
