import Derived.Test.YthldclmeojkboaaGreatDoorHlSep
namespace Go.HL
open Go
set_option linter.unusedVariables false
def strV (s : ByteArray) : List Value := (s.data.map fun b => Value.int .u8 b.toNat).toList
theorem strV_length (s : ByteArray) : (strV s).length = s.size := by simp [strV]
theorem runH_firstStr {P : Program} {sz : Nat} {s : ByteArray} {H : Heap} {K : Array Value → Heap → Prop} (k : K (strV s).toArray H) : runH P (Builtin.firstCells sz s.size (.string s)) H K := by
  have e : (s.extract 0 s.size).data.map (fun b => Value.int .u8 b.toNat) = (strV s).toArray := by
    have : s.extract 0 s.size = s := by simp
    rw [this]; unfold strV; apply Array.ext'; simp
  show K ((s.extract 0 s.size).data.map fun b => Value.int .u8 b.toNat) H
  rw [e]; exact k
theorem runH_appendS {P : Program} {t e sz : Nat} (hE : ElemOK P t e sz) {t2 ty : Nat} (ht2 : P.underlying t2 = some .string) {H : Heap} {p : Option Addr} {n c m : Nat} {vs xs : List Value} {s : ByteArray} (hs : CellsAt H p vs) (hsl : vs.length = n * sz) (hm : m = s.size) (hxs : xs = strV s)
    (hb : n + m ≤ 268435456) {K : Value → Heap → Prop}
    (k1 : n + m ≤ c → runH P (storeOpt p (n * sz) xs) H fun _ H' => K (.slice p (n + m) c) H')
    (k2 : c < n + m → ∀ cap, n + m ≤ cap → ∀ b, H b = none → ∀ rest : List Value, rest.length = (cap - (n + m)) * sz → K (.slice (some ⟨b, 0, none⟩) (n + m) cap) (H.upd b (.cells (vs ++ xs ++ rest).toArray e (0, 0)))) :
    runH P (Builtin.append_ #[t, t2] ty #[.slice p n c, .string s]) H K := by
  subst hm; subst hxs
  obtain ⟨i, z, hi, hsz, hby, hby0, hz, hzs⟩ := hE.info
  have hsizeOf : sizeT P e = sz := by unfold sizeT; rw [hi]; exact hsz
  have hzT : zeroT P e = some z := by unfold zeroT; rw [hi]; exact hz
  have hinfo : ∀ {K : TypeInfo → Heap → Prop}, K i H → runH P (typeInfo e) H K := fun k => runH_typeInfo hi k
  unfold Builtin.append_
  refine runH_bind (runH_underlying hE.under ?_)
  simp only []
  refine runH_bind (runH_sizeOf' hzT ?_)
  rw [hsizeOf]
  refine runH_bind ?_
  refine runH_bind (runH_underlying ht2 ?_)
  show runH P (if n + s.size ≤ c then _ else _) H K
  split
  · rename_i hle
    refine runH_bind ?_
    refine runH_firstStr (sz := sz) ?_
    have k1 := k1 hle
    cases p with
    | none =>
      exact k1
    | some a =>
      refine runH_bind ?_
      have k1 : runH P (storeCells (a.add (n * sz)) (strV s)) H fun _ H' => K (.slice (some a) (n + s.size) c) H' := k1
      simpa [runH, pure] using k1
  · rename_i hle
    refine runH_bind (hinfo ?_)
    have hmax : IntKind.i64.max = 9223372036854775807 := rfl
    rw [if_neg (by rw [hmax]; omega)]
    refine runH_bind (hinfo ?_)
    have hcap := nextslicecap_le (need := n + s.size) (old := c) (by omega)
    have hmul : Builtin.nextslicecap (n + s.size) c * i.bytes ≤ 137439150080 * 1024 := Nat.mul_le_mul (Nat.le_trans hcap (show 256 * (2 * (n + s.size) + 768) ≤ 137439150080 by omega)) hby
    have h48 : ¬ (Builtin.nextslicecap (n + s.size) c * i.bytes > 2 ^ 48) := by
      have : (2 : Nat) ^ 48 = 281474976710656 := by decide
      rw [this]; omega
    rw [if_neg h48]
    refine runH_bind ?_
    rintro cap ⟨tt, htt⟩
    have hcapge : n + s.size ≤ cap := by
      rw [htt]
      show n + s.size ≤ if false = true then 0 else n + s.size + tt % (2 ^ 63 - (n + s.size))
      simp
    refine runH_bind (hinfo ?_)
    refine runH_bind (runH_askRoom ?_)
    refine runH_bind (runH_firstCells (c := c) hs hsl ?_)
    refine runH_bind ?_
    refine runH_firstStr (sz := sz) ?_
    refine runH_bind (runH_zeroValue hzT ?_)
    intro b hb'
    have := k2 (by omega) cap hcapge b hb' (Builtin.zeroCells z.cells (cap - (n + s.size))).toList (by rw [Array.length_toList, zeroCells_size, hzs])
    have e : (vs.toArray ++ (strV s).toArray ++ Builtin.zeroCells z.cells (cap - (n + s.size))) = (vs ++ (strV s) ++ (Builtin.zeroCells z.cells (cap - (n + s.size))).toList).toArray := by
      apply Array.ext'; simp
    rw [← e] at this
    exact this
theorem append_ownX {P : Program} {S : Sem Value} {e sz : Nat} {H0 H : Heap} {s : Sl} {vs : List Value} {xs : List Value} {m : Nat}
    (hrun : ∀ {K : Value → Heap → Prop}, (s.n + m ≤ s.c → runH P (storeOpt s.p (s.n * sz) xs) H fun _ H' => K (.slice s.p (s.n + m) s.c) H') →
      (s.c < s.n + m → ∀ cap, s.n + m ≤ cap → ∀ b, H b = none → ∀ rest : List Value, rest.length = (cap - (s.n + m)) * sz → K (.slice (some ⟨b, 0, none⟩) (s.n + m) cap) (H.upd b (.cells (vs ++ xs ++ rest).toArray e (0, 0)))) → runH P S H K)
    (ho : Own H e sz s vs) (hf : Fresh H0 s) (hs0 : Sub H0 H) (hxl : xs.length = m * sz) (hnt : noTups xs = true) {K : Value → Heap → Prop}
    (k : ∀ r H', Own H' e sz r (vs ++ xs) → Fresh H0 r → Sub H0 H' → r.n = s.n + m → K (.slice r.p r.n r.c) H') : runH P S H K := by
  have hcells := ho.cells
  obtain ⟨h1, h2, h3⟩ := ho
  refine hrun ?_ ?_
  · intro hle
    rcases h3 with ⟨h3, h4⟩ | ⟨b, arr, h3, h4, h5, h6⟩
    · rw [h3]
      have hm : m = 0 := by omega
      have hn : s.n = 0 := by omega
      subst hm
      rw [Nat.zero_mul] at hxl
      have hxs := List.length_eq_zero_iff.1 hxl
      subst hxs
      refine k ⟨none, s.n + 0, s.c⟩ H ⟨?_, ?_, .inl ⟨rfl, h4⟩⟩ (Fresh.nil _ _ _) hs0 rfl
      · simpa using h1
      · simpa using h2
    · rw [h3]
      show runH P (storeCells (Addr.add ⟨b, 0, none⟩ (s.n * sz)) xs) H _
      rw [addr_add, Nat.zero_add]
      have h4' : H b = some (.cells arr.toList.toArray e (0, 0)) := by simpa using h4
      have hlen : s.n * sz + 0 + xs.length ≤ arr.toList.length := by
        rw [hxl, Array.length_toList, h5, Nat.add_zero, ← Nat.add_mul]
        exact Nat.mul_le_mul_right _ hle
      refine runH_storeCells' xs 0 h4' hnt hlen ?_
      have hHb : H0 b = none := hf _ _ _ h3
      refine k ⟨some ⟨b, 0, none⟩, s.n + m, s.c⟩ _ ⟨?_, hle, .inr ⟨b, _, rfl, Heap.upd_same _ _ _, ?_, ?_⟩⟩ ?_ (hs0.upd hHb _) rfl
      · simp [h1, hxl, Nat.add_mul]
      · simp [overL_length, h5]
      · intro i hi
        rw [Nat.add_zero]
        rw [List.getElem?_toArray, overL_get _ _ _ _ (by simpa using hlen)]
        simp only [List.length_append, h1] at hi
        by_cases e : s.n * sz ≤ i
        · rw [if_pos ⟨e, by omega⟩, List.getElem_append_right (by omega)]
          simp [h1]
        · rw [if_neg (by omega), List.getElem_append_left (by omega)]
          have := h6 i (by omega)
          simpa using this
      · intro b' o' sp' hp
        simp only [Option.some.injEq, Addr.mk.injEq] at hp
        rw [← hp.1]; exact hHb
  · intro hlt cap hcap b hbn rest hrest
    have hHb : H0 b = none := hs0.no hbn
    refine k ⟨some ⟨b, 0, none⟩, s.n + m, cap⟩ _ ⟨?_, hcap, .inr ⟨b, _, rfl, Heap.upd_same _ _ _, ?_, ?_⟩⟩ ?_ (hs0.upd hHb _) rfl
    · simp [h1, hxl, Nat.add_mul]
    · simp [h1, hxl, hrest, ← Nat.add_mul]; congr 1; omega
    · intro i hi
      rw [List.getElem?_toArray, List.getElem?_append_left hi]
      simp
    · intro b' o' sp' hp
      simp only [Option.some.injEq, Addr.mk.injEq] at hp
      rw [← hp.1]; exact hHb
theorem Holds.appendX {P : Program} {S : Sem Value} {e sz : Nat} {cs : List Chunk} {H : Heap} {s : Sl} {vs : List Value} (h : Holds (HL.own e sz s vs :: cs) H) {xs : List Value} {m : Nat}
    (hrun : ∀ {K : Value → Heap → Prop}, (s.n + m ≤ s.c → runH P (storeOpt s.p (s.n * sz) xs) H fun _ H' => K (.slice s.p (s.n + m) s.c) H') →
      (s.c < s.n + m → ∀ cap, s.n + m ≤ cap → ∀ b, H b = none → ∀ rest : List Value, rest.length = (cap - (s.n + m)) * sz → K (.slice (some ⟨b, 0, none⟩) (s.n + m) cap) (H.upd b (.cells (vs ++ xs ++ rest).toArray e (0, 0)))) → runH P S H K)
    (hxl : xs.length = m * sz) (hnt : noTups xs = true) {K : Value → Heap → Prop}
    (k : ∀ (r : Sl) H', Holds (HL.own e sz r (vs ++ xs) :: cs) H' → r.n = s.n + m → K (.slice r.p r.n r.c) H') : runH P S H K := by
  obtain ⟨A, B, e0, d, p, hcs⟩ := h
  subst e0
  have hf : Fresh B s := fun b o sp hp => by
    rcases p.2.2 with ⟨x, -⟩ | ⟨b', arr, x, hb', -⟩
    · rw [x] at hp; cases hp
    · rw [x] at hp
      simp only [Option.some.injEq, Addr.mk.injEq] at hp
      rw [← hp.1]; exact disj_symm d _ _ hb'
  refine append_ownX hrun (Own.mono _ _ Sub.left p) hf (Sub.right d) hxl hnt fun r H' o' f' s' n' => k r H' ?_ n'
  have hd2 : (H'.less B).disj B := disj_symm (less_disj _ _)
  refine ⟨H'.less B, B, by rw [join_comm hd2]; exact less_join s', hd2, ?_, hcs⟩
  obtain ⟨o1, o2, o3⟩ := o'
  refine ⟨o1, o2, o3.imp_right fun ⟨b, arr, q, hb, r⟩ => ⟨b, arr, q, ?_, r⟩⟩
  unfold Heap.less
  rw [f' _ _ _ q]; exact hb
theorem noTups_str (s : ByteArray) : noTups (strV s) = true := by
  have key : ∀ l : List UInt8, noTups (l.map fun b => Value.int .u8 b.toNat) = true := by
    intro l
    induction l with
    | nil => rfl
    | cons b l ih => exact ih
  have : strV s = s.data.toList.map fun b => Value.int .u8 b.toNat := by simp [strV]
  rw [this]; exact key _
theorem Holds.appendStr {P : Program} {t e : Nat} (hE : ElemOK P t e 1) {t2 ty : Nat} (ht2 : P.underlying t2 = some .string) {cs : List Chunk} {H : Heap} {s : Sl} {vs : List Value} (h : Holds (HL.own e 1 s vs :: cs) H) {x : ByteArray}
    (hb : s.n + x.size ≤ 268435456) {K : Value → Heap → Prop} (k : ∀ (r : Sl) H', Holds (HL.own e 1 r (vs ++ strV x) :: cs) H' → r.n = s.n + x.size → K (.slice r.p r.n r.c) H') :
    runH P (Builtin.append_ #[t, t2] ty #[.slice s.p s.n s.c, .string x]) H K := by
  have ho := h.own 0 rfl
  exact Holds.appendX h (xs := strV x) (m := x.size) (fun k1 k2 => runH_appendS hE ht2 ho.cells ho.1 rfl rfl hb k1 k2) (by rw [strV_length, Nat.mul_one]) (noTups_str x) k
theorem Holds.makeSlice {P : Program} {t e sz : Nat} (hE : ElemOK P t e sz) {z : Value} (hzT : zeroT P e = some z) {cs : List Chunk} {H : Heap} (h : Holds cs H) {n : Nat} (hb : n ≤ 268435456) {K : Value → Heap → Prop}
    (k : ∀ b H', Holds (blk b (.cells (zerosL z.cells.toList n).toArray e (0, 0)) :: cs) H' → K (.slice (some ⟨b, 0, none⟩) n n) H') : runH P (Instr.makeSlice t (.int .i64 (n : Int)) (.int .i64 (n : Int))) H K := by
  obtain ⟨i, z', hi, hsz, hby, hby0, hz, hzs⟩ := hE.info
  have ez : z' = z := by
    have : zeroT P e = some z' := by unfold zeroT; rw [hi]; exact hz
    rw [this] at hzT; exact Option.some.inj hzT
  subst ez
  have hsizeOf : sizeT P e = sz := by unfold sizeT; rw [hi]; exact hsz
  have hinfo : ∀ {K : TypeInfo → Heap → Prop}, K i H → runH P (typeInfo e) H K := fun k => runH_typeInfo hi k
  have hzp : 0 < z'.cells.size := by rw [hzs]; exact Nat.pos_of_ne_zero hE.pos
  have hw : IntKind.wrap .i64 (n : Int) = n := wrap64_id (by omega) (by omega)
  have stepI : ∀ {K' : Int → Heap → Prop}, K' n H → runH P (asInt (.int .i64 (n : Int))) H K' := fun h => h
  have hmb : i.bytes * n ≤ 1024 * 268435456 := Nat.mul_le_mul hby hb
  unfold Instr.makeSlice
  refine runH_bind (runH_underlying hE.under ?_)
  refine runH_bind (stepI ?_)
  refine runH_bind (stepI ?_)
  refine runH_bind (hinfo ?_)
  have p48i : (2 : Int) ^ 48 = 281474976710656 := by decide
  have c1 : (decide ((n : Int) < 0) || decide ((i.bytes : Int) * (n : Int) > 2 ^ 48) || decide ((n : Int) < 0) || decide ((n : Int) > (n : Int))) = false := by
    rw [p48i, decide_eq_false (show ¬ (n : Int) < 0 by omega), decide_eq_false (show ¬ (n : Int) > n by omega), decide_eq_false (show ¬ (i.bytes : Int) * (n : Int) > 281474976710656 by rw [← Int.natCast_mul]; omega)]; rfl
  simp only [hw, c1, Bool.false_eq_true, if_false, Int.toNat_natCast]
  refine runH_bind (runH_askRoom ?_)
  refine runH_bind (runH_sizeOf' hzT ?_)
  rw [hsizeOf]
  have fin : ∀ zz : Array Value, (n = 0 ∨ zz = z'.cells) → runH P (do let a ← newRow e ((Array.range (n * sz)).map fun x => zz[x % zz.size]!); Pure.pure (Value.slice (some a) n n) : Sem Value) H K := fun zz hzz => by
    have e1 : ((Array.range (n * sz)).map fun x => zz[x % zz.size]!) = (zerosL z'.cells.toList n).toArray := by
      rcases hzz with x | rfl
      · subst x; simp [zerosL]
      · apply Array.ext'
        have := zeros_eq z'.cells n hzp
        rw [hzs] at this
        simpa [hzs] using this
    rw [e1]
    refine runH_bind ?_
    intro b hb'
    exact k b _ (h.add hb' _)
  split
  · rename_i q
    refine runH_bind ?_
    refine fin #[] (.inl ?_)
    rcases Nat.mul_eq_zero.1 q with x | x
    · exact x
    · exact absurd x hE.pos
  · refine runH_bind (runH_zeroValue hzT ?_)
    refine runH_bind ?_
    exact fin z'.cells (.inr rfl)
end Go.HL
