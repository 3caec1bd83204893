import Derived.Test.YthldclmeojkboaaGreatDoorHlFn
import Derived.IntWalk
namespace Go.HL
set_option linter.unusedVariables false
set_option linter.unusedSimpArgs false
theorem Sub.refl (H : Heap) : Sub H H := fun _ _ h => h
theorem Sub.trans {A B C : Heap} (h : Sub A B) (k : Sub B C) : Sub A C := fun b o hb => k b o (h b o hb)
theorem Sub.upd {H H' : Heap} (h : Sub H H') {b : Nat} (hb : H b = none) (o : Obj) : Sub H (H'.upd b o) := fun x p hx => by
  have e : x ≠ b := fun e => by subst e; rw [hb] at hx; cases hx
  rw [Heap.upd_ne _ _ e]; exact h x p hx
theorem Sub.new {H : Heap} {b : Nat} (hb : H b = none) (o : Obj) : Sub H (H.upd b o) := (Sub.refl H).upd hb o
theorem Sub.no {H H' : Heap} (h : Sub H H') {b : Nat} (hb : H' b = none) : H b = none := by
  cases e : H b with
  | none => rfl
  | some o => rw [h b o e] at hb; cases hb
theorem Sub.cell {H H' : Heap} (h : Sub H H') {a : Addr} {v : Value} (hc : cellH H a = some v) : cellH H' a = some v := cellH_sub h hc
theorem Sub.set {H H' : Heap} (h : Sub H H') {a : Addr} (ha : H a.block = none) (v : Value) : Sub H (H'.set a v) := fun x p hx => by
  have e : x ≠ a.block := fun e => by subst e; rw [ha] at hx; cases hx
  unfold Heap.set; rw [if_neg e]; exact h x p hx
theorem cellH_eq {H : Heap} {b o T : Nat} {arr : Array Value} {fz : Nat × Nat} (h : H b = some (.cells arr T fz)) : cellH H ⟨b, o, none⟩ = arr[o]? := by
  simp [cellH, h, cellO]
theorem frozenH_eq {H : Heap} {b o T : Nat} {arr : Array Value} (h : H b = some (.cells arr T (0, 0))) : frozenH H ⟨b, o, none⟩ = false := by
  simp [frozenH, h, frozenO]
def CellsAt (H : Heap) (p : Option Addr) (vs : List Value) : Prop := ∀ i (h : i < vs.length), ∃ b o, p = some ⟨b, o, none⟩ ∧ cellH H ⟨b, o + i, none⟩ = some vs[i]
theorem CellsAt.sub {H H' : Heap} (hs : Sub H H') {p : Option Addr} {vs : List Value} (h : CellsAt H p vs) : CellsAt H' p vs := fun i hi => by
  obtain ⟨b, o, h1, h2⟩ := h i hi
  exact ⟨b, o, h1, hs.cell h2⟩
theorem CellsAt.nil (H : Heap) (p : Option Addr) : CellsAt H p [] := fun i hi => absurd hi (Nat.not_lt_zero _)
theorem CellsAt.block {H : Heap} {b T : Nat} {arr : Array Value} {fz : Nat × Nat} (h : H b = some (.cells arr T fz)) {vs : List Value} (hv : ∀ i (h : i < vs.length), arr[i]? = some vs[i]) : CellsAt H (some ⟨b, 0, none⟩) vs :=
  fun i hi => ⟨b, 0, rfl, by rw [Nat.zero_add, cellH_eq h]; exact hv i hi⟩
theorem CellsAt.take {H : Heap} {p : Option Addr} {vs : List Value} (h : CellsAt H p vs) (n : Nat) : CellsAt H p (vs.take n) := fun i hi => by
  have : i < vs.length := by simp at hi; omega
  obtain ⟨b, o, h1, h2⟩ := h i this
  exact ⟨b, o, h1, by simpa using h2⟩
theorem CellsAt.drop {H : Heap} {p : Option Addr} {vs : List Value} (h : CellsAt H p vs) (n : Nat) : CellsAt H (p.map fun a => a.add n) (vs.drop n) := fun i hi => by
  simp only [List.length_drop] at hi
  obtain ⟨b, o, h1, h2⟩ := h (n + i) (by omega)
  refine ⟨b, o + n, by rw [h1]; simp [addr_add], ?_⟩
  rw [Nat.add_assoc]
  simpa using h2
structure Ints (H : Heap) (s : Sl) (l : List Int) : Prop where
  len : s.n = l.length
  big : s.n ≤ 9223372036854775807
  cap : s.n ≤ s.c
  cells : CellsAt H s.p (l.map (Value.int .i64))
theorem Ints.sub {H H' : Heap} (hs : Sub H H') {s : Sl} {l : List Int} (h : Ints H s l) : Ints H' s l := ⟨h.len, h.big, h.cap, h.cells.sub hs⟩
theorem Ints.at_ {H : Heap} {s : Sl} {l : List Int} (h : Ints H s l) {j : Int} (h0 : 0 ≤ j) (h1 : j < s.n) : ∃ b o, s.p = some ⟨b, o, none⟩ ∧ 0 ≤ j ∧ j < (s.n : Int) ∧ cellH H ⟨b, o + j.toNat, none⟩ = some (.int .i64 (l.getD j.toNat 0)) := by
  have hl := h.len
  obtain ⟨b, o, h2, h3⟩ := h.cells j.toNat (by simp; omega)
  refine ⟨b, o, h2, h0, h1, ?_⟩
  rw [h3]
  have : j.toNat < l.length := by omega
  simp [List.getD, this]
theorem Ints.nil (H : Heap) : Ints H ⟨none, 0, 0⟩ [] := ⟨rfl, Nat.zero_le _, Nat.le_refl _, CellsAt.nil _ _⟩
abbrev Sl.upto (s : Sl) (j : Int) (sz : Nat) : Sl := ⟨slP s.p s.c 0 sz, Int.toNat (j - 0), Int.toNat ((s.c : Int) - 0)⟩
abbrev Sl.from_ (s : Sl) (j : Int) (sz : Nat) : Sl := ⟨slP s.p s.c j sz, Int.toNat ((s.n : Int) - j), Int.toNat ((s.c : Int) - j)⟩
theorem Ints.upto {H : Heap} {s : Sl} {l : List Int} (h : Ints H s l) {j : Int} (h0 : 0 ≤ j) (h1 : j ≤ s.n) : Ints H (s.upto j 1) (l.take j.toNat) := by
  have hl := h.len
  have hc := h.cap
  have hbig := h.big
  refine ⟨by simp; omega, by show Int.toNat (j - 0) ≤ _; omega, by show _ ≤ _; simp; omega, ?_⟩
  have e : slP s.p s.c 0 1 = s.p := by
    unfold slP
    split
    · rfl
    · cases s.p with
      | none => rfl
      | some a => simp [Addr.add]
  show CellsAt H (slP s.p s.c 0 1) _
  rw [e, List.map_take]
  exact h.cells.take _
theorem Ints.from_ {H : Heap} {s : Sl} {l : List Int} (h : Ints H s l) {j : Int} (h0 : 0 ≤ j) (h1 : j ≤ s.n) : Ints H (s.from_ j 1) (l.drop j.toNat) := by
  have hl := h.len
  have hc := h.cap
  have hbig := h.big
  refine ⟨by simp; omega, by show Int.toNat ((s.n : Int) - j) ≤ _; omega, by show Int.toNat ((s.n : Int) - j) ≤ Int.toNat ((s.c : Int) - j); omega, ?_⟩
  show CellsAt H (slP s.p s.c j 1) _
  rw [List.map_drop]
  unfold slP
  split
  · rename_i e
    have : (l.map (Value.int .i64)).drop j.toNat = [] := by apply List.drop_eq_nil_of_le; simp; omega
    rw [this]; exact CellsAt.nil _ _
  · rw [Nat.mul_one]; exact h.cells.drop _
theorem runH_loadCellsFrom {P : Program} {H : Heap} {b o : Nat} {K : Array Value → Heap → Prop} : ∀ (l : List Value) (i : Nat) (acc : Array Value),
    (∀ j (h : j < l.length), cellH H ⟨b, o + (i + j), none⟩ = some l[j]) → K (acc ++ l.toArray) H → runH P (loadCellsFrom ⟨b, o, none⟩ i l.length acc) H K := by
  intro l
  induction l with
  | nil => intro i acc h k; simpa [loadCellsFrom, runH, pure] using k
  | cons x l ih =>
    intro i acc h k
    show runH P (loadCellsFrom ⟨b, o, none⟩ i (l.length + 1) acc) H K
    simp only [loadCellsFrom]
    refine runH_bind ⟨x, ?_, ?_⟩
    · rw [addr_add]; exact h 0 (by simp)
    · refine ih (i + 1) (acc.push x) (fun j hj => ?_) ?_
      · have := h (j + 1) (by simp; omega)
        rw [show i + 1 + j = i + (j + 1) by omega]
        simpa using this
      · have : acc.push x ++ l.toArray = acc ++ (x :: l).toArray := by
          apply Array.ext'; simp
        rw [this]; exact k
theorem runH_firstCells {P : Program} {H : Heap} {sz : Nat} {p : Option Addr} {n c : Nat} {vs : List Value} {K : Array Value → Heap → Prop} (h : CellsAt H p vs) (hl : vs.length = n * sz) (k : K vs.toArray H) :
    runH P (Builtin.firstCells sz n (.slice p n c)) H K := by
  cases p with
  | none =>
    cases vs with
    | nil => exact k
    | cons x vs => obtain ⟨b, o, h1, _⟩ := h 0 (by simp); cases h1
  | some a =>
    show runH P (loadCells a (n * sz)) H K
    unfold loadCells
    rw [← hl]
    cases vs with
    | nil => exact k
    | cons x vs =>
      obtain ⟨b, o, h1, _⟩ := h 0 (by simp)
      simp only [Option.some.injEq] at h1
      subst h1
      refine runH_loadCellsFrom (x :: vs) 0 #[] (fun j hj => ?_) (by simpa using k)
      obtain ⟨b', o', h3, h4⟩ := h j hj
      simp only [Option.some.injEq, Addr.mk.injEq, and_true] at h3
      obtain ⟨rfl, rfl⟩ := h3
      rw [Nat.zero_add]; exact h4
structure ElemOK (P : Program) (t e sz : Nat) : Prop where
  under : P.underlying t = some (.slice e)
  info : ∃ i z, P.info? e = some i ∧ i.size = sz ∧ i.bytes ≤ 1024 ∧ i.bytes ≠ 0 ∧ i.zero = some z ∧ z.cells.size = sz
  pos : sz ≠ 0
def elemOKB (P : Program) (t e sz : Nat) : Bool :=
  match P.underlying t with
  | some (.slice e') => Nat.beq e' e && (match P.info? e with
    | some i => Nat.beq i.size sz && Nat.ble i.bytes 1024 && !(Nat.beq i.bytes 0) && !(Nat.beq sz 0) && (match i.zero with | some z => Nat.beq z.cells.size sz | none => false)
    | none => false)
  | _ => false
theorem ElemOK.of {P : Program} {t e sz : Nat} (h : elemOKB P t e sz = true) : ElemOK P t e sz := by
  unfold elemOKB at h
  split at h
  · rename_i e' hu
    simp only [Bool.and_eq_true] at h
    obtain ⟨h1, h2⟩ := h
    have := Nat.eq_of_beq_eq_true h1
    subst this
    split at h2
    · rename_i i hi
      simp only [Bool.and_eq_true] at h2
      obtain ⟨⟨⟨⟨g1, g2⟩, g3⟩, g4⟩, g5⟩ := h2
      split at g5
      · rename_i z hz
        refine ⟨hu, ⟨i, z, hi, Nat.eq_of_beq_eq_true g1, Nat.le_of_ble_eq_true g2, ?_, hz, Nat.eq_of_beq_eq_true g5⟩, ?_⟩
        · intro q; rw [q] at g3; cases g3
        · intro q; rw [q] at g4; cases g4
      · cases g5
    · cases h2
  · cases h
def Own (H : Heap) (e sz : Nat) (s : Sl) (vs : List Value) : Prop :=
  vs.length = s.n * sz ∧ s.n ≤ s.c ∧ ((s.p = none ∧ s.c = 0) ∨ ∃ b arr, s.p = some ⟨b, 0, none⟩ ∧ H b = some (.cells arr e (0, 0)) ∧ arr.size = s.c * sz ∧ ∀ i (h : i < vs.length), arr[i]? = some vs[i])
theorem Own.cells {H : Heap} {e sz : Nat} {s : Sl} {vs : List Value} (h : Own H e sz s vs) : CellsAt H s.p vs := by
  obtain ⟨h1, h2, h3⟩ := h
  rcases h3 with ⟨h3, h4⟩ | ⟨b, arr, h3, h4, h5, h6⟩
  · have : s.n = 0 := by omega
    rw [this, Nat.zero_mul] at h1
    rw [List.length_eq_zero_iff.1 h1]
    exact CellsAt.nil _ _
  · rw [h3]; exact CellsAt.block h4 h6
theorem Own.nil (H : Heap) (e sz : Nat) : Own H e sz ⟨none, 0, 0⟩ [] := ⟨by simp, Nat.le_refl _, .inl ⟨rfl, rfl⟩⟩
theorem Own.ints {H : Heap} {e : Nat} {s : Sl} {l : List Int} (h : Own H e 1 s (l.map (Value.int .i64))) (hb : l.length ≤ 9223372036854775806) : Ints H s l := by
  have h1 := h.1
  simp only [List.length_map, Nat.mul_one] at h1
  exact ⟨h1.symm, by omega, h.2.1, h.cells⟩
def Fresh (H : Heap) (s : Sl) : Prop := ∀ b o sp, s.p = some ⟨b, o, sp⟩ → H b = none
theorem Fresh.nil (H : Heap) (n c : Nat) : Fresh H ⟨none, n, c⟩ := fun b o sp h => by cases h
theorem growBy_le (newLen : Nat) : ∀ (r c : Nat), Builtin.growBy newLen r c ≤ (newLen + c + 768) * 4 ^ r := by
  intro r
  induction r with
  | zero => intro c; simp only [Builtin.growBy, Nat.pow_zero]; omega
  | succ r ih =>
    intro c
    simp only [Builtin.growBy]
    have e : (newLen + c + 768) * 4 ^ (r + 1) = 4 * (newLen + c + 768) * 4 ^ r := by rw [Nat.pow_succ, Nat.mul_comm (4 ^ r) 4, ← Nat.mul_assoc, Nat.mul_comm _ 4]
    have p : 1 ≤ 4 ^ r := Nat.pow_pos (by omega)
    rw [e]
    split
    · have : 4 * (newLen + c + 768) * 1 ≤ 4 * (newLen + c + 768) * 4 ^ r := Nat.mul_le_mul_left _ p
      omega
    · refine Nat.le_trans (ih _) ?_
      refine Nat.mul_le_mul_right _ ?_
      omega
theorem growBy4_le (need old : Nat) : Builtin.growBy need 4 old ≤ (need + old + 768) * 256 := growBy_le need 4 old
theorem nextslicecap_le {need old : Nat} (h : old < need) : Builtin.nextslicecap need old ≤ 256 * (2 * need + 768) := by
  unfold Builtin.nextslicecap
  split
  · omega
  · split
    · omega
    · refine Nat.le_trans (growBy4_le need old) ?_
      rw [Nat.mul_comm]
      exact Nat.mul_le_mul_left _ (by omega)
theorem runH_askRoom {P : Program} {n : Nat} {H : Heap} {K : Unit → Heap → Prop} (h : K () H) : runH P (askRoom n) H K := by
  unfold askRoom
  split
  · exact h
  · exact h
theorem zeroCells_size (z : Array Value) (n : Nat) : (Builtin.zeroCells z n).size = n * z.size := by simp [Builtin.zeroCells]
def storeOpt (p : Option Addr) (n : Nat) (xs : List Value) : Sem Unit := match p with | some a => storeCells (a.add n) xs | none => pure ()
theorem runH_append {P : Program} {t e sz : Nat} (hE : ElemOK P t e sz) {t2 e2 ty : Nat} (ht2 : P.underlying t2 = some (.slice e2)) {H : Heap} {p q : Option Addr} {n c m c2 : Nat} {vs xs : List Value} (hs : CellsAt H p vs) (hsl : vs.length = n * sz) (hx : CellsAt H q xs) (hxl : xs.length = m * sz)
    (hb : n + m ≤ 268435456) {K : Value → Heap → Prop}
    (k1 : n + m ≤ c → runH P (storeOpt p (n * sz) xs) H fun _ H' => K (.slice p (n + m) c) H')
    (k2 : c < n + m → ∀ cap, n + m ≤ cap → ∀ b, H b = none → ∀ rest : List Value, rest.length = (cap - (n + m)) * sz → K (.slice (some ⟨b, 0, none⟩) (n + m) cap) (H.upd b (.cells (vs ++ xs ++ rest).toArray e (0, 0)))) :
    runH P (Builtin.append_ #[t, t2] ty #[.slice p n c, .slice q m c2]) H K := by
  obtain ⟨i, z, hi, hsz, hby, hby0, hz, hzs⟩ := hE.info
  have hsizeOf : sizeT P e = sz := by unfold sizeT; rw [hi]; exact hsz
  have hzT : zeroT P e = some z := by unfold zeroT; rw [hi]; exact hz
  have hinfo : ∀ {K : TypeInfo → Heap → Prop}, K i H → runH P (typeInfo e) H K := fun k => runH_typeInfo hi k
  unfold Builtin.append_
  refine runH_bind (runH_underlying hE.under ?_)
  simp only []
  refine runH_bind (runH_sizeOf' hzT ?_)
  rw [hsizeOf]
  refine runH_bind ?_
  refine runH_bind (runH_underlying ht2 ?_)
  show runH P (if n + m ≤ c then _ else _) H K
  split
  · rename_i hle
    refine runH_bind ?_
    refine runH_firstCells (c := c2) hx hxl ?_
    have k1 := k1 hle
    cases p with
    | none =>
      exact k1
    | some a =>
      refine runH_bind ?_
      have k1 : runH P (storeCells (a.add (n * sz)) xs) H fun _ H' => K (.slice (some a) (n + m) c) H' := k1
      simpa [runH, pure] using k1
  · rename_i hle
    refine runH_bind (hinfo ?_)
    have hmax : IntKind.i64.max = 9223372036854775807 := rfl
    rw [if_neg (by rw [hmax]; omega)]
    refine runH_bind (hinfo ?_)
    have hcap := nextslicecap_le (need := n + m) (old := c) (by omega)
    have hmul : Builtin.nextslicecap (n + m) c * i.bytes ≤ 137439150080 * 1024 := Nat.mul_le_mul (Nat.le_trans hcap (show 256 * (2 * (n + m) + 768) ≤ 137439150080 by omega)) hby
    have h48 : ¬ (Builtin.nextslicecap (n + m) c * i.bytes > 2 ^ 48) := by
      have : (2 : Nat) ^ 48 = 281474976710656 := by decide
      rw [this]; omega
    rw [if_neg h48]
    refine runH_bind ?_
    rintro cap ⟨tt, htt⟩
    have hcapge : n + m ≤ cap := by
      rw [htt]
      show n + m ≤ if false = true then 0 else n + m + tt % (2 ^ 63 - (n + m))
      simp
    refine runH_bind (hinfo ?_)
    refine runH_bind (runH_askRoom ?_)
    refine runH_bind (runH_firstCells (c := c) hs hsl ?_)
    refine runH_bind ?_
    refine runH_firstCells (c := c2) hx hxl ?_
    refine runH_bind (runH_zeroValue hzT ?_)
    intro b hb'
    have := k2 (by omega) cap hcapge b hb' (Builtin.zeroCells z.cells (cap - (n + m))).toList (by rw [Array.length_toList, zeroCells_size, hzs])
    have e : (vs.toArray ++ xs.toArray ++ Builtin.zeroCells z.cells (cap - (n + m))) = (vs ++ xs ++ (Builtin.zeroCells z.cells (cap - (n + m))).toList).toArray := by
      apply Array.ext'; simp
    rw [← e] at this
    exact this
theorem overL_get : ∀ (cs : List Value) (n : Nat) (vs : List Value) (i : Nat), n + vs.length ≤ cs.length → (overL cs n vs)[i]? = if n ≤ i ∧ i < n + vs.length then vs[i - n]? else cs[i]? := by
  intro cs n vs
  induction vs generalizing cs n with
  | nil => intro i h; rw [overL_nil, if_neg (by simp)]
  | cons v vs ih =>
    intro i h
    simp only [List.length_cons] at h ⊢
    rw [overL_cons, ih _ _ _ (by simp; omega)]
    by_cases e : i = n
    · subst e
      rw [if_neg (by omega), if_pos (by omega)]
      simp [show i < cs.length by omega]
    · by_cases e2 : n + 1 ≤ i ∧ i < n + 1 + vs.length
      · rw [if_pos e2, if_pos (by omega)]
        rw [show i - n = (i - (n + 1)) + 1 by omega]
        simp
      · rw [if_neg e2, if_neg (by omega)]
        rw [List.getElem?_set_ne (fun q => e q.symm)]
theorem runH_storeCells' {P : Program} {b T : Nat} {o : Nat} : ∀ (vs : List Value) (i : Nat) {H : Heap} {cs : List Value} {K : Unit → Heap → Prop}, H b = some (.cells cs.toArray T (0, 0)) → noTups vs = true → o + i + vs.length ≤ cs.length →
    K () (H.upd b (.cells (overL cs (o + i) vs).toArray T (0, 0))) → runH P (storeCells ⟨b, o, none⟩ vs i) H K := by
  intro vs
  induction vs with
  | nil =>
    intro i H cs K h0 h1 h2 hk
    rw [overL_nil] at hk
    have : H.upd b (.cells cs.toArray T (0, 0)) = H := by
      funext x; unfold Heap.upd
      split
      · rename_i e; subst e; exact h0.symm
      · rfl
    rw [this] at hk; exact hk
  | cons v vs ih =>
    intro i H cs K h0 h1 h2 hk
    simp only [noTups] at h1
    split at h1
    · cases h1
    · rename_i hv
      simp only [storeCells]
      simp only [List.length_cons] at h2
      have hlt : o + i < cs.length := by omega
      refine runH_bind ⟨hv, ⟨cs[o + i], ?_⟩, ?_, ?_⟩
      · rw [addr_add, cellH_eq h0]; simp [hlt]
      · rw [addr_add]; exact frozenH_eq h0
      · have hset : H.set (Addr.add ⟨b, o, none⟩ i) v = H.upd b (.cells (cs.set (o + i) v).toArray T (0, 0)) := by
          rw [addr_add]
          funext x
          unfold Heap.set Heap.upd
          by_cases e : x = b
          · simp [e, h0, setO]
          · simp [e]
        show runH P (storeCells ⟨b, o, none⟩ vs (i + 1)) _ K
        rw [hset]
        refine ih (i + 1) (Heap.upd_same _ _ _) h1 (by simp; omega) ?_
        rw [overL_cons] at hk
        have e2 : (H.upd b (.cells (cs.set (o + i) v).toArray T (0, 0))).upd b (.cells (overL (cs.set (o + i) v) (o + (i + 1)) vs).toArray T (0, 0)) = H.upd b (.cells (overL (cs.set (o + i) v) (o + (i + 1)) vs).toArray T (0, 0)) := by
          funext x; unfold Heap.upd; split <;> rfl
        rw [e2]; exact hk
theorem append_own {P : Program} {t e sz : Nat} (hE : ElemOK P t e sz) {t2 e2 ty : Nat} (ht2 : P.underlying t2 = some (.slice e2)) {H0 H : Heap} {s : Sl} {vs : List Value} (ho : Own H e sz s vs) (hf : Fresh H0 s) (hs0 : Sub H0 H)
    {q : Option Addr} {m c2 : Nat} {xs : List Value} (hx : CellsAt H q xs) (hxl : xs.length = m * sz) (hnt : noTups xs = true) (hb : s.n + m ≤ 268435456) {K : Value → Heap → Prop}
    (k : ∀ r H', Own H' e sz r (vs ++ xs) → Fresh H0 r → Sub H0 H' → r.n = s.n + m → K (.slice r.p r.n r.c) H') : runH P (Builtin.append_ #[t, t2] ty #[.slice s.p s.n s.c, .slice q m c2]) H K := by
  have hcells := ho.cells
  obtain ⟨h1, h2, h3⟩ := ho
  refine runH_append hE ht2 hcells h1 hx hxl hb ?_ ?_
  · intro hle
    rcases h3 with ⟨h3, h4⟩ | ⟨b, arr, h3, h4, h5, h6⟩
    · rw [h3]
      have hm : m = 0 := by omega
      have hn : s.n = 0 := by omega
      subst hm
      rw [Nat.zero_mul] at hxl
      have hxs := List.length_eq_zero_iff.1 hxl
      subst hxs
      refine k ⟨none, s.n + 0, s.c⟩ H ⟨?_, ?_, .inl ⟨rfl, h4⟩⟩ (Fresh.nil _ _ _) hs0 rfl
      · simpa using h1
      · simpa using h2
    · rw [h3]
      show runH P (storeCells (Addr.add ⟨b, 0, none⟩ (s.n * sz)) xs) H _
      rw [addr_add, Nat.zero_add]
      have h4' : H b = some (.cells arr.toList.toArray e (0, 0)) := by simpa using h4
      have hlen : s.n * sz + 0 + xs.length ≤ arr.toList.length := by
        rw [hxl, Array.length_toList, h5, Nat.add_zero, ← Nat.add_mul]
        exact Nat.mul_le_mul_right _ hle
      refine runH_storeCells' xs 0 h4' hnt hlen ?_
      have hHb : H0 b = none := hf _ _ _ h3
      refine k ⟨some ⟨b, 0, none⟩, s.n + m, s.c⟩ _ ⟨?_, hle, .inr ⟨b, _, rfl, Heap.upd_same _ _ _, ?_, ?_⟩⟩ ?_ (hs0.upd hHb _) rfl
      · simp [h1, hxl, Nat.add_mul]
      · simp [overL_length, h5]
      · intro i hi
        rw [Nat.add_zero]
        rw [List.getElem?_toArray, overL_get _ _ _ _ (by simpa using hlen)]
        simp only [List.length_append, h1] at hi
        by_cases e : s.n * sz ≤ i
        · rw [if_pos ⟨e, by omega⟩, List.getElem_append_right (by omega)]
          simp [h1]
        · rw [if_neg (by omega), List.getElem_append_left (by omega)]
          have := h6 i (by omega)
          simpa using this
      · intro b' o' sp' hp
        simp only [Option.some.injEq, Addr.mk.injEq] at hp
        rw [← hp.1]; exact hHb
  · intro hlt cap hcap b hbn rest hrest
    have hHb : H0 b = none := hs0.no hbn
    refine k ⟨some ⟨b, 0, none⟩, s.n + m, cap⟩ _ ⟨?_, hcap, .inr ⟨b, _, rfl, Heap.upd_same _ _ _, ?_, ?_⟩⟩ ?_ (hs0.upd hHb _) rfl
    · simp [h1, hxl, Nat.add_mul]
    · simp [h1, hxl, hrest, ← Nat.add_mul]; congr 1; omega
    · intro i hi
      rw [List.getElem?_toArray, List.getElem?_append_left hi]
      simp
    · intro b' o' sp' hp
      simp only [Option.some.injEq, Addr.mk.injEq] at hp
      rw [← hp.1]; exact hHb
theorem wrap64_id {n : Int} (h0 : -9223372036854775808 ≤ n) (h1 : n ≤ 9223372036854775807) : IntKind.wrap .i64 n = n := IntWalk.i64_in n ⟨h0, h1⟩
theorem Heap.set_block {H : Heap} {b o T : Nat} {arr : Array Value} (h : H b = some (.cells arr T (0, 0))) (v : Value) : H.set ⟨b, o, none⟩ v = H.upd b (.cells (arr.setIfInBounds o v) T (0, 0)) := by
  funext x; unfold Heap.set Heap.upd
  by_cases e : x = b
  · simp [e, h, setO]
  · simp [e]
theorem Sub.join_left {H Hy : Heap} : Sub H (H.join Hy) := fun b o h => Heap.join_left h
end Go.HL
