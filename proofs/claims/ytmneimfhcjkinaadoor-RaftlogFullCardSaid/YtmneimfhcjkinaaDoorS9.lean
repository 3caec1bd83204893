/- Chapter 9: readEntries: of what the log wrote. -/
import Derived.Test.YtmneimfhcjkinaaDoorS8
namespace Go.Proofs.YtmneimfhcjkinaaDoor
open Go Go.HL
set_option maxHeartbeats 3200000
set_option maxRecDepth 10000

/-- Entries that follow an index. -/
structure GoodL (index : Int) (l : List En) : Prop where
  ok : ∀ x ∈ l, EnOk x
  idx : ∀ (i : Nat) (x : En), l[i]? = some x → x.2.1 = index + 1 + i
  up : ∀ (i : Nat) (x y : En), l[i]? = some x → l[i + 1]? = some y → x.1 ≤ y.1
theorem flat_at {l : List En} {m : Nat} {x : En} (h : l[m]? = some x) : l.flatMap entN = (l.take m).flatMap entN ++ (entN x ++ (l.drop (m + 1)).flatMap entN) := by
  obtain ⟨h1, h2⟩ := List.getElem?_eq_some_iff.1 h
  have e : l = l.take m ++ (x :: l.drop (m + 1)) := by
    rw [← h2, ← List.drop_eq_getElem_cons h1, List.take_append_drop]
  have e2 := congrArg (fun z => List.flatMap entN z) e
  simp only [List.flatMap_append, List.flatMap_cons] at e2
  exact e2
section
variable {cs : List Chunk} {H : Heap} {K : Value → Heap → Prop}
theorem readEntries9_spec {c d : Nat} {size : Int} {F : Fs} {st : RS} {l : List En} (hst : st.l = []) (h : HL.Holds (lgc c d st :: dsk d size F :: cs) H) (hl : l.length ≤ 100000) (hg : GoodL st.index l) (i0 : 0 ≤ st.index) (i1 : st.index ≤ 1000000000)
    (hF : (lookL F nLog = none ∧ l = []) ∨ ∃ z, lookL F nLog = some (strN (l.flatMap entN), z))
    (k : ∀ H', HL.Holds (lgc c d { st with l := l } :: dsk d size F :: cs) H' → K (.int .i64 0) H') : FnH Tryd.prog 27 #[.pointer (some ⟨c, 0, none⟩)] H K := by
  apply raftlog_Log_readEntries_fn
  unfold raftlog_Log_readEntries_vc
  obtain ⟨s, h1⟩ := lgc_open.1 h
  have el : (⟨#[114]⟩ : ByteArray) ++ (⟨#[46, 108, 111, 103]⟩ : ByteArray) = nLog := by decide +kernel
  refine ⟨_, h1.cell 0 rfl rfl, _, h1.cell 0 rfl rfl, by decide, ?_⟩
  rw [el]
  refine read_spec (i := 2) h1 rfl ⟨_, _, rfl, HL.Sub.refl _, ?_⟩
  rcases hF with ⟨e, rfl⟩ | ⟨z, e⟩
  · rw [if_pos e]
    have e2 : ({ st with l := [] } : RS) = st := by rw [← hst]
    rw [e2] at k
    exact br_t rfl (k H h)
  have eg : (getF F nLog).1 = strN (l.flatMap entN) := by unfold getF; rw [e]; rfl
  rw [if_neg (by rw [e]; simp), eg]
  have hsz : (strN (l.flatMap entN)).size = (l.flatMap entN).length := strN_size (ents_bytes l)
  have hlen := ents_len (l := l) fun x hx => (hg.ok x hx).2.2
  refine br_f rfl ⟨fun left at_ torn n2 n3 _ H' => left = false ∧ torn = false ∧ ∃ m : Nat, m ≤ l.length ∧ at_ = (((l.take m).flatMap entN).length : Nat) ∧ (m = 0 ∨ ∃ y, l[m - 1]? = some y ∧ n2 = y.1 ∧ n3 = y.2.1) ∧ HL.Holds (lgc c d { st with l := l.take m } :: dsk d size F :: cs) H',
    fun _ at_ _ _ _ _ _ => (((l.flatMap entN).length : Int) - at_).toNat, ⟨rfl, rfl, 0, Nat.zero_le _, rfl, .inl rfl, ?_⟩, ?_⟩
  · have e2 : ({ st with l := l.take 0 } : RS) = st := by rw [List.take_zero, ← hst]
    rw [e2]; exact h
  rintro left at_ torn n2 n3 s3 H2 ⟨rfl, rfl, m, m0, rfl, hm, h2⟩
  have fin : m = l.length → K (.int .i64 0) H2 := fun q => by
    rw [q, List.take_length] at h2
    exact k H2 h2
  refine br_intro (fun w => br_t rfl ?_) (fun w => br_f rfl (fin ?_))
  rotate_left
  · have w := of_decide_eq_false w
    refine Decidable.byContradiction fun q => ?_
    obtain ⟨x, hx⟩ : ∃ x, l[m]? = some x := ⟨_, List.getElem?_eq_getElem (by omega)⟩
    have := congrArg List.length (flat_at hx)
    rw [List.length_append, List.length_append, entN_len] at this
    omega
  have w := of_decide_eq_true w
  have hml : m < l.length := Nat.lt_of_le_of_ne m0 fun q => by rw [q, List.take_length] at w; omega
  obtain ⟨x, hx⟩ : ∃ x, l[m]? = some x := ⟨_, List.getElem?_eq_getElem hml⟩
  have hfl := flat_at hx
  have hfl2 := congrArg List.length hfl
  rw [List.length_append, List.length_append] at hfl2
  have hxl := entN_len x
  have hrb := ents_bytes (l.drop (m + 1))
  have hok := hg.ok x (List.mem_of_getElem? hx)
  have hix := hg.idx m x hx
  have ex : (strN (l.flatMap entN)).extract (Int.toNat (((l.take m).flatMap entN).length : Nat)) (Int.toNat ((strN (l.flatMap entN)).size : Nat)) = strN (entN x ++ (l.drop (m + 1)).flatMap entN) := by
    rw [hsz, hfl]
    exact ext_skip (ents_bytes _) (app_bytes (entN_bytes x) hrb) (by simp) (by rw [Int.toNat_natCast, List.length_append])
  refine ⟨by omega, by omega, ?_⟩
  rw [ex]
  refine one9_spec hok hrb (by omega) fun H3 s3 => ⟨_, _, _, _, _, rfl, br_f rfl (br_f (beq_eq_false_iff_ne.2 (by omega)) ?_)⟩
  have h3 := h2.up s3
  obtain ⟨sl, h4⟩ := lgc_open.1 h3
  have hsl := (h4.own 1 rfl).1
  rw [flat_len eElen, List.length_take] at hsl
  have c2 : cellH H3 ⟨c, 0 + 2, none⟩ = some (.int .i64 st.index) := h4.cell 0 rfl rfl
  have c5 : cellH H3 ⟨c, 0 + 5, none⟩ = some (.slice sl.p sl.n sl.c) := h4.cell 0 rfl rfl
  have push : ∀ {Z : Sl → Heap → Prop}, (∀ l2 H7, HL.Holds (lgc c d { st with l := l.take (m + 1) } :: dsk d size F :: cs) H7 → Z l2 H7) →
      ∀ q1 : Nat, H3 q1 = none → letH (Heap.upd H3 q1 (.cells #[.int .i64 x.1, .int .i64 x.2.1, .string x.2.2] 43 (0, 0))) fun H5 => HL.Sub H3 H5 ∧ runH Tryd.prog (Builtin.append_ #[31, 31] 31 #[.slice sl.p sl.n sl.c, .slice (some ⟨q1, 0, none⟩) 1 1]) H5 fun r4 H6 => ∃ l2 : Sl, r4 = .slice l2.p l2.n l2.c ∧
        (∃ u, cellH H6 ⟨c, 0 + 5, none⟩ = some u) ∧ frozenH H6 ⟨c, 0 + 5, none⟩ = false ∧ letH (Heap.set H6 ⟨c, 0 + 5, none⟩ (.slice l2.p l2.n l2.c)) fun H7 => Z l2 H7 := fun {Z} kz => by
    intro q1 hq1
    refine letH_intro fun H5 g5 => ⟨by rw [g5]; exact HL.Sub.new hq1 _, ?_⟩
    have h5 := h4.add hq1 (.cells #[.int .i64 x.1, .int .i64 x.2.1, .string x.2.2] 43 (0, 0))
    rw [← g5] at h5
    have hxc : CellsAt H5 (some ⟨q1, 0, none⟩) [.int .i64 x.1, .int .i64 x.2.1, .string x.2.2] := CellsAt.block (h5.get 0 rfl) fun i hi => by
      have hi : i < 3 := hi
      have : i = 0 ∨ i = 1 ∨ i = 2 := by omega
      rcases this with rfl | rfl | rfl <;> rfl
    refine Holds.append okEn okEn.under (h5.pull 2 rfl) hxc (m := 1) rfl rfl (by omega) fun r H6 h7 n7 => ⟨r, rfl, ?_⟩
    refine h7.store 2 rfl (by simp) fun H8 h8 => kz r H8 (lgc_open.2 ⟨r, ?_⟩)
    have h9 := ((HL.Holds.pull h8 1 rfl).tail).swap
    have e : (l.take (m + 1)).flatMap eE = (l.take m).flatMap eE ++ [.int .i64 x.1, .int .i64 x.2.1, .string x.2.2] := by
      have := take_step (l := l) (i := (m : Int)) (by omega) (by simpa using hx)
      have e1 : ((m : Int) + 1).toNat = m + 1 := by omega
      rw [e1, Int.toNat_natCast] at this
      rw [this]; simp
    show HL.Holds (blk c _ :: own 43 3 r ((l.take (m + 1)).flatMap eE) :: dsk d size F :: cs) H8
    rw [e]; exact h9
  have hlt : ((l.take (m + 1)).flatMap entN).length = ((l.take m).flatMap entN).length + (entN x).length := by
    have := take_step (l := l) (i := (m : Int)) (by omega) (by simpa using hx)
    have e1 : ((m : Int) + 1).toNat = m + 1 := by omega
    rw [e1, Int.toNat_natCast] at this
    rw [this, List.flatMap_append, List.length_append]; simp
  have ew : IntKind.wrap .i64 ((((l.take m).flatMap entN).length : Nat) + ((entN x).length : Nat)) = ((((l.take (m + 1)).flatMap entN).length : Nat) : Int) := by
    rw [wrap64_id (by omega) (by omega), hlt]; simp
  rw [ew]
  have hix0 : x.2.1 > st.index := by omega
  have st0 : IntKind.wrap .i64 (st.index + 1) = st.index + 1 := wrap64_id (by omega) (by omega)
  have hmx : ∀ y, l[m - 1]? = some y → m ≠ 0 → 8 ≤ ((l.take m).flatMap entN).length := fun y hy hm0 => by
    have := congrArg List.length (flat_at (l := l.take m) (m := m - 1) (x := y) (by rw [List.getElem?_take, if_pos (by omega)]; exact hy))
    rw [List.length_append, List.length_append, entN_len] at this
    omega
  refine br_intro (fun a0 => ⟨_, c2, ?_⟩) (fun a0 => br_intro (fun a1 => ?_) (fun a1 => ?_))
  · have a0 : ((((l.take m).flatMap entN).length : Nat) : Int) = 0 := by simpa using a0
    have hm0 : m = 0 := by
      rcases hm with q | ⟨y, hy, -⟩
      · exact q
      · refine Decidable.byContradiction fun q => ?_
        have := hmx y hy q
        omega
    rw [st0]
    refine br_f (decide_eq_false (by omega)) (br_f (decide_eq_false (by omega)) ?_)
    exact ⟨_, c2, br_t (decide_eq_true hix0) ⟨sl, c5, push fun l2 H7 h7 => ⟨rfl, ⟨rfl, rfl, m + 1, by omega, rfl, .inr ⟨x, by simpa using hx, rfl, rfl⟩, h7⟩, by dsimp only; omega⟩⟩⟩
  · have a1 := of_decide_eq_true a1
    have hm0 : m ≠ 0 := fun q => by rw [q] at a1; simp at a1
    rcases hm with q | ⟨y, hy, rfl, rfl⟩
    · exact absurd q hm0
    have hyi := hg.idx (m - 1) y hy
    have hup := hg.up (m - 1) y x hy (by rw [show m - 1 + 1 = m by omega]; exact hx)
    rw [wrap64_id (n := y.2.1 + 1) (by omega) (by omega)]
    refine br_f (by rw [show x.2.1 = y.2.1 + 1 by omega]; simp) (br_f (decide_eq_false (by omega)) ?_)
    exact ⟨_, c2, br_t (decide_eq_true hix0) ⟨sl, c5, push fun l2 H7 h7 => ⟨rfl, ⟨rfl, rfl, m + 1, by omega, rfl, .inr ⟨x, by simpa using hx, rfl, rfl⟩, h7⟩, by dsimp only; omega⟩⟩⟩
  · exact ⟨_, c2, br_t (decide_eq_true hix0) ⟨sl, c5, push fun l2 H7 h7 => ⟨rfl, ⟨rfl, rfl, m + 1, by omega, rfl, .inr ⟨x, by simpa using hx, rfl, rfl⟩, h7⟩, by dsimp only; omega⟩⟩⟩
end
end Go.Proofs.YtmneimfhcjkinaaDoor
