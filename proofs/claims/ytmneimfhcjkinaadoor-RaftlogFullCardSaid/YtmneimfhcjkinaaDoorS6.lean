/- Chapter 9: Snap. -/
import Derived.Test.YtmneimfhcjkinaaDoorS5
namespace Go.Proofs.YtmneimfhcjkinaaDoor
open Go Go.HL
set_option maxHeartbeats 3200000
set_option maxRecDepth 10000

def snapN (i t : Int) (data : ByteArray) : List Nat := encN i ++ (encN t ++ (encN (data.size : Nat) ++ nb data))
def snapB (i t : Int) (data : ByteArray) : ByteArray := strN (sumd (snapN i t data))
theorem snapN_bytes (i t : Int) (data : ByteArray) : ∀ b ∈ snapN i t data, b < 256 := app_bytes (encN_bytes _) (app_bytes (encN_bytes _) (app_bytes (encN_bytes _) (nb_byte _)))
theorem snapN_len (i t : Int) (data : ByteArray) : (snapN i t data).length ≤ 30 + data.size := by
  have h1 := encN_len i
  have h2 := encN_len t
  have h3 := encN_len (data.size : Nat)
  unfold snapN
  rw [List.length_append, List.length_append, List.length_append, nb_len]
  omega
/-- What a snapshot leaves of the entries. -/
def leftX (st : RS) (i t : Int) : List En := match atX st i with
  | some e => if e.1 = t then st.l.drop (i - st.index).toNat else []
  | none => []
def logF (size : Int) (F : Fs) (l : List En) : Fs := if lookL F nLog = none then F else repM size F nLog (strN (l.flatMap entN))
def snapX (size : Int) (F : Fs) (st : RS) (i t : Int) (data : ByteArray) : Int × Fs × RS :=
  if ¬ (inX i 1 ∧ inX t 1) then (1, F, st) else if data.size > 60000 then (2, F, st) else if i ≤ st.index then (10, F, st) else if t < st.snapped then (1, F, st)
  else if repC size F nSnap (snapB i t data) ≠ 0 then (repC size F nSnap (snapB i t data), repM size F nSnap (snapB i t data), st)
  else (0, logF size (repM size F nSnap (snapB i t data)) (leftX st i t), { st with index := i, snapped := t, data := data, l := leftX st i t })
theorem leftX_mem {st : RS} {i t : Int} {x : En} (h : x ∈ leftX st i t) : x ∈ st.l := by
  unfold leftX at h
  split at h
  · split at h
    · exact List.mem_of_mem_drop h
    · cases h
  · cases h
theorem leftX_len (st : RS) (i t : Int) : (leftX st i t).length ≤ st.l.length := by
  unfold leftX
  split
  · split
    · rw [List.length_drop]; omega
    · simp
  · simp
section
variable {cs : List Chunk} {H : Heap} {K : Value → Heap → Prop}
theorem snap9_spec {c d : Nat} {size : Int} {F : Fs} {st : RS} {i t : Int} {data : ByteArray} (h : HL.Holds (lgc c d st :: dsk d size F :: cs) H) (hl : st.l.length ≤ 100000) (hi : ∀ x ∈ st.l, i64B x.1 ∧ i64B x.2.1 ∧ x.2.2.size ≤ 2048) (i0 : 0 ≤ st.index) (i1 : st.index ≤ 1000000000)
    (k : ∀ H', HL.Holds (lgc c d (snapX size F st i t data).2.2 :: dsk d size (snapX size F st i t data).2.1 :: cs) H' → K (.int .i64 (snapX size F st i t data).1) H') : FnH Tryd.prog 11 #[.pointer (some ⟨c, 0, none⟩), .int .i64 i, .int .i64 t, .string data] H K := by
  apply raftlog_Log_Snap_fn
  unfold raftlog_Log_Snap_vc
  obtain ⟨s, h1⟩ := lgc_open.1 h
  unfold snapX at k
  refine ⟨fun b H' => H' = H ∧ (b = true ↔ ¬ (inX i 1 ∧ inX t 1)), within9_any fun b1 hb1 => ⟨_, rfl, br_intro (fun q => ⟨rfl, rfl, ?_⟩) (fun q => within9_any fun b2 hb2 => ⟨_, rfl, rfl, rfl, ?_⟩)⟩, ?_⟩
  · have q : ¬ inX i 1 := fun z => by rw [hb1.2 z] at q; cases q
    exact ⟨fun _ z => q z.1, fun _ => rfl⟩
  · have q : inX i 1 := hb1.1 (by cases b1 <;> simp_all)
    constructor
    · intro z w
      rw [hb2.2 w.2] at z; cases z
    · intro z
      cases b2 with
      | true => exact absurd ⟨q, hb2.1 rfl⟩ z
      | false => rfl
  rintro b H1 ⟨rfl, hb⟩
  refine br_intro (fun q => ?_) (fun q => br_intro (fun q2 => ?_) (fun q2 => ⟨_, h1.cell 0 rfl rfl, br_intro (fun q3 => ?_) (fun q3 => ⟨_, h1.cell 0 rfl rfl, br_intro (fun q4 => ?_) (fun q4 => ?_)⟩)⟩))
  · rw [if_pos (hb.1 q)] at k; exact k H1 h
  · rw [if_neg (fun z => by rw [hb.2 z] at q; cases q), if_pos (by have := of_decide_eq_true q2; omega)] at k; exact k H1 h
  · rw [if_neg (fun z => by rw [hb.2 z] at q; cases q), if_neg (by have := of_decide_eq_false q2; omega), if_pos (of_decide_eq_true q3)] at k; exact k H1 h
  · rw [if_neg (fun z => by rw [hb.2 z] at q; cases q), if_neg (by have := of_decide_eq_false q2; omega), if_neg (of_decide_eq_false q3), if_pos (of_decide_eq_true q4)] at k; exact k H1 h
  rw [if_neg (fun z => by rw [hb.2 z] at q; cases q), if_neg (by have := of_decide_eq_false q2; omega), if_neg (of_decide_eq_false q3), if_neg (of_decide_eq_false q4)] at k
  have q : inX i 1 ∧ inX t 1 := Decidable.byContradiction fun z => by rw [hb.2 z] at q; cases q
  have q2 := of_decide_eq_false q2
  have q3 := of_decide_eq_false q3
  obtain ⟨⟨x0, x1⟩, y0, y1⟩ := q
  have la := encN_len i
  have lb := encN_len t
  have lc := encN_len (data.size : Nat)
  have za := strN_size (encN_bytes i)
  have zb := strN_size (encN_bytes t)
  have zc := strN_size (encN_bytes (data.size : Nat))
  refine ⟨_, h1.cell 0 rfl rfl, _, h1.cell 0 rfl rfl, by decide, int_spec ⟨by omega, by omega⟩ fun H4 s4 => ⟨_, rfl, s4, int_spec ⟨by omega, by omega⟩ fun H5 s5 => ⟨_, rfl, s4.trans s5, by omega, int_spec (n := (data.size : Nat)) ⟨by omega, by omega⟩ fun H6 s6 => ⟨_, rfl, (s4.trans s5).trans s6, by rw [ByteArray.size_append]; omega, by rw [ByteArray.size_append, ByteArray.size_append]; omega, ?_⟩⟩⟩⟩
  have eb : strN (encN i) ++ strN (encN t) ++ strN (encN (data.size : Nat)) ++ data = strN (snapN i t data) := by
    unfold snapN
    rw [← strN_app, ← strN_app, ← strN_app, strN_nb, ByteArray.append_assoc, ByteArray.append_assoc]
  rw [eb]
  have zs := strN_size (snapN_bytes i t data)
  have ls := snapN_len i t data
  refine summed9_spec (by omega) fun H7 s7 => ⟨_, rfl, ((s4.trans s5).trans s6).trans s7, ?_⟩
  rw [nb_str (snapN_bytes i t data)]
  have en : (⟨#[114]⟩ : ByteArray) ++ (⟨#[46, 115, 110, 97, 112]⟩ : ByteArray) = nSnap := by decide +kernel
  have el : (⟨#[114]⟩ : ByteArray) ++ (⟨#[46, 108, 111, 103]⟩ : ByteArray) = nLog := by decide +kernel
  rw [en]
  refine replace_spec (n := nSnap) (b := snapB i t data) ((h1.up (((s4.trans s5).trans s6).trans s7)).pull 2 rfl) fun H8 h8 => ⟨_, rfl, br_intro (fun u => ?_) (fun u => ?_)⟩
  · have u : repC size F nSnap (snapB i t data) ≠ 0 := by simpa using u
    rw [if_pos u] at k
    exact k H8 (lgc_open.2 ⟨s, h8.down 2⟩)
  have u : repC size F nSnap (snapB i t data) = 0 := by simpa using u
  rw [if_neg (fun z => z u)] at k
  generalize repM size F nSnap (snapB i t data) = F1 at *
  have tail : ∀ (r : Sl) (lf : List En) (H15 : Heap), (∀ x ∈ lf, i64B x.1 ∧ i64B x.2.1 ∧ x.2.2.size ≤ 2048) → lf.length ≤ 100000 → HL.Holds (blk c (.cells #[.int .i64 st.term, .int .i64 st.vote, .int .i64 i, .int .i64 t, .string data, .slice r.p r.n r.c, .pointer (some ⟨d, 0, none⟩), .string ⟨#[114]⟩] 40 (0, 0)) :: ownE r lf :: dsk d size F1 :: cs) H15 →
      (∀ H', HL.Holds (lgc c d ⟨st.term, st.vote, i, t, data, lf⟩ :: dsk d size (logF size F1 lf) :: cs) H' → K (.int .i64 0) H') →
      (∃ p2 : Option Addr, cellH H15 ⟨c, 0 + 6, none⟩ = some (.pointer p2) ∧ ∃ s7 : ByteArray, cellH H15 ⟨c, 0 + 7, none⟩ = some (.string s7) ∧ s7.size + (⟨#[46, 108, 111, 103]⟩ : ByteArray).size < 9223372036854775808 ∧
        FnH Tryd.prog 25 #[.pointer p2, .string (s7 ++ (⟨#[46, 108, 111, 103]⟩ : ByteArray))] H15 fun r10 H16 => ∃ s8 : ByteArray, ∃ n7 : Int, r10 = .tuple #[.string s8, .int .i64 n7] ∧ HL.Sub H15 H16 ∧
          br (n7 == 0) (∃ p3 : Option Addr, cellH H16 ⟨c, 0 + 6, none⟩ = some (.pointer p3) ∧ ∃ s9 : ByteArray, cellH H16 ⟨c, 0 + 7, none⟩ = some (.string s9) ∧ s9.size + (⟨#[46, 108, 111, 103]⟩ : ByteArray).size < 9223372036854775808 ∧
            FnH Tryd.prog 33 #[.slice r.p r.n r.c] H16 fun r11 H17 => ∃ s10 : ByteArray, r11 = .string s10 ∧ HL.Sub H16 H17 ∧ FnH Tryd.prog 29 #[.pointer p3, .string (s9 ++ (⟨#[46, 108, 111, 103]⟩ : ByteArray)), .string s10] H17 fun r12 H18 => ∃ n8 : Int, r12 = .int .i64 n8 ∧ K (.int .i64 0) H18)
          (K (.int .i64 0) H16)) := fun r lf H15 hlf hll h15 kk => by
    have hR : Recs eE H15 r lf := Own.recs eElen (by decide) (h15.own 1 rfl) (by omega)
    refine ⟨_, h15.cell 0 rfl rfl, _, h15.cell 0 rfl rfl, by decide, ?_⟩
    rw [el]
    unfold logF at kk
    refine read_spec (i := 2) h15 rfl ⟨_, _, rfl, HL.Sub.refl _, ?_⟩
    by_cases e : lookL F1 nLog = none
    · rw [if_pos e] at kk ⊢
      exact br_f rfl (kk H15 (lgc_open.2 ⟨r, h15⟩))
    · rw [if_neg e] at kk ⊢
      refine br_t rfl ⟨_, h15.cell 0 rfl rfl, _, h15.cell 0 rfl rfl, by decide, bytes9_spec hR hlf hll fun H17 s17 => ⟨_, rfl, s17, ?_⟩⟩
      rw [el]
      exact replace_spec (n := nLog) ((h15.up s17).pull 2 rfl) fun H18 h18 => ⟨_, rfl, kk H18 (lgc_open.2 ⟨r, h18.down 2⟩)⟩
  have h8b : HL.Holds (lgc c d st :: dsk d size F1 :: cs) H8 := lgc_open.2 ⟨s, h8.down 2⟩
  have h9 := h8.down 2
  have hR : Recs eE H8 s st.l := Own.recs eElen (by decide) (h9.own 1 rfl) (by omega)
  have hn := hR.len
  have drop : leftX st i t = [] → (∃ u, cellH H8 ⟨c, 0 + 2, none⟩ = some u) ∧ frozenH H8 ⟨c, 0 + 2, none⟩ = false ∧ letH (Heap.set H8 ⟨c, 0 + 2, none⟩ (.int .i64 i)) fun H19 => (∃ u, cellH H19 ⟨c, 0 + 3, none⟩ = some u) ∧ frozenH H19 ⟨c, 0 + 3, none⟩ = false ∧ letH (Heap.set H19 ⟨c, 0 + 3, none⟩ (.int .i64 t)) fun H20 =>
      (∃ u, cellH H20 ⟨c, 0 + 4, none⟩ = some u) ∧ frozenH H20 ⟨c, 0 + 4, none⟩ = false ∧ letH (Heap.set H20 ⟨c, 0 + 4, none⟩ (.string data)) fun H21 => (∃ u, cellH H21 ⟨c, 0 + 5, none⟩ = some u) ∧ frozenH H21 ⟨c, 0 + 5, none⟩ = false ∧ letH (Heap.set H21 ⟨c, 0 + 5, none⟩ (.slice none 0 0)) fun H22 =>
        (∃ p2 : Option Addr, cellH H22 ⟨c, 0 + 6, none⟩ = some (.pointer p2) ∧ ∃ s7 : ByteArray, cellH H22 ⟨c, 0 + 7, none⟩ = some (.string s7) ∧ s7.size + (⟨#[46, 108, 111, 103]⟩ : ByteArray).size < 9223372036854775808 ∧
        FnH Tryd.prog 25 #[.pointer p2, .string (s7 ++ (⟨#[46, 108, 111, 103]⟩ : ByteArray))] H22 fun r10 H16 => ∃ s8 : ByteArray, ∃ n7 : Int, r10 = .tuple #[.string s8, .int .i64 n7] ∧ HL.Sub H22 H16 ∧
          br (n7 == 0) (∃ p3 : Option Addr, cellH H16 ⟨c, 0 + 6, none⟩ = some (.pointer p3) ∧ ∃ s9 : ByteArray, cellH H16 ⟨c, 0 + 7, none⟩ = some (.string s9) ∧ s9.size + (⟨#[46, 108, 111, 103]⟩ : ByteArray).size < 9223372036854775808 ∧
            FnH Tryd.prog 33 #[.slice none 0 0] H16 fun r11 H17 => ∃ s10 : ByteArray, r11 = .string s10 ∧ HL.Sub H16 H17 ∧ FnH Tryd.prog 29 #[.pointer p3, .string (s9 ++ (⟨#[46, 108, 111, 103]⟩ : ByteArray)), .string s10] H17 fun r12 H18 => ∃ n8 : Int, r12 = .int .i64 n8 ∧ K (.int .i64 0) H18)
          (K (.int .i64 0) H16)) := fun e => by
    rw [e] at k
    have h10 := (h9.own_nil 43 3).swap
    refine h10.store 0 rfl (by simp) fun H12 h12 => h12.store 0 rfl (by simp) fun H13 h13 => h13.store 0 rfl (by simp) fun H14 h14 => h14.store 0 rfl (by simp) fun H15 h15 => ?_
    refine tail ⟨none, 0, 0⟩ [] H15 (by simp) (by simp) ?_ k
    exact ((HL.Holds.pull h15 2 rfl).tail)
  refine at9_spec h8b rfl hl i0 i1 (by omega) (i := 0) (fun e => ⟨_, _, _, _, rfl, fun b H' => H' = H8 ∧ b = false, br_f rfl ⟨rfl, rfl, rfl⟩, ?_⟩) fun e he => ⟨_, _, _, _, rfl, fun b H' => H' = H8 ∧ (b = true ↔ e.1 = t), br_t rfl ⟨rfl, rfl, by simp⟩, ?_⟩
  · rintro b H10 ⟨rfl, rfl⟩
    exact br_f rfl (drop (by unfold leftX; rw [e]))
  · rintro b H10 ⟨rfl, hb2⟩
    refine br_intro (fun v => ?_) (fun v => drop ?_)
    · have v := hb2.1 v
      have hlf : leftX st i t = st.l.drop (i - st.index).toNat := by unfold leftX; rw [he]; exact if_pos v
      rw [hlf] at k
      have hj : (i - st.index - 1).toNat < st.l.length := by
        unfold atX at he; rw [if_neg q3] at he
        exact (List.getElem?_eq_some_iff.1 he).1
      refine ⟨s, h9.cell 0 rfl rfl, _, h9.cell 0 rfl rfl, ?_⟩
      rw [wrap64_id (n := i - st.index) (by omega) (by omega)]
      have hf := hR.from_ eElen (j := i - st.index) (by omega) (by omega)
      refine ⟨by omega, by omega, eclone_spec (s := s.from_ (i - st.index) 3) h9 hf (by rw [List.length_drop]; omega) fun r H11 s11 h11 => ⟨r, rfl, s11, ?_⟩⟩
      have h12 := h11.swap
      refine h12.store 0 rfl (by simp) fun H12 h12 => h12.store 0 rfl (by simp) fun H13 h13 => h13.store 0 rfl (by simp) fun H14 h14 => h14.store 0 rfl (by simp) fun H15 h15 => ?_
      refine tail r _ H15 (fun x hx => hi x (List.mem_of_mem_drop hx)) (by rw [List.length_drop]; omega) ?_ k
      exact ((HL.Holds.pull h15 2 rfl).tail)
    · unfold leftX; rw [he]
      exact if_neg fun z => by rw [hb2.2 z] at v; cases v
end
end Go.Proofs.YtmneimfhcjkinaaDoor
