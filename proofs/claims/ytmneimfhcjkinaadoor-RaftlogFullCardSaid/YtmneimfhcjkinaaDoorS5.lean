/- Chapter 9: Turn. -/
import Derived.Test.YtmneimfhcjkinaaDoorS4
namespace Go.Proofs.YtmneimfhcjkinaaDoor
open Go Go.HL
set_option maxHeartbeats 1600000
set_option maxRecDepth 10000

def termB (t v : Int) : ByteArray := strN (sumd (encN t ++ encN v))
abbrev inX (n least : Int) : Prop := least ≤ n ∧ n ≤ 1000000000
/-- Turn: what it answers, the disk, the log. -/
def turnX (size : Int) (F : Fs) (st : RS) (t v : Int) : Int × Fs × RS :=
  if ¬ (inX t 0 ∧ inX v 0) then (1, F, st) else if t < st.term then (13, F, st) else if t = st.term ∧ v = st.vote then (0, F, st)
  else if t = st.term ∧ st.vote ≠ 0 then (19, F, st) else if repC size F nTerm (termB t v) ≠ 0 then (repC size F nTerm (termB t v), repM size F nTerm (termB t v), st)
  else (0, repM size F nTerm (termB t v), { st with term := t, vote := v })
section
variable {cs : List Chunk} {H : Heap} {K : Value → Heap → Prop}
theorem within9_any {n least : Int} (k : ∀ b : Bool, (b = true ↔ inX n least) → K (.bool b) H) : FnH Tryd.prog 28 #[.int .i64 n, .int .i64 least] H K := by
  apply raftlog_within_fn
  unfold raftlog_within_vc
  refine br_intro (fun q => k _ ?_) (fun q => k _ ?_)
  · have q := of_decide_eq_true q
    rw [decide_eq_true_eq]
    exact ⟨fun z => ⟨q, z⟩, fun z => z.2⟩
  · have q := of_decide_eq_false q
    exact ⟨fun z => (by cases z), fun z => absurd z.1 q⟩
theorem turn9_spec {c d : Nat} {size : Int} {F : Fs} {st : RS} {t v : Int} (h : HL.Holds (lgc c d st :: dsk d size F :: cs) H)
    (k : ∀ H', HL.Holds (lgc c d (turnX size F st t v).2.2 :: dsk d size (turnX size F st t v).2.1 :: cs) H' → K (.int .i64 (turnX size F st t v).1) H') : FnH Tryd.prog 21 #[.pointer (some ⟨c, 0, none⟩), .int .i64 t, .int .i64 v] H K := by
  apply raftlog_Log_Turn_fn
  unfold raftlog_Log_Turn_vc
  obtain ⟨s, h1⟩ := lgc_open.1 h
  unfold turnX at k
  refine ⟨_, h1.cell 0 rfl rfl, fun b H' => H' = H ∧ (b = true ↔ ¬ (inX t 0 ∧ inX v 0)), within9_any fun b1 hb1 => ⟨_, rfl, br_intro (fun q => ⟨rfl, rfl, ?_⟩) (fun q => within9_any fun b2 hb2 => ⟨_, rfl, rfl, rfl, ?_⟩)⟩, ?_⟩
  · have q : ¬ inX t 0 := fun z => by rw [hb1.2 z] at q; cases q
    exact ⟨fun _ z => q z.1, fun _ => rfl⟩
  · have q : inX t 0 := hb1.1 (by cases b1 <;> simp_all)
    constructor
    · intro z w
      rw [hb2.2 w.2] at z; cases z
    · intro z
      cases b2 with
      | true => exact absurd ⟨q, hb2.1 rfl⟩ z
      | false => rfl
  rintro b H1 ⟨rfl, hb⟩
  refine br_intro (fun q => ?_) (fun q => ⟨_, h1.cell 0 rfl rfl, br_intro (fun q2 => ?_) (fun q2 => ?_)⟩)
  · rw [if_pos (hb.1 q)] at k; exact k H1 h
  · rw [if_neg (fun z => by rw [hb.2 z] at q; cases q), if_pos (of_decide_eq_true q2)] at k; exact k H1 h
  have q : inX t 0 ∧ inX v 0 := Decidable.byContradiction fun z => by rw [hb.2 z] at q; cases q
  have q2 := of_decide_eq_false q2
  rw [if_neg (fun z => z q), if_neg q2] at k
  obtain ⟨⟨t0, t1⟩, v0, v1⟩ := q
  have go : ¬ (t = st.term ∧ v = st.vote) → ¬ (t = st.term ∧ st.vote ≠ 0) → (∃ p1 : Option Addr, cellH H1 ⟨c, 0 + 6, none⟩ = some (.pointer p1) ∧ ∃ s1 : ByteArray, cellH H1 ⟨c, 0 + 7, none⟩ = some (.string s1) ∧ s1.size + (⟨#[46, 116, 101, 114, 109]⟩ : ByteArray).size < 9223372036854775808 ∧
      FnH Tryd.prog 31 #[.int .i64 t] H1 fun r3 H5 => ∃ s2 : ByteArray, r3 = .string s2 ∧ HL.Sub H1 H5 ∧ FnH Tryd.prog 31 #[.int .i64 v] H5 fun r4 H6 => ∃ s3 : ByteArray, r4 = .string s3 ∧ HL.Sub H1 H6 ∧ s2.size + s3.size < 9223372036854775808 ∧
        FnH Tryd.prog 30 #[.string (s2 ++ s3)] H6 fun r5 H7 => ∃ s4 : ByteArray, r5 = .string s4 ∧ HL.Sub H1 H7 ∧ FnH Tryd.prog 29 #[.pointer p1, .string (s1 ++ (⟨#[46, 116, 101, 114, 109]⟩ : ByteArray)), .string s4] H7 fun r6 H8 => ∃ n5 : Int, r6 = .int .i64 n5 ∧
          br (n5 != 0) (K (.int .i64 n5) H8) ((∃ u, cellH H8 ⟨c, 0, none⟩ = some u) ∧ frozenH H8 ⟨c, 0, none⟩ = false ∧ letH (Heap.set H8 ⟨c, 0, none⟩ (.int .i64 t)) fun H9 => (∃ u, cellH H9 ⟨c, 0 + 1, none⟩ = some u) ∧ frozenH H9 ⟨c, 0 + 1, none⟩ = false ∧ letH (Heap.set H9 ⟨c, 0 + 1, none⟩ (.int .i64 v)) fun H10 => K (.int .i64 0) H10)) := fun n1 n2 => by
    rw [if_neg n1, if_neg n2] at k
    have la := encN_len t
    have lb := encN_len v
    have za := strN_size (encN_bytes t)
    have zb := strN_size (encN_bytes v)
    refine ⟨_, h1.cell 0 rfl rfl, _, h1.cell 0 rfl rfl, by decide, int_spec ⟨by omega, by omega⟩ fun H5 s5 => ⟨_, rfl, s5, int_spec ⟨by omega, by omega⟩ fun H6 s6 => ⟨_, rfl, s5.trans s6, by omega, ?_⟩⟩⟩
    rw [strN_app]
    have zs : (strN (encN t ++ encN v)).size = (encN t).length + (encN v).length := app_size (encN_bytes t) (encN_bytes v)
    refine summed9_spec (by omega) fun H7 s7 => ⟨_, rfl, (s5.trans s6).trans s7, ?_⟩
    rw [nb_str (app_bytes (encN_bytes t) (encN_bytes v))]
    have en : (⟨#[114]⟩ : ByteArray) ++ (⟨#[46, 116, 101, 114, 109]⟩ : ByteArray) = nTerm := by decide +kernel
    rw [en]
    refine replace_spec (n := nTerm) (b := termB t v) ((h1.up ((s5.trans s6).trans s7)).pull 2 rfl) fun H8 h8 => ⟨_, rfl, br_intro (fun u => ?_) (fun u => ?_)⟩
    · have u : repC size F nTerm (termB t v) ≠ 0 := by simpa using u
      rw [if_pos u] at k
      exact k H8 (lgc_open.2 ⟨s, h8.down 2⟩)
    · have u : repC size F nTerm (termB t v) = 0 := by simpa using u
      rw [if_neg (fun z => z u)] at k
      refine h8.store 1 rfl (by simp) fun H9 h9 => h9.store 1 rfl (by simp) fun H10 h10 => k H10 (lgc_open.2 ⟨s, ?_⟩)
      have h10 : HL.Holds (dsk d size (repM size F nTerm (termB t v)) :: blk c (.cells #[.int .i64 t, .int .i64 v, .int .i64 st.index, .int .i64 st.snapped, .string st.data, .slice s.p s.n s.c, .pointer (some ⟨d, 0, none⟩), .string ⟨#[114]⟩] 40 (0, 0)) :: ownE s st.l :: cs) H10 := h10
      exact h10.down 2
  have e0 : ∀ b : Bool, (b = true ↔ t = st.term ∧ v = st.vote) → (b = false → ¬ (t = st.term ∧ v = st.vote)) := fun b hb e z => by rw [hb.2 z] at e; cases e
  refine ⟨fun b H' => H' = H1 ∧ (b = true ↔ t = st.term ∧ v = st.vote), br_intro (fun u => ⟨_, h1.cell 0 rfl rfl, rfl, rfl, ?_⟩) (fun u => ⟨rfl, rfl, ?_⟩), ?_⟩
  · have u : t = st.term := by simpa using u
    simp [u]
  · have u : ¬ t = st.term := by simpa using u
    simp [u]
  rintro b2 H4 ⟨rfl, hb2⟩
  refine br_intro (fun u => ?_) (fun u => br_intro (fun u2 => ⟨_, h1.cell 0 rfl rfl, br_intro (fun u3 => ?_) (fun u3 => go (e0 _ hb2 u) ?_)⟩) (fun u2 => go (e0 _ hb2 u) ?_))
  · rw [if_pos (hb2.1 u)] at k; exact k H4 h
  · have u2 : t = st.term := by simpa using u2
    have u3 : ¬ st.vote = 0 := by simpa using u3
    rw [if_neg (e0 _ hb2 u), if_pos ⟨u2, u3⟩] at k; exact k H4 h
  · have u3 : st.vote = 0 := by simpa using u3
    exact fun z => z.2 u3
  · have u2 : ¬ t = st.term := by simpa using u2
    exact fun z => u2 z.1
end
end Go.Proofs.YtmneimfhcjkinaaDoor
