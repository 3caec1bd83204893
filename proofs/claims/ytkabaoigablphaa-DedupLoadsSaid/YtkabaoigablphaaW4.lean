/- Chapter 8: reading: the plain reading of a table's bytes; a reader; notes. -/
import Derived.Test.YtkabaoigablphaaW3
import Derived.Test.YtkabaoigablphaaS6
namespace Go.Proofs.Ytkabaoigablphaa
open Go Go.HL
set_option maxRecDepth 10000
set_option maxHeartbeats 1600000

/-! ### the plain reading -/
def rest (l : List Nat) : List Nat := l.drop (readN l).2.1.toNat
def was0 : Nt := (0, 0, 0, -1)
def NtOk (was x : Nt) : Prop := 1 ≤ x.2.2.1 ∧ x.2.2.1 ≤ 64 ∧ (0 ≤ x.1 ∧ x.1 ≤ 1000000000) ∧ (0 ≤ x.2.1 ∧ x.2.1 ≤ 1000000 - x.2.2.1 + 1) ∧ (0 ≤ x.2.2.2 ∧ x.2.2.2 ≤ 1000000000 - x.2.2.1 + 1) ∧ was.2.2.2 < x.2.2.2 ∧ was.1 ≤ x.1 ∧ (x.1 = was.1 → was.2.1 + was.2.2.1 ≤ x.2.1)
instance (was x : Nt) : Decidable (NtOk was x) := by unfold NtOk; infer_instance
def ntR (l : List Nat) : Nt := ((readN l).1, (readN (rest l)).1, (readN (rest (rest l))).1, (readN (rest (rest (rest l)))).1)
def ntGood (l : List Nat) : Prop := (readN l).2.2 = 0 ∧ (readN (rest l)).2.2 = 0 ∧ (readN (rest (rest l))).2.2 = 0 ∧ (readN (rest (rest (rest l)))).2.2 = 0
instance (l : List Nat) : Decidable (ntGood l) := by unfold ntGood; infer_instance
def rest4 (l : List Nat) : List Nat := rest (rest (rest (rest l)))
def notesR : Nat → Nt → List Nat → Option (List Nt × List Nat)
  | 0, _, l => some ([], l)
  | n + 1, was, l => if ntGood l ∧ NtOk was (ntR l) then (notesR n (ntR l) (rest4 l)).map fun p => (ntR l :: p.1, p.2) else none
theorem notesR_succ (n : Nat) (was : Nt) (l : List Nat) : notesR (n + 1) was l = if ntGood l ∧ NtOk was (ntR l) then (notesR n (ntR l) (rest4 l)).map fun p => (ntR l :: p.1, p.2) else none := rfl
def keyOk (last : Int) (l : List Nat) : Prop := (readN l).2.2 = 0 ∧ (readN (rest l)).2.2 = 0 ∧ last < (readN l).1 ∧ (readN l).1 ≤ 1000000000 ∧ 1 ≤ (readN (rest l)).1
instance (last : Int) (l : List Nat) : Decidable (keyOk last l) := by unfold keyOk; infer_instance
def tabR : Nat → Int → List Nat → Option (Tb × List Nat)
  | 0, _, l => some ([], l)
  | m + 1, last, l => if keyOk last l then
      match notesR (readN (rest l)).1.toNat was0 (rest (rest l)) with
      | none => none
      | some q => (tabR m (readN l).1 q.2).map fun p => (((readN l).1, q.1) :: p.1, p.2)
    else none
def endR : Option (Tb × List Nat) → Option Tb
  | some (T, []) => some T
  | _ => none
def loadM (l : List Nat) : Option Tb := if (readN l).2.2 = 0 ∧ 0 ≤ (readN l).1 then endR (tabR (readN l).1.toNat 0 (rest l)) else none
/-! ### a read leaves less -/
theorem rest_bytes {l : List Nat} (h : ∀ b ∈ l, b < 256) : ∀ b ∈ rest l, b < 256 := fun b hb => h b (List.mem_of_mem_drop hb)
theorem rest_le (l : List Nat) : (rest l).length ≤ l.length := by unfold rest; rw [List.length_drop]; omega
theorem rest_lt {l : List Nat} (hl : ∀ b ∈ l, b < 256) (h : (readN l).2.2 = 0) : (rest l).length < l.length := by
  obtain ⟨r, h1, h2, h3, -⟩ := read_ok (n := (readN l).1) (k := (readN l).2.1) hl (by rw [← h])
  unfold rest
  rw [List.length_drop, h2]
  have := congrArg List.length h1
  rw [List.length_append] at this
  omega
theorem read_k (l : List Nat) (hl : ∀ b ∈ l, b < 256) : 0 ≤ (readN l).2.1 ∧ (readN l).2.1 ≤ l.length := by
  have h := rd_k 10 0 0 l
  refine ⟨h.1, ?_⟩
  by_cases e : (readN l).2.2 = 0
  · obtain ⟨r, h1, h2, h3, -⟩ := read_ok (n := (readN l).1) (k := (readN l).2.1) hl (by rw [← e])
    have := congrArg List.length h1
    rw [List.length_append] at this
    omega
  · have := (h.2 e).1
    have e2 : (readN l).2.1 = 0 := this
    omega
theorem read_bad {l : List Nat} (h : (readN l).2.2 ≠ 0) : (readN l).1 = 0 := ((rd_k 10 0 0 l).2 h).2
/-! ### the reader -/
abbrev rdr (r : Nat) (s : ByteArray) (ok : Bool) : Chunk := blk r (.cells #[.string s, .bool ok] 73 (0, 0))
def nx (s : ByteArray) : ByteArray := s.extract (readN (nb s)).2.1.toNat s.size
theorem nb_nx (s : ByteArray) : nb (nx s) = rest (nb s) := by
  unfold nx rest
  rw [nb_extract, List.take_of_length_le (by rw [nb_len]; exact Nat.le_refl _)]
section
variable {cs : List Chunk} {H : Heap} {K : Value → Heap → Prop}
theorem held_undo {b : Nat} {o : Obj} (h : Holds (blk b o :: cs) H) : H b = some o ∧ Holds cs (H.del b) := by
  refine ⟨h.get 0 rfl, ?_⟩
  obtain ⟨A, B, e, d, p, q⟩ := h
  refine Holds.up (fun x y hx => ?_) q
  have hne : x ≠ b := by
    rintro rfl
    have := d x y hx
    rw [show A x = some o from p] at this; cases this
  rw [Heap.del_ne _ hne, e]
  exact Heap.join_right d hx
theorem rint_spec {r : Nat} {s : ByteArray} {ok : Bool} (h : Holds (rdr r s ok :: cs) H) (k : ∀ H', Holds (rdr r (nx s) (ok && decide ((readN (nb s)).2.2 = 0)) :: cs) H' → K (.int .i64 (readN (nb s)).1) H') : FnH Try.prog 36 #[.pointer (some ⟨r, 0, none⟩)] H K := by
  apply dedup_reader_int_fn
  unfold dedup_reader_int_vc
  obtain ⟨k0, k1⟩ := read_k (nb s) (nb_byte s)
  rw [nb_len] at k1
  refine ⟨s, h.cell 0 rfl rfl, readInt_spec ⟨_, _, _, rfl, fun H2 => Holds (rdr r s (ok && decide ((readN (nb s)).2.2 = 0)) :: cs) H2, ⟨ok, h.cell 0 rfl rfl, br_intro (fun q => ?_) (fun q => ?_)⟩, fun H4 h4 => ?_⟩⟩
  · subst q
    refine Holds.store h 0 rfl (by simp) fun H2 h2 => ⟨rfl, ?_⟩
    have e : (true && decide ((readN (nb s)).2.2 = 0)) = ((readN (nb s)).2.2 == 0) := by rw [Bool.true_and]; rfl
    rw [e]; exact h2
  · subst q
    exact Holds.store h 0 rfl (by simp) fun H2 h2 => ⟨rfl, h2⟩
  · exact ⟨s, h4.cell 0 rfl rfl, k0, k1, Holds.store h4 0 rfl (by simp) fun H5 h5 => k H5 h5⟩
/-- The reader lent for one call. -/
theorem rint_lent {s : ByteArray} {ok : Bool} {X : Int → ByteArray → Bool → Heap → Prop} (h : Holds cs H) (k : ∀ H', Holds cs H' → X (readN (nb s)).1 (nx s) (ok && decide ((readN (nb s)).2.2 = 0)) H') :
    ∀ q, H q = none → FnH Try.prog 36 #[.pointer (some ⟨q, 0, none⟩)] (Heap.upd H q (.cells #[.string s, .bool ok] 73 (0, 0))) fun r H' => ∃ n : Int, r = .int .i64 n ∧ ∃ s2 : ByteArray, ∃ b : Bool, H' q = some (.cells #[.string s2, .bool b] 73 (0, 0)) ∧ letH (Heap.del H' q) fun H2 => X n s2 b H2 :=
  fun q hq => rint_spec (h.add hq _) fun H' h' => ⟨_, rfl, _, _, (held_undo h').1, letH_intro fun H2 g => k H2 (by rw [g]; exact (held_undo h').2)⟩
/-! ### notes -/
theorem notes_spec {r : Nat} {s : ByteArray} {n : Int} (h : Holds (rdr r s true :: cs) H) (hn : 1 ≤ n) (hn2 : n ≤ 9223372036854775807) (hs : s.size ≤ 100000000)
    (k0 : notesR n.toNat was0 (nb s) = none → ∀ s' ok' H', Holds (rdr r s' ok' :: cs) H' → K (.slice none 0 0) H')
    (k1 : ∀ N l, notesR n.toNat was0 (nb s) = some (N, l) → ∀ (sl : Sl) s' H', nb s' = l → 0 < sl.n → Holds (ownN sl N :: rdr r s' true :: cs) H' → K (.slice sl.p sl.n sl.c) H') :
    FnH Try.prog 37 #[.pointer (some ⟨r, 0, none⟩), .int .i64 n] H K := by
  apply dedup_reader_notes_fn
  unfold dedup_reader_notes_vc
  refine ⟨fun m sl a b c d H => 0 ≤ m ∧ m ≤ n ∧ (0 ≤ b ∧ b ≤ 1000001 ∧ 0 ≤ c ∧ c ≤ 64) ∧ (m = n ∨ 0 < sl.n) ∧ ∃ D s', Holds (ownN sl D :: rdr r s' true :: cs) H ∧ D.length * 4 + s'.size ≤ s.size ∧ notesR n.toNat was0 (nb s) = (notesR m.toNat (a, b, c, d) (nb s')).map fun p => (D ++ p.1, p.2),
    fun m _ _ _ _ _ _ => m.toNat, ⟨by omega, Int.le_refl _, ⟨by decide, by decide, by decide, by decide⟩, .inl rfl, [], s, h.own_nil 62 4, by simp, ?_⟩, ?_⟩
  · show _ = (notesR n.toNat was0 (nb s)).map _
    cases notesR n.toNat was0 (nb s) <;> rfl
  rintro m sl a b c d H1 ⟨m0, m1, ⟨b0, b1, c0, c1⟩, hsl, D, s', h1, hD, hR⟩
  refine br_intro (fun q => ?_) (fun q => ?_)
  · have q := of_decide_eq_true q
    have em : m.toNat = (m - 1).toNat + 1 := by omega
    rw [em] at hR
    rw [notesR_succ] at hR
    refine rint_spec h1.swap fun H2 h2 => ⟨_, rfl, rint_spec h2 fun H3 h3 => ⟨_, rfl, rint_spec h3 fun H4 h4 => ⟨_, rfl, rint_spec h4 fun H5 h5 => ⟨_, rfl, ?_⟩⟩⟩⟩
    clear h1 h2 h3 h4
    rw [nb_nx, nb_nx, nb_nx, nb_nx, nb_nx, nb_nx] at *
    have e4 : nb (nx (nx (nx (nx s')))) = rest4 (nb s') := by rw [nb_nx, nb_nx, nb_nx, nb_nx]; rfl
    have hbs := nb_byte s'
    generalize nx (nx (nx (nx s'))) = s4 at *
    have hgood : (((true && decide ((readN (nb s')).2.2 = 0)) && decide ((readN (rest (nb s'))).2.2 = 0)) && decide ((readN (rest (rest (nb s')))).2.2 = 0) && decide ((readN (rest (rest (rest (nb s'))))).2.2 = 0)) = decide (ntGood (nb s')) := by
      unfold ntGood
      rw [Bool.eq_iff_iff]
      simp only [Bool.true_and, Bool.and_eq_true, decide_eq_true_eq, and_assoc]
      exact decide_eq_true_iff.symm
    rw [hgood] at h5
    have hlen : ntGood (nb s') → s4.size + 4 ≤ s'.size := fun ⟨g1, g2, g3, g4⟩ => by
      have t1 := rest_lt hbs g1
      have t2 := rest_lt (rest_bytes hbs) g2
      have t3 := rest_lt (rest_bytes (rest_bytes hbs)) g3
      have t4 := rest_lt (rest_bytes (rest_bytes (rest_bytes hbs))) g4
      have := congrArg List.length e4
      unfold rest4 at this
      rw [nb_len] at this t1
      omega
    have hx : ntR (nb s') = ((readN (nb s')).1, (readN (rest (nb s'))).1, (readN (rest (rest (nb s')))).1, (readN (rest (rest (rest (nb s'))))).1) := rfl
    generalize (readN (nb s')).1 = x1 at *
    generalize (readN (rest (nb s'))).1 = x2 at *
    generalize (readN (rest (rest (nb s')))).1 = x3 at *
    generalize (readN (rest (rest (rest (nb s'))))).1 = x4 at *
    rw [hx] at hR
    have bad : ¬ (ntGood (nb s') ∧ NtOk (a, b, c, d) (x1, x2, x3, x4)) → K (.slice none 0 0) H5 := fun z => by
      rw [if_neg z] at hR
      exact k0 hR _ _ H5 (h5.swap.tail)
    have hb5 : cellH H5 ⟨r, 0 + 1, none⟩ = some (.bool (decide (ntGood (nb s')))) := h5.cell 0 rfl rfl
    refine ⟨fun okb H9 => H9 = H5 ∧ (okb = true → ntGood (nb s') ∧ 1 ≤ x3 ∧ x3 ≤ 64 ∧ (0 ≤ x1 ∧ x1 ≤ 1000000000) ∧ (0 ≤ x2 ∧ x2 ≤ 1000000 - x3 + 1) ∧ (0 ≤ x4 ∧ x4 ≤ 1000000000 - x3 + 1)) ∧ (okb = false → ¬ (ntGood (nb s') ∧ NtOk (a, b, c, d) (x1, x2, x3, x4))), ⟨_, hb5, ?_⟩, ?_⟩
    · have no : ∀ {P : Prop}, ¬ P → ((ntGood (nb s') ∧ NtOk (a, b, c, d) (x1, x2, x3, x4)) → P) → ((false = true → ntGood (nb s') ∧ 1 ≤ x3 ∧ x3 ≤ 64 ∧ (0 ≤ x1 ∧ x1 ≤ 1000000000) ∧ (0 ≤ x2 ∧ x2 ≤ 1000000 - x3 + 1) ∧ (0 ≤ x4 ∧ x4 ≤ 1000000000 - x3 + 1)) ∧ (false = false → ¬ (ntGood (nb s') ∧ NtOk (a, b, c, d) (x1, x2, x3, x4)))) := fun hp hi => ⟨fun z => (by cases z), fun _ z => hp (hi z)⟩
      refine br_intro (fun p1 => br_intro (fun p2 => br_intro (fun p3 => ?_) (fun p3 => ⟨rfl, rfl, no (of_decide_eq_false p3) fun z => z.2.2.1⟩)) (fun p2 => ⟨rfl, rfl, no (of_decide_eq_false p2) fun z => z.2.1⟩)) (fun p1 => ⟨rfl, rfl, no (of_decide_eq_false p1) fun z => z.1⟩)
      have p1 := of_decide_eq_true p1
      have p2 := of_decide_eq_true p2
      have p3 := of_decide_eq_true p3
      rw [wrap64_id (n := 1000000 - x3) (by omega) (by omega), wrap64_id (n := 1000000 - x3 + 1) (by omega) (by omega), wrap64_id (n := 1000000000 - x3) (by omega) (by omega), wrap64_id (n := 1000000000 - x3 + 1) (by omega) (by omega)]
      have inb : ∀ {u v : Int} {w : Bool}, inB u v = w → (w = true → 0 ≤ u ∧ u ≤ v) ∧ (w = false → ¬ (0 ≤ u ∧ u ≤ v)) := fun {u v w} e => by
        unfold inB at e
        subst e
        simp
      refine within8_spec ⟨_, rfl, br_intro (fun p4 => within8_spec ⟨_, rfl, br_intro (fun p5 => within8_spec ⟨_, rfl, ?_⟩) (fun p5 => ⟨rfl, rfl, no ((inb p5).2 rfl) fun z => z.2.2.2.2.1⟩)⟩) (fun p4 => ⟨rfl, rfl, no ((inb p4).2 rfl) fun z => z.2.2.2.1⟩)⟩
      refine ⟨rfl, rfl, fun p6 => ⟨p1, p2, p3, (inb p4).1 rfl, (inb p5).1 rfl, (inb p6).1 rfl⟩, fun p6 z => (inb p6).2 rfl z.2.2.2.2.2.1⟩
    rintro okb H9 ⟨rfl, ho1, ho2⟩
    refine br_intro (fun p => bad (ho2 (by simpa using p))) (fun p => ?_)
    obtain ⟨g0, g1, g2, g3, g4, g5⟩ := ho1 (by simpa using p)
    have hl4 := hlen g0
    rw [wrap64_id (n := b + c) (by omega) (by omega), wrap64_id (n := m - 1) (by omega) (by omega)]
    refine br_intro (fun p1 => bad fun z => ?_) (fun p1 => br_intro (fun p2 => bad fun z => ?_) (fun p2 => ?_))
    · have := of_decide_eq_true p1
      have := z.2.2.2.2.2.2.1
      dsimp only at this; omega
    · have := of_decide_eq_true p2
      have := z.2.2.2.2.2.2.2.1
      dsimp only at this; omega
    have p1 := of_decide_eq_false p1
    have p2 := of_decide_eq_false p2
    have hDn : sl.n = D.length := by
      have := (h5.own 1 rfl).1
      rw [flat_len eNlen] at this; omega
    have hgo : NtOk (a, b, c, d) (x1, x2, x3, x4) → ∀ (l1 : Sl) H11, Holds (ownN l1 (D ++ [(x1, x2, x3, x4)]) :: rdr r s4 true :: cs) H11 → 0 < l1.n → (0 ≤ m - 1 ∧ m - 1 ≤ n ∧ (0 ≤ x2 ∧ x2 ≤ 1000001 ∧ 0 ≤ x3 ∧ x3 ≤ 64) ∧ (m - 1 = n ∨ 0 < l1.n) ∧ ∃ D s', Holds (ownN l1 D :: rdr r s' true :: cs) H11 ∧ D.length * 4 + s'.size ≤ s.size ∧ notesR n.toNat was0 (nb s) = (notesR (m - 1).toNat (x1, x2, x3, x4) (nb s')).map fun p => (D ++ p.1, p.2)) := fun z l1 H11 h11 hl1 => by
      refine ⟨by omega, by omega, ⟨g4.1, by omega, by omega, g2⟩, .inr hl1, _, s4, h11, by rw [List.length_append, List.length_singleton]; omega, ?_⟩
      rw [if_pos ⟨g0, z⟩, ← e4] at hR
      rw [hR]
      cases notesR (m - 1).toNat (x1, x2, x3, x4) (nb s4) with
      | none => rfl
      | some p => simp
    have hgt : decide (ntGood (nb s')) = true := decide_eq_true g0
    rw [hgt] at h5
    have st : ∀ q, H9 q = none → HL.Sub H9 (H9.upd q (.cells #[.int .i64 x1, .int .i64 x2, .int .i64 x3, .int .i64 x4] 62 (0, 0))) ∧ ∀ (X : Value → Heap → Prop), (∀ (l1 : Sl) H11, Holds (ownN l1 (D ++ [(x1, x2, x3, x4)]) :: rdr r s4 true :: cs) H11 → 0 < l1.n → X (.slice l1.p l1.n l1.c) H11) → runH Try.prog (Builtin.append_ #[56, 56] 56 #[.slice sl.p sl.n sl.c, .slice (some ⟨q, 0, none⟩) 1 1]) (H9.upd q (.cells #[.int .i64 x1, .int .i64 x2, .int .i64 x3, .int .i64 x4] 62 (0, 0))) X := fun q hq => by
      refine ⟨HL.Sub.new hq _, fun X kX => ?_⟩
      have hp := Holds.push ok56 (ty := 56) (T := 62) h5.swap (xs := eN (x1, x2, x3, x4)) (m := 1) rfl rfl (by omega) (K := X) (fun l1 H11 h11 n11 => kX l1 H11 ?_ (by omega)) q hq
      · exact hp
      have e : (D ++ [(x1, x2, x3, x4)]).flatMap eN = D.flatMap eN ++ eN (x1, x2, x3, x4) := by simp
      show Holds (own 62 4 l1 ((D ++ [(x1, x2, x3, x4)]).flatMap eN) :: _) H11
      rw [e]; exact h11
    have me : (m - 1).toNat < m.toNat := by omega
    refine br_intro (fun p3 => br_intro (fun p4 => bad fun z => ?_) (fun p4 => ?_)) (fun p3 => ?_)
    · have := of_decide_eq_true p4
      have := z.2.2.2.2.2.2.2.2 (by simpa using p3)
      dsimp only at this; omega
    · have p4 := of_decide_eq_false p4
      have z : NtOk (a, b, c, d) (x1, x2, x3, x4) := ⟨g1, g2, g3, g4, g5, by dsimp only; omega, by dsimp only; omega, fun _ => by dsimp only; omega⟩
      refine ⟨fun q hq => letH_intro fun H10 g => ?_, HL.Sub.refl _, fun q hq => letH_intro fun H10 g => ?_⟩ <;> subst g <;> obtain ⟨t1, t2⟩ := st q hq
      · exact ⟨t1, t2 _ fun l1 H11 h11 hl1 => ⟨l1, rfl, rfl, hgo z l1 H11 h11 hl1, me⟩, t1, t2 _ fun l1 H11 h11 hl1 => ⟨l1, rfl, rfl, hgo z l1 H11 h11 hl1, me⟩⟩
      · exact ⟨t1, t2 _ fun l1 H11 h11 hl1 => ⟨l1, rfl, rfl, hgo z l1 H11 h11 hl1, me⟩⟩
    · have p3 : ¬ x1 = a := by simpa using p3
      have z : NtOk (a, b, c, d) (x1, x2, x3, x4) := ⟨g1, g2, g3, g4, g5, by dsimp only; omega, by dsimp only; omega, fun e => absurd e p3⟩
      refine ⟨fun q hq => letH_intro fun H10 g => ?_, HL.Sub.refl _, fun q hq => letH_intro fun H10 g => ?_⟩ <;> subst g <;> obtain ⟨t1, t2⟩ := st q hq
      · exact ⟨t1, t2 _ fun l1 H11 h11 hl1 => ⟨l1, rfl, rfl, hgo z l1 H11 h11 hl1, me⟩, t1, t2 _ fun l1 H11 h11 hl1 => ⟨l1, rfl, rfl, hgo z l1 H11 h11 hl1, me⟩⟩
      · exact ⟨t1, t2 _ fun l1 H11 h11 hl1 => ⟨l1, rfl, rfl, hgo z l1 H11 h11 hl1, me⟩⟩
  · have q := of_decide_eq_false q
    have e : m.toNat = 0 := by omega
    rw [e] at hR
    have hR : notesR n.toNat was0 (nb s) = some (D ++ [], nb s') := hR
    rw [List.append_nil] at hR
    exact k1 D _ hR sl s' H1 rfl (hsl.resolve_left (by omega)) h1
end
end Go.Proofs.Ytkabaoigablphaa
