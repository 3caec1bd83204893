/- Chapter 5: batches written and read: wire.Batch, wire.ReadBatch. -/
import Derived.Test.YtokceblmbmajgaaGreatDoorG3
import Derived.Test.YtokceblmbmajgaaGreatDoorSn
namespace Go.Proofs.YtokceblmbmajgaaGreatDoor
open Go Go.HL
set_option maxHeartbeats 1600000
set_option maxRecDepth 10000

def rightB (b : Ba) : Int := rightM b.base b.epoch b.pid b.pe b.seq b.recs
/-- What `Right` lets in. -/
structure RightOk (b : Ba) : Prop where
  base : 0 ≤ b.base ∧ b.base ≤ 1000000000
  epoch : 0 ≤ b.epoch ∧ b.epoch ≤ 1000000000
  pid : 0 ≤ b.pid ∧ b.pid ≤ 1000000000
  pe : 0 ≤ b.pe ∧ b.pe ≤ 1000000000
  seq : 0 ≤ b.seq ∧ b.seq ≤ 1000000000
  some_ : 0 < b.recs.length
  few : b.recs.length ≤ 64
  text : ∀ r ∈ b.recs, TextOk r
  time : ∀ r ∈ b.recs, 0 ≤ r.2.2 ∧ r.2.2 ≤ 1000000000
  body : (bodyM [b.base, b.epoch, b.pid, b.pe, b.seq, (b.recs.length : Nat)] b.recs).length ≤ 4088
theorem inB_of {n m : Int} (h : inB n m = true) : 0 ≤ n ∧ n ≤ m := by
  unfold inB at h
  rw [Bool.and_eq_true] at h
  exact ⟨of_decide_eq_true h.1, of_decide_eq_true h.2⟩
theorem right_facts {b : Ba} (h : rightB b = 0) : RightOk b := by
  unfold rightB rightM at h
  split at h
  · cases h
  rename_i h1
  split at h
  · cases h
  rename_i h2
  split at h
  · cases h
  rename_i h3
  split at h
  · cases h
  rename_i h4
  split at h
  · cases h
  rename_i h5
  split at h
  · cases h
  rename_i h6
  have h1 : argBad b.base b.epoch b.pid b.pe b.seq (b.recs.length : Nat) = false := by simpa using h1
  unfold argBad at h1
  simp only [Bool.or_eq_false_iff] at h1
  obtain ⟨⟨⟨⟨⟨⟨a1, a2⟩, a3⟩, a4⟩, a5⟩, a6⟩, a7⟩ := h1
  have n_of : ∀ {x : Bool}, (!x) = false → x = true := fun {x} hx => by cases x <;> simp_all
  have a1 := of_decide_eq_false a1
  have a7 := of_decide_eq_false a7
  have hany : ∀ {p : Rcd → Bool}, ¬ b.recs.any p = true → ∀ r ∈ b.recs, p r = false := fun {p} hp r hr => by
    cases e : p r with
    | false => rfl
    | true => exact absurd (List.any_eq_true.2 ⟨r, hr, e⟩) hp
  exact ⟨⟨by omega, by omega⟩, inB_of (n_of a2), inB_of (n_of a3), inB_of (n_of a4), inB_of (n_of a5), by omega, by omega, fun r hr => long_ok (hany h4 r hr), fun r hr => inB_of (n_of (hany h2 r hr)), by omega⟩
theorem txt_nb (s : ByteArray) : txt s = (nb s).map fun b : Nat => (b : Int) := by simp [txt, nb, Function.comp_def]
theorem encText_eq {s : ByteArray} (h : s.size ≤ 1000000) : encText s = (textN s).map fun b : Nat => (b : Int) := by
  unfold encText textN
  rw [encInt_eq (n := (s.size : Nat)) ⟨by omega, by omega⟩, txt_nb, List.map_append]
theorem recM_eq {r : Rcd} (h : TextOk r) (ht : 0 ≤ r.2.2 ∧ r.2.2 ≤ 1000000000) : recM r = (recN r).map fun b : Nat => (b : Int) := by
  have h1 := h.1
  have h2 := h.2
  unfold recM recN
  rw [encInt_eq (n := r.2.2) ⟨by omega, by omega⟩, encText_eq (s := r.1) (by omega), encText_eq (s := r.2.1) (by omega), List.map_append, List.map_append]
theorem recsM_eq : ∀ {l : List Rcd}, (∀ r ∈ l, TextOk r) → (∀ r ∈ l, 0 ≤ r.2.2 ∧ r.2.2 ≤ 1000000000) → (l.map recM).flatten = (l.flatMap recN).map fun b : Nat => (b : Int)
  | [], _, _ => rfl
  | r :: l, h, g => by
    rw [List.map_cons, List.flatten_cons, List.flatMap_cons, List.map_append, recM_eq (h r (by simp)) (g r (by simp)), recsM_eq (fun x hx => h x (List.mem_cons_of_mem _ hx)) fun x hx => g x (List.mem_cons_of_mem _ hx)]
theorem bodyM_eq {b : Ba} (h : RightOk b) : bodyM [b.base, b.epoch, b.pid, b.pe, b.seq, (b.recs.length : Nat)] b.recs = (bodyB b).map fun b : Nat => (b : Int) := by
  obtain ⟨a0, a1⟩ := h.base
  obtain ⟨b0, b1⟩ := h.epoch
  obtain ⟨c0, c1⟩ := h.pid
  obtain ⟨d0, d1⟩ := h.pe
  obtain ⟨e0, e1⟩ := h.seq
  have hf := h.few
  unfold bodyM bodyB
  rw [recsM_eq h.text h.time]
  simp only [List.map_cons, List.map_nil, List.flatten_cons, List.flatten_nil, List.append_nil, List.map_append, List.append_assoc]
  rw [encInt_eq (n := b.base) ⟨by omega, by omega⟩, encInt_eq (n := b.epoch) ⟨by omega, by omega⟩, encInt_eq (n := b.pid) ⟨by omega, by omega⟩, encInt_eq (n := b.pe) ⟨by omega, by omega⟩, encInt_eq (n := b.seq) ⟨by omega, by omega⟩, encInt_eq (n := (b.recs.length : Nat)) ⟨by omega, by omega⟩]
theorem RightOk.len {b : Ba} (h : RightOk b) : (bodyB b).length ≤ 4088 := by
  have := h.body
  rw [bodyM_eq h, List.length_map] at this
  exact this
theorem RightOk.flen {b : Ba} (h : RightOk b) : 8 ≤ flen b ∧ flen b ≤ 4096 := by
  have := h.len
  rw [flen_eq]; omega
section
variable {cs : List Chunk} {H : Heap} {K : Value → Heap → Prop}
theorem four5_spec {s : ByteArray} {c : Nat} {r : List Nat} (hs : nb s = fourN c ++ r) (hc : c < 4294967296) (k : K (.int .i64 (c : Int)) H) : FnH Tryz.prog 64 #[.string s] H K := by
  apply wire_four_fn
  unfold wire_four_vc
  obtain ⟨c1, a1, b1⟩ := nb_get (s := s) (i := 0) (v := c / 16777216 % 256) (by rw [hs]; rfl)
  obtain ⟨c2, a2, b2⟩ := nb_get (s := s) (i := 1) (v := c / 65536 % 256) (by rw [hs]; rfl)
  obtain ⟨c3, a3, b3⟩ := nb_get (s := s) (i := 2) (v := c / 256 % 256) (by rw [hs]; rfl)
  obtain ⟨c4, a4, b4⟩ := nb_get (s := s) (i := 3) (v := c % 256) (by rw [hs]; rfl)
  refine ⟨by decide, c1, a1, by decide, c2, a2, by decide, c3, a3, by decide, c4, a4, ?_⟩
  rw [b1, b2, b3, b4, fourth_val (Nat.mod_lt _ (by decide)) (Nat.mod_lt _ (by decide)) (Nat.mod_lt _ (by decide)) (Nat.mod_lt _ (by decide))]
  have e : c / 16777216 % 256 * 16777216 + c / 65536 % 256 * 65536 + c / 256 % 256 * 256 + c % 256 = c := by omega
  rw [e]; exact k
theorem appendFour_spec {b : Sl} {l : List Nat} {c : Nat} (h : HL.Holds (ownY b l :: cs) H) (hc : c < 4294967296) (hb : b.n ≤ 100000000) (k : ∀ (r : Sl) H', HL.Holds (ownY r (l ++ fourN c) :: cs) H' → r.n = b.n + 4 → K (.slice r.p r.n r.c) H') :
    FnH Tryz.prog 70 #[.slice b.p b.n b.c, .int .i64 (c : Int)] H K := by
  apply wire_appendFour_fn
  unfold wire_appendFour_vc
  have e1 : ∀ k : Nat, k < 64 → IntKind.wrap .u8 (shrI .i64 (c : Int) k) = ((c / 2 ^ k % 256 : Nat) : Int) := fun k hk => by
    rw [shr_n _ _ hk, wrap_u8]; omega
  have ea : IntKind.wrap .u8 (shrI .i64 (c : Int) 24) = ((c / 16777216 % 256 : Nat) : Int) := e1 24 (by decide)
  have eb : IntKind.wrap .u8 (shrI .i64 (c : Int) 16) = ((c / 65536 % 256 : Nat) : Int) := e1 16 (by decide)
  have ec : IntKind.wrap .u8 (shrI .i64 (c : Int) 8) = ((c / 256 % 256 : Nat) : Int) := e1 8 (by decide)
  have ed : IntKind.wrap .u8 (c : Int) = ((c % 256 : Nat) : Int) := by rw [wrap_u8]; omega
  rw [ea, eb, ec, ed]
  refine Holds.push okBy h (xs := byV (fourN c)) (m := 4) rfl rfl (by omega) fun r H2 h2 n2 => ⟨r, rfl, k r H2 ?_ n2⟩
  unfold ownY byV
  rw [List.map_append]; exact h2
theorem batch_spec {b : Ba} {s : Sl} {c0 : Chunk} {i : Nat} (h : HL.Holds cs H) (g : Gives c0 fun A => Recs eR A s b.recs) (ei : cs[i]? = some c0) (k : ∀ H', HL.Holds cs H' → K (.tuple #[.string (if rightB b = 0 then strN (frameB b) else ⟨#[]⟩), .int .i64 (rightB b)]) H') :
    FnH Tryz.prog 44 #[.agg #[.int .i64 b.base, .int .i64 b.epoch, .int .i64 b.pid, .int .i64 b.pe, .int .i64 b.seq, .slice s.p s.n s.c]] H K := by
  apply wire_Batch_fn
  unfold wire_Batch_vc
  refine right_spec h g ei fun H1 h1 => ⟨_, rfl, br_intro (fun q => ?_) (fun q => ?_)⟩
  · have q : ¬ rightB b = 0 := by have q : rightM b.base b.epoch b.pid b.pe b.seq b.recs ≠ 0 := by simpa using q
                                  exact q
    have := k H1 h1
    rw [if_neg q] at this
    exact this
  have q : rightB b = 0 := by have q : rightM b.base b.epoch b.pid b.pe b.seq b.recs = 0 := by simpa using q
                              exact q
  have hk := right_facts q
  rw [if_pos q, q] at k
  have hsn : s.n = b.recs.length := (g.at_ h i ei).len
  have hl := hk.len
  have hbb := bodyB_b b
  refine body_spec h1 g ei (by have := hk.few; omega) hk.text fun r H2 h2 n2 => ⟨r, rfl, ?_⟩
  rw [hsn, bodyM_eq hk, List.length_map] at n2
  rw [hsn, bodyM_eq hk, bv_nat] at h2
  have h2 : HL.Holds (ownY r (bodyB b) :: cs) H2 := h2
  have hcrc := crcN_lt (bodyB b) hbb
  rw [n2]
  have hz : (strN (bodyB b)).size = (bodyB b).length := strN_size hbb
  have fin : ∀ (l2 : Sl) (H4 : Heap), HL.Holds (ownY l2 (fourN (bodyB b).length) :: ownY r (bodyB b) :: cs) H4 → l2.n = 4 → FnH Tryz.prog 65 #[.string (strN (bodyB b))] H4 fun r5 H5 => ∃ n2 : Int, r5 = .int .i64 n2 ∧ FnH Tryz.prog 70 #[.slice l2.p l2.n l2.c, .int .i64 n2] H5 fun r6 H6 => ∃ l3 : Sl, r6 = .slice l3.p l3.n l3.c ∧
      runH Tryz.prog (Builtin.append_ #[112, 112] 112 #[.slice l3.p l3.n l3.c, .slice r.p (bodyB b).length r.c]) H6 fun r7 H7 => ∃ l4 : Sl, r7 = .slice l4.p l4.n l4.c ∧ runH Tryz.prog (convert 112 9 (.slice l4.p l4.n l4.c)) H7 fun r8 H8 => ∃ s2 : ByteArray, r8 = .string s2 ∧ K (.tuple #[.string s2, .int .i64 0]) H8 := fun l2 H4 h4 n4 => by
    refine crc_spec (by omega) ⟨_, rfl, ?_⟩
    rw [nb_str hbb]
    refine appendFour_spec h4 hcrc (by omega) fun l3 H6 h6 n6 => ⟨l3, rfl, ?_⟩
    have hcells : CellsAt H6 r.p (byV (bodyB b)) := (h6.own 1 rfl).cells
    refine Holds.append okBy okBy.under h6 hcells (by simp) (noTups_by _) (by omega) fun l4 H7 h7 n7 => ⟨l4, rfl, ?_⟩
    have e : byV (fourN (bodyB b).length ++ fourN (crcN (bodyB b))) ++ byV (bodyB b) = byV (frameB b) := by unfold frameB byV; simp
    rw [e] at h7
    exact toStr (h7.own 0 rfl) (frameB_b b) ⟨_, rfl, k H7 h7.tail.tail⟩
  constructor
  · refine appendFour_spec (b := ⟨none, 0, 0⟩) (l := []) (h2.own_nil 5 1) (by omega) (by decide) fun l2 H3 h3 n3 => ⟨l2, rfl, ?_⟩
    have ho : Own H3 5 1 r (byV (bodyB b)) := h3.own 1 rfl
    rw [← n2]
    refine toStr ho hbb ⟨_, rfl, ?_⟩
    rw [n2]
    exact fin l2 H3 h3 n3
  · have ho : Own H2 5 1 r (byV (bodyB b)) := h2.own 0 rfl
    rw [← n2]
    refine toStr ho hbb ⟨_, rfl, ?_⟩
    rw [n2]
    exact appendFour_spec (b := ⟨none, 0, 0⟩) (l := []) (h2.own_nil 5 1) (by omega) (by decide) fun l2 H3 h3 n3 => ⟨l2, rfl, fin l2 H3 h3 n3⟩
/-- The reader: a number. -/
abbrev rdr (q : Nat) (s : ByteArray) (ok : Bool) : Chunk := blk q (.cells #[.string s, .bool ok] 108 (0, 0))
theorem rint_spec {q : Nat} {n : Int} {r : List Nat} (h : HL.Holds (rdr q (strN (encN n ++ r)) true :: cs) H) (hn : i64B n) (hr : ∀ b ∈ r, b < 256) (k : ∀ H', HL.Holds (rdr q (strN r) true :: cs) H' → K (.int .i64 n) H') : FnH Tryz.prog 66 #[.pointer (some ⟨q, 0, none⟩)] H K := by
  apply wire_reader_int_fn
  unfold wire_reader_int_vc
  refine ⟨_, h.cell 0 rfl rfl, readInt_spec ?_⟩
  rw [nb_str (app_bytes (encN_bytes n) hr), read_enc hn.1 hn.2]
  have hz := app_size (encN_bytes n) hr
  refine ⟨_, _, _, rfl, fun H' => HL.Holds (rdr q (strN (encN n ++ r)) true :: cs) H', ⟨_, h.cell 0 rfl rfl, br_t rfl (h.store 0 rfl (by simp) fun H2 h2 => ⟨rfl, h2⟩)⟩, fun H4 h4 => ⟨_, h4.cell 0 rfl rfl, by show (0 : Int) ≤ ((encN n).length : Nat); omega, by show (((encN n).length : Nat) : Int) ≤ _; omega, ?_⟩⟩
  refine h4.store 0 rfl (by simp) fun H5 h5 => k H5 ?_
  rw [ext_skip (encN_bytes n) hr (by simp) (by rw [hz, Int.toNat_natCast])] at h5
  exact h5
theorem rint_lent {n : Int} {r : List Nat} {X : Int → ByteArray → Bool → Heap → Prop} (h : HL.Holds cs H) (hn : i64B n) (hr : ∀ b ∈ r, b < 256) (k : ∀ H', HL.Holds cs H' → X n (strN r) true H') :
    ∀ q, H q = none → FnH Tryz.prog 66 #[.pointer (some ⟨q, 0, none⟩)] (Heap.upd H q (.cells #[.string (strN (encN n ++ r)), .bool true] 108 (0, 0))) fun v H' => ∃ n : Int, v = .int .i64 n ∧ ∃ s2 : ByteArray, ∃ b : Bool, H' q = some (.cells #[.string s2, .bool b] 108 (0, 0)) ∧ letH (Heap.del H' q) fun H2 => X n s2 b H2 :=
  fun q hq => rint_spec (h.add hq _) hn hr fun H' h' => ⟨_, rfl, _, _, (held_undo h').1, letH_intro fun H2 g => k H2 (by rw [g]; exact (held_undo h').2)⟩
theorem within5_spec {n m : Int} (h0 : 0 ≤ n) (h1 : n ≤ m) (k : K (.bool true) H) : FnH Tryz.prog 84 #[.int .i64 n, .int .i64 m] H K := by
  refine within_spec ?_
  unfold inB
  rw [decide_eq_true h0, decide_eq_true h1]; exact k
theorem rtext_spec {q : Nat} {t : ByteArray} {r : List Nat} {most : Int} (h : HL.Holds (rdr q (strN (textN t ++ r)) true :: cs) H) (ht : (t.size : Int) ≤ most) (hb : t.size ≤ 268435456) (hr : ∀ b ∈ r, b < 256) (k : ∀ H', HL.Holds (rdr q (strN r) true :: cs) H' → K (.string t) H') :
    FnH Tryz.prog 67 #[.pointer (some ⟨q, 0, none⟩), .int .i64 most] H K := by
  apply wire_reader_text_fn
  unfold wire_reader_text_vc
  have e : textN t ++ r = encN (t.size : Nat) ++ (nb t ++ r) := by unfold textN; rw [List.append_assoc]
  rw [e] at h
  have hr2 := app_bytes (nb_byte t) hr
  refine rint_spec h ⟨by omega, by omega⟩ hr2 fun H1 h1 => ⟨_, rfl, _, h1.cell 0 rfl rfl, ?_⟩
  have hz := app_size (nb_byte t) hr
  rw [nb_len] at hz
  refine within5_spec (by omega) (by rw [hz]; split <;> omega) ⟨_, rfl, br_f rfl ⟨_, h1.cell 0 rfl rfl, by omega, by omega, _, h1.cell 0 rfl rfl, by omega, by omega, h1.store 0 rfl (by simp) fun H5 h5 => ?_⟩⟩
  have e1 : (strN (nb t ++ r)).extract (Int.toNat (0 : Int)) (Int.toNat ((t.size : Nat) : Int)) = t := by
    have := ext_mid (p := []) (X := nb t) (r := r) (by simp) (nb_byte t) hr (i := 0) (j := t.size) rfl (by simp [nb_len])
    rw [strN_nb] at this
    exact this
  rw [e1]
  refine k H5 ?_
  rw [ext_skip (nb_byte t) hr (by simp [nb_len]) (by rw [hz, Int.toNat_natCast, nb_len])] at h5
  exact h5
theorem rtext_lent {t : ByteArray} {r : List Nat} {most : Int} {X : ByteArray → ByteArray → Bool → Heap → Prop} (h : HL.Holds cs H) (ht : (t.size : Int) ≤ most) (hb : t.size ≤ 268435456) (hr : ∀ b ∈ r, b < 256) (k : ∀ H', HL.Holds cs H' → X t (strN r) true H') :
    ∀ q, H q = none → FnH Tryz.prog 67 #[.pointer (some ⟨q, 0, none⟩), .int .i64 most] (Heap.upd H q (.cells #[.string (strN (textN t ++ r)), .bool true] 108 (0, 0))) fun v H' => ∃ s : ByteArray, v = .string s ∧ ∃ s2 : ByteArray, ∃ b : Bool, H' q = some (.cells #[.string s2, .bool b] 108 (0, 0)) ∧ letH (Heap.del H' q) fun H2 => X s s2 b H2 :=
  fun q hq => rtext_spec (h.add hq _) ht hb hr fun H' h' => ⟨_, rfl, _, _, (held_undo h').1, letH_intro fun H2 g => k H2 (by rw [g]; exact (held_undo h').2)⟩
end
end Go.Proofs.YtokceblmbmajgaaGreatDoor
