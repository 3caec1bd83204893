/- Chapter 15: what a group's leave, commit, sync and read do. -/
import Derived.Test.YtcbobncipnjbjaaDoorS2
namespace Go.Proofs.YtcbobncipnjbjaaDoor
open Go.HL
set_option maxHeartbeats 400000
set_option maxRecDepth 10000

/-- A record, but for its list. -/
structure Rec where
  kind : Int
  a : Int
  b : Int
  c : Int
  d : Int
  name : ByteArray
  text : ByteArray
abbrev recV (m : Rec) (s : Sl) : Value := .agg #[.int .i64 m.kind, .int .i64 m.a, .int .i64 m.b, .int .i64 m.c, .int .i64 m.d, .string m.name, .string m.text, .slice s.p s.n s.c]
/-- What is told, but for where its list lies. -/
structure Told where
  err : Int
  member : Int
  gen : Int
  offset : Int
  parts : List Int
abbrev toldV (t : Told) (s : Sl) : Value := .agg #[.int .i64 t.err, .int .i64 t.member, .int .i64 t.gen, .int .i64 t.offset, .slice s.p s.n s.c]
abbrev errT (e : Int) : Told := ⟨e, 0, 0, 0, []⟩
theorem refuse_spec {H : Heap} {e : Int} {K : Value → Heap → Prop} (k : K (.agg #[.int .i64 e, .int .i64 0, .int .i64 0, .int .i64 0, .slice none 0 0]) H) : FnH Tryd.prog 26 #[.int .i64 e] H K := by
  apply groups_refuse_fn
  exact k
theorem Holds.intsNil {cs : List Chunk} {H : Heap} (h : Holds cs H) : Holds (ints ⟨none, 0, 0⟩ [] :: cs) H := h.cons_emp (Ints.nil _)
def leaveG (x : Grp) (a : Int) : Grp := { x with mem := butI x.mem a, gen := x.gen + 1 }
theorem leave_spec {cs : List Chunk} {H : Heap} {b : Nat} {x : Grp} {m : Rec} {ml : Sl} {K : Value → Heap → Prop} (hs : Small x) (hg : -1000000 ≤ x.gen ∧ x.gen ≤ 1000000) (h : Holds (grp b x :: cs) H)
    (k : ∀ H', Holds (grp b (leaveG x m.a) :: cs) H' → K (.agg #[.int .i64 0, .int .i64 m.a, .int .i64 (x.gen + 1), .int .i64 0, .slice none 0 0]) H') : FnH Tryd.prog 27 #[.pointer (some ⟨b, 0, none⟩), recV m ml] H K := by
  apply groups_group_leave_fn
  unfold groups_group_leave_vc
  obtain ⟨⟨sm, sp, mo, mn⟩, h1⟩ := grp_open.1 h
  refine h1.new fun q H1 h2 => ⟨sm, h2.cell 1 rfl rfl, ?_⟩
  have h3 : Holds (own 3 1 sm (iv x.mem) :: blk q (.cells #[.int .i64 m.kind, .int .i64 m.a, .int .i64 m.b, .int .i64 m.c, .int .i64 m.d, .string m.name, .string m.text, .slice ml.p ml.n ml.c] 34 (0, 0)) ::
      blk b (.cells #[.int .i64 x.gen, .int .i64 x.ever, .slice sm.p sm.n sm.c, .slice sp.p sp.n sp.c, .map (some mo), .map (some mn)] 61 (0, 0)) :: own 3 1 sp (iv x.prt) :: mp mo encI (ivs x.off) :: mp mn encI (ivs x.num) :: cs) H1 := h2.rot
  refine delete_spec h3 rfl (by have := hs.mem; omega) fun r H2 h4 => ⟨r, rfl, h4.store 2 rfl (by simp) fun H3 h5 => ⟨x.gen, h5.cell 2 rfl rfl, h5.store 2 rfl (by simp) fun H4 h6 => ⟨m.a, h6.cell 1 rfl rfl, x.gen + 1, h6.cell 2 rfl ?_, k H4 ?_⟩⟩⟩
  · show some (Value.int .i64 (IntKind.wrap .i64 (x.gen + 1))) = _
    rw [wrap64_id (by omega) (by omega)]
  · have e : IntKind.wrap .i64 (x.gen + 1) = x.gen + 1 := wrap64_id (by omega) (by omega)
    refine grp_open.2 ⟨⟨r, sp, mo, mn⟩, ?_⟩
    have h7 : Holds (own 3 1 r (iv (butI x.mem m.a)) :: blk q (.cells #[.int .i64 m.kind, .int .i64 m.a, .int .i64 m.b, .int .i64 m.c, .int .i64 m.d, .string m.name, .string m.text, .slice ml.p ml.n ml.c] 34 (0, 0)) ::
      blk b (.cells #[.int .i64 (IntKind.wrap .i64 (x.gen + 1)), .int .i64 x.ever, .slice r.p r.n r.c, .slice sp.p sp.n sp.c, .map (some mo), .map (some mn)] 61 (0, 0)) :: own 3 1 sp (iv x.prt) :: mp mo encI (ivs x.off) :: mp mn encI (ivs x.num) :: cs) H4 := h6
    rw [e] at h7
    exact h7.swap.tail.swap
/-- A group's number of generations and a member's share, in either order. -/
theorem shareA {cs : List Chunk} {H : Heap} {b : Nat} {x : Grp} {m : Int} {f : Int → Sl → Heap → Prop} (hs : Small x) (hm : m ∈ x.mem) (h : Holds (grp b x :: cs) H) (k : ∀ (r : Sl) H', Holds (ints r (ofM x m) :: grp b x :: cs) H' → f x.gen r H') :
    ∃ n : Int, cellH H ⟨b, 0, none⟩ = some (.int .i64 n) ∧ FnH Tryd.prog 43 #[.pointer (some ⟨b, 0, none⟩), .int .i64 m] H fun r3 H3 => ∃ l3 : Sl, r3 = .slice l3.p l3.n l3.c ∧ f n l3 H3 := by
  obtain ⟨sm, sp, mo, mn, g⟩ := grp_in hs (h.read 0 rfl grp_mono)
  exact ⟨x.gen, g.cell rfl, of_spec hs hm h fun r H' h' => ⟨r, rfl, k r H' h'⟩⟩
theorem shareB {cs : List Chunk} {H : Heap} {b : Nat} {x : Grp} {m : Int} {f : Int → Sl → Heap → Prop} (hs : Small x) (hm : m ∈ x.mem) (h : Holds (grp b x :: cs) H) (k : ∀ (r : Sl) H', Holds (ints r (ofM x m) :: grp b x :: cs) H' → f x.gen r H') :
    FnH Tryd.prog 43 #[.pointer (some ⟨b, 0, none⟩), .int .i64 m] H fun r3 H3 => ∃ l3 : Sl, r3 = .slice l3.p l3.n l3.c ∧ ∃ n : Int, cellH H3 ⟨b, 0, none⟩ = some (.int .i64 n) ∧ f n l3 H3 :=
  of_spec hs hm h fun r H' h' => by
    obtain ⟨sm, sp, mo, mn, g⟩ := grp_in hs (h'.read 1 rfl grp_mono)
    exact ⟨r, rfl, x.gen, g.cell rfl, k r H' h'⟩
theorem sync_spec {cs : List Chunk} {H : Heap} {b : Nat} {x : Grp} {m : Rec} {ml : Sl} {K : Value → Heap → Prop} (hs : Small x) (hm : m.a ∈ x.mem) (h : Holds (grp b x :: cs) H)
    (k : ∀ (r : Sl) H', Holds (ints r (ofM x m.a) :: grp b x :: cs) H' → K (.agg #[.int .i64 0, .int .i64 m.a, .int .i64 x.gen, .int .i64 0, .slice r.p r.n r.c]) H') : FnH Tryd.prog 29 #[.pointer (some ⟨b, 0, none⟩), recV m ml] H K := by
  apply groups_group_sync_fn
  unfold groups_group_sync_vc
  simp only [sub_self, true_and, and_self]
  have A := shareA hs hm h (f := fun n l H => K (.agg #[.int .i64 0, .int .i64 m.a, .int .i64 n, .int .i64 0, .slice l.p l.n l.c]) H) k
  have B := shareB hs hm h (f := fun n l H => K (.agg #[.int .i64 0, .int .i64 m.a, .int .i64 n, .int .i64 0, .slice l.p l.n l.c]) H) k
  exact ⟨A, B⟩
theorem read_spec {H : Heap} {b : Nat} {x : Grp} {m : Rec} {ml : Sl} {K : Value → Heap → Prop} (hs : Small x) (h : grp b x H)
    (k : K (.agg #[.int .i64 0, .int .i64 0, .int .i64 x.gen, .int .i64 (offM x m.c), .slice none 0 0]) H) : FnH Tryd.prog 30 #[.pointer (some ⟨b, 0, none⟩), recV m ml] H K := by
  apply groups_group_read_fn
  unfold groups_group_read_vc
  obtain ⟨sm, sp, mo, mn, g⟩ := grp_in hs h
  exact ⟨x.gen, g.cell rfl, offset_spec hs h ⟨_, rfl, HL.Sub.refl _, k⟩⟩
/-- A commit: what is told, the group behind it. -/
def commitC (x : Grp) (m : Rec) (L : List Int) : Int :=
  if m.d < 0 ∨ m.d > 1000000000 ∨ L.length ≠ 1 ∨ L.getD 0 0 < 0 ∨ L.getD 0 0 > 1000000000 then 1
  else if (match lookL x.num m.a with | some last => decide (L.getD 0 0 ≤ last) | none => false) = true then 12
  else if ownerM x m.c ≠ m.a then 19 else 0
def commitG (x : Grp) (m : Rec) (L : List Int) : Grp := if commitC x m L = 0 then { x with off := putL x.off m.c m.d, num := putL x.num m.a (L.getD 0 0) } else x
def commitT (x : Grp) (m : Rec) (L : List Int) : Told := if commitC x m L = 0 then ⟨0, m.a, x.gen, m.d, []⟩ else errT (commitC x m L)
theorem commit_spec {cs : List Chunk} {H : Heap} {b : Nat} {x : Grp} {m : Rec} {ml : Sl} {L : List Int} {c0 : Chunk} {K : Value → Heap → Prop} (hs : Small x) (h : Holds (grp b x :: c0 :: cs) H) (g0 : Gives c0 (ints ml L))
    (k : ∀ H', Holds (grp b (commitG x m L) :: c0 :: cs) H' → K (toldV (commitT x m L) ⟨none, 0, 0⟩) H') : FnH Tryd.prog 28 #[.pointer (some ⟨b, 0, none⟩), recV m ml] H K := by
  apply groups_group_commit_fn
  unfold groups_group_commit_vc
  have hL := g0.at_ h 1 rfl
  have hl := hL.len
  have bad : ∀ e : Int, commitC x m L = e → e ≠ 0 → ∀ H', Holds (grp b x :: c0 :: cs) H' → FnH Tryd.prog 26 #[.int .i64 e] H' fun r1 H1 => ∃ n1 n2 n3 n4 : Int, ∃ l1 : Sl, r1 = .agg #[.int .i64 n1, .int .i64 n2, .int .i64 n3, .int .i64 n4, .slice l1.p l1.n l1.c] ∧ K (.agg #[.int .i64 n1, .int .i64 n2, .int .i64 n3, .int .i64 n4, .slice l1.p l1.n l1.c]) H1 := fun e he hne H' h' => by
    refine refuse_spec ⟨e, 0, 0, 0, ⟨none, 0, 0⟩, rfl, ?_⟩
    unfold commitG commitT at k
    rw [he, if_neg hne, if_neg hne] at k
    exact k H' h'
  refine br_intro (fun q => bad 1 (by unfold commitC; rw [if_pos (.inl (of_decide_eq_true q))]) (by decide) H h) (fun q => br_intro (fun q2 => bad 1 (by unfold commitC; rw [if_pos (.inr (.inl (of_decide_eq_true q2)))]) (by decide) H h) (fun q2 => ?_))
  have q := of_decide_eq_false q
  have q2 := of_decide_eq_false q2
  refine br_intro (fun q3 => ?_) (fun q3 => ?_)
  · have q3 : ¬ (ml.n : Int) = 1 := by simpa using q3
    exact bad 1 (by unfold commitC; rw [if_pos (.inr (.inr (.inl (by omega))))]) (by decide) H h
  have q3 : (ml.n : Int) = 1 := by simpa using q3
  obtain ⟨lb, lo, l1, l2, l3, l4⟩ := hL.at_ (j := 0) (Int.le_refl 0) (by omega)
  have l4 : cellH H ⟨lb, lo + Int.toNat 0, none⟩ = some (.int .i64 (L.getD 0 0)) := l4
  refine ⟨lb, lo, l1, l2, l3, _, l4, br_intro (fun q4 => bad 1 (by unfold commitC; rw [if_pos (.inr (.inr (.inr (.inl (of_decide_eq_true q4)))))]) (by decide) H h) (fun q4 => ⟨lb, lo, l1, l2, l3, _, l4, br_intro (fun q5 => bad 1 (by unfold commitC; rw [if_pos (.inr (.inr (.inr (.inr (of_decide_eq_true q5)))))]) (by decide) H h) (fun q5 => ?_)⟩)⟩
  have q4 := of_decide_eq_false q4
  have q5 := of_decide_eq_false q5
  have hok : ¬ (m.d < 0 ∨ m.d > 1000000000 ∨ L.length ≠ 1 ∨ L.getD 0 0 < 0 ∨ L.getD 0 0 > 1000000000) := by omega
  obtain ⟨sm, sp, mo, mn, g⟩ := grp_in hs (h.read 0 rfl grp_mono)
  have tail : ¬ (match lookL x.num m.a with | some last => decide (L.getD 0 0 ≤ last) | none => false) = true → FnH Tryd.prog 33 #[.pointer (some ⟨b, 0, none⟩), .int .i64 m.c] H fun r8 H7 => ∃ n29 : Int, r8 = .int .i64 n29 ∧ HL.Sub H H7 ∧ br ((n29 : Int) != m.a)
      (FnH Tryd.prog 26 #[.int .i64 19] H7 fun r1 H1 => ∃ n1 n2 n3 n4 : Int, ∃ l1 : Sl, r1 = .agg #[.int .i64 n1, .int .i64 n2, .int .i64 n3, .int .i64 n4, .slice l1.p l1.n l1.c] ∧ K (.agg #[.int .i64 n1, .int .i64 n2, .int .i64 n3, .int .i64 n4, .slice l1.p l1.n l1.c]) H1)
      (∃ m2 : Option Nat, cellH H7 ⟨b, 0 + 4, none⟩ = some (.map m2) ∧ ∃ m3 : Option Nat, cellH H7 ⟨b, 0 + 5, none⟩ = some (.map m3) ∧ ∃ q4 : Nat, ∃ o4 : Nat, (ml.p : Option Addr) = some ⟨q4, o4, none⟩ ∧ 0 ≤ (0 : Int) ∧ (0 : Int) < (ml.n : Nat) ∧
        ∃ n34 : Int, cellH H7 ⟨q4, o4 + Int.toNat 0, none⟩ = some (.int .i64 n34) ∧
        runH Tryd.prog (Instr.mapEntry 59 (.map m2) (.int .i64 m.c)) H7 fun r10 H9 => ∃ n36 : Int, ∃ n35 : Int, r10 = .tuple #[.int .i64 n36, .int .i64 n35] ∧
          runH Tryd.prog (Instr.entryStore 59 (.map m2) (.int .i64 n35) (.int .i64 m.d)) H9 fun _ H10 =>
            runH Tryd.prog (Instr.mapEntry 59 (.map m3) (.int .i64 m.a)) H10 fun r11 H11 => ∃ n38 : Int, ∃ n37 : Int, r11 = .tuple #[.int .i64 n38, .int .i64 n37] ∧
              runH Tryd.prog (Instr.entryStore 59 (.map m3) (.int .i64 n37) (.int .i64 n34)) H11 fun _ H12 => ∃ n39 : Int, cellH H12 ⟨b, 0, none⟩ = some (.int .i64 n39) ∧ K (.agg #[.int .i64 0, .int .i64 m.a, .int .i64 n39, .int .i64 m.d, .slice none 0 0]) H12) := fun hlast => by
    refine owner_spec hs (h.read 0 rfl grp_mono) fun H7 s7 => ⟨_, rfl, s7, ?_⟩
    have h7 := h.up s7
    refine br_intro (fun q6 => ?_) (fun q6 => ?_)
    · have q6 : ¬ ownerM x m.c = m.a := by simpa using q6
      exact bad 19 (by unfold commitC; rw [if_neg hok, if_neg hlast, if_pos q6]) (by decide) H7 h7
    · have q6 : ownerM x m.c = m.a := by simpa using q6
      have hc : commitC x m L = 0 := by unfold commitC; rw [if_neg hok, if_neg hlast, if_neg (fun y => y q6)]
      have hL7 := g0.at_ h7 1 rfl
      obtain ⟨ab, ao, a1, a2, a3, a4⟩ := hL7.at_ (j := 0) (Int.le_refl 0) (by omega)
      have a4 : cellH H7 ⟨ab, ao + Int.toNat 0, none⟩ = some (.int .i64 (L.getD 0 0)) := a4
      obtain ⟨⟨tm, tp, to, tn⟩, h8⟩ := grp_open.1 h7
      refine ⟨some to, h8.cell 0 rfl rfl, some tn, h8.cell 0 rfl rfl, ab, ao, a1, a2, a3, _, a4, h8.mapEntry 3 rfl u59 kint z3 (k := m.c) fun n H9 h9 => ⟨((lookL x.off m.c).getD 0), n, ?_, h9.entryStore 3 rfl fun H10 h10 => ?_⟩⟩
      · rw [lookL_ivs]; cases lookL x.off m.c <;> rfl
      have h10 : Holds (blk b (.cells #[.int .i64 x.gen, .int .i64 x.ever, .slice tm.p tm.n tm.c, .slice tp.p tp.n tp.c, .map (some to), .map (some tn)] 61 (0, 0)) :: own 3 1 tm (iv x.mem) :: own 3 1 tp (iv x.prt) ::
          mp to encI (putL (if idxL (ivs x.off) m.c = none then ivs x.off ++ [(m.c, .int .i64 0)] else ivs x.off) m.c (.int .i64 m.d)) :: mp tn encI (ivs x.num) :: c0 :: cs) H10 := h10
      rw [putL_stamp, putL_ivs] at h10
      refine h10.mapEntry 4 rfl u59 kint z3 (k := m.a) fun n' H11 h11 => ⟨((lookL x.num m.a).getD 0), n', ?_, h11.entryStore 4 rfl fun H12 h12 => ?_⟩
      · rw [lookL_ivs]; cases lookL x.num m.a <;> rfl
      have h12 : Holds (blk b (.cells #[.int .i64 x.gen, .int .i64 x.ever, .slice tm.p tm.n tm.c, .slice tp.p tp.n tp.c, .map (some to), .map (some tn)] 61 (0, 0)) :: own 3 1 tm (iv x.mem) :: own 3 1 tp (iv x.prt) ::
          mp to encI (ivs (putL x.off m.c m.d)) :: mp tn encI (putL (if idxL (ivs x.num) m.a = none then ivs x.num ++ [(m.a, .int .i64 0)] else ivs x.num) m.a (.int .i64 (L.getD 0 0))) :: c0 :: cs) H12 := h12
      rw [putL_stamp, putL_ivs] at h12
      refine ⟨x.gen, h12.cell 0 rfl rfl, ?_⟩
      unfold commitG commitT at k
      rw [hc, if_pos rfl, if_pos rfl] at k
      exact k H12 (grp_open.2 ⟨⟨tm, tp, to, tn⟩, h12⟩)
  refine ⟨some mn, g.cell rfl, runH_lookup u59 kint z3 g.num (k := m.a) ?_⟩
  rw [lookL_ivs]
  cases hlk : lookL x.num m.a with
  | none =>
    refine ⟨0, false, rfl, HL.Sub.refl _, br_f rfl ?_⟩
    simp only [sub_self, true_and, and_self]
    have := tail (by rw [hlk]; simp)
    exact this
  | some last =>
    refine ⟨last, true, rfl, HL.Sub.refl _, br_t rfl ⟨lb, lo, l1, l2, l3, _, l4, br_intro (fun q6 => ?_) (fun q6 => ?_)⟩⟩
    · exact bad 12 (by unfold commitC; rw [if_neg hok, hlk, if_pos (by simpa using of_decide_eq_true q6)]) (by decide) H h
    · simp only [sub_self, true_and, and_self]
      have := tail (by rw [hlk]; have := of_decide_eq_false q6; simpa using this)
      exact this
end Go.Proofs.YtcbobncipnjbjaaDoor
