/- Chapter 15: a group as it lies in memory; what its methods do. -/
import Derived.Test.YtcbobncipnjbjaaDoorS1
import Derived.Test.YtcbobncipnjbjaaDoorTrim
namespace Go.Proofs.YtcbobncipnjbjaaDoor
open Go.HL
set_option maxHeartbeats 400000
set_option maxRecDepth 10000

/-- A group. -/
structure Grp where
  gen : Int
  ever : Int
  mem : List Int
  prt : List Int
  off : List (Int × Int)
  num : List (Int × Int)
abbrev encI : Int → Value := fun n => .int .i64 n
abbrev ivs (l : List (Int × Int)) : List (Int × Value) := l.map fun p => (p.1, .int .i64 p.2)
theorem kint : KeyOK Tryd.prog 3 encI := KeyOK.int (by kernel_rfl)
theorem u59 : Tryd.prog.underlying 59 = some (.map 3 3) := by kernel_rfl
theorem z3 : zeroT Tryd.prog 3 = some (.int .i64 0) := by kernel_rfl
theorem u22 : Tryd.prog.underlying 22 = some (.slice 3) := by kernel_rfl
def grp (b : Nat) (x : Grp) : Chunk := fun H => ∃ q : Sl × Sl × Nat × Nat,
  Holds [blk b (.cells #[.int .i64 x.gen, .int .i64 x.ever, .slice q.1.p q.1.n q.1.c, .slice q.2.1.p q.2.1.n q.2.1.c, .map (some q.2.2.1), .map (some q.2.2.2)] 61 (0, 0)),
    own 3 1 q.1 (iv x.mem), own 3 1 q.2.1 (iv x.prt), mp q.2.2.1 encI (ivs x.off), mp q.2.2.2 encI (ivs x.num)] H
theorem grp_mono {b : Nat} {x : Grp} : Mono (grp b x) := fun _ _ hs ⟨q, h⟩ => ⟨q, h.up hs⟩
theorem grp_open {cs : List Chunk} {H : Heap} {b : Nat} {x : Grp} : Holds (grp b x :: cs) H ↔ ∃ q : Sl × Sl × Nat × Nat,
    Holds (blk b (.cells #[.int .i64 x.gen, .int .i64 x.ever, .slice q.1.p q.1.n q.1.c, .slice q.2.1.p q.2.1.n q.2.1.c, .map (some q.2.2.1), .map (some q.2.2.2)] 61 (0, 0)) ::
      own 3 1 q.1 (iv x.mem) :: own 3 1 q.2.1 (iv x.prt) :: mp q.2.2.1 encI (ivs x.off) :: mp q.2.2.2 encI (ivs x.num) :: cs) H := Holds.open
theorem own_ints {H : Heap} {s : Sl} {l : List Int} (h : Own H 3 1 s (iv l)) (hb : l.length ≤ 1000000) : Ints H s l := Own.ints h (by omega)
/-- What is small enough. -/
structure Small (x : Grp) : Prop where
  mem : x.mem.length ≤ 1000
  prt : x.prt.length ≤ 1000
/-- A group's cells, read. -/
structure GrpIn (H : Heap) (b : Nat) (x : Grp) (sm sp : Sl) (mo mn : Nat) : Prop where
  blk : H b = some (.cells #[.int .i64 x.gen, .int .i64 x.ever, .slice sm.p sm.n sm.c, .slice sp.p sp.n sp.c, .map (some mo), .map (some mn)] 61 (0, 0))
  mem : Ints H sm x.mem
  prt : Ints H sp x.prt
  off : MapR H mo encI (ivs x.off)
  num : MapR H mn encI (ivs x.num)
theorem grp_in {H : Heap} {b : Nat} {x : Grp} (hs : Small x) (h : grp b x H) : ∃ sm sp mo mn, GrpIn H b x sm sp mo mn := by
  obtain ⟨q, h⟩ := h
  exact ⟨q.1, q.2.1, q.2.2.1, q.2.2.2, h.get 0 rfl, own_ints (h.own 1 rfl) (by have := hs.mem; omega), own_ints (h.own 2 rfl) (by have := hs.prt; omega), h.map 3 rfl, h.map 4 rfl⟩
theorem GrpIn.cell {H : Heap} {b : Nat} {x : Grp} {sm sp : Sl} {mo mn : Nat} (h : GrpIn H b x sm sp mo mn) {o : Nat} {v : Value} (e : (#[.int .i64 x.gen, .int .i64 x.ever, .slice sm.p sm.n sm.c, .slice sp.p sp.n sp.c, .map (some mo), .map (some mn)] : Array Value)[o]? = some v) :
    cellH H ⟨b, o, none⟩ = some v := by rw [cellH_eq h.blk]; exact e

theorem lookL_ivs {l : List (Int × Int)} {k : Int} : lookL (ivs l) k = (lookL l k).map (Value.int .i64) := by
  have key : ∀ l : List (Int × Int), idxL (ivs l) k = (idxL l k).map fun q => (q.1, Value.int .i64 q.2) := by
    intro l
    induction l with
    | nil => rfl
    | cons p l ih =>
      simp only [ivs, List.map_cons, idxL]
      split
      · rfl
      · have ih : idxL (List.map (fun p : Int × Int => (p.1, Value.int .i64 p.2)) l) k = _ := ih
        rw [ih]
        cases idxL l k <;> rfl
  unfold lookL
  rw [key]
  cases idxL l k <;> rfl
theorem putL_ivs {l : List (Int × Int)} {k v : Int} : putL (ivs l) k (.int .i64 v) = ivs (putL l k v) := by
  induction l with
  | nil => rfl
  | cons p l ih =>
    simp only [ivs, List.map_cons, putL]
    split
    · rfl
    · have ih : putL (List.map (fun p : Int × Int => (p.1, Value.int .i64 p.2)) l) k (.int .i64 v) = _ := ih
      rw [ih]; rfl
def offM (x : Grp) (part : Int) : Int := (lookL x.off part).getD (-1)
theorem offset_spec {H : Heap} {b : Nat} {x : Grp} {part : Int} {K : Value → Heap → Prop} (hs : Small x) (h : grp b x H) (k : K (.int .i64 (offM x part)) H) : FnH Tryd.prog 32 #[.pointer (some ⟨b, 0, none⟩), .int .i64 part] H K := by
  obtain ⟨sm, sp, mo, mn, g⟩ := grp_in hs h
  apply groups_group_offset_fn
  refine ⟨some mo, g.cell rfl, runH_lookup u59 kint z3 g.off (k := part) ?_⟩
  rw [lookL_ivs]
  unfold offM at k
  cases e : lookL x.off part with
  | none => rw [e] at k; exact ⟨0, false, rfl, br_f rfl k⟩
  | some n => rw [e] at k; exact ⟨n, true, rfl, br_t rfl k⟩
/-- Who has a partition; 0: nobody. -/
def ownerIn : List Int → List (List Int) → Int → Int
  | m :: ms, l :: ls, p => if p ∈ l then m else ownerIn ms ls p
  | _, _, _ => 0
def ownerM (x : Grp) (p : Int) : Int := ownerIn x.mem (assignM x.mem.length x.prt) p
theorem ownerIn_drop : ∀ {ms : List Int} {ls : List (List Int)} {p : Int} {i : Nat}, ms.length = ls.length → (∀ j, j < i → p ∉ ls.getD j []) → ownerIn ms ls p = ownerIn (ms.drop i) (ls.drop i) p := by
  intro ms
  induction ms with
  | nil => intro ls p i hl _; cases ls with
    | nil => simp
    | cons a ls => simp at hl
  | cons m ms ih =>
    intro ls p i hl hn
    cases ls with
    | nil => simp at hl
    | cons a ls =>
      cases i with
      | zero => rfl
      | succ i =>
        have h0 := hn 0 (by omega)
        simp only [List.drop_succ_cons]
        rw [← ih (by simpa using hl) (fun j hj => by have := hn (j + 1) (by omega); simpa using this)]
        simp only [ownerIn]
        rw [if_neg (by simpa using h0)]
theorem assign_sub {H : Heap} {mem parts : Sl} {L : List Int} {K : Value → Heap → Prop} (hp : Ints H parts L) (hm : mem.n ≤ 1000000) (hL : L.length ≤ 1000000) (k : ∀ (r : Sl) H', HL.Sub H H' → lists r (assignM mem.n L) H' → K (.slice r.p r.n r.c) H') :
    FnH Tryd.prog 10 #[.slice mem.p mem.n mem.c, .slice parts.p parts.n parts.c] H K :=
  assign_spec (c0 := ro H) (i := 0) (Holds.whole H) ⟨ro_mono H, fun A hA => hp.sub hA⟩ rfl hm hL fun r H' h' => k r H' (h'.sub 1 rfl) (h'.read 0 rfl lists_mono)
theorem owner_spec {H : Heap} {b : Nat} {x : Grp} {part : Int} {K : Value → Heap → Prop} (hs : Small x) (h : grp b x H) (k : ∀ H', HL.Sub H H' → K (.int .i64 (ownerM x part)) H') :
    FnH Tryd.prog 33 #[.pointer (some ⟨b, 0, none⟩), .int .i64 part] H K := by
  apply groups_group_owner_fn
  unfold groups_group_owner_vc
  obtain ⟨sm, sp, mo, mn, g⟩ := grp_in hs h
  have hml := g.mem.len
  have hpl := g.prt.len
  have hsm := hs.mem
  have hsp := hs.prt
  refine ⟨sm, g.cell rfl, sp, g.cell rfl, assign_sub g.prt (by omega) (by omega) fun r H1 s1 hl => ⟨r, rfl, ?_⟩⟩
  rw [hml] at hl
  obtain ⟨rn, hat⟩ := lists_at hl
  rw [assignM_len] at rn
  obtain ⟨sm', sp', mo', mn', g1⟩ := grp_in hs (grp_mono _ _ s1 h)
  refine ⟨fun n H2 => H2 = H1 ∧ 0 ≤ n ∧ n ≤ r.n ∧ ∀ j, j < n.toNat → part ∉ (assignM x.mem.length x.prt).getD j [], fun n _ => (r.n - n).toNat, ⟨rfl, Int.le_refl _, by omega, fun j hj => by simp at hj⟩, ?_⟩
  rintro n H2 ⟨rfl, n0, n1, hn⟩
  have hdrop := ownerIn_drop (ms := x.mem) (ls := assignM x.mem.length x.prt) (p := part) (i := n.toNat) (by rw [assignM_len]) hn
  unfold ownerM at k
  rw [hdrop] at k
  refine br_intro (fun q => ?_) (fun q => ?_)
  · have q := of_decide_eq_true q
    obtain ⟨q1, o1, s, e1, e2, e3⟩ := hat n n0 q
    have hmn : n.toNat < x.mem.length := by omega
    have hln : n.toNat < (assignM x.mem.length x.prt).length := by rw [assignM_len]; exact hmn
    have eg : (assignM x.mem.length x.prt).getD n.toNat [] = (assignM x.mem.length x.prt)[n.toNat] := by simp [List.getD, hln]
    rw [List.drop_eq_getElem_cons hmn, List.drop_eq_getElem_cons hln] at k
    simp only [ownerIn] at k
    refine ⟨q1, o1, e1, n0, q, s, e2, contains_spec e3 ⟨_, rfl, br_intro (fun q2 => ?_) (fun q2 => ?_)⟩⟩
    · have q2 := of_decide_eq_true q2
      obtain ⟨b2, o2, f1, f2, f3, f4⟩ := g1.mem.at_ n0 (by have := g1.mem.len; omega)
      refine ⟨sm', g1.cell rfl, b2, o2, f1, f2, f3, _, f4, ?_⟩
      rw [eg] at q2
      rw [if_pos q2] at k
      have : x.mem.getD n.toNat 0 = x.mem[n.toNat] := by simp [List.getD, hmn]
      rw [this]; exact k H2 s1
    · have q2 := of_decide_eq_false q2
      refine ⟨rfl, ?_, ?_⟩
      · rw [wrap64_id (by omega) (by omega)]
        refine ⟨rfl, by omega, by omega, fun j hj => ?_⟩
        by_cases e : j = n.toNat
        · rw [e]; exact q2
        · exact hn j (by omega)
      · rw [wrap64_id (by omega) (by omega)]; dsimp only; omega
  · have q := of_decide_eq_false q
    have : x.mem.drop n.toNat = [] := List.drop_eq_nil_of_le (by omega)
    rw [this] at k
    exact k H2 s1
/-- A member's share. -/
def ofM (x : Grp) (m : Int) : List Int := (assignM x.mem.length x.prt).getD (idxI x.mem m).toNat []
theorem idxI_lt (m : Int) : ∀ l : List Int, idxI l m < l.length ∨ idxI l m < 0 := by
  intro l
  induction l with
  | nil => right; simp [idxI]
  | cons a l ih =>
    unfold idxI
    split
    · left; simp
    · split
      · right; omega
      · left
        simp only [List.length_cons]; omega
/-- One of a list of lists. -/
theorem lists_one {r : Sl} {LL : List (List Int)} {cs : List Chunk} {H : Heap} (h : Holds (lists r LL :: cs) H) {j : Int} (h0 : 0 ≤ j) (h1 : j < LL.length) :
    ∃ q o s, r.p = some ⟨q, o, none⟩ ∧ 0 ≤ j ∧ j < (r.n : Int) ∧ cellH H ⟨q, o + j.toNat, none⟩ = some (.slice s.p s.n s.c) ∧ Holds (ints s (LL.getD j.toNat []) :: cs) H := by
  obtain ⟨A, B, e, d, p, hc⟩ := h
  obtain ⟨rn, hat⟩ := lists_at p
  obtain ⟨q, o, s, e1, e2, e3⟩ := hat j h0 (by omega)
  subst e
  exact ⟨q, o, s, e1, h0, by omega, Sub.left.cell e2, A, B, rfl, d, e3, hc⟩
theorem of_spec {cs : List Chunk} {H : Heap} {b : Nat} {x : Grp} {m : Int} {K : Value → Heap → Prop} (hs : Small x) (hm : m ∈ x.mem) (h : Holds (grp b x :: cs) H) (k : ∀ (r : Sl) H', Holds (ints r (ofM x m) :: grp b x :: cs) H' → K (.slice r.p r.n r.c) H') :
    FnH Tryd.prog 43 #[.pointer (some ⟨b, 0, none⟩), .int .i64 m] H K := by
  apply groups_group_of_fn
  unfold groups_group_of_vc
  obtain ⟨⟨sm, sp, mo, mn⟩, h1⟩ := grp_open.1 h
  have hsm := hs.mem
  have hsp := hs.prt
  have hml : sm.n = x.mem.length := (own_ints (h1.own 1 rfl) (by omega)).len
  have hi0 := idxI_mem.2 hm
  have hi1 := idxI_lt m x.mem
  have gp : Gives (own 3 1 sp (iv x.prt)) (ints sp x.prt) := ⟨Own.mono, fun A hA => own_ints hA (by omega)⟩
  have fin : ∀ (r : Sl) H1, Holds (lists r (assignM sm.n x.prt) :: blk b (.cells #[.int .i64 x.gen, .int .i64 x.ever, .slice sm.p sm.n sm.c, .slice sp.p sp.n sp.c, .map (some mo), .map (some mn)] 61 (0, 0)) ::
      own 3 1 sm (iv x.mem) :: own 3 1 sp (iv x.prt) :: mp mo encI (ivs x.off) :: mp mn encI (ivs x.num) :: cs) H1 → ∃ (q1 o1 : Nat), r.p = some ⟨q1, o1, none⟩ ∧ 0 ≤ idxI x.mem m ∧ idxI x.mem m < (r.n : Nat) ∧ ∃ l5 : Sl, cellH H1 ⟨q1, o1 + Int.toNat (idxI x.mem m), none⟩ = some (.slice l5.p l5.n l5.c) ∧ K (.slice l5.p l5.n l5.c) H1 := fun r H1 hl => by
    obtain ⟨q1, o1, s, e1, e2, e3, e4, e5⟩ := lists_one hl (j := idxI x.mem m) hi0 (by rw [assignM_len]; omega)
    have eo : (assignM sm.n x.prt).getD (idxI x.mem m).toNat [] = ofM x m := by rw [hml]; rfl
    rw [eo] at e5
    have e6 := e5.down 5
    exact ⟨q1, o1, e1, e2, e3, s, e4, k s H1 ((grp_open.2 ⟨⟨sm, sp, mo, mn⟩, e6⟩).swap)⟩
  refine ⟨sm, h1.cell 0 rfl rfl, sp, h1.cell 0 rfl rfl, assign_spec (i := 2) h1 gp rfl (by omega) (by omega) fun r H1 hl => ⟨r, rfl, sm, hl.cell 1 rfl rfl, index_spec (own_ints (hl.own 2 rfl) (by omega)) ⟨_, rfl, fin r H1 hl⟩⟩, sm, h1.cell 0 rfl rfl, HL.Sub.refl _, assign_spec (i := 2) h1 gp rfl (by omega) (by omega) fun r H1 hl => ⟨r, rfl, index_spec (own_ints (hl.own 2 rfl) (by omega)) ⟨_, rfl, fin r H1 hl⟩⟩⟩
theorem pred_spec {H : Heap} {q : Nat} {arr : Array Value} {v m : Int} {K : Value → Heap → Prop} (hq : H q = some (.cells arr 34 (0, 0))) (hm : arr[1]? = some (.int .i64 m)) (k : K (.bool (v == m)) H) : FnH Tryd.prog 45 #[.int .i64 v, .pointer (some ⟨q, 0, none⟩)] H K := by
  apply groups_group_leave_1_fn
  exact ⟨m, by rw [cellH_eq hq]; exact hm, k⟩
theorem indexf_spec {H : Heap} {s : Sl} {l : List Int} {q : Nat} {arr : Array Value} {m : Int} {K : Value → Heap → Prop} (h : Ints H s l) (hq : H q = some (.cells arr 34 (0, 0))) (hm : arr[1]? = some (.int .i64 m)) (k : K (.int .i64 (idxI l m)) H) :
    FnH Tryd.prog 51 #[.slice s.p s.n s.c, .func (.func 45) #[] #[.pointer (some ⟨q, 0, none⟩)]] H K := by
  apply IndexFunc_leave_fn
  unfold IndexFunc_leave_vc
  have hl := h.len
  have hb := h.big
  refine ⟨fun n H1 => H1 = H ∧ 0 ≤ n ∧ n ≤ s.n ∧ m ∉ l.take n.toNat, fun n _ => (s.n - n).toNat, ⟨rfl, Int.le_refl _, by omega, by simp⟩, ?_⟩
  rintro n H1 ⟨rfl, n0, n1, hn⟩
  refine br_intro (fun q => ?_) (fun q => ?_)
  · have q := of_decide_eq_true q
    obtain ⟨b, o, g1, g2, g3, g4⟩ := h.at_ n0 q
    have hnl : n.toNat < l.length := by omega
    have ex := List.take_append_drop n.toNat l
    rw [List.drop_eq_getElem_cons hnl] at ex
    have eg : l.getD n.toNat 0 = l[n.toNat] := by simp [List.getD, hnl]
    refine ⟨b, o, g1, g2, g3, _, g4, pred_spec hq hm ⟨_, rfl, br_intro (fun q2 => ?_) (fun q2 => ?_)⟩⟩
    · have q2 : l.getD n.toNat 0 = m := by simpa using q2
      have : idxI l m = n := by
        rw [← ex, ← eg, q2, idxI_at hn]
        simp; omega
      rw [this] at k; exact k
    · have q2 : ¬ l.getD n.toNat 0 = m := by simpa using q2
      rw [wrap64_id (by omega) (by omega)]
      refine ⟨rfl, ⟨rfl, by omega, by omega, ?_⟩, by dsimp only; omega⟩
      rw [take_next (d := 0) n0 (by omega)]
      simp only [List.mem_append, List.mem_singleton, not_or]
      exact ⟨hn, fun e => q2 e.symm⟩
  · have q := of_decide_eq_false q
    rw [take_all (by omega)] at hn
    rw [idxI_not hn] at k; exact k
theorem iv_set (l : List Int) (i : Nat) (v : Int) : (iv l).set i (.int .i64 v) = iv (l.set i v) := by simp [iv, List.map_set]
abbrev butI (l : List Int) (m : Int) : List Int := l.filter fun a => !(a == m)
theorem first_mem {l : List Int} {m : Int} (h : m ∈ l) : ∃ l1 l2, l = l1 ++ m :: l2 ∧ m ∉ l1 := by
  induction l with
  | nil => simp at h
  | cons c l ih =>
    by_cases e : c = m
    · exact ⟨[], l, by rw [e]; rfl, by simp⟩
    · obtain ⟨l1, l2, e3, e4⟩ := ih ((List.mem_cons.1 h).resolve_left fun x => e x.symm)
      exact ⟨c :: l1, l2, by rw [e3]; rfl, by simp only [List.mem_cons, not_or]; exact ⟨fun x => e x.symm, e4⟩⟩
theorem delete_spec {cs : List Chunk} {H : Heap} {s : Sl} {l : List Int} {q : Nat} {arr : Array Value} {m : Int} {K : Value → Heap → Prop} (h : Holds (own 3 1 s (iv l) :: blk q (.cells arr 34 (0, 0)) :: cs) H) (hm : arr[1]? = some (.int .i64 m)) (hb : l.length ≤ 1000000)
    (k : ∀ (r : Sl) H', Holds (own 3 1 r (iv (butI l m)) :: blk q (.cells arr 34 (0, 0)) :: cs) H' → K (.slice r.p r.n r.c) H') : FnH Tryd.prog 44 #[.slice s.p s.n s.c, .func (.func 45) #[] #[.pointer (some ⟨q, 0, none⟩)]] H K := by
  apply DeleteFunc_leave_fn
  unfold DeleteFunc_leave_vc
  have hi := own_ints (h.own 0 rfl) hb
  have hl := hi.len
  refine indexf_spec hi (h.get 1 rfl) hm ⟨_, rfl, br_intro (fun q1 => ?_) (fun q1 => ?_)⟩
  · have q1 : idxI l m = -1 := by simpa using q1
    have hnot : m ∉ l := fun x => by have := idxI_mem.2 x; omega
    have e : butI l m = l := List.filter_eq_self.2 fun a ha => by
      have : ¬ a = m := fun e => hnot (e ▸ ha)
      simpa using this
    rw [e] at k
    exact k s H h
  · have q1 : ¬ idxI l m = -1 := by simpa using q1
    have hmem : m ∈ l := Classical.byContradiction fun x => q1 (idxI_not x)
    obtain ⟨l1, l2, el, hn1⟩ := first_mem hmem
    have eidx : idxI l m = l1.length := by rw [el, idxI_at hn1]
    have hlen : l.length = l1.length + 1 + l2.length := by rw [el]; simp; omega
    rw [eidx, wrap64_id (n := (l1.length : Int) + 1) (by omega) (by omega)]
    refine ⟨fun i j H2 => ∃ cur : List Int, cur.length = l.length ∧ 0 ≤ i ∧ i < j ∧ j ≤ l.length ∧ cur.take i.toNat = butI (l.take j.toNat) m ∧ cur.drop j.toNat = l.drop j.toNat ∧ Holds (own 3 1 s (iv cur) :: blk q (.cells arr 34 (0, 0)) :: cs) H2,
      fun _ j _ => (l.length - j).toNat, ⟨l, rfl, by omega, by omega, by omega, ?_, rfl, h⟩, ?_⟩
    · have e1 : ((l1.length : Int) + 1).toNat = l1.length + 1 := by omega
      have e2 : ((l1.length : Int)).toNat = l1.length := by omega
      rw [e1, e2, el]
      have e3 : (l1 ++ m :: l2).take l1.length = l1 := by simp
      have e4 : (l1 ++ m :: l2).take (l1.length + 1) = l1 ++ [m] := by rw [List.take_append, List.take_of_length_le (by omega)]; simp
      rw [e3, e4, butI, List.filter_append]
      have e5 : l1.filter (fun a => !(a == m)) = l1 := List.filter_eq_self.2 fun a ha => by
        have : ¬ a = m := fun e => hn1 (e ▸ ha)
        simpa using this
      rw [e5]; simp
    rintro i j H2 ⟨cur, hc, i0, ij, jl, ht, hd, h2⟩
    have hi2 := own_ints (h2.own 0 rfl) (by omega)
    refine br_intro (fun q2 => ?_) (fun q2 => ?_)
    · have q2 := of_decide_eq_true q2
      obtain ⟨b, o, g1, g2, g3, g4⟩ := hi2.at_ (j := j) (by omega) q2
      have hjl : j.toNat < l.length := by omega
      have hjc : j.toNat < cur.length := by omega
      have ecl : cur.getD j.toNat 0 = l[j.toNat] := by
        have e1 : cur[j.toNat]? = l[j.toNat]? := by
          have := congrArg (fun x => x[0]?) hd
          simpa [List.getElem?_drop] using this
        rw [List.getD_eq_getElem?_getD, e1, List.getElem?_eq_getElem hjl]; rfl
      have etj : l.take (j + 1).toNat = l.take j.toNat ++ [l[j.toNat]] := by
        have e : (j + 1).toNat = j.toNat + 1 := by omega
        rw [e, List.take_succ_eq_append_getElem hjl]
      refine ⟨b, o, g1, g2, g3, _, g4, pred_spec (h2.get 1 rfl) hm ⟨_, rfl, ?_⟩⟩
      rw [ecl]
      have edrop : ∀ c2 : List Int, c2.drop j.toNat = cur.drop j.toNat → c2.drop (j + 1).toNat = l.drop (j + 1).toNat := fun c2 e => by
        have e1 : (j + 1).toNat = j.toNat + 1 := by omega
        rw [e1, ← List.drop_drop, ← List.drop_drop, e, hd]
      refine br_intro (fun q3 => ?_) (fun q3 => ?_)
      · have q3 : (!(l[j.toNat] == m)) = true := q3
        obtain ⟨q4, o4, f1, f2, f3, f4, f5, f6⟩ := h2.setAt (i := i) i0 (by omega) (v := .int .i64 l[j.toNat]) (f := fun H4 => SelfEq ([.v (.slice s.p s.n s.c), .v (.func (.func 45) #[] #[.pointer (some ⟨q, 0, none⟩)])], [], []) ∧
          (∃ cur : List Int, cur.length = l.length ∧ 0 ≤ IntKind.wrap .i64 (i + 1) ∧ IntKind.wrap .i64 (i + 1) < IntKind.wrap .i64 (j + 1) ∧ IntKind.wrap .i64 (j + 1) ≤ l.length ∧ cur.take (IntKind.wrap .i64 (i + 1)).toNat = butI (l.take (IntKind.wrap .i64 (j + 1)).toNat) m ∧
            cur.drop (IntKind.wrap .i64 (j + 1)).toNat = l.drop (IntKind.wrap .i64 (j + 1)).toNat ∧ Holds (own 3 1 s (iv cur) :: blk q (.cells arr 34 (0, 0)) :: cs) H4) ∧ (l.length - IntKind.wrap .i64 (j + 1)).toNat < (l.length - j).toNat) fun H4 h4 => by
            rw [wrap64_id (n := i + 1) (by omega) (by omega), wrap64_id (n := j + 1) (by omega) (by omega)]
            rw [iv_set] at h4
            refine ⟨rfl, ⟨cur.set i.toNat l[j.toNat], by simpa using hc, by omega, by omega, by omega, ?_, ?_, h4⟩, by omega⟩
            · have e1 : (i + 1).toNat = i.toNat + 1 := by omega
              have hil : i.toNat < (cur.set i.toNat l[j.toNat]).length := by simp; omega
              rw [e1, List.take_succ_eq_append_getElem hil, etj, butI, List.filter_append, List.filter_cons_of_pos (by exact q3)]
              rw [List.take_set_of_le (Nat.le_refl _), ht]
              simp
            · exact edrop _ (by rw [List.drop_set_of_lt (by omega)])
        exact ⟨q4, o4, f1, f2, f3, f4, f5, f6⟩
      · have q3 : (!(l[j.toNat] == m)) = false := q3
        refine ⟨rfl, ⟨cur, hc, i0, ?_, ?_, ?_, ?_, h2⟩, ?_⟩
        · rw [wrap64_id (n := j + 1) (by omega) (by omega)]; omega
        · rw [wrap64_id (n := j + 1) (by omega) (by omega)]; omega
        · rw [wrap64_id (n := j + 1) (by omega) (by omega), etj, butI, List.filter_append, List.filter_cons_of_neg (by rw [q3]; simp), List.filter_nil, List.append_nil]; exact ht
        · rw [wrap64_id (n := j + 1) (by omega) (by omega)]; exact edrop cur rfl
        · rw [wrap64_id (n := j + 1) (by omega) (by omega)]; dsimp only; omega
    · have q2 := of_decide_eq_false q2
      have ej : j = l.length := by omega
      subst ej
      have hcap := hi2.cap
      refine ⟨i0, by omega, h2.clear (sz := 1) u22 z3 rfl (noTups_zeros (by simp [Value.cells, isTup])) i0 (by omega) fun ws H5 hw h5 => ⟨rfl, i0, by omega, ?_⟩⟩
      refine k (s.upto i 1) H5 (h5.head fun A hA => ?_)
      have := hA.shorten (i := i) i0 (by omega)
      have e1 : ((iv cur).take (i.toNat * 1) ++ ws).take (i.toNat * 1) = iv (butI l m) := by
        rw [Nat.mul_one, List.take_append_of_le_length (by simp; omega), List.take_take, Nat.min_self, ← List.map_take, ht]
        have : l.take ((l.length : Int)).toNat = l := List.take_of_length_le (by omega)
        rw [this]
      rw [e1] at this
      exact this
end Go.Proofs.YtcbobncipnjbjaaDoor
