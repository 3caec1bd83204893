/- Chapter 9: the laws' own functions; the chapter's examples. -/
import Derived.Test.YtmneimfhcjkinaaDoorP1
import Derived.Test.YtmneimfhcjkinaaDoorV5
namespace Go.Proofs.YtmneimfhcjkinaaDoor
open Go Go.HL
set_option maxHeartbeats 3200000
set_option maxRecDepth 10000

/-- Room is enough where the disk holds just the log. -/
theorem StR.use {F : Fs} {st : RS} (h : StR F st) (hG : StOk st) : useF F ≤ 2086 * (st.l.length : Int) + st.data.size + 60 := by
  obtain ⟨a, b, c, rfl, ha, hb, hc⟩ := h
  rw [use_mk]
  have h1 : sz a ≤ 2086 * (st.l.length : Int) := by
    rcases ha with ⟨rfl, -⟩ | rfl
    · show (0 : Int) ≤ _; omega
    · show ((strN (st.l.flatMap entN)).size : Int) ≤ _
      have := ents_len (l := st.l) fun x hx => (hG.bounds x hx).2.2
      rw [strN_size (ents_bytes _)]; omega
  have h2 : sz b ≤ (st.data.size : Int) + 34 := by
    rcases hb with ⟨rfl, -⟩ | ⟨rfl, -⟩
    · show (0 : Int) ≤ _; omega
    · show ((snapB st.index st.snapped st.data).size : Int) ≤ _
      unfold snapB
      rw [strN_size (sumd_bytes (snapN_bytes _ _ _)), sumd_len]
      have := snapN_len st.index st.snapped st.data
      omega
  have h3 : sz c ≤ 24 := by
    rcases hc with ⟨rfl, -⟩ | rfl
    · decide
    · show ((termB st.term st.vote).size : Int) ≤ _
      unfold termB
      rw [strN_size (sumd_bytes (app_bytes (encN_bytes _) (encN_bytes _))), sumd_len, List.length_append]
      have := encN_len st.term
      have := encN_len st.vote
      omega
  omega
theorem turn_go {size : Int} {F : Fs} {st : RS} {t v : Int} (hS : StR F st) (hG : StOk st) (hr : 2086 * (st.l.length : Int) + st.data.size + 100 ≤ size) (ht : inX t 0) (hv : inX v 0) (h1 : ¬ t < st.term) (h2 : ¬ (t = st.term ∧ v = st.vote)) (h3 : ¬ (t = st.term ∧ st.vote ≠ 0)) :
    (turnX size F st t v).1 = 0 ∧ (turnX size F st t v).2.2 = { st with term := t, vote := v } := by
  have hu := hS.use hG
  obtain ⟨a, b, c, rfl, -⟩ := hS
  rw [use_mk] at hu
  have hc := sz_nn c
  have e : repC size (mkF a b c) nTerm (termB t v) = 0 := by
    rw [(rep_term size a b c (termB t v)).1, if_neg]
    have hsz : (termB t v).size ≤ 24 := by
      unfold termB
      rw [strN_size (sumd_bytes (app_bytes (encN_bytes _) (encN_bytes _))), sumd_len, List.length_append]
      have := encN_len t
      have := encN_len v
      omega
    omega
  unfold turnX
  rw [if_neg (fun z => z ⟨ht, hv⟩), if_neg h1, if_neg h2, if_neg h3, if_neg (fun z => z e)]
  exact ⟨rfl, rfl⟩
theorem snap_go {size : Int} {F : Fs} {st : RS} {i t : Int} {data : ByteArray} (hS : StR F st) (hG : StOk st) (hr : 2086 * (st.l.length : Int) + st.data.size + data.size + 100 ≤ size) (hi : inX i 1) (ht : inX t 1) (hd : data.size ≤ 60000) (h1 : ¬ i ≤ st.index) (h2 : ¬ t < st.snapped) :
    (snapX size F st i t data).1 = 0 ∧ (snapX size F st i t data).2.2 = { st with index := i, snapped := t, data := data, l := leftX st i t } := by
  have hu := hS.use hG
  obtain ⟨a, b, c, rfl, -⟩ := hS
  rw [use_mk] at hu
  have hb := sz_nn b
  have e : repC size (mkF a b c) nSnap (snapB i t data) = 0 := by
    rw [(rep_snap size a b c (snapB i t data)).1, if_neg]
    have hsz : (snapB i t data).size ≤ 34 + data.size := by
      unfold snapB
      rw [strN_size (sumd_bytes (snapN_bytes _ _ _)), sumd_len]
      have := snapN_len i t data
      omega
    omega
  unfold snapX
  rw [if_neg (fun z => z ⟨hi, ht⟩), if_neg (by omega), if_neg h1, if_neg h2, if_neg (fun z => z e)]
  exact ⟨rfl, rfl⟩
theorem put_go {room after : Int} {st : RS} {l2 r : List En} {x : En} (h1 : ¬ (after < 0 ∨ after > (lastX st).1)) (h2 : rightX after 0 none l2 = 0) (h3 : l2.dropWhile (stripB st) = x :: r) (h4 : ¬ x.1 < aheadX st (x.2.1 - st.index - 1).toNat) (h5 : (((x :: r).flatMap entN).length : Int) ≤ room) :
    putX room st after l2 = (0, { st with l := st.l.take (x.2.1 - st.index - 1).toNat ++ x :: r }) := by
  unfold putX
  rw [if_neg h1, if_neg (fun z => z h2), h3]
  dsimp only
  have := strN_size (ents_bytes (x :: r))
  rw [if_neg h4, if_neg (by omega)]
section
variable {cs : List Chunk} {H : Heap} {K : Value → Heap → Prop}
theorem pick9_spec {c n : Int} (hn : n ≠ 0) (k : K (.int .i64 (pickI c n)) H) : FnH Tryd.prog 10 #[.int .i64 c, .int .i64 n] H K := by
  apply logboomlaw9_pick_fn
  exact pick_formula hn k
theorem term9_spec {c d i : Nat} {st : RS} (h : HL.Holds cs H) (ei : cs[i]? = some (lgc c d st)) (k : K (.int .i64 st.term) H) : FnH Tryd.prog 18 #[.pointer (some ⟨c, 0, none⟩)] H K := by
  apply raftlog_state_Term_fn
  unfold raftlog_state_Term_vc
  obtain ⟨s, hc⟩ := h.read i ei lgc_mono
  exact ⟨_, hc.cell 0 rfl rfl, k⟩
theorem vote9_spec {c d i : Nat} {st : RS} (h : HL.Holds cs H) (ei : cs[i]? = some (lgc c d st)) (k : K (.int .i64 st.vote) H) : FnH Tryd.prog 19 #[.pointer (some ⟨c, 0, none⟩)] H K := by
  apply raftlog_state_Vote_fn
  unfold raftlog_state_Vote_vc
  obtain ⟨s, hc⟩ := h.read i ei lgc_mono
  exact ⟨_, hc.cell 0 rfl rfl, k⟩
theorem first9_spec {c d i : Nat} {st : RS} (h : HL.Holds cs H) (ei : cs[i]? = some (lgc c d st)) (hx : inX st.index 0) (k : K (.int .i64 (st.index + 1)) H) : FnH Tryd.prog 15 #[.pointer (some ⟨c, 0, none⟩)] H K := by
  apply raftlog_state_First_fn
  unfold raftlog_state_First_vc
  obtain ⟨s, hc⟩ := h.read i ei lgc_mono
  obtain ⟨x0, x1⟩ := hx
  rw [← wrap64_id (n := st.index + 1) (by omega) (by omega)] at k
  exact ⟨_, hc.cell 0 rfl rfl, k⟩
theorem snapshot9_spec {c d i : Nat} {st : RS} (h : HL.Holds cs H) (ei : cs[i]? = some (lgc c d st)) (k : K (.tuple #[.int .i64 st.index, .int .i64 st.snapped, .string st.data]) H) : FnH Tryd.prog 13 #[.pointer (some ⟨c, 0, none⟩)] H K := by
  apply raftlog_state_Snapshot_fn
  unfold raftlog_state_Snapshot_vc
  obtain ⟨s, hc⟩ := h.read i ei lgc_mono
  exact ⟨_, hc.cell 0 rfl rfl, _, hc.cell 0 rfl rfl, _, hc.cell 0 rfl rfl, k⟩
def someL (after : Int) (n : Nat) (t : Int) : List En := (List.range n).map fun i : Nat => (t, after + 1 + i, (⟨#[100]⟩ : ByteArray))
theorem someL_len (after : Int) (n : Nat) (t : Int) : (someL after n t).length = n := by simp [someL]
theorem some9_spec {after t : Int} {n : Nat} (h : HL.Holds cs H) (ha : 0 ≤ after) (hb : after ≤ 1000000000) (hn : n ≤ 100) (k : ∀ (s : Sl) H', HL.Holds (ownE s (someL after n t) :: cs) H' → K (.slice s.p s.n s.c) H') : FnH Tryd.prog 20 #[.int .i64 after, .int .i64 (n : Int), .int .i64 t] H K := by
  apply logboomlaw9_some_fn
  unfold logboomlaw9_some_vc
  refine ⟨fun s i H' => 1 ≤ i ∧ i ≤ (n : Int) + 1 ∧ HL.Holds (ownE s (someL after (i - 1).toNat t) :: cs) H', fun _ i _ => ((n : Int) + 1 - i).toNat, ⟨by decide, by omega, h.own_nil 43 3⟩, ?_⟩
  rintro s i H1 ⟨i0, i1, h1⟩
  have hl := (Own.recs eElen (by decide) (h1.own 0 rfl) (by rw [someL_len]; omega)).len
  rw [someL_len] at hl
  refine br_intro (fun q => ?_) (fun q => ?_)
  · have q := of_decide_eq_true q
    rw [wrap64_id (n := after + i) (by omega) (by omega), wrap64_id (n := i + 1) (by omega) (by omega)]
    refine Holds.push okEn h1 (xs := [.int .i64 t, .int .i64 (after + i), .string (⟨#[100]⟩ : ByteArray)]) (m := 1) rfl rfl (by omega) fun r H2 h2 n2 => ⟨r, rfl, rfl, ⟨by omega, by omega, ?_⟩, by dsimp only; omega⟩
    have e : someL after (i + 1 - 1).toNat t = someL after (i - 1).toNat t ++ [(t, after + i, (⟨#[100]⟩ : ByteArray))] := by
      have e1 : (i + 1 - 1).toNat = (i - 1).toNat + 1 := by omega
      have e2 : after + 1 + ((i - 1).toNat : Nat) = after + i := by omega
      unfold someL
      rw [e1, List.range_succ, List.map_append, List.map_cons, List.map_nil, e2]
    rw [e]
    show HL.Holds (own 43 3 r (List.flatMap eE _) :: cs) H2
    rw [List.flatMap_append]
    exact h2
  · have q := of_decide_eq_false q
    have e : (i - 1).toNat = n := by omega
    rw [e] at h1
    exact k s H1 h1
/-- A log and its disk. -/
structure LogAt (cs : List Chunk) (H : Heap) (c d : Nat) (size : Int) (st : RS) : Prop where
  at_ : ∃ F, StR F st ∧ HL.Holds (lgc c d st :: dsk d size F :: cs) H
  ok : StOk st
  up : UpS st
theorem LogAt.holds {c d : Nat} {size : Int} {st : RS} (h : LogAt cs H c d size st) : ∃ F, HL.Holds (lgc c d st :: dsk d size F :: cs) H := by
  obtain ⟨F, -, h⟩ := h.at_
  exact ⟨F, h⟩
theorem LogAt.turn {c d : Nat} {size : Int} {st : RS} {t v : Int} (h : LogAt cs H c d size st)
    (k : ∀ F st' H', StR F st → st' = (turnX size F st t v).2.2 → LogAt cs H' c d size st' → K (.int .i64 (turnX size F st t v).1) H') : FnH Tryd.prog 21 #[.pointer (some ⟨c, 0, none⟩), .int .i64 t, .int .i64 v] H K := by
  obtain ⟨⟨F, hS, h1⟩, hG, hU⟩ := h
  have hk := turn_keeps (size := size) t v hS hG
  refine turn9_spec h1 fun H' h' => k F _ H' hS rfl ⟨⟨_, hk.1, h'⟩, hk.2.1, ?_⟩
  intro x hx
  rw [hk.2.2.1] at hx
  rw [hk.2.2.2.2.1]; exact hU x hx
theorem LogAt.snap {c d : Nat} {size : Int} {st : RS} {i t : Int} {data : ByteArray} (h : LogAt cs H c d size st)
    (k : ∀ F st' H', StR F st → st' = (snapX size F st i t data).2.2 → LogAt cs H' c d size st' → st'.l.length ≤ st.l.length → st'.term = st.term → st'.vote = st.vote → K (.int .i64 (snapX size F st i t data).1) H') : FnH Tryd.prog 11 #[.pointer (some ⟨c, 0, none⟩), .int .i64 i, .int .i64 t, .string data] H K := by
  obtain ⟨⟨F, hS, h1⟩, hG, hU⟩ := h
  have hk := snap_keeps (size := size) i t data hS hG hU (dsk_room (h1.pull 1 rfl)).1
  exact snap9_spec h1 hG.len hG.bounds hG.index.1 hG.index.2 fun H' h' => k F _ H' hS rfl ⟨⟨_, hk.1, h'⟩, hk.2.1, hk.2.2.1⟩ hk.2.2.2.1 hk.2.2.2.2.1 hk.2.2.2.2.2
theorem LogAt.put {c d i : Nat} {size : Int} {st : RS} {after : Int} {s : Sl} {l2 : List En} {c0 : Chunk} (h : LogAt cs H c d size st) (g : Gives c0 fun A => Recs eE A s l2) (ei : cs[i]? = some c0) (hlen : l2.length ≤ 1000) (hlen2 : st.l.length + l2.length ≤ 100000)
    (k : ∀ F st' H', StR F st → useF F ≤ size → st' = (putX (size - useF F) st after l2).2 → LogAt cs H' c d size st' → st'.l.length ≤ st.l.length + l2.length → st'.term = st.term → st'.vote = st.vote → K (.int .i64 (putX (size - useF F) st after l2).1) H') : FnH Tryd.prog 12 #[.pointer (some ⟨c, 0, none⟩), .int .i64 after, .slice s.p s.n s.c] H K := by
  obtain ⟨⟨F, hS, h1⟩, hG, hU⟩ := h
  have hk := put_keeps (room := size - useF F) (after := after) hG hlen2 hU
  have hr := (dsk_room (h1.pull 1 rfl)).1
  exact put9_spec h1 g ei hS hG hlen fun F' H' hS' h' => k F _ H' hS hr rfl ⟨⟨_, hS', h'⟩, hk.1, hk.2.1⟩ hk.2.2.1 hk.2.2.2.1 hk.2.2.2.2
theorem LogAt.open {d : Nat} {size : Int} (h : HL.Holds (dsk d size [] :: cs) H) (k : ∀ c H', LogAt cs H' c d size st0 → K (.tuple #[.pointer (some ⟨c, 0, none⟩), .int .i64 0]) H') : FnH Tryd.prog 8 #[.pointer (some ⟨d, 0, none⟩), .string ⟨#[114]⟩] H K :=
  open9_spec h StR.zero StOk.zero fun c H' h' => k c H' ⟨⟨_, StR.zero, h'⟩, StOk.zero, UpS.zero⟩
theorem gE (s : Sl) (l : List En) (hl : l.length ≤ 1000) : Gives (ownE s l) fun A => Recs eE A s l := ⟨Own.mono, fun _ h => Own.recs eElen (by decide) h (by omega)⟩
abbrev sd : ByteArray := ⟨#[100]⟩
abbrev sS : RS := ⟨2, 0, 0, 0, ⟨#[]⟩, []⟩
theorem shown9_spec (h : HL.Holds cs H) (k : ∀ H', HL.Holds cs H' → K (.bool true) H') : FnH Tryd.prog 6 #[] H K := by
  apply logboomlaw9_shown_fn
  unfold logboomlaw9_shown_vc
  refine dnew_spec h (fun q => by omega) fun _ _ d H1 h1 => ⟨_, _, rfl, br_f rfl (br_f rfl (LogAt.open h1 fun c H2 h2 => ⟨_, _, rfl, br_f rfl (br_f rfl ?_)⟩))⟩
  refine h2.turn fun F1 s1 H3 f1 e1 h3 => ⟨_, rfl, ?_⟩
  obtain ⟨a1, b1⟩ := turn_go (size := 10000) (t := 1) (v := 2) f1 StOk.zero (by decide) (by decide) (by decide) (by decide) (by decide) (by decide)
  rw [b1] at e1
  subst e1
  refine br_f (by rw [a1]; rfl) (h3.turn fun F2 s2 H4 f2 e2 h4 => ⟨_, rfl, ?_⟩)
  have x2 : turnX 10000 F2 ⟨1, 2, 0, 0, ⟨#[]⟩, []⟩ 1 3 = (19, F2, ⟨1, 2, 0, 0, ⟨#[]⟩, []⟩) := by
    unfold turnX; rw [if_neg (by decide), if_neg (by decide), if_neg (by decide), if_pos (by decide)]
  have x2' : turnX 10000 F2 { st0 with term := 1, vote := 2 } 1 3 = (19, F2, ⟨1, 2, 0, 0, ⟨#[]⟩, []⟩) := x2
  rw [x2'] at e2 ⊢
  have e2 : s2 = ⟨1, 2, 0, 0, ⟨#[]⟩, []⟩ := e2
  subst e2
  refine br_f rfl (h4.turn fun F3 s3 H5 f3 e3 h5 => ⟨_, rfl, ?_⟩)
  have x3 : turnX 10000 F3 ⟨1, 2, 0, 0, ⟨#[]⟩, []⟩ 0 0 = (13, F3, ⟨1, 2, 0, 0, ⟨#[]⟩, []⟩) := by
    unfold turnX; rw [if_neg (by decide), if_pos (by decide)]
  rw [x3] at e3 ⊢
  have e3 : s3 = ⟨1, 2, 0, 0, ⟨#[]⟩, []⟩ := e3
  subst e3
  refine br_f rfl (h5.turn fun F4 s4 H6 f4 e4 h6 => ⟨_, rfl, ?_⟩)
  obtain ⟨a4, b4⟩ := turn_go (size := 10000) (t := 2) (v := 0) f4 h5.ok (by decide) (by decide) (by decide) (by decide) (by decide) (by decide)
  rw [b4] at e4
  have e4 : s4 = sS := e4
  subst e4
  obtain ⟨G6, g6⟩ := h6.holds
  refine br_f (by rw [a4]; rfl) (term9_spec (i := 0) g6 rfl ⟨_, rfl, br_f rfl (vote9_spec (i := 0) g6 rfl ⟨_, rfl, br_f rfl ?_⟩)⟩)
  -- the entries
  obtain ⟨G6, f6, g6⟩ := h6.at_
  refine some9_spec (n := 2) (t := 1) g6 (by decide) (by decide) (by decide) fun l1 H9 h9 => ⟨l1, rfl, ?_⟩
  have w9 : LogAt (ownE l1 (someL 0 2 1) :: cs) H9 c d 10000 sS := ⟨⟨G6, f6, h9.down 2⟩, h6.ok, h6.up⟩
  have hb : ∀ {F : Fs} {st : RS}, StR F st → StOk st → st.l.length ≤ 3 → st.data.size ≤ 10 → useF F ≤ 6400 := fun hS hG h1 h2 => by
    have := hS.use hG
    omega
  have en : ∀ {l : List En}, (∀ x ∈ l, x.2.2.size ≤ 2048) → l.length ≤ 1 → ((l.flatMap entN).length : Int) ≤ 2086 := fun h h1 => by
    have := ents_len h
    omega
  refine w9.put (i := 0) (after := 0) (gE l1 _ (by rw [someL_len]; omega)) rfl (by rw [someL_len]; omega) (by rw [someL_len]; decide) fun F10 s10 H10 f10 u10 e10 h10 _ _ _ => ⟨_, rfl, ?_⟩
  have p10 : putX (10000 - useF F10) sS 0 (someL 0 2 1) = (0, ⟨2, 0, 0, 0, ⟨#[]⟩, [(1, 1, sd), (1, 2, sd)]⟩) := by
    have hu := f10.use h6.ok
    have hu : useF F10 ≤ 60 := hu
    refine put_go (x := (1, 1, sd)) (r := [(1, 2, sd)]) (by decide) rfl rfl (by decide) ?_
    have := ents_len (l := [(1, 1, sd), (1, 2, sd)]) (by decide)
    have e : ([(1, 1, sd), (1, 2, sd)] : List En).length = 2 := rfl
    omega
  rw [p10] at e10 ⊢
  have e10 : s10 = ⟨2, 0, 0, 0, ⟨#[]⟩, [(1, 1, sd), (1, 2, sd)]⟩ := e10
  subst e10
  obtain ⟨G10, y10, g10⟩ := h10.at_
  refine br_f rfl (some9_spec (n := 1) (t := 2) g10 (by decide) (by decide) (by decide) fun l2 H11 h11 => ⟨l2, rfl, ?_⟩)
  have w11 : LogAt (ownE l2 (someL 1 1 2) :: ownE l1 (someL 0 2 1) :: cs) H11 c d 10000 ⟨2, 0, 0, 0, ⟨#[]⟩, [(1, 1, sd), (1, 2, sd)]⟩ := ⟨⟨G10, y10, h11.down 2⟩, h10.ok, h10.up⟩
  refine w11.put (i := 0) (after := 1) (gE l2 _ (by rw [someL_len]; omega)) rfl (by rw [someL_len]; omega) (by rw [someL_len]; decide) fun F12 s12 H12 f12 u12 e12 h12 _ _ _ => ⟨_, rfl, ?_⟩
  have p12 : putX (10000 - useF F12) ⟨2, 0, 0, 0, ⟨#[]⟩, [(1, 1, sd), (1, 2, sd)]⟩ 1 (someL 1 1 2) = (0, ⟨2, 0, 0, 0, ⟨#[]⟩, [(1, 1, sd), (2, 2, sd)]⟩) := by
    have hu := hb f12 h10.ok (by decide) (by decide)
    refine put_go (x := (2, 2, sd)) (r := []) (by decide) rfl rfl (by decide) ?_
    have := en (l := [(2, 2, sd)]) (by decide) (by decide)
    omega
  rw [p12] at e12 ⊢
  have e12 : s12 = ⟨2, 0, 0, 0, ⟨#[]⟩, [(1, 1, sd), (2, 2, sd)]⟩ := e12
  subst e12
  obtain ⟨G12, y12, g12⟩ := h12.at_
  refine br_f rfl (last9_spec (i := 0) g12 rfl (by decide) ⟨_, _, rfl, at9_spec (i := 0) g12 rfl (by decide) (by decide) (by decide) (by decide) (fun e => by cases e) fun e he => ?_⟩)
  have he : some (2, 2, sd) = some e := he
  cases he
  refine ⟨_, _, _, _, rfl, br_f rfl (br_f rfl (br_f rfl (br_f rfl (some9_spec (n := 2) (t := 2) g12 (by decide) (by decide) (by decide) fun l3 H15 h15 => ⟨l3, rfl, ?_⟩))))⟩
  have w15 : LogAt (ownE l3 (someL 1 2 2) :: ownE l2 (someL 1 1 2) :: ownE l1 (someL 0 2 1) :: cs) H15 c d 10000 ⟨2, 0, 0, 0, ⟨#[]⟩, [(1, 1, sd), (2, 2, sd)]⟩ := ⟨⟨G12, y12, h15.down 2⟩, h12.ok, h12.up⟩
  refine w15.put (i := 0) (after := 1) (gE l3 _ (by rw [someL_len]; omega)) rfl (by rw [someL_len]; omega) (by rw [someL_len]; decide) fun F16 s16 H16 f16 u16 e16 h16 _ _ _ => ⟨_, rfl, ?_⟩
  have p16 : putX (10000 - useF F16) ⟨2, 0, 0, 0, ⟨#[]⟩, [(1, 1, sd), (2, 2, sd)]⟩ 1 (someL 1 2 2) = (0, ⟨2, 0, 0, 0, ⟨#[]⟩, [(1, 1, sd), (2, 2, sd), (2, 3, sd)]⟩) := by
    have hu := hb f16 h12.ok (by decide) (by decide)
    refine put_go (x := (2, 3, sd)) (r := []) (by decide) rfl rfl (by decide) ?_
    have := en (l := [(2, 3, sd)]) (by decide) (by decide)
    omega
  rw [p16] at e16 ⊢
  have e16 : s16 = ⟨2, 0, 0, 0, ⟨#[]⟩, [(1, 1, sd), (2, 2, sd), (2, 3, sd)]⟩ := e16
  subst e16
  obtain ⟨G16, y16, g16⟩ := h16.at_
  have w16 : LogAt (own 43 3 ⟨none, 0, 0⟩ (([] : List En).flatMap eE) :: ownE l3 (someL 1 2 2) :: ownE l2 (someL 1 1 2) :: ownE l1 (someL 0 2 1) :: cs) H16 c d 10000 ⟨2, 0, 0, 0, ⟨#[]⟩, [(1, 1, sd), (2, 2, sd), (2, 3, sd)]⟩ := ⟨⟨G16, y16, (g16.own_nil 43 3).down 2⟩, h16.ok, h16.up⟩
  refine br_f rfl (w16.put (i := 0) (after := 5) (s := ⟨none, 0, 0⟩) (gE ⟨none, 0, 0⟩ [] (by decide)) rfl (by decide) (by decide) fun F17 s17 H17 f17 u17 e17 h17 _ _ _ => ⟨_, rfl, ?_⟩)
  have p17 : putX (10000 - useF F17) ⟨2, 0, 0, 0, ⟨#[]⟩, [(1, 1, sd), (2, 2, sd), (2, 3, sd)]⟩ 5 [] = (10, ⟨2, 0, 0, 0, ⟨#[]⟩, [(1, 1, sd), (2, 2, sd), (2, 3, sd)]⟩) := by
    unfold putX
    rw [if_pos (by decide)]
  rw [p17] at e17 ⊢
  have e17 : s17 = ⟨2, 0, 0, 0, ⟨#[]⟩, [(1, 1, sd), (2, 2, sd), (2, 3, sd)]⟩ := e17
  subst e17
  obtain ⟨G17, y17, g17⟩ := h17.at_
  refine br_f rfl (from9_spec (i := 0) (x := 2) (m := 9) g17 rfl (by decide) (by decide) (by decide) (by decide) fun r18 H18 s18 h18 => ⟨r18, rfl, ?_⟩)
  have n18 : r18.n = 2 := (Own.recs eElen (by decide) (h18.own 0 rfl) (by decide)).len
  have w18 : LogAt (ownE r18 (fromX ⟨2, 0, 0, 0, ⟨#[]⟩, [(1, 1, sd), (2, 2, sd), (2, 3, sd)]⟩ 2 9) :: own 43 3 ⟨none, 0, 0⟩ (([] : List En).flatMap eE) :: ownE l3 (someL 1 2 2) :: ownE l2 (someL 1 1 2) :: ownE l1 (someL 0 2 1) :: cs) H18 c d 10000 ⟨2, 0, 0, 0, ⟨#[]⟩, [(1, 1, sd), (2, 2, sd), (2, 3, sd)]⟩ := ⟨⟨G17, y17, h18.down 2⟩, h17.ok, h17.up⟩
  refine br_f (by rw [n18]; rfl) (w18.snap fun F19 s19 H19 f19 e19 h19 _ _ _ => ⟨_, rfl, ?_⟩)
  obtain ⟨a19, b19⟩ := snap_go (size := 10000) (i := 2) (t := 2) (data := ⟨#[115]⟩) f19 h17.ok (by decide) (by decide) (by decide) (by decide) (by decide) (by decide)
  rw [b19] at e19
  have e19 : s19 = ⟨2, 0, 2, 2, ⟨#[115]⟩, [(2, 3, sd)]⟩ := e19
  subst e19
  obtain ⟨G19, y19, g19⟩ := h19.at_
  refine br_f (by rw [a19]; rfl) (first9_spec (i := 0) g19 rfl (by decide) ⟨_, rfl, br_f rfl (at9_spec (i := 0) g19 rfl (by decide) (by decide) (by decide) (by decide) (fun _ => ⟨_, _, _, _, rfl, ?_⟩) fun e he => by cases he)⟩)
  refine snapshot9_spec (i := 0) g19 rfl ⟨_, _, _, rfl, br_t rfl (br_t rfl (br_t rfl (br_t (by simp) ?_)))⟩
  refine h19.snap fun F20 s20 H20 f20 e20 h20 _ _ _ => ⟨_, rfl, ?_⟩
  obtain ⟨a20, b20⟩ := snap_go (size := 10000) (i := 9) (t := 5) (data := ⟨#[116]⟩) f20 h19.ok (by decide) (by decide) (by decide) (by decide) (by decide) (by decide)
  rw [b20] at e20
  have e20 : s20 = ⟨2, 0, 9, 5, ⟨#[116]⟩, []⟩ := e20
  subst e20
  obtain ⟨G20, y20, g20⟩ := h20.at_
  refine br_t (by rw [a20]; rfl) (from9_spec (i := 0) (x := 1) (m := 9) g20 rfl (by decide) (by decide) (by decide) (by decide) fun r21 H21 s21 h21 => ⟨r21, rfl, ?_⟩)
  have n21 : r21.n = 0 := (Own.recs eElen (by decide) (h21.own 0 rfl) (by decide)).len
  rw [n21]
  exact k H21 h21.tail.tail.tail.tail.tail.tail.tail.tail
end
end Go.Proofs.YtmneimfhcjkinaaDoor
