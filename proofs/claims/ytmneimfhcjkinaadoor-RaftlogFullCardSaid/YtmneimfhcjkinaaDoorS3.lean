/- Chapter 9: bytes; the log in memory: Last, At, First, Term, Vote, Snapshot. -/
import Derived.Test.YtmneimfhcjkinaaDoorS2
namespace Go.Proofs.YtmneimfhcjkinaaDoor
open Go Go.HL
set_option maxHeartbeats 1600000
set_option maxRecDepth 10000

/-- What a log keeps. -/
structure RS where
  term : Int
  vote : Int
  index : Int
  snapped : Int
  data : ByteArray
  l : List En
/-- A log on the disk d. -/
def lgc (c d : Nat) (st : RS) : Chunk := fun H => ∃ s : Sl, HL.Holds [blk c (.cells #[.int .i64 st.term, .int .i64 st.vote, .int .i64 st.index, .int .i64 st.snapped, .string st.data, .slice s.p s.n s.c, .pointer (some ⟨d, 0, none⟩), .string ⟨#[114]⟩] 40 (0, 0)), ownE s st.l] H
theorem lgc_mono {c d : Nat} {st : RS} : Mono (lgc c d st) := fun _ _ hs ⟨q, h⟩ => ⟨q, h.up hs⟩
theorem lgc_open {cs : List Chunk} {H : Heap} {c d : Nat} {st : RS} : HL.Holds (lgc c d st :: cs) H ↔ ∃ s : Sl, HL.Holds (blk c (.cells #[.int .i64 st.term, .int .i64 st.vote, .int .i64 st.index, .int .i64 st.snapped, .string st.data, .slice s.p s.n s.c, .pointer (some ⟨d, 0, none⟩), .string ⟨#[114]⟩] 40 (0, 0)) :: ownE s st.l :: cs) H := Holds.open
def lastX (st : RS) : Int × Int := match st.l.getLast? with | some x => (x.2.1, x.1) | none => (st.index, st.snapped)
def atX (st : RS) (i : Int) : Option En := if i ≤ st.index then none else st.l[(i - st.index - 1).toNat]?
def en0 : En := (0, 0, ⟨#[]⟩)
section
variable {cs : List Chunk} {H : Heap} {K : Value → Heap → Prop}
theorem bytes9_spec {s : Sl} {l : List En} (h : Recs eE H s l) (hi : ∀ x ∈ l, i64B x.1 ∧ i64B x.2.1 ∧ x.2.2.size ≤ 2048) (hl : l.length ≤ 100000) (k : ∀ H', HL.Sub H H' → K (.string (strN (l.flatMap entN))) H') : FnH Tryd.prog 33 #[.slice s.p s.n s.c] H K := by
  apply raftlog_bytes_fn
  unfold raftlog_bytes_vc
  have hn := h.len
  refine ⟨fun b i H' => 0 ≤ i ∧ i ≤ s.n ∧ HL.Holds [ownY b ((l.take i.toNat).flatMap entN), ro H] H', fun _ i _ => (s.n - i).toNat, ⟨Int.le_refl _, by omega, (Holds.whole H).own_nil 5 1⟩, ?_⟩
  rintro b i H1 ⟨i0, i1, h1⟩
  have hR := Recs.mono _ _ (h1.sub 1 rfl) h
  have hb := (h1.own 0 rfl).1
  simp only [List.length_map, Nat.mul_one] at hb
  have hlen := ents_len (l := l.take i.toNat) fun x hx => (hi x (List.mem_of_mem_take hx)).2.2
  rw [List.length_take] at hlen
  refine br_intro (fun w => ?_) (fun w => ?_)
  · have w := of_decide_eq_true w
    obtain ⟨q, o, x, x1, x2, x3⟩ := hR.at_ eElen (by decide) i0 w
    obtain ⟨b1, b2, b3⟩ := hi x (List.mem_of_getElem? x2)
    have lb := bodyN_len x
    have zb := strN_size (bodyN_bytes x)
    refine ⟨q, o, x1, i0, w, _, x3 0 _ rfl, _, x3 1 _ rfl, _, x3 2 _ rfl, body9_spec b1 b2 (by omega) fun H2 s2 => ⟨_, rfl, ?_⟩⟩
    rw [zb]
    refine four9_spec (by omega) fun H3 s3 => ⟨_, rfl, ?_⟩
    have z4 : (strN (fourN (bodyN x).length)).size = 4 := by rw [strN_size (fourN_bytes _)]; rfl
    refine Holds.appendStr okBy uStr (h1.up (s2.trans s3)) (by rw [z4]; omega) fun r H4 h4 n4 => ⟨r, rfl, ?_⟩
    rw [z4] at n4
    refine summed9_spec (s := strN (bodyN x)) (by omega) fun H5 s5 => ⟨_, rfl, ?_⟩
    rw [nb_str (bodyN_bytes x)]
    have z5 : (strN (sumd (bodyN x))).size = 4 + (bodyN x).length := by rw [strN_size (sumd_bytes (bodyN_bytes x)), sumd_len]
    refine Holds.appendStr okBy uStr (h4.up s5) (by rw [z5]; omega) fun r2 H6 h6 n6 => ⟨r2, rfl, rfl, ?_⟩
    rw [wrap64_id (n := i + 1) (by omega) (by omega)]
    refine ⟨⟨by omega, by omega, ?_⟩, by dsimp only; omega⟩
    rw [take_step i0 x2, List.flatMap_append]
    rw [strV_str (fourN_bytes _), strV_str (sumd_bytes (bodyN_bytes x))] at h6
    have e : byV ((l.take i.toNat).flatMap entN ++ [x].flatMap entN) = byV ((l.take i.toNat).flatMap entN) ++ byV (fourN (bodyN x).length) ++ byV (sumd (bodyN x)) := by simp [entN]
    show HL.Holds [own 5 1 r2 (byV _), ro H] H6
    rw [e]; exact h6
  · have w := of_decide_eq_false w
    rw [List.take_of_length_le (by omega)] at h1
    exact toStr (r := b) (h1.own 0 rfl) (ents_bytes l) ⟨_, rfl, k H1 (h1.sub 1 rfl)⟩
theorem lgc_recs {c d : Nat} {st : RS} {s : Sl} {H : Heap} (hl : st.l.length ≤ 100000) (h : HL.Holds [blk c (.cells #[.int .i64 st.term, .int .i64 st.vote, .int .i64 st.index, .int .i64 st.snapped, .string st.data, .slice s.p s.n s.c, .pointer (some ⟨d, 0, none⟩), .string ⟨#[114]⟩] 40 (0, 0)), ownE s st.l] H) : Recs eE H s st.l := Own.recs eElen (by decide) (h.own 1 rfl) (by omega)
theorem last9_spec {c d i : Nat} {st : RS} (h : HL.Holds cs H) (ei : cs[i]? = some (lgc c d st)) (hl : st.l.length ≤ 100000) (k : K (.tuple #[.int .i64 (lastX st).1, .int .i64 (lastX st).2]) H) : FnH Tryd.prog 9 #[.pointer (some ⟨c, 0, none⟩)] H K := by
  apply raftlog_state_Last_fn
  unfold raftlog_state_Last_vc
  obtain ⟨s, hc⟩ := h.read i ei lgc_mono
  have hR := lgc_recs hl hc
  have hn := hR.len
  have c5 : cellH H ⟨c, 0 + 5, none⟩ = some (.slice s.p s.n s.c) := hc.cell 0 rfl rfl
  unfold lastX at k
  refine ⟨s, c5, br_intro (fun q => ?_) (fun q => ?_)⟩
  · have q := of_decide_eq_true q
    rw [wrap64_id (n := (s.n : Int) - 1) (by omega) (by omega)]
    obtain ⟨b, o, x, e1, e2, e3⟩ := hR.at_ eElen (by decide) (j := (s.n : Int) - 1) (by omega) (by omega)
    have el : st.l.getLast? = some x := by
      rw [List.getLast?_eq_getElem?, ← e2]; congr 1; omega
    rw [el] at k
    exact ⟨s, c5, b, o, e1, by omega, by omega, _, e3 1 _ rfl, s, c5, b, o, e1, by omega, by omega, _, e3 0 _ rfl, k⟩
  · have q := of_decide_eq_false q
    have e : st.l = [] := List.eq_nil_of_length_eq_zero (by omega)
    have el : st.l.getLast? = none := by rw [e]; rfl
    rw [el] at k
    exact ⟨_, hc.cell 0 rfl rfl, _, hc.cell 0 rfl rfl, k⟩
theorem at9_spec {c d i : Nat} {st : RS} {x : Int} (h : HL.Holds cs H) (ei : cs[i]? = some (lgc c d st)) (hl : st.l.length ≤ 100000) (h0 : 0 ≤ st.index) (h1 : st.index ≤ 1000000000) (hx : x ≤ 9223372036854775807)
    (k0 : atX st x = none → K (.tuple #[.agg #[.int .i64 0, .int .i64 0, .string (⟨#[]⟩ : ByteArray)], .bool false]) H) (k1 : ∀ e, atX st x = some e → K (.tuple #[.agg #[.int .i64 e.1, .int .i64 e.2.1, .string e.2.2], .bool true]) H) : FnH Tryd.prog 16 #[.pointer (some ⟨c, 0, none⟩), .int .i64 x] H K := by
  apply raftlog_state_At_fn
  unfold raftlog_state_At_vc
  obtain ⟨s, hc⟩ := h.read i ei lgc_mono
  have hR := lgc_recs hl hc
  have hn := hR.len
  have c5 : cellH H ⟨c, 0 + 5, none⟩ = some (.slice s.p s.n s.c) := hc.cell 0 rfl rfl
  unfold atX at k0 k1
  refine ⟨_, hc.cell 0 rfl rfl, _, hc.cell 0 rfl rfl, br_intro (fun q => ?_) (fun q => ⟨s, c5, ?_⟩)⟩
  · have q := of_decide_eq_true q
    rw [if_pos q] at k0; exact k0 rfl
  · have q := of_decide_eq_false q
    rw [if_neg q] at k0 k1
    rw [wrap64_id (n := x - st.index) (by omega) (by omega), wrap64_id (n := x - st.index - 1) (by omega) (by omega)]
    refine br_intro (fun w => ?_) (fun w => ?_)
    · have w := of_decide_eq_true w
      exact k0 (List.getElem?_eq_none (by omega))
    · have w := of_decide_eq_false w
      obtain ⟨b, o, e, e1, e2, e3⟩ := hR.at_ eElen (by decide) (j := x - st.index - 1) (by omega) (by omega)
      exact ⟨s, c5, b, o, e1, by omega, by omega, _, e3 0 _ rfl, _, e3 1 _ rfl, _, e3 2 _ rfl, k1 e e2⟩
end
end Go.Proofs.YtmneimfhcjkinaaDoor
