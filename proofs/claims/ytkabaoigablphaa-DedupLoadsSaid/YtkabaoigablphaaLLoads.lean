/- Chapter 8: the law DedupLoads, walked. -/
import Derived.Test.YtkabaoigablphaaR4
import Derived.Test.YtkabaoigablphaaSb
import Derived.Test.YtkabaoigablphaaW7
namespace Go.Proofs.Ytkabaoigablphaa
open Go Go.HL
set_option maxRecDepth 10000
set_option maxHeartbeats 1600000

theorem keepN_nb2 (S : Tb) : nb (strN (keepN S)) = keepN S := nb_str (keepN_bytes S)
theorem ntI_len2 (w : List Nt) : (w.flatMap ntI).length = 4 * w.length := by
  induction w with
  | nil => rfl
  | cons a w ih => rw [List.flatMap_cons, List.length_append, ih, List.length_cons]; show 4 + _ = _; omega
/-! ### the document's bytes of a table in rows -/
theorem ofP_flat : ∀ {S : Tb} {k : Int}, (S.map Prod.fst).Nodup → ofP (flatT S) k = ((lookL S k).getD []).map fun x => (k, x) := by
  intro S k
  induction S with
  | nil => intro _; rfl
  | cons p S ih =>
    intro hn
    obtain ⟨n1, n2⟩ := List.nodup_cons.1 hn
    have e0 : flatT (p :: S) = p.2.map (fun x => (p.1, x)) ++ flatT S := by simp [flatT]
    unfold ofP at ih ⊢
    rw [e0, List.filter_append, ih n2]
    by_cases c : p.1 = k
    · subst c
      have hno : lookL S p.1 = none := lookL_none n1
      have hl : lookL (p :: S) p.1 = some p.2 := by unfold lookL idxL; rw [if_pos rfl]; rfl
      rw [hno, hl]
      rw [List.filter_eq_self.2 (fun m hm => by obtain ⟨x, _, rfl⟩ := List.mem_map.1 hm; simp)]
      simp
    · have hl : lookL (p :: S) k = lookL S k := by
        unfold lookL
        have : idxL (p :: S) k = (idxL S k).map fun q => (q.1 + 1, q.2) := by
          show (if k = p.1 then _ else _) = _
          rw [if_neg (fun e => c e.symm)]
        rw [this]
        cases idxL S k <;> rfl
      rw [hl, List.filter_eq_nil_iff.2 (fun m hm => by obtain ⟨x, _, rfl⟩ := List.mem_map.1 hm; simpa using c)]
      rfl
theorem keepS_same (L0 : List Mk) (k : Int) : ∀ (w : List Nt) (R : List Mk), keepS L0 (some k) (w.map (fun x => (k, x)) ++ R) = w.flatMap ntI ++ keepS L0 (some k) R ∧ startS (some k) (w.map (fun x => (k, x)) ++ R) = startS (some k) R := by
  intro w R
  induction w with
  | nil => exact ⟨rfl, rfl⟩
  | cons x w ih =>
    constructor
    · show (if some k = some k then _ else _) ++ (ntI x ++ keepS L0 (some k) (w.map (fun x => (k, x)) ++ R)) = _
      rw [if_pos rfl, ih.1]; simp
    · show (if some k = some k then 0 else 1) + startS (some k) (w.map (fun x => (k, x)) ++ R) = _
      rw [if_pos rfl, ih.2]; omega
theorem keepS_flat (L0 : List Mk) : ∀ (S : Tb) (prev : Option Int), (∀ k, prev = some k → ∀ p ∈ S, p.1 ≠ k) → (S.map Prod.fst).Nodup → (∀ p ∈ S, p.2 ≠ []) → (∀ p ∈ S, (ofP L0 p.1).length = p.2.length) → keepS L0 prev (flatT S) = S.flatMap rowI ∧ startS prev (flatT S) = S.length := by
  intro S
  induction S with
  | nil => intro prev _ _ _ _; exact ⟨rfl, rfl⟩
  | cons p S ih =>
    intro prev h1 h2 h3 h4
    obtain ⟨n1, n2⟩ := List.nodup_cons.1 h2
    obtain ⟨i1, i2⟩ := ih (some p.1) (fun k e q hq z => n1 (by obtain rfl := Option.some.inj e; rw [← z]; exact List.mem_map.2 ⟨q, hq, rfl⟩)) n2 (fun q hq => h3 q (List.mem_cons_of_mem _ hq)) (fun q hq => h4 q (List.mem_cons_of_mem _ hq))
    have hp := h3 p List.mem_cons_self
    have hc := h4 p List.mem_cons_self
    have hprev : ¬ prev = some p.1 := fun e => h1 p.1 e p List.mem_cons_self rfl
    obtain ⟨k, w⟩ := p
    cases w with
    | nil => exact absurd rfl hp
    | cons x w =>
      have e0 : flatT ((k, x :: w) :: S) = (k, x) :: (w.map (fun x => (k, x)) ++ flatT S) := by simp [flatT]
      obtain ⟨j1, j2⟩ := keepS_same L0 k w (flatT S)
      rw [e0]
      constructor
      · show (if prev = some k then _ else _) ++ (ntI x ++ keepS L0 (some k) (w.map (fun x => (k, x)) ++ flatT S)) = _
        rw [if_neg hprev, j1, i1, hc]
        simp [rowI]
      · show (if prev = some k then 0 else 1) + startS (some k) (w.map (fun x => (k, x)) ++ flatT S) = _
        rw [if_neg hprev, j2, i2, List.length_cons]; omega
theorem keep_flat {S : Tb} (hn : (S.map Prod.fst).Nodup) (hne : ∀ p ∈ S, p.2 ≠ []) : keepS (flatT S) none (flatT S) = S.flatMap rowI ∧ startS none (flatT S) = S.length := by
  refine keepS_flat (flatT S) S none (fun k e => by cases e) hn hne fun p hp => ?_
  rw [ofP_flat hn, List.length_map, (lookL_iff hn (k := p.1) (v := p.2)).2 hp]; rfl
theorem flatT_len (S : Tb) : (flatT S).length ≤ (S.flatMap rowI).length := by
  induction S with
  | nil => exact Nat.le_refl _
  | cons p S ih =>
    have e0 : flatT (p :: S) = p.2.map (fun x => (p.1, x)) ++ flatT S := by simp [flatT]
    rw [e0, List.flatMap_cons, List.length_append, List.length_append, List.length_map]
    have : (rowI p).length = 2 + 4 * p.2.length := by unfold rowI; rw [List.length_append, ntI_len2]; rfl
    omega
section
variable {cs : List Chunk} {H : Heap} {K : Value → Heap → Prop}
theorem rkeep_flat {t : Nat} {S : Tb} {i : Nat} (h : Holds cs H) (ei : cs[i]? = some (rtab t (flatT S))) (hn : (S.map Prod.fst).Nodup) (hne : ∀ p ∈ S, p.2 ≠ []) (wf : WfT S) (hb : (encL (bodyI S)).length ≤ 100000000) (k : ∀ H', HL.Sub H H' → K (.string (strN (keepN S))) H') :
    FnH Try.prog 22 #[.pointer (some ⟨t, 0, none⟩)] H K := by
  obtain ⟨k1, k2⟩ := keep_flat hn hne
  have h1 := encL_len (bodyI S)
  have h2 := flatT_len S
  have h3 : (bodyI S).length = (S.flatMap rowI).length + 1 := rfl
  have eb : encL ((startS none (flatT S) : Int) :: keepS (flatT S) none (flatT S)) = encL (bodyI S) := by rw [k1, k2]; rfl
  refine rkeep_spec h ei (by omega) (fun m hm => ?_) (by rw [eb]; exact hb) fun H' s => ?_
  · obtain ⟨p, hp, hm2⟩ := List.mem_flatMap.1 hm
    obtain ⟨x, hx, rfl⟩ := List.mem_map.1 hm2
    exact ⟨(wf p hp).1, (wf p hp).2 x hx⟩
  · rw [eb]; exact k H' s
end
/-- What was read as a table is that table's bytes. -/
theorem load_bytes {s : ByteArray} {T : Tb} (h1 : ¬ s.size < 4) (h2 : sumN ((nb s).drop 4) = (nb s).take 4) (h3 : loadM ((nb s).drop 4) = some T) : strN (keepN T) = s ∧ KeysOk 0 T ∧ (encL (bodyI T)).length + 4 = s.size := by
  obtain ⟨e1, e2⟩ := loadM_ok (fun b hb => nb_byte s b (List.mem_of_mem_drop hb)) h3
  have e3 : keepN T = nb s := by
    unfold keepN
    rw [← e1, h2, List.take_append_drop]
  refine ⟨nb_inj (by rw [keepN_nb2, e3]), e2, ?_⟩
  rw [← e1, List.length_drop, nb_len]; omega
theorem KeysOk.ne : ∀ {T : Tb} {last : Int}, KeysOk last T → ∀ p ∈ T, p.2 ≠ [] := by
  intro T
  induction T with
  | nil => intro last _ p hp; simp at hp
  | cons a T ih =>
    intro last h p hp
    rcases List.mem_cons.1 hp with rfl | hp
    · exact h.1.2.2.1
    · exact ih h.2 p hp
theorem loads_spec {H0 : Heap} {s : ByteArray} {K : Value → Heap → Prop} (k : ∀ H', HL.Sub H0 H' → K (.bool true) H') : FnH Try.prog 4 #[.string s] H0 K := by
  apply logboomlaw8_DedupLoads_fn
  unfold logboomlaw8_DedupLoads_vc
  refine shown_spec (Holds.whole H0) fun H1 h1 => ⟨true, rfl, br_intro (fun q => k H1 (h1.sub 0 rfl)) (fun q => ?_)⟩
  have q := of_decide_eq_false q
  have hc : crcN (nb s) < 4294967296 := crcN_lt _ (nb_byte s)
  refine rcrc_spec (by omega) ⟨_, rfl, four_spec hc fun H3 s3 => ⟨_, rfl, ?_, ?_⟩⟩
  · have : (strN (fourN (crcN (nb s)))).size = 4 := by rw [← nb_len, nb_str (fourN_bytes _)]; rfl
    omega
  have h3 : Holds [ro H0] H3 := h1.up s3
  have hsz2 : (strN (fourN (crcN (nb s))) ++ s).size ≤ 20004 := by
    rw [ByteArray.size_append]
    have : (strN (fourN (crcN (nb s)))).size = 4 := by rw [← nb_len, nb_str (fourN_bytes _)]; rfl
    omega
  generalize strN (fourN (crcN (nb s))) ++ s = s' at *
  refine h3.new fun w H4 h4 => ?_
  refine ⟨fun i H => 0 ≤ i ∧ i ≤ 2 ∧ Holds [blk w (.cells #[.string s, .string s'] 9 (0, 0)), ro H0] H, fun i _ => (2 - i).toNat, ⟨Int.le_refl _, by decide, h4⟩, ?_⟩
  rintro i H5 ⟨i0, i1, h5⟩
  refine br_intro (fun c => ?_) (fun c => k H5 (h5.sub 1 rfl))
  have c := of_decide_eq_true c
  rw [wrap64_id (n := i + 1) (by omega) (by omega)]
  obtain ⟨x, hx, hcell⟩ : ∃ x : ByteArray, x.size ≤ 20004 ∧ ∀ H, Holds [blk w (.cells #[.string s, .string s'] 9 (0, 0)), ro H0] H → cellH H ⟨w, 0 + Int.toNat i, none⟩ = some (.string x) := by
    have z : i = 0 ∨ i = 1 := by omega
    rcases z with rfl | rfl
    · exact ⟨s, by omega, fun H h => h.cell 0 rfl rfl⟩
    · exact ⟨s', hsz2, fun H h => h.cell 0 rfl rfl⟩
  refine ⟨w, 0, rfl, i0, by omega, x, hcell H5 h5, ?_⟩
  have same : ∀ (e : Int), e ≠ 0 → ∀ H7, Holds [blk w (.cells #[.string s, .string s'] 9 (0, 0)), ro H0] H7 → ∀ {X : Prop} {Y : Prop} {Z : Prop} {U : Prop}, Z → br (e != e) X (br (!((Option.isNone (none : Option Addr)) == (e != 0))) Y (br (e == 0) U Z)) := fun e he H7 h7 X Y Z U hz => by
    refine br_f (by simp) (br_f ?_ (br_f (by simpa using he) hz))
    have : (e != 0) = true := by simpa using he
    rw [this]; rfl
  refine load_spec h5 (by omega) (fun z1 => ?_) (fun z1 z2 H6 h6 => ?_) (fun z1 z2 z3 H6 h6 => ?_) (fun T z1 z2 z3 t H6 h6 => ?_)
  · refine ⟨none, _, rfl, w, 0, rfl, i0, by omega, x, hcell H5 h5, ?_⟩
    refine rload_spec h5 (by omega) (fun _ => ⟨none, _, rfl, same 5 (by decide) H5 h5 ⟨rfl, ⟨by omega, by omega, h5⟩, by dsimp only; omega⟩⟩) (fun y1 => absurd z1 y1) (fun y1 => absurd z1 y1) (fun _ y1 => absurd z1 y1)
  · refine ⟨none, _, rfl, w, 0, rfl, i0, by omega, x, hcell H6 h6, ?_⟩
    refine rload_spec h6 (by omega) (fun y1 => absurd y1 z1) (fun _ _ H7 h7 => ⟨none, _, rfl, same 6 (by decide) H7 h7 ⟨rfl, ⟨by omega, by omega, h7⟩, by dsimp only; omega⟩⟩) (fun _ y2 => absurd y2 z2) (fun _ _ y2 => absurd y2 z2)
  · refine ⟨none, _, rfl, w, 0, rfl, i0, by omega, x, hcell H6 h6, ?_⟩
    refine rload_spec h6 (by omega) (fun y1 => absurd y1 z1) (fun _ y2 => absurd z2 y2) (fun _ _ _ H7 h7 => ⟨none, _, rfl, same 4 (by decide) H7 h7 ⟨rfl, ⟨by omega, by omega, h7⟩, by dsimp only; omega⟩⟩) (fun _ _ _ y3 => by rw [z3] at y3; cases y3)
  · refine ⟨some ⟨t, 0, none⟩, _, rfl, w, 0, rfl, i0, by omega, x, hcell H6 h6.tail, ?_⟩
    refine rload_spec h6 (by omega) (fun y1 => absurd y1 z1) (fun _ y2 => absurd z2 y2) (fun _ _ y3 => by rw [z3] at y3; cases y3) (fun T2 _ _ y3 u H7 h7 => ?_)
    rw [z3] at y3
    obtain rfl := Option.some.inj y3
    obtain ⟨b1, b2, b3⟩ := load_bytes z1 z2 z3
    have wf := KeysOk.wf (Int.le_refl _) b2
    refine ⟨some ⟨u, 0, none⟩, _, rfl, br_f (by simp) (br_f rfl (br_t rfl ⟨w, 0, rfl, i0, by omega, x, hcell H7 h7.tail.tail, ?_⟩))⟩
    have eS := sortT_id b2
    refine keepR_spec (h7.read 1 rfl tab_mono) wf (by rw [eS]; omega) fun H8 s8 => ⟨_, rfl, s8, ?_⟩
    rw [eS, str_eq, b1]
    refine br_f (by simp) ⟨w, 0, rfl, i0, by omega, x, hcell H7 h7.tail.tail, ?_⟩
    refine rkeep_flat (Holds.up s8 h7) (i := 0) rfl b2.keys b2.ne wf (by omega) fun H9 s9 => ⟨_, rfl, s8.trans s9, ?_⟩
    rw [str_eq, b1]
    refine br_f (by simp) ⟨rfl, ⟨by omega, by omega, Holds.up (s8.trans s9) h7.tail.tail⟩, by dsimp only; omega⟩
end Go.Proofs.Ytkabaoigablphaa
