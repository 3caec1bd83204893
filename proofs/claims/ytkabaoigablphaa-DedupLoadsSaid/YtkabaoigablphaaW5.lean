/- Chapter 8: Load. -/
import Derived.Test.YtkabaoigablphaaW4
import Derived.Test.YtkabaoigablphaaS7
namespace Go.Proofs.Ytkabaoigablphaa
open Go Go.HL
set_option maxRecDepth 10000
set_option maxHeartbeats 1600000

theorem tabR_succ (m : Nat) (last : Int) (l : List Nat) : tabR (m + 1) last l = if keyOk last l then
      match notesR (readN (rest l)).1.toNat was0 (rest (rest l)) with
      | none => none
      | some q => (tabR m (readN l).1 q.2).map fun p => (((readN l).1, q.1) :: p.1, p.2)
    else none := rfl
theorem read_in (l : List Nat) (hl : ∀ b ∈ l, b < 256) : i64B (readN l).1 := by
  by_cases e : (readN l).2.2 = 0
  · obtain ⟨r, h1, h2, h3, h4, h5⟩ := read_ok (n := (readN l).1) (k := (readN l).2.1) hl (by rw [← e])
    exact ⟨h4, h5⟩
  · rw [read_bad e]; exact ⟨by decide, by decide⟩
theorem notesR_len : ∀ {n : Nat} {was : Nt} {l : List Nat} {N : List Nt} {r : List Nat}, notesR n was l = some (N, r) → r.length ≤ l.length := by
  intro n
  induction n with
  | zero =>
    intro was l N r h
    simp only [notesR, Option.some.injEq, Prod.mk.injEq] at h
    rw [h.2]; exact Nat.le_refl _
  | succ n ih =>
    intro was l N r h
    rw [notesR_succ] at h
    split at h
    · obtain ⟨q, hq, e⟩ := Option.map_eq_some_iff.1 h
      simp only [Prod.mk.injEq] at e
      have := ih (N := q.1) (r := q.2) hq
      rw [← e.2]
      have h1 := rest_le l
      have h2 := rest_le (rest l)
      have h3 := rest_le (rest (rest l))
      have h4 := rest_le (rest (rest (rest l)))
      unfold rest4 at this
      omega
    · cases h
section
variable {cs : List Chunk} {H : Heap} {K : Value → Heap → Prop}
theorem sumS_spec {b : Sl} {s : ByteArray} (h : Holds cs H) (hB : byts b s H) (hb : s.size ≤ 268435456) (k : ∀ (r : Sl) H', HL.Sub H H' → Holds (ownY r (sumN (nb s)) :: cs) H' → r.n = 4 → K (.slice r.p r.n r.c) H') :
    FnH Try.prog 35 #[.slice b.p b.n b.c] H K := by
  apply dedup_sum_fn
  unfold dedup_sum_vc
  refine runH_toString u68 u9 u5 hB ⟨_, rfl, crc_spec (by omega) ⟨_, rfl, ?_⟩⟩
  have hc := crcN_lt (nb s) (nb_byte s)
  refine h.newS fun q H1 s1 h1 => k ⟨some ⟨q, 0, none⟩, 4, 4⟩ H1 s1 (h1.head fun A hA => ⟨rfl, Nat.le_refl _, .inr ⟨q, _, rfl, hA, rfl, ?_⟩⟩) rfl
  have e1 : ∀ k : Nat, k < 64 → IntKind.wrap .u8 (shrI .i64 (crcN (nb s) : Int) k) = ((crcN (nb s) / 2 ^ k % 256 : Nat) : Int) := fun k hk => by
    rw [shr_n _ _ hk, wrap_u8]; omega
  have ea : IntKind.wrap .u8 (shrI .i64 (crcN (nb s) : Int) 24) = ((crcN (nb s) / 16777216 % 256 : Nat) : Int) := e1 24 (by decide)
  have eb : IntKind.wrap .u8 (shrI .i64 (crcN (nb s) : Int) 16) = ((crcN (nb s) / 65536 % 256 : Nat) : Int) := e1 16 (by decide)
  have ec : IntKind.wrap .u8 (shrI .i64 (crcN (nb s) : Int) 8) = ((crcN (nb s) / 256 % 256 : Nat) : Int) := e1 8 (by decide)
  have ed : IntKind.wrap .u8 (crcN (nb s) : Int) = ((crcN (nb s) % 256 : Nat) : Int) := by rw [wrap_u8]; omega
  rw [ea, eb, ec, ed]
  intro i hi
  have z : i = 0 ∨ i = 1 ∨ i = 2 ∨ i = 3 := by simp [sumN] at hi; omega
  rcases z with rfl | rfl | rfl | rfl <;> rfl
/-- A new producer's notes are put into the table. -/
theorem tab_add {t : Nat} {D : Tb} {pid : Int} {r : Sl} {N : List Nt} {X : Unit → Heap → Prop} (hno : pid ∉ D.map Prod.fst) (h : Holds (ownN r N :: tab t D :: cs) H) (k : ∀ H', Holds (tab t (D ++ [(pid, N)]) :: cs) H' → X () H') :
    ∃ m1 : Option Nat, cellH H ⟨t, 0, none⟩ = some (.map m1) ∧ runH Try.prog (Instr.mapUpdate 53 (.map m1) (.int .i64 pid) (.slice r.p r.n r.c)) H X := by
  obtain ⟨mb, ps, ⟨eT, hN⟩, h2⟩ := tab_open.1 h.swap
  refine ⟨some mb, h2.cell 0 rfl rfl, Holds.update (k := pid) h2 1 rfl u53 kint fun H' h' => k H' (tab_open.2 ⟨mb, ps ++ [(pid, r, N)], ⟨?_, ?_⟩, ?_⟩)⟩
  · rw [← eT]; simp [tmod]
  · rw [List.map_append, List.nodup_append]
    refine ⟨hN, by simp, fun a ha b hb => ?_⟩
    simp only [List.map_cons, List.map_nil, List.mem_singleton] at hb
    subst hb
    rintro rfl
    exact hno ha
  · have hno2 : idxL (tmap ps) pid = none := by
      cases e : idxL (tmap ps) pid with
      | none => rfl
      | some w =>
        have := List.mem_map_of_mem (f := Prod.fst) (List.mem_of_getElem? (idxL_get e))
        rw [keys_tmap, eT] at this
        exact absurd this hno
    have e3 : tmap (ps ++ [(pid, r, N)]) = putL (tmap ps) pid (.slice r.p r.n r.c) := by rw [putL_none hno2]; simp [tmap]
    rw [e3]
    have h3 : Holds (ownN r N :: Holds (ps.map hown) :: blk t (.cells #[.map (some mb)] 55 (0, 0)) :: mp mb encI (putL (tmap ps) pid (.slice r.p r.n r.c)) :: cs) H' := by
      have h4 : Holds (blk t (.cells #[.map (some mb)] 55 (0, 0)) :: mp mb encI (putL (tmap ps) pid (.slice r.p r.n r.c)) :: Holds (ps.map hown) :: ownN r N :: cs) H' := h'
      exact ((h4.pull 2 rfl).pull 3 rfl)
    have h5 := Holds.more (f := hown) (a := (pid, r, N)) h3
    exact h5.down 2
/-- notes with the reader lent. -/
theorem notesL {s : ByteArray} {n : Int} {X : Sl → ByteArray → Bool → Heap → Prop} (h : Holds cs H) (q : Nat) (hq : H q = none) (hn : 1 ≤ n) (hn2 : n ≤ 9223372036854775807) (hs : s.size ≤ 100000000)
    (k0 : notesR n.toNat was0 (nb s) = none → ∀ s' ok' H', Holds cs H' → X ⟨none, 0, 0⟩ s' ok' H')
    (k1 : ∀ N l, notesR n.toNat was0 (nb s) = some (N, l) → ∀ (sl : Sl) s' H', nb s' = l → 0 < sl.n → Holds (ownN sl N :: cs) H' → X sl s' true H') :
    FnH Try.prog 37 #[.pointer (some ⟨q, 0, none⟩), .int .i64 n] (Heap.upd H q (.cells #[.string s, .bool true] 73 (0, 0))) fun r H' => ∃ l : Sl, r = .slice l.p l.n l.c ∧ ∃ s2 : ByteArray, ∃ b : Bool, H' q = some (.cells #[.string s2, .bool b] 73 (0, 0)) ∧ letH (Heap.del H' q) fun H2 => X l s2 b H2 :=
  notes_spec (h.add hq _) hn hn2 hs (fun z s' ok' H' h' => ⟨⟨none, 0, 0⟩, rfl, s', ok', (held_undo h').1, letH_intro fun H2 g => k0 z s' ok' H2 (by rw [g]; exact (held_undo h').2)⟩)
    fun N l z sl s' H' e hn h' => ⟨sl, rfl, s', true, (held_undo h'.swap).1, letH_intro fun H2 g => k1 N l z sl s' H2 e hn (by rw [g]; exact (held_undo h'.swap).2)⟩
theorem load_spec {s : ByteArray} (h : Holds cs H) (hs : s.size ≤ 100000000)
    (k5 : s.size < 4 → K (.tuple #[.pointer none, .int .i64 5]) H)
    (k6 : ¬ s.size < 4 → ¬ sumN ((nb s).drop 4) = (nb s).take 4 → ∀ H', Holds cs H' → K (.tuple #[.pointer none, .int .i64 6]) H')
    (k4 : ¬ s.size < 4 → sumN ((nb s).drop 4) = (nb s).take 4 → loadM ((nb s).drop 4) = none → ∀ H', Holds cs H' → K (.tuple #[.pointer none, .int .i64 4]) H')
    (k : ∀ T, ¬ s.size < 4 → sumN ((nb s).drop 4) = (nb s).take 4 → loadM ((nb s).drop 4) = some T → ∀ t H', Holds (tab t T :: cs) H' → K (.tuple #[.pointer (some ⟨t, 0, none⟩), .int .i64 0]) H') :
    FnH Try.prog 19 #[.string s] H K := by
  apply dedup_Load_fn
  unfold dedup_Load_vc
  refine br_intro (fun q => k5 (by have := of_decide_eq_true q; omega)) (fun q => ?_)
  have q : ¬ s.size < 4 := by have := of_decide_eq_false q; omega
  have en : nb (s.extract (Int.toNat 4) (Int.toNat (s.size : Int))) = (nb s).drop 4 := by
    rw [nb_extract, List.take_of_length_le (by rw [nb_len]; omega)]; rfl
  refine ⟨by decide, by omega, by decide, by omega, Holds.toBytes u9 u68 u5 h fun l1 H1 s1 h1 => ⟨l1, rfl, sumS_spec h1 (h1.read 0 rfl byts_mono) ?_ fun l2 H2 s2 h2 _ => ⟨l2, rfl, toStr (h2.own 0 rfl) (sumN_bytes _) ⟨_, rfl, ?_⟩⟩⟩⟩
  · rw [← nb_len, en, List.length_drop, nb_len]; omega
  have hc : Holds cs H2 := h2.tail.tail
  clear h2
  rw [en, str_eq]
  have e0 : nb (s.extract (Int.toNat 0) (Int.toNat 4)) = (nb s).take 4 := by rw [nb_extract]; rfl
  refine br_intro (fun q2 => k6 q ?_ H2 hc) (fun q2 => ?_)
  · have q2 : ¬ strN (sumN ((nb s).drop 4)) = s.extract (Int.toNat 0) (Int.toNat 4) := by simpa using q2
    intro e
    exact q2 (nb_inj (by rw [nb_str (sumN_bytes _), e0]; exact e))
  have q2 : strN (sumN ((nb s).drop 4)) = s.extract (Int.toNat 0) (Int.toNat 4) := by simpa using q2
  have q2 : sumN ((nb s).drop 4) = (nb s).take 4 := by rw [← nb_str (sumN_bytes ((nb s).drop 4)), q2, e0]
  have k4 := k4 q q2
  have k := fun T => k T q q2
  have hsz : (s.extract (Int.toNat 4) (Int.toNat (s.size : Int))).size ≤ 100000000 := by rw [← nb_len, en, List.length_drop, nb_len]; omega
  rw [← en] at k k4
  generalize s.extract (Int.toNat 4) (Int.toNat (s.size : Int)) = s0 at *
  clear k5 k6 e0 en q2 h1 s1 s2
  refine ⟨by decide, by omega, new_spec hc fun t H4 h4 => ⟨_, rfl, rint_lent h4 fun H5 h5 => ?_⟩⟩
  have r0 : ∀ s, (rest (nb s)).length ≤ s.size := fun s => by rw [← nb_len]; exact rest_le _
  have hin := read_in (nb s0) (nb_byte s0)
  have en0 : nb (nx s0) = rest (nb s0) := nb_nx s0
  have hsz1 : (nx s0).size ≤ 100000000 := by rw [← nb_len, en0]; have := r0 s0; omega
  have hlM : loadM (nb s0) = if (readN (nb s0)).2.2 = 0 ∧ 0 ≤ (readN (nb s0)).1 then endR (tabR (readN (nb s0)).1.toNat 0 (rest (nb s0))) else none := rfl
  by_cases g : ¬ ((readN (nb s0)).2.2 = 0 ∧ 0 ≤ (readN (nb s0)).1)
  · rw [if_neg g] at hlM
    refine ⟨fun m _ s ok H => Holds (tab t [] :: cs) H ∧ m = (readN (nb s0)).1 ∧ ok = decide ((readN (nb s0)).2.2 = 0), fun _ _ _ _ _ => 0, ⟨h5, rfl, by simp⟩, ?_⟩
    rintro m last s ok H7 ⟨h7, rfl, rfl⟩
    by_cases g1 : (readN (nb s0)).2.2 = 0
    · have g2 : ¬ 0 ≤ (readN (nb s0)).1 := fun z => g ⟨g1, z⟩
      refine br_f (decide_eq_false (by omega)) (br_f (by simp [g1]) (br_intro (fun _ => k4 hlM H7 h7.tail) (fun _ => br_t (decide_eq_true (by omega)) (k4 hlM H7 h7.tail))))
    · have := read_bad g1
      exact br_f (decide_eq_false (by omega)) (br_t (by simp [g1]) (k4 hlM H7 h7.tail))
  have g := Decidable.not_not.1 g
  rw [if_pos g, ← en0] at hlM
  obtain ⟨g1, g2⟩ := g
  have g3 : (true && decide ((readN (nb s0)).2.2 = 0)) = true := by simp [g1]
  rw [g3]
  generalize (readN (nb s0)).1 = m0 at *
  generalize nx s0 = s1 at *
  rw [hlM] at k k4
  clear hlM g1 g3 en0 hsz
  refine ⟨fun m last s ok H => 0 ≤ m ∧ m ≤ m0 ∧ ok = true ∧ s.size ≤ 100000000 ∧ ∃ D, Holds (tab t D :: cs) H ∧ 0 ≤ last ∧ (∀ x ∈ D.map Prod.fst, x ≤ last) ∧ endR (tabR m0.toNat 0 (nb s1)) = endR ((tabR m.toNat last (nb s)).map fun p => (D ++ p.1, p.2)), fun m _ _ _ _ => m.toNat,
    ⟨g2, Int.le_refl _, rfl, hsz1, [], h5, Int.le_refl _, by simp, ?_⟩, ?_⟩
  · cases tabR m0.toNat 0 (nb s1) <;> rfl
  rintro m last s ok H7 ⟨m1, m2, rfl, hs, D, h7, hl, hD, hR⟩
  refine br_intro (fun c => br_t rfl ?_) (fun c => br_f rfl ?_)
  · have c := of_decide_eq_true c
    have em : m.toNat = (m - 1).toNat + 1 := by omega
    rw [em, tabR_succ] at hR
    refine rint_lent h7 fun H8 h8 => rint_lent h8 fun H9 h9 => ?_
    have hp := read_in (nb s) (nb_byte s)
    have hp2 := read_in (nb (nx s)) (nb_byte _)
    have e2 : nb (nx (nx s)) = rest (rest (nb s)) := by rw [nb_nx, nb_nx]
    have hs2 : (nx (nx s)).size ≤ 100000000 := by
      rw [← nb_len, e2]
      have := rest_le (rest (nb s)); have := r0 s; omega
    have eb : ((true && decide ((readN (nb s)).2.2 = 0)) && decide ((readN (nb (nx s))).2.2 = 0)) = decide ((readN (nb s)).2.2 = 0 ∧ (readN (nb (nx s))).2.2 = 0) := by
      rw [Bool.eq_iff_iff]; simp
    have bad : ¬ keyOk last (nb s) → K (.tuple #[.pointer none, .int .i64 4]) H9 := fun z => by
      rw [if_neg z] at hR
      exact k4 hR H9 h9.tail
    have good : keyOk last (nb s) → endR (tabR m0.toNat 0 (nb s1)) = endR ((match notesR (readN (nb (nx s))).1.toNat was0 (nb (nx (nx s))) with
        | none => none
        | some q => (tabR (m - 1).toNat (readN (nb s)).1 q.2).map fun p : Tb × List Nat => (((readN (nb s)).1, q.1) :: p.1, p.2)).map fun p : Tb × List Nat => (D ++ p.1, p.2)) := fun z => by
      rw [if_pos z] at hR
      rw [e2, nb_nx]; exact hR
    have kk : keyOk last (nb s) ↔ ((readN (nb s)).2.2 = 0 ∧ (readN (nb (nx s))).2.2 = 0 ∧ last < (readN (nb s)).1 ∧ (readN (nb s)).1 ≤ 1000000000 ∧ 1 ≤ (readN (nb (nx s))).1) := by
      unfold keyOk; rw [nb_nx]
    rw [eb]
    clear eb r0
    have z2 := fun e => read_bad (l := nb (nx s)) e
    have z1 := fun e => read_bad (l := nb s) e
    clear hR
    generalize (readN (nb (nx s))).2.2 = y2 at *
    generalize (readN (nb s)).2.2 = y1 at *
    generalize (readN (nb (nx s))).1 = n at *
    generalize (readN (nb s)).1 = pid at *
    generalize nx (nx s) = s2 at *
    generalize keyOk last (nb s) = kO at *
    refine br_intro (fun p => bad fun z => ?_) (fun p => br_intro (fun p2 => bad fun z => ?_) (fun p2 => br_intro (fun p3 => bad fun z => ?_) (fun p3 => ?_)))
    · have := of_decide_eq_true p; have := (kk.1 z).2.2.1; omega
    · have := of_decide_eq_true p2; have := (kk.1 z).2.2.2.1; omega
    · have := of_decide_eq_true p3; have := (kk.1 z).2.2.2.2; omega
    have p := of_decide_eq_false p
    have p2 := of_decide_eq_false p2
    have p3 := of_decide_eq_false p3
    have y1z : y1 = 0 := Decidable.byContradiction fun e => by have := z1 e; omega
    have y2z : y2 = 0 := Decidable.byContradiction fun e => by have := z2 e; omega
    have hR := good (kk.2 ⟨y1z, y2z, by omega, by omega, by omega⟩)
    have et : decide (y1 = 0 ∧ y2 = 0) = true := decide_eq_true ⟨y1z, y2z⟩
    rw [et]
    refine fun q4 hq4 => notesL h9 q4 hq4 (by omega) hp2.2 hs2 (fun z _ _ H13 h13 => ?_) fun N l z sl s6 H13 e6 hn13 h13 => ?_
    · rw [z] at hR
      exact br_t rfl (k4 hR H13 h13.tail)
    · rw [z] at hR
      have hR : endR (tabR m0.toNat 0 (nb s1)) = endR (((tabR (m - 1).toNat pid l).map fun p : Tb × List Nat => ((pid, N) :: p.1, p.2)).map fun p : Tb × List Nat => (D ++ p.1, p.2)) := hR
      have hno : pid ∉ D.map Prod.fst := fun hm => by have := hD pid hm; omega
      obtain ⟨bq, _, hpq, -⟩ := (h13.own 0 rfl).some_ hn13
      refine br_f (by rw [hpq]; rfl) (ptrm_intro rfl ?_)
      refine tab_add hno h13 fun H14 h14 => ?_
      have hin2 := hin.2
      rw [wrap64_id (n := m - 1) (by omega) (by omega)]
      have hl6 := notesR_len z
      rw [← e6, nb_len, nb_len] at hl6
      refine ⟨rfl, ⟨by omega, by omega, rfl, by omega, D ++ [(pid, N)], h14, by omega, fun x hx => ?_, ?_⟩, by dsimp only; omega⟩
      · rw [List.map_append] at hx
        rcases List.mem_append.1 hx with y | y
        · have := hD x y; omega
        · simp only [List.map_cons, List.map_nil, List.mem_singleton] at y; omega
      · rw [hR, e6]
        cases tabR (m - 1).toNat pid l with
        | none => rfl
        | some p => simp
  · have c := of_decide_eq_false c
    have em : m.toNat = 0 := by omega
    rw [em] at hR
    have hR : endR (tabR m0.toNat 0 (nb s1)) = endR (some (D ++ [], nb s)) := hR
    rw [List.append_nil] at hR
    rw [str_eq]
    refine br_intro (fun p => k4 ?_ H7 h7.tail) (fun p => br_f (decide_eq_false (by omega)) (k D ?_ t H7 h7))
    · have p : ¬ s = ⟨#[]⟩ := by simpa using p
      cases e : nb s with
      | nil => exact absurd (nb_inj (by rw [e]; rfl)) p
      | cons a l => rw [hR, e]; rfl
    · have p : s = ⟨#[]⟩ := by simpa using p
      subst p
      exact hR
end
end Go.Proofs.Ytkabaoigablphaa
