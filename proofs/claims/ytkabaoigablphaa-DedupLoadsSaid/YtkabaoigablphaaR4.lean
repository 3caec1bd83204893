/- Chapter 8: the document's Keep. -/
import Derived.Test.YtkabaoigablphaaR3
namespace Go.Proofs.Ytkabaoigablphaa
open Go Go.HL
set_option maxRecDepth 10000
set_option maxHeartbeats 1600000

abbrev ofP (L : List Mk) (k : Int) : List Mk := L.filter fun x => decide (x.1 = k)
def keepS (L0 : List Mk) : Option Int → List Mk → List Int
  | _, [] => []
  | prev, m :: l => (if prev = some m.1 then [] else [m.1, ((ofP L0 m.1).length : Int)]) ++ (ntI m.2 ++ keepS L0 (some m.1) l)
def startS : Option Int → List Mk → Nat
  | _, [] => 0
  | prev, m :: l => (if prev = some m.1 then 0 else 1) + startS (some m.1) l
def prevAt (L : List Mk) (i : Nat) : Option Int := if i = 0 then none else (L[i - 1]?).map Prod.fst
theorem rtab_mono {t : Nat} {L : List Mk} : Mono (rtab t L) := fun _ _ hs ⟨s, h⟩ => ⟨s, h.up hs⟩
theorem ofP_take {L : List Mk} {k : Int} {i : Nat} {a : Mk} (h : L[i]? = some a) : ofP (L.take (i + 1)) k = if a.1 = k then ofP (L.take i) k ++ [a] else ofP (L.take i) k := by
  obtain ⟨h1, h2⟩ := List.getElem?_eq_some_iff.1 h
  unfold ofP
  rw [List.take_succ_eq_append_getElem h1, h2, List.filter_append]
  split
  · rename_i c; rw [List.filter_cons_of_pos (by simpa using c)]; rfl
  · rename_i c; rw [List.filter_cons_of_neg (by simpa using c)]; simp
section
variable {cs : List Chunk} {H : Heap} {K : Value → Heap → Prop}
theorem of_spec {t : Nat} {L : List Mk} {pid : Int} {i : Nat} (h : Holds cs H) (ei : cs[i]? = some (rtab t L)) (hl : L.length ≤ 100000000) (k : ∀ (r : Sl) H', HL.Sub H H' → Holds (ownM r (ofP L pid) :: cs) H' → r.n = (ofP L pid).length → K (.slice r.p r.n r.c) H') :
    FnH Try.prog 45 #[.pointer (some ⟨t, 0, none⟩), .int .i64 pid] H K := by
  apply logboomref8_Table_of_fn
  unfold logboomref8_Table_of_vc
  obtain ⟨s, hh⟩ := h.read i ei rtab_mono
  have hR : Recs eM H s L := Own.recs eMlen (by decide) (hh.own 1 rfl) (by omega)
  have hn := hR.len
  refine ⟨fun o m H1 => 0 ≤ m ∧ m ≤ s.n ∧ Holds [ownM o (ofP (L.take m.toNat) pid), ro H] H1, fun _ m _ => (s.n - m).toNat, ⟨Int.le_refl _, by omega, (Holds.whole H).own_nil 83 5⟩, ?_⟩
  rintro o m H1 ⟨m0, m1, h1⟩
  have sub := h1.sub 1 rfl
  have hh1 := Holds.up sub hh
  refine ⟨s, hh1.cell 0 rfl rfl, br_intro (fun q => ?_) (fun q => ?_)⟩
  · have q := of_decide_eq_true q
    obtain ⟨q1, o1, a, e1, e2, e3⟩ := (Recs.mono _ _ sub hR).at_ eMlen (by decide) m0 q
    have hot := ofP_take (k := pid) e2
    have em : (m + 1).toNat = m.toNat + 1 := by omega
    have hon := (h1.own 0 rfl).1
    rw [flat_len eMlen] at hon
    have hfl : (ofP (L.take m.toNat) pid).length ≤ L.length := Nat.le_trans (List.length_filter_le _ _) (by rw [List.length_take]; omega)
    rw [wrap64_id (n := m + 1) (by omega) (by omega)]
    refine ⟨s, hh1.cell 0 rfl rfl, q1, o1, e1, m0, q, a.1, e3 0 _ rfl, br_intro (fun c => ?_) (fun c => ?_)⟩
    · have c : a.1 = pid := by simpa using c
      rw [if_pos c] at hot
      refine ⟨s, hh1.cell 0 rfl rfl, q1, o1, e1, m0, q, a.1, e3 0 _ rfl, a.2.1, e3 1 _ rfl, a.2.2.1, e3 2 _ rfl, a.2.2.2.1, e3 3 _ rfl, a.2.2.2.2, e3 4 _ rfl, ?_⟩
      refine Holds.push ok79 h1 (xs := eM a) (m := 1) rfl rfl (by omega) fun r H3 h3 n3 => ⟨r, rfl, rfl, ⟨by omega, by omega, ?_⟩, by dsimp only; omega⟩
      rw [em, hot]
      show Holds [own 83 5 r ((ofP (L.take m.toNat) pid ++ [a]).flatMap eM), _] H3
      have e : (ofP (L.take m.toNat) pid ++ [a]).flatMap eM = (ofP (L.take m.toNat) pid).flatMap eM ++ eM a := by simp
      rw [e]; exact h3
    · have c : ¬ a.1 = pid := by simpa using c
      rw [if_neg c] at hot
      exact ⟨rfl, ⟨by omega, by omega, by rw [em, hot]; exact h1⟩, by dsimp only; omega⟩
  · have q := of_decide_eq_false q
    rw [List.take_of_length_le (by omega)] at h1
    have hon := (h1.own 0 rfl).1
    rw [flat_len eMlen] at hon
    exact k o H1 sub (Holds.onto h1 h) (by omega)
theorem prev_drop {L : List Mk} {i : Nat} {a : Mk} (h : L[i]? = some a) : keepS L (prevAt L i) (L.drop i) = (if prevAt L i = some a.1 then [] else [a.1, ((ofP L a.1).length : Int)]) ++ (ntI a.2 ++ keepS L (prevAt L (i + 1)) (L.drop (i + 1))) ∧ startS (prevAt L i) (L.drop i) = (if prevAt L i = some a.1 then 0 else 1) + startS (prevAt L (i + 1)) (L.drop (i + 1)) := by
  obtain ⟨h1, h2⟩ := List.getElem?_eq_some_iff.1 h
  have e : prevAt L (i + 1) = some a.1 := by
    unfold prevAt
    rw [if_neg (by omega), Nat.add_sub_cancel, h]; rfl
  rw [List.drop_eq_getElem_cons h1, h2, e]
  exact ⟨rfl, rfl⟩
theorem rkeep_spec {t : Nat} {L : List Mk} {i : Nat} (h : Holds cs H) (ei : cs[i]? = some (rtab t L)) (hl : L.length ≤ 100000000) (wf : ∀ m ∈ L, i64B m.1 ∧ ∀ n ∈ ntI m.2, i64B n) (hb : (encL ((startS none L : Int) :: keepS L none L)).length ≤ 100000000)
    (k : ∀ H', HL.Sub H H' → K (.string (strN (sumN (encL ((startS none L : Int) :: keepS L none L)) ++ encL ((startS none L : Int) :: keepS L none L)))) H') :
    FnH Try.prog 22 #[.pointer (some ⟨t, 0, none⟩)] H K := by
  apply logboomref8_Table_Keep_fn
  unfold logboomref8_Table_Keep_vc
  obtain ⟨s, hh⟩ := h.read i ei rtab_mono
  have hR : Recs eM H s L := Own.recs eMlen (by decide) (hh.own 1 rfl) (by omega)
  have hn := hR.len
  rw [encL_cons, List.length_append] at hb
  refine ⟨fun a many m H1 => HL.Sub H H1 ∧ 0 ≤ m ∧ m ≤ s.n ∧ 0 ≤ many ∧ many ≤ m ∧ ∃ A, nb a = encL A ∧ A ++ keepS L (prevAt L m.toNat) (L.drop m.toNat) = keepS L none L ∧ many + startS (prevAt L m.toNat) (L.drop m.toNat) = startS none L, fun _ _ m _ => (s.n - m).toNat, ⟨HL.Sub.refl _, Int.le_refl _, by omega, Int.le_refl _, Int.le_refl _, [], rfl, rfl, by show (0 : Int) + _ = _; rw [Int.zero_add]; rfl⟩, ?_⟩
  rintro a many m H1 ⟨sub, m0, m1, y0, y1, A, hA, hK, hS⟩
  have hh1 := Holds.up sub hh
  have hAl : (encL A).length ≤ 100000000 := by
    have : (encL A).length ≤ (encL (keepS L none L)).length := by rw [← hK, encL_app, List.length_append]; omega
    omega
  refine ⟨s, hh1.cell 0 rfl rfl, br_intro (fun q => ?_) (fun q => ?_)⟩
  · have q := of_decide_eq_true q
    obtain ⟨q1, o1, x, e1, e2, e3⟩ := (Recs.mono _ _ sub hR).at_ eMlen (by decide) m0 q
    obtain ⟨d1, d2⟩ := prev_drop e2
    rw [d1] at hK
    rw [d2] at hS
    have hx := wf x (List.mem_of_getElem? e2)
    have em : (m + 1).toNat = m.toNat + 1 := by omega
    rw [wrap64_id (n := m + 1) (by omega) (by omega), wrap64_id (n := many + 1) (by omega) (by omega)]
    have has : a.size = (encL A).length := by rw [← nb_len, hA]
    have hsz : ∀ n : Int, (strN (encN n)).size ≤ 10 := fun n => by rw [← nb_len, nb_str (encN_bytes n)]; exact encN_len n
    have hof : (ofP L x.1).length ≤ L.length := List.length_filter_le _ _
    refine ⟨s, hh1.cell 0 rfl rfl, q1, o1, e1, m0, q, x.1, e3 0 _ rfl, x.2.1, e3 1 _ rfl, x.2.2.1, e3 2 _ rfl, x.2.2.2.1, e3 3 _ rfl, x.2.2.2.2, e3 4 _ rfl, ?_⟩
    refine ⟨fun b H2 => H2 = H1 ∧ b = !decide (prevAt L m.toNat = some x.1), br_intro (fun c => ⟨rfl, rfl, ?_⟩) (fun c => ?_), ?_⟩
    · have c : m = 0 := by simpa using c
      subst c
      have : prevAt L (Int.toNat 0) = none := rfl
      rw [this]; simp
    · have c : ¬ m = 0 := by simpa using c
      obtain ⟨q2, o2, z, f1, f2, f3⟩ := (Recs.mono _ _ sub hR).at_ eMlen (by decide) (j := m - 1) (by omega) (by omega)
      rw [wrap64_id (n := m - 1) (by omega) (by omega)]
      refine ⟨s, hh1.cell 0 rfl rfl, q2, o2, f1, by omega, by omega, z.1, f3 0 _ rfl, rfl, rfl, ?_⟩
      have e : prevAt L m.toNat = some z.1 := by
        unfold prevAt
        have : m.toNat - 1 = (m - 1).toNat := by omega
        rw [if_neg (by omega), this, f2]; rfl
      rw [e]
      by_cases w : z.1 = x.1
      · rw [w]; simp
      · rw [decide_eq_false (by simpa using w)]; simpa using w
    rintro b H2 ⟨rfl, hb2⟩
    refine br_intro (fun c => ?_) (fun c => ?_)
    · rw [c] at hb2
      have c : ¬ prevAt L m.toNat = some x.1 := by simpa using hb2.symm
      rw [if_neg c] at hK hS
      refine rint3_spec hx.1 fun H3 s3 => ⟨_, rfl, s3, ?_, of_spec (Holds.up (sub.trans s3) h) ei hl fun r H4 s4 h4 n4 => ⟨r, rfl, s3.trans s4, ?_⟩⟩
      · have := hsz x.1; omega
      rw [n4]
      refine rint3_spec (n := ((ofP L x.1).length : Int)) ⟨by omega, by omega⟩ fun H5 s5 => ⟨_, rfl, (s3.trans s4).trans s5, ?_, rint3_spec (hx.2 x.2.1 (by simp [ntI])) fun H6 s6 => ⟨_, rfl, s6, ?_, rint3_spec (hx.2 x.2.2.1 (by simp [ntI])) fun H7 s7 => ⟨_, rfl, s6.trans s7, ?_, rint3_spec (hx.2 x.2.2.2.1 (by simp [ntI])) fun H8 s8 => ⟨_, rfl, (s6.trans s7).trans s8, ?_, rint3_spec (hx.2 x.2.2.2.2 (by simp [ntI])) fun H9 s9 => ⟨_, rfl, ((s6.trans s7).trans s8).trans s9, ?_, rfl, ⟨?_, by omega, by omega, by omega, by omega, A ++ ([x.1, ((ofP L x.1).length : Int)] ++ ntI x.2), ?_, ?_, ?_⟩, by dsimp only; omega⟩⟩⟩⟩⟩
      all_goals try simp only [ByteArray.size_append]
      · have := hsz x.1; have := hsz ((ofP L x.1).length : Int); omega
      · have := hsz x.1; have := hsz ((ofP L x.1).length : Int); have := hsz x.2.1; omega
      · have := hsz x.1; have := hsz ((ofP L x.1).length : Int); have := hsz x.2.1; have := hsz x.2.2.1; omega
      · have := hsz x.1; have := hsz ((ofP L x.1).length : Int); have := hsz x.2.1; have := hsz x.2.2.1; have := hsz x.2.2.2.1; omega
      · have := hsz x.1; have := hsz ((ofP L x.1).length : Int); have := hsz x.2.1; have := hsz x.2.2.1; have := hsz x.2.2.2.1; have := hsz x.2.2.2.2; omega
      · exact ((((((sub.trans s3).trans s4).trans s5).trans s6).trans s7).trans s8).trans s9
      · simp only [nb_append, hA, nb_str (encN_bytes _), encL_app]
        simp [encL, ntI]
      · rw [em, ← hK]; simp
      · rw [em, ← hS]; push_cast; omega
    · rw [c] at hb2
      have c : prevAt L m.toNat = some x.1 := by simpa using hb2.symm
      rw [if_pos c] at hK hS
      refine rint3_spec (hx.2 x.2.1 (by simp [ntI])) fun H6 s6 => ⟨_, rfl, s6, ?_, rint3_spec (hx.2 x.2.2.1 (by simp [ntI])) fun H7 s7 => ⟨_, rfl, s6.trans s7, ?_, rint3_spec (hx.2 x.2.2.2.1 (by simp [ntI])) fun H8 s8 => ⟨_, rfl, (s6.trans s7).trans s8, ?_, rint3_spec (hx.2 x.2.2.2.2 (by simp [ntI])) fun H9 s9 => ⟨_, rfl, ((s6.trans s7).trans s8).trans s9, ?_, rfl, ⟨?_, by omega, by omega, by omega, by omega, A ++ ntI x.2, ?_, ?_, ?_⟩, by dsimp only; omega⟩⟩⟩⟩
      all_goals try simp only [ByteArray.size_append]
      · have := hsz x.2.1; omega
      · have := hsz x.2.1; have := hsz x.2.2.1; omega
      · have := hsz x.2.1; have := hsz x.2.2.1; have := hsz x.2.2.2.1; omega
      · have := hsz x.2.1; have := hsz x.2.2.1; have := hsz x.2.2.2.1; have := hsz x.2.2.2.2; omega
      · exact (((sub.trans s6).trans s7).trans s8).trans s9
      · simp only [nb_append, hA, nb_str (encN_bytes _), encL_app]
        simp [encL, ntI]
      · rw [em, ← hK]; simp
      · rw [em, ← hS]; push_cast; omega
  · have q := of_decide_eq_false q
    have e : L.drop m.toNat = [] := List.drop_eq_nil_of_le (by omega)
    rw [e] at hK hS
    have hK : A = keepS L none L := by
      have : keepS L (prevAt L m.toNat) [] = [] := rfl
      rw [this, List.append_nil] at hK; exact hK
    have hS : many = startS none L := by
      have : startS (prevAt L m.toNat) [] = 0 := rfl
      rw [this] at hS; simpa using hS
    subst hK
    rw [hS]
    have has : a.size = (encL (keepS L none L)).length := by rw [← nb_len, hA]
    have hm1 : (strN (encN (startS none L : Int))).size ≤ 10 := by rw [← nb_len, nb_str (encN_bytes _)]; exact encN_len _
    have hab : nb (strN (encN (startS none L : Int)) ++ a) = encL ((startS none L : Int) :: keepS L none L) := by rw [nb_append, nb_str (encN_bytes _), hA, encL_cons]
    refine rint3_spec (n := (startS none L : Int)) ⟨by omega, by omega⟩ fun H3 s3 => ⟨_, rfl, by omega, rcrc_spec (by rw [ByteArray.size_append]; omega) ⟨_, rfl, ?_⟩⟩
    refine four_spec (crcN_lt _ (nb_byte _)) fun H4 s4 => ⟨_, rfl, ?_, ?_⟩
    · have e4 : (strN (fourN (crcN (nb (strN (encN (startS none L : Int)) ++ a))))).size = 4 := by rw [← nb_len, nb_str (fourN_bytes _)]; rfl
      rw [e4, ByteArray.size_append]; omega
    · have e5 : strN (fourN (crcN (nb (strN (encN (startS none L : Int)) ++ a)))) ++ (strN (encN (startS none L : Int)) ++ a) = strN (sumN (encL ((startS none L : Int) :: keepS L none L)) ++ encL ((startS none L : Int) :: keepS L none L)) := by
        refine nb_inj ?_
        rw [nb_append, nb_str (fourN_bytes _), hab, nb_str (fun b hb => (List.mem_append.1 hb).elim (sumN_bytes _ b) (encL_bytes _ b))]; rfl
      rw [e5]
      exact k H4 ((sub.trans s3).trans s4)
end
end Go.Proofs.Ytkabaoigablphaa
