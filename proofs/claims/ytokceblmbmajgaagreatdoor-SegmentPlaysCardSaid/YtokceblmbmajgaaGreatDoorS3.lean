/- Chapter 5: slices.DeleteFunc of ints; a disk of one file. -/
import Derived.Test.YtokceblmbmajgaaGreatDoorS2
import Derived.Test.YtokceblmbmajgaaGreatDoorV3
import Derived.Test.YtokceblmbmajgaaGreatDoorDk
namespace Go.Proofs.YtokceblmbmajgaaGreatDoor
open Go Go.HL
set_option maxHeartbeats 3200000
set_option maxRecDepth 10000

abbrev iv (l : List Int) : List Value := l.map (Value.int .i64)
theorem iv_set (l : List Int) (i : Nat) (v : Int) : (iv l).set i (.int .i64 v) = iv (l.set i v) := by simp [iv, List.map_set]
theorem own_ints {H : Heap} {s : Sl} {l : List Int} (h : Own H 3 1 s (iv l)) (hb : l.length ≤ 1000000) : Ints H s l := Own.ints h (by omega)
theorem okInt : ElemOK Tryz.prog 41 3 1 := ElemOK.of (by kernel_rfl)
theorem u41 : Tryz.prog.underlying 41 = some (.slice 3) := by kernel_rfl
theorem z3 : zeroT Tryz.prog 3 = some (.int .i64 0) := by kernel_rfl
section
variable {cs : List Chunk} {H : Heap} {K : Value → Heap → Prop}
theorem pred_spec {q : Nat} {v m : Int} (hq : H q = some (.cells #[.int .i64 m] 3 (0, 0))) (k : K (.bool (decide (v ≥ m))) H) : FnH Tryz.prog 60 #[.int .i64 v, .pointer (some ⟨q, 0, none⟩)] H K := by
  apply segment_Segment_Cut_2_fn
  exact ⟨m, by rw [cellH_eq hq]; rfl, k⟩
theorem indexf_spec {s : Sl} {l : List Int} {q : Nat} {m : Int} (h : Ints H s l) (hq : H q = some (.cells #[.int .i64 m] 3 (0, 0)))
    (k0 : (∀ x ∈ l, ¬ x ≥ m) → K (.int .i64 (-1)) H) (k1 : ∀ l1 v l2, l = l1 ++ v :: l2 → (∀ x ∈ l1, ¬ x ≥ m) → v ≥ m → K (.int .i64 (l1.length : Nat)) H) :
    FnH Tryz.prog 81 #[.slice s.p s.n s.c, .func (.func 60) #[] #[.pointer (some ⟨q, 0, none⟩)]] H K := by
  apply IndexFunc_Cut_fn
  unfold IndexFunc_Cut_vc
  have hl := h.len
  have hb := h.big
  refine ⟨fun n H1 => H1 = H ∧ 0 ≤ n ∧ n ≤ s.n ∧ ∀ x ∈ l.take n.toNat, ¬ x ≥ m, fun n _ => (s.n - n).toNat, ⟨rfl, Int.le_refl _, by omega, by simp⟩, ?_⟩
  rintro n H1 ⟨rfl, n0, n1, hn⟩
  refine br_intro (fun q => ?_) (fun q => ?_)
  · have q := of_decide_eq_true q
    obtain ⟨b, o, g1, g2, g3, g4⟩ := h.at_ n0 q
    have hnl : n.toNat < l.length := by omega
    have ex := List.take_append_drop n.toNat l
    rw [List.drop_eq_getElem_cons hnl] at ex
    have eg : l.getD n.toNat 0 = l[n.toNat] := by simp [List.getD, hnl]
    refine ⟨b, o, g1, g2, g3, _, g4, pred_spec hq ⟨_, rfl, br_intro (fun q2 => ?_) (fun q2 => ?_)⟩⟩
    · have q2 := of_decide_eq_true q2
      rw [eg] at q2
      have := k1 _ _ _ ex.symm hn q2
      rw [List.length_take, Nat.min_eq_left (by omega), Int.toNat_of_nonneg n0] at this
      exact this
    · have q2 := of_decide_eq_false q2
      rw [wrap64_id (by omega) (by omega)]
      refine ⟨rfl, ⟨rfl, by omega, by omega, ?_⟩, by dsimp only; omega⟩
      rw [take_next (d := 0) n0 (by omega)]
      intro x hx
      rcases List.mem_append.1 hx with w | w
      · exact hn x w
      · rw [List.mem_singleton.1 w]; exact q2
  · have q := of_decide_eq_false q
    rw [take_all (by omega)] at hn
    exact k0 hn
abbrev butI (l : List Int) (m : Int) : List Int := l.filter fun a => !decide (a ≥ m)
theorem butI_all {l : List Int} {m : Int} (h : ∀ x ∈ l, ¬ x ≥ m) : butI l m = l := List.filter_eq_self.2 fun a ha => by rw [decide_eq_false (h a ha)]; rfl
theorem delete_spec {s : Sl} {l : List Int} {q : Nat} {m : Int} (h : HL.Holds (own 3 1 s (iv l) :: blk q (.cells #[.int .i64 m] 3 (0, 0)) :: cs) H) (hb : l.length ≤ 1000000)
    (k : ∀ (r : Sl) H', HL.Holds (own 3 1 r (iv (butI l m)) :: blk q (.cells #[.int .i64 m] 3 (0, 0)) :: cs) H' → K (.slice r.p r.n r.c) H') : FnH Tryz.prog 59 #[.slice s.p s.n s.c, .func (.func 60) #[] #[.pointer (some ⟨q, 0, none⟩)]] H K := by
  apply DeleteFunc_Cut_fn
  unfold DeleteFunc_Cut_vc
  have hi := own_ints (h.own 0 rfl) hb
  have hl := hi.len
  refine indexf_spec hi (h.get 1 rfl) (fun hn => ⟨_, rfl, br_t rfl ?_⟩) fun l1 v l2 el hn1 hv => ⟨_, rfl, br_f (by simp) ?_⟩
  · rw [butI_all hn] at k
    exact k s H h
  · have hlen : l.length = l1.length + 1 + l2.length := by rw [el]; simp; omega
    rw [wrap64_id (n := (l1.length : Int) + 1) (by omega) (by omega)]
    refine ⟨fun i j H2 => ∃ cur : List Int, cur.length = l.length ∧ 0 ≤ i ∧ i < j ∧ j ≤ l.length ∧ cur.take i.toNat = butI (l.take j.toNat) m ∧ cur.drop j.toNat = l.drop j.toNat ∧ HL.Holds (own 3 1 s (iv cur) :: blk q (.cells #[.int .i64 m] 3 (0, 0)) :: cs) H2,
      fun _ j _ => (l.length - j).toNat, ⟨l, rfl, by omega, by omega, by omega, ?_, rfl, h⟩, ?_⟩
    · have e1 : ((l1.length : Int) + 1).toNat = l1.length + 1 := by omega
      have e2 : ((l1.length : Int)).toNat = l1.length := by omega
      rw [e1, e2, el]
      have e3 : (l1 ++ v :: l2).take l1.length = l1 := by simp
      have e4 : (l1 ++ v :: l2).take (l1.length + 1) = l1 ++ [v] := by rw [List.take_append, List.take_of_length_le (by omega)]; simp
      have e5 : l1.filter (fun a => !decide (a ≥ m)) = l1 := butI_all hn1
      rw [e3, e4, butI, List.filter_append, e5]
      simp [hv]
    rintro i j H2 ⟨cur, hc, i0, ij, jl, ht, hd, h2⟩
    have hi2 := own_ints (h2.own 0 rfl) (by omega)
    refine br_intro (fun q2 => ?_) (fun q2 => ?_)
    · have q2 := of_decide_eq_true q2
      obtain ⟨b, o, g1, g2, g3, g4⟩ := hi2.at_ (j := j) (by omega) q2
      have hjl : j.toNat < l.length := by omega
      have hjc : j.toNat < cur.length := by omega
      have ecl : cur.getD j.toNat 0 = l[j.toNat] := by
        have e1 : cur[j.toNat]? = l[j.toNat]? := by
          have := congrArg (fun x => x[0]?) hd
          simpa [List.getElem?_drop] using this
        rw [List.getD_eq_getElem?_getD, e1, List.getElem?_eq_getElem hjl]; rfl
      have etj : l.take (j + 1).toNat = l.take j.toNat ++ [l[j.toNat]] := by
        have e : (j + 1).toNat = j.toNat + 1 := by omega
        rw [e, List.take_succ_eq_append_getElem hjl]
      refine ⟨b, o, g1, g2, g3, _, g4, pred_spec (h2.get 1 rfl) ⟨_, rfl, ?_⟩⟩
      rw [ecl]
      have edrop : ∀ c2 : List Int, c2.drop j.toNat = cur.drop j.toNat → c2.drop (j + 1).toNat = l.drop (j + 1).toNat := fun c2 e => by
        have e1 : (j + 1).toNat = j.toNat + 1 := by omega
        rw [e1, ← List.drop_drop, ← List.drop_drop, e, hd]
      rw [wrap64_id (n := i + 1) (by omega) (by omega), wrap64_id (n := j + 1) (by omega) (by omega)]
      refine br_intro (fun q3 => ?_) (fun q3 => ?_)
      · have q3 : (!decide (l[j.toNat] ≥ m)) = true := q3
        obtain ⟨q4, o4, f1, f2, f3, f4, f5, f6⟩ := h2.setAt (i := i) i0 (by omega) (v := .int .i64 l[j.toNat]) (f := fun H4 => SelfEq ([.v (.slice s.p s.n s.c), .v (.func (.func 60) #[] #[.pointer (some ⟨q, 0, none⟩)])], [], []) ∧
          (∃ cur : List Int, cur.length = l.length ∧ 0 ≤ i + 1 ∧ i + 1 < j + 1 ∧ j + 1 ≤ l.length ∧ cur.take (i + 1).toNat = butI (l.take (j + 1).toNat) m ∧
            cur.drop (j + 1).toNat = l.drop (j + 1).toNat ∧ HL.Holds (own 3 1 s (iv cur) :: blk q (.cells #[.int .i64 m] 3 (0, 0)) :: cs) H4) ∧ (l.length - (j + 1)).toNat < (l.length - j).toNat) fun H4 h4 => by
            rw [iv_set] at h4
            refine ⟨rfl, ⟨cur.set i.toNat l[j.toNat], by simpa using hc, by omega, by omega, by omega, ?_, ?_, h4⟩, by omega⟩
            · have e1 : (i + 1).toNat = i.toNat + 1 := by omega
              have hil : i.toNat < (cur.set i.toNat l[j.toNat]).length := by simp; omega
              rw [e1, List.take_succ_eq_append_getElem hil, etj, butI, List.filter_append, List.filter_cons_of_pos (by exact q3)]
              rw [List.take_set_of_le (Nat.le_refl _), ht]
              simp
            · exact edrop _ (by rw [List.drop_set_of_lt (by omega)])
        exact ⟨q4, o4, f1, f2, f3, f4, f5, f6⟩
      · have q3 : (!decide (l[j.toNat] ≥ m)) = false := q3
        refine ⟨rfl, ⟨cur, hc, i0, by omega, by omega, ?_, edrop cur rfl, h2⟩, by dsimp only; omega⟩
        rw [etj, butI, List.filter_append, List.filter_cons_of_neg (by rw [q3]; simp), List.filter_nil, List.append_nil]; exact ht
    · have q2 := of_decide_eq_false q2
      have ej : j = l.length := by omega
      subst ej
      have hcap := hi2.cap
      refine ⟨i0, by omega, h2.clear (sz := 1) u41 z3 rfl (noTups_zeros (by simp [Value.cells, isTup])) i0 (by omega) fun ws H5 hw h5 => ⟨rfl, i0, by omega, ?_⟩⟩
      refine k (s.upto i 1) H5 (h5.head fun A hA => ?_)
      have := hA.shorten (i := i) i0 (by omega)
      have e1 : ((iv cur).take (i.toNat * 1) ++ ws).take (i.toNat * 1) = iv (butI l m) := by
        rw [Nat.mul_one, List.take_append_of_le_length (by simp; omega), List.take_take, Nat.min_self, ← List.map_take, ht]
        have : l.take ((l.length : Int)).toNat = l := List.take_of_length_le (by omega)
        rw [this]
      rw [e1] at this
      exact this
end
/-! ### a disk of one file -/
abbrev nS : ByteArray := ⟨#[115]⟩
def F1 (b : ByteArray) (z : Int) : Fs := [(nS, (b, z))]
theorem look1 (b : ByteArray) (z : Int) : lookL (F1 b z) nS = some (b, z) := lookL_cons_eq
theorem get1 (b : ByteArray) (z : Int) : getF (F1 b z) nS = (b, z) := by unfold getF; rw [look1]; rfl
theorem named1 : namedB nS = true := by decide +kernel
theorem room1 (b : ByteArray) (z : Int) : roomC (F1 b z) nS = 0 := by
  unfold roomC
  rw [if_neg (by rw [named1]; simp), if_neg (by rintro ⟨e, -⟩; rw [look1] at e; cases e)]
theorem use1 (b : ByteArray) (z : Int) : useF (F1 b z) = b.size := by unfold F1; rw [useF_cons]; show (b.size : Int) + useF [] = b.size; have : useF ([] : Fs) = 0 := rfl; omega
theorem ins1 (b : ByteArray) (z : Int) (x : Fi) : insL ltB (F1 b z) nS x = F1 x.1 x.2 := by unfold F1; rw [insL]; exact if_pos rfl
theorem app1_ok {size : Int} {b s : ByteArray} {z : Int} (h : (b.size : Int) + s.size ≤ size) : appC size (F1 b z) nS s = 0 ∧ appM size (F1 b z) nS s = F1 (b ++ s) z := by
  have hf : fitN size (F1 b z) s = s.size := by
    unfold fitN
    rw [use1]
    split <;> omega
  have hs : s.extract 0 ((s.size : Int)).toNat = s := by rw [Int.toNat_natCast]; exact ByteArray.extract_zero_size
  refine ⟨?_, ?_⟩
  · unfold appC
    rw [room1, if_neg (by simp), hf, if_neg (by omega)]
  · unfold appM appF
    rw [room1, if_neg (by simp), ins1, hf, hs, get1]
theorem app1_full {size : Int} {b s : ByteArray} {z : Int} (h : (b.size : Int) + s.size > size) : appC size (F1 b z) nS s = 7 ∧ ∃ t, appM size (F1 b z) nS s = F1 (b ++ t) z := by
  have hf : fitN size (F1 b z) s = size - b.size := by
    unfold fitN
    rw [use1]
    split <;> omega
  refine ⟨?_, s.extract 0 (size - b.size).toNat, ?_⟩
  · unfold appC
    rw [room1, if_neg (by simp), hf, if_pos (by omega)]
  · unfold appM appF
    rw [room1, if_neg (by simp), ins1, hf, get1]
theorem app1_nil {size : Int} (h : 0 ≤ size) : appC size [] nS ⟨#[]⟩ = 0 ∧ appM size [] nS ⟨#[]⟩ = F1 ⟨#[]⟩ 0 := by
  have hf : fitN size [] ⟨#[]⟩ = 0 := by
    unfold fitN
    have : useF ([] : Fs) = 0 := rfl
    rw [this]
    show (if size - 0 < ((0 : Nat) : Int) then size - 0 else ((0 : Nat) : Int)) = 0
    rw [if_neg (by omega)]; rfl
  have hr : roomC [] nS = 0 := by unfold roomC; rw [if_neg (by rw [named1]; simp), if_neg (by rintro ⟨-, z⟩; exact absurd z (by decide))]
  refine ⟨?_, ?_⟩
  · unfold appC
    rw [hr, if_neg (by simp), hf]
    rfl
  · unfold appM appF
    rw [hr, if_neg (by simp), hf]
    rfl
theorem cut1 {b : ByteArray} {z m : Int} (h0 : 0 ≤ m) (h1 : m ≤ b.size) : cutM (F1 b z) nS m = F1 (b.extract 0 m.toNat) (if m < z then m else z) := by
  have e : cutC (F1 b z) nS m = 0 := by
    unfold cutC
    rw [look1, get1, if_neg (by simp), if_neg (by dsimp only; omega)]
  unfold cutM
  rw [e, if_neg (by simp), get1, ins1]
theorem syn1 (b : ByteArray) (z : Int) : synM (F1 b z) nS = F1 b b.size := by
  unfold synM
  rw [look1, if_neg (by simp), get1, ins1]
theorem crash1 (L : List Int) {b : ByteArray} {z : Int} (h0 : 0 ≤ z) (h1 : z ≤ b.size) (hL : ∀ n ∈ L, -9223372036854775808 ≤ n ∧ n ≤ 9223372036854775807) : ∃ n : Nat, z ≤ n ∧ n ≤ b.size ∧ crashF L (F1 b z) = F1 (b.extract 0 n) n := by
  have hc := crashF_cons L (nS, (b, z)) []
  have h00 : crashF L ([] : Fs) = [] := rfl
  have h000 : crashF (L.drop 1) ([] : Fs) = [] := rfl
  rw [h00, h000] at hc
  by_cases e : (b.size : Int) - z = 0
  · rw [if_pos e] at hc
    refine ⟨b.size, by omega, Nat.le_refl _, ?_⟩
    show crashF L (F1 b z) = _
    unfold F1
    rw [hc, ByteArray.extract_zero_size]
    have : z = (b.size : Int) := by omega
    rw [this]
  · rw [if_neg e] at hc
    have hh : -9223372036854775808 ≤ L.headD 0 ∧ L.headD 0 ≤ 9223372036854775807 := by
      cases L with
      | nil => exact ⟨by decide, by decide⟩
      | cons a L => exact hL a (by simp)
    obtain ⟨p0, p1⟩ := pickI_in (c := L.headD 0) (n := (b.size : Int) - z + 1) (by omega) hh.1 hh.2
    dsimp only at hc
    refine ⟨(z + pickI (L.headD 0) ((b.size : Int) - z + 1)).toNat, by omega, by omega, ?_⟩
    show crashF L (F1 b z) = _
    unfold F1
    rw [hc]
    have : ((z + pickI (L.headD 0) ((b.size : Int) - z + 1)).toNat : Int) = z + pickI (L.headD 0) ((b.size : Int) - z + 1) := by omega
    rw [this]
end Go.Proofs.YtokceblmbmajgaaGreatDoor
