/- Chapter 7: the plain law: what is written is read; what every call keeps. -/
import Derived.Test.YtdgmifbcbmndgaaGreatDoorE5
namespace Go.Proofs.YtdgmifbcbmndgaaGreatDoor
open Go Go.HL
set_option maxHeartbeats 1600000
set_option maxRecDepth 10000

theorem rest_enc {n : Int} (hn : i64B n) (r : List Nat) : rest (encN n ++ r) = r ∧ (readN (encN n ++ r)).1 = n ∧ (readN (encN n ++ r)).2.2 = 0 := by
  have h := read_enc hn.1 hn.2 r
  unfold rest
  rw [h]
  simp
theorem ents_flat : ∀ (L : List En) (t i : Int) (r : List Nat), SrtE L → (∀ e ∈ L, (mayP e.1 ∧ mayP e.2.1 ∧ e.2.2 = ⟨#[]⟩) ∧ t < e.1 ∧ i < e.2.1) → entsR L.length t i (L.flatMap eN ++ r) = some (L, r) := by
  intro L
  induction L with
  | nil => intro t i r _ _; rfl
  | cons e L ih =>
    intro t i r hs h
    obtain ⟨h1, h2⟩ := List.pairwise_cons.1 hs
    obtain ⟨⟨m1, m2, m3⟩, lt1, lt2⟩ := h e (by simp)
    have hb1 : i64B e.1 := ⟨by omega, by omega⟩
    have hb2 : i64B e.2.1 := ⟨by omega, by omega⟩
    have ef : (e :: L).flatMap eN ++ r = encN e.1 ++ (encN e.2.1 ++ (L.flatMap eN ++ r)) := by simp
    obtain ⟨a1, a2, a3⟩ := rest_enc hb1 (encN e.2.1 ++ (L.flatMap eN ++ r))
    obtain ⟨b1, b2, b3⟩ := rest_enc hb2 (L.flatMap eN ++ r)
    have hP : entP t i (encN e.1 ++ (encN e.2.1 ++ (L.flatMap eN ++ r))) := by
      unfold entP
      rw [a1, a2, a3, b2, b3]
      exact ⟨rfl, rfl, m1, m2, lt1, lt2⟩
    rw [ef, List.length_cons, entsR_succ, if_pos hP, a1, a2, b1, b2, ih e.1 e.2.1 r h2 fun x hx => ⟨(h x (List.mem_cons_of_mem _ hx)).1, h1 x hx⟩]
    obtain ⟨x, y, z⟩ := e
    simp only at m3
    rw [m3]; rfl
theorem readE_body {L : List En} (h : EOk L) : readE (bodyE L) = some L := by
  have hlen := h.len
  obtain ⟨a1, a2, a3⟩ := rest_enc (n := ((L.length : Nat) : Int)) ⟨by omega, by omega⟩ (L.flatMap eN)
  unfold readE bodyE
  rw [a1, a2, a3, if_pos ⟨rfl, by omega, by omega⟩, Int.toNat_natCast]
  have := ents_flat L (-1) (-1) [] h.srt fun e he => by
    obtain ⟨m1, m2, m3⟩ := h.may e he
    exact ⟨⟨m1, m2, m3⟩, by omega, by omega⟩
  rw [List.append_nil] at this
  rw [this]; rfl
theorem sumd_bytes {l : List Nat} (h : ∀ b ∈ l, b < 256) : ∀ b ∈ sumd l, b < 256 := fun b hb => by
  rcases List.mem_append.1 hb with w | w
  · exact fourN_bytes _ b w
  · exact h b w
theorem file_parts {l : List Nat} (h : ∀ b ∈ l, b < 256) : (strN (sumd l)).size = 4 + l.length ∧ nb ((strN (sumd l)).extract 4 (strN (sumd l)).size) = l ∧ nb ((strN (sumd l)).extract 0 4) = fourN (crcN l) := by
  have h1 : nb (strN (sumd l)) = sumd l := nb_str (sumd_bytes h)
  have h2 : (strN (sumd l)).size = 4 + l.length := by
    rw [← nb_len, h1]
    simp [sumd, fourN]; omega
  refine ⟨h2, ?_, ?_⟩
  · rw [nb_extract, h1, List.take_of_length_le (by rw [h2]; simp [sumd, fourN]; omega)]
    rfl
  · rw [nb_extract, h1]
    simp [sumd, fourN]
theorem readC_sumd {l : List Nat} (h : ∀ b ∈ l, b < 256) : readC (strN (sumd l)) = (if (readE l).isSome then 0 else 4) ∧ readL (strN (sumd l)) = (readE l).getD [] := by
  obtain ⟨h1, h2, h3⟩ := file_parts h
  unfold readC readL
  rw [h2, if_neg (by omega), if_neg]
  · exact ⟨rfl, rfl⟩
  · intro z
    refine z (nb_inj ?_)
    rw [h3, nb_str (fourN_bytes _)]
theorem read_file {L : List En} (h : EOk L) : readC (fileE L) = 0 ∧ readL (fileE L) = L := by
  obtain ⟨h1, h2⟩ := readC_sumd (bodyE_bytes L)
  rw [readE_body h] at h1 h2
  exact ⟨h1, h2⟩
theorem file_size (L : List En) : (fileE L).size ≤ 14 + L.length * 20 := by
  obtain ⟨h1, -⟩ := file_parts (bodyE_bytes L)
  have := bodyE_len L
  unfold fileE
  omega
/-! ### a disk with one file -/
abbrev nmE : ByteArray := ⟨#[101, 112, 111, 99, 104, 115]⟩
def oneF (n b : ByteArray) : Fs := [(n, (b, (b.size : Int)))]
theorem nmE_ok : namedB nmE = true := by decide +kernel
/-- What lies on the disk is what the cache holds. -/
def StE (F : Fs) (L : List En) : Prop := (F = [] ∧ L = []) ∨ F = oneF nmE (fileE L)
theorem ins_nil (n : ByteArray) (f : Fi) : insL ltB [] n f = [(n, f)] := rfl
theorem ins_one (n b : ByteArray) (f : Fi) : insL ltB (oneF n b) n f = [(n, f)] := by unfold oneF insL; rw [if_pos rfl]
theorem look_one (n b : ByteArray) : lookL (oneF n b) n = some (b, (b.size : Int)) := lookL_cons_eq
theorem get_one (n b : ByteArray) : getF (oneF n b) n = (b, (b.size : Int)) := by unfold getF; rw [look_one]; rfl
theorem use_one (n b : ByteArray) : useF (oneF n b) = b.size := by
  unfold oneF
  rw [useF_cons]
  have : useF [] = 0 := rfl
  rw [this]; simp
theorem rep_nil (size : Int) (b : ByteArray) : repC size [] nmE b = (if (b.size : Int) > size then 7 else 0) ∧ (repC size [] nmE b = 0 → repM size [] nmE b = oneF nmE b) ∧ (repC size [] nmE b ≠ 0 → repM size [] nmE b = []) := by
  have hr : roomC [] nmE = 0 := by
    unfold roomC
    rw [if_neg (by rw [nmE_ok]; simp), if_neg (by rintro ⟨-, h⟩; simp at h)]
  have hu : useF [] = 0 := rfl
  have hg : (getF [] nmE).1.size = 0 := rfl
  have hc : repC size [] nmE b = (if (b.size : Int) > size then 7 else 0) := by
    unfold repC
    rw [hr, if_neg (fun z => z rfl), hu, hg]
    simp
  refine ⟨hc, fun h => ?_, fun h => ?_⟩
  · unfold repM; rw [if_neg (fun z => z h)]; rfl
  · unfold repM; rw [if_pos h]
theorem rep_one (size : Int) (a b : ByteArray) : repC size (oneF nmE a) nmE b = (if (b.size : Int) > size then 7 else 0) ∧ (repC size (oneF nmE a) nmE b = 0 → repM size (oneF nmE a) nmE b = oneF nmE b) ∧ (repC size (oneF nmE a) nmE b ≠ 0 → repM size (oneF nmE a) nmE b = oneF nmE a) := by
  have hr : roomC (oneF nmE a) nmE = 0 := by
    unfold roomC
    rw [if_neg (by rw [nmE_ok]; simp), if_neg (by rintro ⟨h, -⟩; rw [look_one] at h; cases h)]
  have hc : repC size (oneF nmE a) nmE b = (if (b.size : Int) > size then 7 else 0) := by
    unfold repC
    rw [hr, if_neg (fun z => z rfl), use_one, get_one]
    have : size - (a.size : Int) + (a.size : Int) = size := by omega
    rw [this]
  refine ⟨hc, fun h => ?_, fun h => ?_⟩
  · unfold repM; rw [if_neg (fun z => z h)]; exact ins_one _ _ _
  · unfold repM; rw [if_pos h]
theorem rep_st {size : Int} {F : Fs} {L : List En} (h : StE F L) (b : ByteArray) : repC size F nmE b = (if (b.size : Int) > size then 7 else 0) ∧ (repC size F nmE b = 0 → repM size F nmE b = oneF nmE b) ∧ (repC size F nmE b ≠ 0 → repM size F nmE b = F) := by
  rcases h with ⟨rfl, -⟩ | rfl
  · exact rep_nil size b
  · exact rep_one size _ b
theorem wr_st {size : Int} {F : Fs} {L l : List En} (h : StE F L) : StE (wr size F nmE L l).2.1 (wr size F nmE L l).2.2 ∧ ((wr size F nmE L l).1 = 0 → (wr size F nmE L l).2.2 = l) ∧ ((wr size F nmE L l).1 ≠ 0 → (wr size F nmE L l).2.2 = L) ∧ (((fileE l).size : Int) ≤ size → (wr size F nmE L l).1 = 0) ∧ ((wr size F nmE L l).2.2 = l ∨ (wr size F nmE L l).2.2 = L) := by
  obtain ⟨h1, h2, h3⟩ := rep_st (size := size) h (fileE l)
  unfold wr wrC wrF wrL
  dsimp only
  by_cases q : l = L
  · rw [if_pos q, if_pos q, if_pos q]
    exact ⟨h, fun _ => q.symm, fun z => absurd rfl z, fun _ => rfl, .inr rfl⟩
  · rw [if_neg q, if_neg q, if_neg q]
    by_cases z : repC size F nmE (fileE l) = 0
    · rw [if_pos z, h2 z]
      exact ⟨.inr rfl, fun _ => rfl, fun w => absurd z w, fun _ => z, .inl rfl⟩
    · rw [if_neg z, h3 z]
      refine ⟨h, fun w => absurd w z, fun _ => rfl, fun w => ?_, .inr rfl⟩
      rw [h1, if_neg (by omega)]
theorem open_st {F : Fs} {L : List En} (h : StE F L) (hL : EOk L) : openC F nmE = 0 ∧ openL F nmE = L := by
  unfold openC openL
  rcases h with ⟨rfl, rfl⟩ | rfl
  · exact ⟨rfl, rfl⟩
  · rw [look_one, get_one, if_neg (by simp), if_neg (by simp)]
    exact read_file hL
theorem crash_st {F : Fs} {L : List En} (h : StE F L) (K : List Int) : crashF K F = F := by
  rcases h with ⟨rfl, rfl⟩ | rfl
  · rfl
  · unfold oneF
    rw [crashF_cons]
    dsimp only
    rw [if_pos (by omega)]; rfl
theorem EOk.nil : EOk [] := ⟨List.Pairwise.nil, by simp, fun e h => by cases h⟩
theorem EOk.ahead {L : List En} (h : EOk L) (off : Int) : EOk (aheadL L off) :=
  ⟨h.srt.sublist List.filter_sublist, Nat.le_trans (List.length_filter_le _ _) h.len, fun e he => h.may e (List.mem_filter.1 he).1⟩
theorem EOk.add {L : List En} (h : EOk L) {ep off : Int} (h1 : mayP ep) (h2 : mayP off) (h3 : ∀ x, L.getLast? = some x → x.1 < ep) (h4 : (aheadL L off).length ≠ 200) : EOk (aheadL L off ++ [(ep, off, ⟨#[]⟩)]) := by
  have ha := h.ahead off
  have hal := ha.len
  refine ⟨List.pairwise_append.2 ⟨ha.srt, List.pairwise_singleton .., fun a ha2 b hb => ?_⟩, by simp; omega, fun e he => ?_⟩
  · simp only [List.mem_singleton] at hb
    subst hb
    obtain ⟨m1, m2⟩ := List.mem_filter.1 ha2
    refine ⟨?_, of_decide_eq_true m2⟩
    show a.1 < ep
    rcases List.eq_nil_or_concat L with e | ⟨D, x, e⟩
    · rw [e] at m1; cases m1
    · have e : L = D ++ [x] := by simpa using e
      have hx : L.getLast? = some x := by rw [e]; simp
      have := h3 x hx
      rw [e] at m1
      rcases List.mem_append.1 m1 with w | w
      · have hs := h.srt
        rw [e] at hs
        have := (List.pairwise_append.1 hs).2.2 a w x (by simp)
        omega
      · simp only [List.mem_singleton] at w; rw [w]; exact this
  · rcases List.mem_append.1 he with w | w
    · exact ha.may e w
    · simp only [List.mem_singleton] at w
      subst w; exact ⟨h1, h2, rfl⟩
theorem del_split {L : List En} (h : EOk L) {off : Int} : delE L off = [] ∨ ∃ x t, L.drop ((aheadL L (off + 1)).length - 1) = x :: t ∧ delE L off = (x.1, (if off > x.2.1 then off else x.2.1), x.2.2) :: t ∧ ∀ y ∈ t, off < y.2.1 := by
  unfold delE
  cases e : L.drop ((aheadL L (off + 1)).length - 1) with
  | nil => exact .inl rfl
  | cons x t =>
    refine .inr ⟨x, t, rfl, rfl, fun y hy => ?_⟩
    obtain ⟨-, f2⟩ := h.srt.ahead (off + 1)
    have : y ∈ L.drop (aheadL L (off + 1)).length := by
      rcases Nat.eq_zero_or_pos (aheadL L (off + 1)).length with z | z
      · rw [z] at e ⊢
        simp only [Nat.zero_sub, List.drop_zero] at e ⊢
        rw [e]; exact List.mem_cons_of_mem _ hy
      · have e2 : L.drop (aheadL L (off + 1)).length = (L.drop ((aheadL L (off + 1)).length - 1)).drop 1 := by rw [List.drop_drop]; congr 1; omega
        rw [e2, e]; exact hy
    have := f2 y this
    omega
theorem EOk.del {L : List En} (h : EOk L) {off : Int} (ho : mayP off) : EOk (delE L off) := by
  rcases del_split h (off := off) with e | ⟨x, t, e, e2, e3⟩
  · rw [e]; exact EOk.nil
  · rw [e2]
    have hsub : (x :: t).Sublist L := by rw [← e]; exact List.drop_sublist _ _
    have hs := h.srt.sublist hsub
    obtain ⟨h1, h2⟩ := List.pairwise_cons.1 hs
    have hlen := hsub.length_le
    have hl := h.len
    refine ⟨List.pairwise_cons.2 ⟨fun y hy => ⟨(h1 y hy).1, ?_⟩, h2⟩, by simpa using Nat.le_trans hlen hl, fun y hy => ?_⟩
    · show (if off > x.2.1 then off else x.2.1) < y.2.1
      have := e3 y hy
      have := (h1 y hy).2
      split <;> omega
    · rcases List.mem_cons.1 hy with w | w
      · obtain ⟨m1, m2, m3⟩ := h.may x (hsub.subset (by simp))
        subst w
        refine ⟨m1, ?_, m3⟩
        show mayP (if off > x.2.1 then off else x.2.1)
        split
        · exact ho
        · exact m2
      · exact h.may y (hsub.subset (List.mem_cons_of_mem _ w))
/-- A call: what it answers, the disk and the entries behind it. -/
structure CallOk (F : Fs) (L : List En) (r : Int × Fs × List En) : Prop where
  st : StE r.2.1 r.2.2
  ok : EOk r.2.2
  bad : r.1 ≠ 0 → r.2.2 = L
theorem CallOk.same {F : Fs} {L : List En} (h : StE F L) (hL : EOk L) (c : Int) : CallOk F L (c, F, L) := ⟨h, hL, fun _ => rfl⟩
theorem CallOk.wr {F : Fs} {L l : List En} {size : Int} (h : StE F L) (hL : EOk L) (hl : EOk l) : CallOk F L (wr size F nmE L l) := by
  obtain ⟨h1, h2, h3, h4, h5⟩ := wr_st (size := size) (l := l) h
  refine ⟨h1, ?_, h3⟩
  rcases h5 with e | e
  · rw [e]; exact hl
  · rw [e]; exact hL
theorem CallOk.go {F : Fs} {L : List En} {size ep off : Int} (h : StE F L) (hL : EOk L) (h1 : mayP ep) (h2 : mayP off) (h3 : ∀ x, L.getLast? = some x → x.1 < ep) : CallOk F L (goB size F nmE L ep off) := by
  unfold goB
  split
  · exact CallOk.same h hL 3
  · rename_i h4
    exact CallOk.wr h hL (hL.add h1 h2 h3 h4)
theorem CallOk.begin {F : Fs} {L : List En} (size ep off : Int) (h : StE F L) (hL : EOk L) : CallOk F L (beginR size F nmE L ep off) := by
  unfold beginR
  split
  · exact CallOk.same h hL 1
  · rename_i h0
    have h0 : mayP ep ∧ mayP off := Decidable.byContradiction h0
    split
    · rename_i e
      exact CallOk.go h hL h0.1 h0.2 fun x hx => by rw [e] at hx; cases hx
    · rename_i x e
      split
      · exact CallOk.same h hL 0
      · split
        · exact CallOk.same h hL 13
        · rename_i h1 h2
          exact CallOk.go h hL h0.1 h0.2 fun y hy => by rw [e] at hy; simp only [Option.some.injEq] at hy; rw [← hy]; omega
theorem CallOk.cut {F : Fs} {L : List En} (size off : Int) (h : StE F L) (hL : EOk L) : CallOk F L (cutR size F nmE L off) := by
  unfold cutR
  split
  · exact CallOk.same h hL 1
  · exact CallOk.wr h hL (hL.ahead off)
theorem CallOk.delete {F : Fs} {L : List En} (size off : Int) (h : StE F L) (hL : EOk L) : CallOk F L (deleteR size F nmE L off) := by
  unfold deleteR
  split
  · exact CallOk.same h hL 1
  · rename_i h0
    exact CallOk.wr h hL (hL.del (Decidable.byContradiction h0))
end Go.Proofs.YtdgmifbcbmndgaaGreatDoor
