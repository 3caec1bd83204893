import Derived.Test.YtmofinghoacobaaGreatDoorV3
import Derived.Test.YtmofinghoacobaaGreatDoorHlUse
import Derived.Test.YtmofinghoacobaaGreatDoorHlAssoc
import Derived.Test.YtmofinghoacobaaGreatDoorHlLaw
import Derived.Test.YtmofinghoacobaaGreatDoorHlAppend
import Derived.Test.YtmofinghoacobaaGreatDoorHlBytes
import Derived.Test.YtmofinghoacobaaGreatDoorHlWire
namespace Go.Proofs.YtmofinghoacobaaGreatDoor
open Go Go.HL
set_option maxRecDepth 100000
theorem ok22 : ElemOK Tryz.prog 22 3 1 := ElemOK.of (by kernel_rfl)
theorem small {l : List Int} {H : Heap} {s : Sl} (h : Ints H s l) (hb : l.length ≤ 1000000) : s.n ≤ 1000000 := by rw [h.len]; exact hb
theorem index_spec {H : Heap} {s : Sl} {l : List Int} {x : Int} {K : Value → Heap → Prop} (h : Ints H s l) (k : ∀ n : Int, (0 ≤ n ↔ x ∈ l) → K (.int .i64 n) H) :
    FnH Tryz.prog 116 #[.slice s.p s.n s.c, .int .i64 x] H K := by
  apply slices_Index_Lint_int_fn
  unfold slices_Index_Lint_int_vc
  have hl := h.len
  have hbig := h.big
  refine ⟨fun n H1 => H1 = H ∧ 0 ≤ n ∧ n ≤ s.n ∧ x ∉ l.take n.toNat, fun n _ => (s.n - n).toNat, ⟨rfl, by omega, by omega, by simp⟩, ?_⟩
  rintro n H1 ⟨rfl, h0, h1, hx⟩
  refine br_intro (fun hlt => ?_) (fun hge => ?_)
  · have hlt := of_decide_eq_true hlt
    obtain ⟨b, o, g1, g2, g3, g4⟩ := h.at_ h0 hlt
    refine ⟨b, o, g1, g2, g3, _, g4, br_intro (fun he => ?_) (fun hne => ?_)⟩
    · have he : x = l.getD n.toNat 0 := by simpa using he
      refine k _ ⟨fun _ => ?_, fun _ => h0⟩
      rw [he]; exact getD_mem h0 (by omega)
    · have hne : ¬ x = l.getD n.toNat 0 := by simpa using hne
      rw [wrap64_id (by omega) (by omega)]
      refine ⟨rfl, ⟨rfl, by omega, by omega, ?_⟩, by dsimp only; omega⟩
      rw [take_next (d := 0) h0 (by omega)]
      simp only [List.mem_append, List.mem_singleton]
      rintro (q | q)
      · exact hx q
      · exact hne q
  · have hge : ¬ n < s.n := by simpa using hge
    refine k _ ⟨fun q => absurd q (by decide), fun q => ?_⟩
    rw [take_all (by omega)] at hx
    exact absurd q hx
theorem index_list_spec {H : Heap} {s : Sl} {l : List Int} {x : Int} {K : Value → Heap → Prop} (h : Ints H s l) (k : ∀ n : Int, (0 ≤ n ↔ x ∈ l) → K (.int .i64 n) H) :
    FnH Tryz.prog 175 #[.slice s.p s.n s.c, .int .i64 x] H K := by
  apply slices_Index_reassign_list_int_fn
  unfold slices_Index_reassign_list_int_vc
  have hl := h.len
  have hbig := h.big
  refine ⟨fun n H1 => H1 = H ∧ 0 ≤ n ∧ n ≤ s.n ∧ x ∉ l.take n.toNat, fun n _ => (s.n - n).toNat, ⟨rfl, by omega, by omega, by simp⟩, ?_⟩
  rintro n H1 ⟨rfl, h0, h1, hx⟩
  refine br_intro (fun hlt => ?_) (fun hge => ?_)
  · have hlt := of_decide_eq_true hlt
    obtain ⟨b, o, g1, g2, g3, g4⟩ := h.at_ h0 hlt
    refine ⟨b, o, g1, g2, g3, _, g4, br_intro (fun he => ?_) (fun hne => ?_)⟩
    · have he : x = l.getD n.toNat 0 := by simpa using he
      refine k _ ⟨fun _ => ?_, fun _ => h0⟩
      rw [he]; exact getD_mem h0 (by omega)
    · have hne : ¬ x = l.getD n.toNat 0 := by simpa using hne
      rw [wrap64_id (by omega) (by omega)]
      refine ⟨rfl, ⟨rfl, by omega, by omega, ?_⟩, by dsimp only; omega⟩
      rw [take_next (d := 0) h0 (by omega)]
      simp only [List.mem_append, List.mem_singleton]
      rintro (q | q)
      · exact hx q
      · exact hne q
  · have hge : ¬ n < s.n := by simpa using hge
    refine k _ ⟨fun q => absurd q (by decide), fun q => ?_⟩
    rw [take_all (by omega)] at hx
    exact absurd q hx
theorem contains_spec {H : Heap} {s : Sl} {l : List Int} {x : Int} {K : Value → Heap → Prop} (h : Ints H s l) (k : K (.bool (decide (x ∈ l))) H) :
    FnH Tryz.prog 76 #[.slice s.p s.n s.c, .int .i64 x] H K := by
  apply slices_Contains_Lint_int_fn
  refine index_spec h fun n hn => ⟨n, rfl, ?_⟩
  have : decide (n ≥ 0) = decide (x ∈ l) := decide_eq_decide.2 hn
  rw [this]; exact k
theorem contains_list_spec {H : Heap} {s : Sl} {l : List Int} {x : Int} {K : Value → Heap → Prop} (h : Ints H s l) (k : K (.bool (decide (x ∈ l))) H) :
    FnH Tryz.prog 160 #[.slice s.p s.n s.c, .int .i64 x] H K := by
  apply slices_Contains_reassign_list_int_fn
  refine index_list_spec h fun n hn => ⟨n, rfl, ?_⟩
  have : decide (n ≥ 0) = decide (x ∈ l) := decide_eq_decide.2 hn
  rw [this]; exact k
theorem has_spec {H : Heap} {s : Sl} {l : List Int} {x : Int} {K : Value → Heap → Prop} (h : Ints H s l) (k : K (.bool (decide (x ∈ l))) H) :
    FnH Tryz.prog 132 #[.slice s.p s.n s.c, .int .i64 x] H K := by
  apply reassign_list_has_fn
  exact contains_list_spec h ⟨_, rfl, k⟩
theorem lacks_spec {H : Heap} {s : Sl} {l : List Int} {x : Int} {K : Value → Heap → Prop} (h : Ints H s l) (k : K (.bool (!decide (x ∈ l))) H) :
    FnH Tryz.prog 151 #[.slice s.p s.n s.c, .int .i64 x] H K := by
  apply reassign_list_lacks_fn
  exact has_spec h ⟨_, rfl, k⟩
def withL (l m : List Int) : List Int := l.filter fun x => decide (x ∈ m)
def withoutL (l m : List Int) : List Int := l.filter fun x => !decide (x ∈ m)
theorem of_not_decide {p : Prop} [Decidable p] (h : (!decide p) = true) : ¬ p := by simpa using h
theorem of_not_decide2 {p : Prop} [Decidable p] (h : (!decide p) = false) : ¬ ¬ p := by simpa using h
theorem those_has_spec {H : Heap} {s t : Sl} {l m : List Int} {K : Value → Heap → Prop} (hl : Ints H s l) (hm : Ints H t m) (hb : s.n ≤ 1000000)
    (k : ∀ r H', Sub H H' → Ints H' r (withL l m) → K (.slice r.p r.n r.c) H') : FnH Tryz.prog 131 #[.slice s.p s.n s.c, .func (.func 132) #[] #[], .slice t.p t.n t.c] H K := by
  apply those_has_fn
  unfold those_has_vc
  have hn := hl.len
  have hbig := hl.big
  refine ⟨fun out n H1 => Sub H H1 ∧ Fresh H out ∧ 0 ≤ n ∧ n ≤ s.n ∧ Own H1 3 1 out ((withL (l.take n.toNat) m).map (Value.int .i64)), fun _ n _ => (s.n - n).toNat,
    ⟨Sub.refl _, Fresh.nil _ _ _, by omega, by omega, Own.nil _ _ _⟩, ?_⟩
  rintro out n H1 ⟨hs, hf, h0, h1, ho⟩
  refine br_intro (fun hlt => ?_) (fun hge => ?_)
  · have hlt := of_decide_eq_true hlt
    obtain ⟨b, o, g1, g2, g3, g4⟩ := (hl.sub hs).at_ h0 hlt
    refine ⟨b, o, g1, g2, g3, _, g4, ?_⟩
    have hlen := ho.1
    simp only [List.length_map, Nat.mul_one] at hlen
    have hle : (withL (l.take n.toNat) m).length ≤ n.toNat := Nat.le_trans (List.length_filter_le _ _) (List.length_take_le _ _)
    have htn : withL (l.take (n + 1).toNat) m = withL (l.take n.toNat) m ++ (if l.getD n.toNat 0 ∈ m then [l.getD n.toNat 0] else []) := by
      rw [take_next (d := 0) h0 (by omega)]
      unfold withL
      rw [List.filter_append]
      congr 1
      simp [List.filter_cons]
    refine has_spec (hm.sub hs) ⟨_, rfl, br_intro (fun he => ?_) (fun he => ?_)⟩
    · have he := of_decide_eq_true he
      intro q hq
      refine letH_intro fun H2 e2 => ?_
      rw [wrap64_id (by omega) (by omega)]
      have hs1 : Sub H1 H2 := by rw [e2]; exact Sub.new hq _
      have ho2 : Own H2 3 1 out ((withL (l.take n.toNat) m).map (Value.int .i64)) := by
        refine ⟨ho.1, ho.2.1, ?_⟩
        rcases ho.2.2 with ho | ⟨b, arr, q1, q2, q3⟩
        · exact .inl ho
        · exact .inr ⟨b, arr, q1, hs1 _ _ q2, q3⟩
      refine append_own ok22 ok22.under ho2 hf (hs.trans hs1) (xs := [.int .i64 (l.getD n.toNat 0)]) ?_ rfl rfl (by omega) ?_
      · rw [e2]; exact CellsAt.block (Heap.upd_same _ _ _) (fun i hi => by simp at hi; subst hi; rfl)
      · intro r H3 go gf gs gn
        refine ⟨r, rfl, rfl, ⟨gs, gf, by omega, by omega, ?_⟩, by dsimp only; omega⟩
        rw [htn, if_pos he]
        simpa using go
    · have he := of_decide_eq_false he
      rw [wrap64_id (by omega) (by omega)]
      refine ⟨rfl, ⟨hs, hf, by omega, by omega, ?_⟩, by dsimp only; omega⟩
      rw [htn, if_neg he]
      simpa using ho
  · have hge : ¬ n < s.n := by simpa using hge
    rw [take_all (by omega)] at ho
    exact k out H1 hs (ho.ints (Nat.le_trans (List.length_filter_le _ _) (by omega)))
theorem those_lacks_spec {H : Heap} {s t : Sl} {l m : List Int} {K : Value → Heap → Prop} (hl : Ints H s l) (hm : Ints H t m) (hb : s.n ≤ 1000000)
    (k : ∀ r H', Sub H H' → Ints H' r (withoutL l m) → K (.slice r.p r.n r.c) H') : FnH Tryz.prog 131 #[.slice s.p s.n s.c, .func (.func 151) #[] #[], .slice t.p t.n t.c] H K := by
  apply those_lacks_fn
  unfold those_lacks_vc
  have hn := hl.len
  have hbig := hl.big
  refine ⟨fun out n H1 => Sub H H1 ∧ Fresh H out ∧ 0 ≤ n ∧ n ≤ s.n ∧ Own H1 3 1 out ((withoutL (l.take n.toNat) m).map (Value.int .i64)), fun _ n _ => (s.n - n).toNat,
    ⟨Sub.refl _, Fresh.nil _ _ _, by omega, by omega, Own.nil _ _ _⟩, ?_⟩
  rintro out n H1 ⟨hs, hf, h0, h1, ho⟩
  refine br_intro (fun hlt => ?_) (fun hge => ?_)
  · have hlt := of_decide_eq_true hlt
    obtain ⟨b, o, g1, g2, g3, g4⟩ := (hl.sub hs).at_ h0 hlt
    refine ⟨b, o, g1, g2, g3, _, g4, ?_⟩
    have hlen := ho.1
    simp only [List.length_map, Nat.mul_one] at hlen
    have hle : (withoutL (l.take n.toNat) m).length ≤ n.toNat := Nat.le_trans (List.length_filter_le _ _) (List.length_take_le _ _)
    have htn : withoutL (l.take (n + 1).toNat) m = withoutL (l.take n.toNat) m ++ (if ¬ l.getD n.toNat 0 ∈ m then [l.getD n.toNat 0] else []) := by
      rw [take_next (d := 0) h0 (by omega)]
      unfold withoutL
      rw [List.filter_append]
      congr 1
      simp [List.filter_cons]
    refine lacks_spec (hm.sub hs) ⟨_, rfl, br_intro (fun he => ?_) (fun he => ?_)⟩
    · have he := of_not_decide he
      intro q hq
      refine letH_intro fun H2 e2 => ?_
      rw [wrap64_id (by omega) (by omega)]
      have hs1 : Sub H1 H2 := by rw [e2]; exact Sub.new hq _
      have ho2 : Own H2 3 1 out ((withoutL (l.take n.toNat) m).map (Value.int .i64)) := by
        refine ⟨ho.1, ho.2.1, ?_⟩
        rcases ho.2.2 with ho | ⟨b, arr, q1, q2, q3⟩
        · exact .inl ho
        · exact .inr ⟨b, arr, q1, hs1 _ _ q2, q3⟩
      refine append_own ok22 ok22.under ho2 hf (hs.trans hs1) (xs := [.int .i64 (l.getD n.toNat 0)]) ?_ rfl rfl (by omega) ?_
      · rw [e2]; exact CellsAt.block (Heap.upd_same _ _ _) (fun i hi => by simp at hi; subst hi; rfl)
      · intro r H3 go gf gs gn
        refine ⟨r, rfl, rfl, ⟨gs, gf, by omega, by omega, ?_⟩, by dsimp only; omega⟩
        rw [htn, if_pos he]
        simpa using go
    · have he : ¬ ¬ _ := of_not_decide2 he
      rw [wrap64_id (by omega) (by omega)]
      refine ⟨rfl, ⟨hs, hf, by omega, by omega, ?_⟩, by dsimp only; omega⟩
      rw [htn, if_neg he]
      simpa using ho
  · have hge : ¬ n < s.n := by simpa using hge
    rw [take_all (by omega)] at ho
    exact k out H1 hs (ho.ints (Nat.le_trans (List.length_filter_le _ _) (by omega)))
theorem with_spec {H : Heap} {s t : Sl} {l m : List Int} {K : Value → Heap → Prop} (hl : Ints H s l) (hm : Ints H t m) (hb : s.n ≤ 1000000)
    (k : ∀ r H', Sub H H' → Ints H' r (withL l m) → K (.slice r.p r.n r.c) H') : FnH Tryz.prog 88 #[.slice s.p s.n s.c, .slice t.p t.n t.c] H K := by
  apply reassign_with_fn
  exact those_has_spec hl hm hb fun r H' hs hr => ⟨r, rfl, k r H' hs hr⟩
theorem without_spec {H : Heap} {s t : Sl} {l m : List Int} {K : Value → Heap → Prop} (hl : Ints H s l) (hm : Ints H t m) (hb : s.n ≤ 1000000)
    (k : ∀ r H', Sub H H' → Ints H' r (withoutL l m) → K (.slice r.p r.n r.c) H') : FnH Tryz.prog 112 #[.slice s.p s.n s.c, .slice t.p t.n t.c] H K := by
  apply reassign_without_fn
  exact those_lacks_spec hl hm hb fun r H' hs hr => ⟨r, rfl, k r H' hs hr⟩
def withinL (l m : List Int) : Bool := (withoutL l m).isEmpty
theorem within_spec {H : Heap} {s t : Sl} {l m : List Int} {K : Value → Heap → Prop} (hl : Ints H s l) (hm : Ints H t m) (hb : s.n ≤ 1000000)
    (k : ∀ H', Sub H H' → K (.bool (withinL l m)) H') : FnH Tryz.prog 87 #[.slice s.p s.n s.c, .slice t.p t.n t.c] H K := by
  apply reassign_within_fn
  refine without_spec hl hm hb fun r H' hs hr => ⟨r, rfl, ?_⟩
  have : (((r.n : Nat) : Int) == 0) = withinL l m := by
    unfold withinL
    rw [hr.len]
    cases withoutL l m with
    | nil => rfl
    | cons a t => simp; omega
  rw [this]; exact k H' hs
def idsL : List Int → Bool := fun l => decide (l.Nodup ∧ ∀ x ∈ l, 1 ≤ x ∧ x ≤ 7)
theorem nodup_take_next {l : List Int} {n : Int} (h0 : 0 ≤ n) (h1 : n < l.length) (h : (l.take n.toNat).Nodup) (hx : l.getD n.toNat 0 ∉ l.take n.toNat) : (l.take (n + 1).toNat).Nodup := by
  rw [take_next (d := 0) h0 h1, List.nodup_append]
  exact ⟨h, by simp, fun a ha b hb e => by
    have hb : b = l.getD n.toNat 0 := by simpa using hb
    rw [e, hb] at ha; exact hx ha⟩
theorem ids_spec {H : Heap} {s : Sl} {l : List Int} {K : Value → Heap → Prop} (h : Ints H s l) (k : K (.bool (idsL l)) H) :
    FnH Tryz.prog 86 #[.slice s.p s.n s.c] H K := by
  apply reassign_ids_fn
  unfold reassign_ids_vc
  have hl := h.len
  have hbig := h.big
  have hcap := h.cap
  refine ⟨fun n H1 => H1 = H ∧ 0 ≤ n ∧ n ≤ s.n ∧ (l.take n.toNat).Nodup ∧ ∀ x ∈ l.take n.toNat, 1 ≤ x ∧ x ≤ 7, fun n _ => (s.n - n).toNat, ⟨rfl, by omega, by omega, by simp, by simp⟩, ?_⟩
  rintro n H1 ⟨rfl, h0, h1, hnd, hall⟩
  refine br_intro (fun hlt => ?_) (fun hge => ?_)
  · have hlt := of_decide_eq_true hlt
    obtain ⟨b, o, g1, g2, g3, g4⟩ := h.at_ h0 hlt
    have hmem := getD_mem (l := l) h0 (by omega)
    have no : ¬ (l.Nodup ∧ ∀ x ∈ l, 1 ≤ x ∧ x ≤ 7) → K (.bool false) H1 := fun q => by
      have : idsL l = false := decide_eq_false q
      rw [this] at k; exact k
    refine ⟨b, o, g1, g2, g3, _, g4, br_intro (fun he => ?_) (fun he => br_intro (fun he2 => ?_) (fun he2 => ?_))⟩
    · have he := of_decide_eq_true he
      exact no fun q => by have := q.2 _ hmem; omega
    · have he2 := of_decide_eq_true he2
      exact no fun q => by have := q.2 _ hmem; omega
    · have he := of_decide_eq_false he
      have he2 := of_decide_eq_false he2
      refine ⟨h0, by omega, contains_spec (s := s.upto n 1) (h.upto h0 h1) ⟨_, rfl, br_intro (fun he3 => ?_) (fun he3 => ?_)⟩⟩
      · have he3 := of_decide_eq_true he3
        refine no fun q => ?_
        have h5 := q.1
        have e : l = l.take n.toNat ++ l.drop n.toNat := (List.take_append_drop _ _).symm
        rw [e, List.nodup_append] at h5
        refine h5.2.2 _ he3 (l.getD n.toNat 0) ?_ rfl
        have hl2 : n.toNat < l.length := by omega
        have e6 : l.getD n.toNat 0 = l[n.toNat] := by simp [List.getD, hl2]
        rw [List.drop_eq_getElem_cons hl2, e6]
        exact List.mem_cons_self
      · have he3 := of_decide_eq_false he3
        rw [wrap64_id (by omega) (by omega)]
        refine ⟨rfl, ⟨rfl, by omega, by omega, nodup_take_next h0 (by omega) hnd he3, ?_⟩, by dsimp only; omega⟩
        rw [take_next (d := 0) h0 (by omega)]
        intro x hx
        rcases List.mem_append.1 hx with hx | hx
        · exact hall x hx
        · simp only [List.mem_singleton] at hx; omega
  · have hge : ¬ n < s.n := by simpa using hge
    rw [take_all (by omega)] at hnd hall
    have : idsL l = true := decide_eq_true ⟨hnd, hall⟩
    rw [this] at k; exact k
theorem equal_spec {H : Heap} {s t : Sl} {l m : List Int} {K : Value → Heap → Prop} (hl : Ints H s l) (hm : Ints H t m) (k : K (.bool (decide (l = m))) H) :
    FnH Tryz.prog 114 #[.slice s.p s.n s.c, .slice t.p t.n t.c] H K := by
  apply slices_Equal_Lint_int_fn
  unfold slices_Equal_Lint_int_vc
  have h1 := hl.len
  have h2 := hm.len
  have hbig := hl.big
  have no : ¬ l = m → K (.bool false) H := fun q => by rw [decide_eq_false q] at k; exact k
  refine br_intro (fun hne => ?_) (fun heq => ?_)
  · have hne : ¬ (s.n : Int) = t.n := by simpa using hne
    exact no fun q => hne (by rw [h1, h2, q])
  · have heq : (s.n : Int) = t.n := by simpa using heq
    refine ⟨fun n H1 => H1 = H ∧ 0 ≤ n ∧ n ≤ s.n ∧ l.take n.toNat = m.take n.toNat, fun n _ => (s.n - n).toNat, ⟨rfl, by omega, by omega, by simp⟩, ?_⟩
    rintro n H1 ⟨rfl, h3, h4, h5⟩
    refine br_intro (fun hlt => ?_) (fun hge => ?_)
    · have hlt := of_decide_eq_true hlt
      obtain ⟨b, o, g1, g2, g3, g4⟩ := hl.at_ h3 hlt
      obtain ⟨b', o', f1, f2, f3, f4⟩ := hm.at_ h3 (by omega)
      refine ⟨b, o, g1, g2, g3, _, g4, b', o', f1, f2, f3, _, f4, br_intro (fun he => ?_) (fun he => ?_)⟩
      · have he : ¬ l.getD n.toNat 0 = m.getD n.toNat 0 := by simpa using he
        exact no fun q => he (by rw [q])
      · have he : l.getD n.toNat 0 = m.getD n.toNat 0 := by simpa using he
        rw [wrap64_id (by omega) (by omega)]
        refine ⟨rfl, ⟨rfl, by omega, by omega, ?_⟩, by dsimp only; omega⟩
        rw [take_next (d := 0) h3 (by omega), take_next (d := 0) h3 (by omega), h5, he]
    · have hge : ¬ n < s.n := by simpa using hge
      rw [take_all (by omega), take_all (by omega)] at h5
      rw [decide_eq_true h5] at k; exact k
theorem clone_spec {H : Heap} {s : Sl} {l : List Int} {K : Value → Heap → Prop} (hl : Ints H s l) (hb : s.n ≤ 1000000)
    (k : ∀ r H', Sub H H' → Ints H' r l → K (.slice r.p r.n r.c) H') : FnH Tryz.prog 66 #[.slice s.p s.n s.c] H K := by
  apply slices_Clone_Lint_int_fn
  unfold slices_Clone_Lint_int_vc
  refine br_intro (fun hn => ?_) (fun hn => ?_)
  · have hp : s.p = none := by simpa using hn
    rw [hl.pnone hp] at k
    exact k ⟨none, 0, 0⟩ H (Sub.refl _) (Ints.nil _)
  · intro q hq
    refine letH_intro fun H1 e1 => ?_
    have hs1 : Sub H H1 := by rw [e1]; exact Sub.new hq _
    have ho : Own H1 3 1 ⟨some ⟨q, 0, none⟩, 0, 0⟩ [] := ⟨rfl, Nat.le_refl _, .inr ⟨q, #[], rfl, by rw [e1]; exact Heap.upd_same _ _ _, rfl, fun i h => by simp at h⟩⟩
    refine append_own (s := ⟨some ⟨q, 0, none⟩, 0, 0⟩) ok22 ok22.under ho (H0 := H) (fun b o sp h => by simp at h; rw [← h.1]; exact hq) hs1 (hl.cells.sub hs1) (by simp [hl.len]) (noTups_ints _ _) (by show 0 + s.n ≤ _; omega) ?_
    intro r H2 go gf gs gn
    exact ⟨r, rfl, k r H2 gs (Own.ints (by simpa using go) (by have := hl.len; omega))⟩
theorem number_spec {n m : Int} {H : Heap} {K : Value → Heap → Prop} (k : K (.bool (decide (1 ≤ n ∧ n ≤ m))) H) : FnH Tryz.prog 85 #[.int .i64 n, .int .i64 m] H K := by
  apply reassign_Right_1_fn
  refine br_intro (fun h => ?_) (fun h => ?_)
  · have h := of_decide_eq_true h
    have e : decide (n ≤ m) = decide (1 ≤ n ∧ n ≤ m) := decide_eq_decide.2 ⟨fun q => ⟨h, q⟩, fun q => q.2⟩
    rw [e]; exact k
  · have h := of_decide_eq_false h
    rw [decide_eq_false (fun q => h q.1)] at k; exact k
theorem broker_spec {n : Int} {H : Heap} {K : Value → Heap → Prop} (k : K (.bool (decide (1 ≤ n ∧ n ≤ 7))) H) : FnH Tryz.prog 108 #[.int .i64 n] H K := by
  apply reassign_broker_fn
  refine br_intro (fun h => ?_) (fun h => ?_)
  · have h := of_decide_eq_true h
    have e : decide (n ≤ 7) = decide (1 ≤ n ∧ n ≤ 7) := decide_eq_decide.2 ⟨fun q => ⟨h, q⟩, fun q => q.2⟩
    rw [e]; exact k
  · have h := of_decide_eq_false h
    rw [decide_eq_false (fun q => h q.1)] at k; exact k
end Go.Proofs.YtmofinghoacobaaGreatDoor
namespace Go.Proofs.YtmofinghoacobaaGreatDoor
open Go Go.HL
set_option maxRecDepth 100000
theorem length_le_of_nodup {l : List Int} : ∀ (m : List Int), l.Nodup → (∀ x ∈ l, x ∈ m) → l.length ≤ m.length := by
  intro m
  induction m generalizing l with
  | nil =>
    intro _ h
    cases l with
    | nil => simp
    | cons x l => exact absurd (h x (by simp)) (by simp)
  | cons a m ih =>
    intro hn h
    have h1 : (l.erase a).length ≤ m.length := ih (hn.erase a) fun x hx => by
      have hx' := (hn.mem_erase_iff.1 hx)
      have := h x hx'.2
      rcases List.mem_cons.1 this with q | q
      · exact absurd q hx'.1
      · exact q
    by_cases ha : a ∈ l
    · rw [List.length_erase_of_mem ha] at h1; simp; omega
    · rw [List.erase_of_not_mem ha] at h1; simp; omega
theorem ids_nodup {l : List Int} (h : idsL l = true) : l.Nodup := (of_decide_eq_true h).1
theorem ids_mem {l : List Int} (h : idsL l = true) {x : Int} (hx : x ∈ l) : 1 ≤ x ∧ x ≤ 7 := (of_decide_eq_true h).2 x hx
theorem ids_len {l : List Int} (h : idsL l = true) : l.length ≤ 7 :=
  length_le_of_nodup [1, 2, 3, 4, 5, 6, 7] (ids_nodup h) fun x hx => by have := ids_mem h hx; simp; omega
structure Part where
  id : Int
  leader : Int
  epoch : Int
  version : Int
  isr : List Int
  replicas : List Int
  adding : List Int
  removing : List Int
  min : Int
structure PV where
  id : Int
  leader : Int
  epoch : Int
  version : Int
  isr : Sl
  replicas : Sl
  adding : Sl
  removing : Sl
  min : Int
abbrev PV.val (v : PV) : Value := .agg #[.int .i64 v.id, .int .i64 v.leader, .int .i64 v.epoch, .int .i64 v.version, .slice v.isr.p v.isr.n v.isr.c, .slice v.replicas.p v.replicas.n v.replicas.c, .slice v.adding.p v.adding.n v.adding.c, .slice v.removing.p v.removing.n v.removing.c, .int .i64 v.min]
structure PIn (H : Heap) (v : PV) (p : Part) : Prop where
  id : v.id = p.id
  leader : v.leader = p.leader
  epoch : v.epoch = p.epoch
  version : v.version = p.version
  min : v.min = p.min
  isr : Ints H v.isr p.isr
  replicas : Ints H v.replicas p.replicas
  adding : Ints H v.adding p.adding
  removing : Ints H v.removing p.removing
theorem PIn.sub {H H' : Heap} (hs : HL.Sub H H') {v : PV} {p : Part} (h : PIn H v p) : PIn H' v p :=
  ⟨h.id, h.leader, h.epoch, h.version, h.min, h.isr.sub hs, h.replicas.sub hs, h.adding.sub hs, h.removing.sub hs⟩
def rightB (p : Part) : Bool :=
  decide (1 ≤ p.id ∧ p.id ≤ 16) && decide (1 ≤ p.min ∧ p.min ≤ 5) && decide (1 ≤ p.epoch ∧ p.epoch ≤ 1000000000) && decide (1 ≤ p.version ∧ p.version ≤ 1000000000) &&
  idsL p.replicas && idsL p.isr && idsL p.adding && idsL p.removing && decide (0 < p.isr.length) && withinL p.isr p.replicas && withinL p.adding p.replicas && withinL p.removing p.replicas &&
  decide ((withL p.adding p.removing).length = 0) && decide (p.removing.length < p.replicas.length) && (decide (p.leader = 0) || decide (p.leader ∈ p.isr))
theorem right_spec {H : Heap} {v : PV} {p : Part} {K : Value → Heap → Prop} (h : PIn H v p) (k : ∀ H', HL.Sub H H' → K (.bool (rightB p)) H') : FnH Tryz.prog 51 #[v.val] H K := by
  apply reassign_Right_fn
  have no : ∀ H', HL.Sub H H' → rightB p = false → K (.bool false) H' := fun H' hs e => e ▸ k H' hs
  obtain ⟨e1, e2, e3, e4, e5, hi, hr, ha, hm⟩ := h
  rw [e1, e2, e3, e4, e5]
  refine number_spec ⟨_, rfl, br_intro (fun h1 => ?_) (fun h1 => no _ (Sub.refl _) (by simp only [rightB, h1, Bool.false_and]))⟩
  refine number_spec ⟨_, rfl, br_intro (fun h2 => ?_) (fun h2 => no _ (Sub.refl _) (by simp only [rightB, h2, Bool.and_false, Bool.false_and]))⟩
  refine number_spec ⟨_, rfl, br_intro (fun h3 => ?_) (fun h3 => no _ (Sub.refl _) (by simp only [rightB, h3, Bool.and_false, Bool.false_and]))⟩
  refine number_spec ⟨_, rfl, br_intro (fun h4 => ?_) (fun h4 => no _ (Sub.refl _) (by simp only [rightB, h4, Bool.and_false, Bool.false_and]))⟩
  refine ids_spec hr ⟨_, rfl, br_intro (fun h5 => ?_) (fun h5 => no _ (Sub.refl _) (by simp only [rightB, h5, Bool.and_false, Bool.false_and]))⟩
  refine ids_spec hi ⟨_, rfl, br_intro (fun h6 => ?_) (fun h6 => no _ (Sub.refl _) (by simp only [rightB, h6, Bool.and_false, Bool.false_and]))⟩
  refine ids_spec ha ⟨_, rfl, br_intro (fun h7 => ?_) (fun h7 => no _ (Sub.refl _) (by simp only [rightB, h7, Bool.and_false, Bool.false_and]))⟩
  refine ids_spec hm ⟨_, rfl, br_intro (fun h8 => ?_) (fun h8 => no _ (Sub.refl _) (by simp only [rightB, h8, Bool.and_false, Bool.false_and]))⟩
  have l5 := ids_len h5; have l6 := ids_len h6; have l7 := ids_len h7; have l8 := ids_len h8
  have n5 := hr.len; have n6 := hi.len; have n7 := ha.len; have n8 := hm.len
  have hh9 : ∀ b, decide ((v.isr.n : Int) > 0) = b → decide (0 < p.isr.length) = b := fun b hb => by
    rw [← hb]; exact decide_eq_decide.2 (by omega)
  refine br_intro (fun h9 => ?_) (fun h9 => no _ (Sub.refl _) (by simp only [rightB, hh9 _ h9, Bool.and_false, Bool.false_and]))
  have h9 := hh9 _ h9
  refine within_spec hi hr (by omega) fun H1 s1 => ⟨_, rfl, br_intro (fun h10 => ?_) (fun h10 => no _ s1 (by simp only [rightB, h10, Bool.and_false, Bool.false_and]))⟩
  refine within_spec (ha.sub s1) (hr.sub s1) (by omega) fun H2 s2 => ⟨_, rfl, br_intro (fun h11 => ?_) (fun h11 => no _ (s1.trans s2) (by simp only [rightB, h11, Bool.and_false, Bool.false_and]))⟩
  have s2 := s1.trans s2
  refine within_spec (hm.sub s2) (hr.sub s2) (by omega) fun H3 s3 => ⟨_, rfl, br_intro (fun h12 => ?_) (fun h12 => no _ (s2.trans s3) (by simp only [rightB, h12, Bool.and_false, Bool.false_and]))⟩
  have s3 := s2.trans s3
  refine with_spec (ha.sub s3) (hm.sub s3) (by omega) fun r H4 s4 hr4 => ⟨r, rfl, ?_⟩
  have s4 := s3.trans s4
  have n9 := hr4.len
  have hh13 : ∀ b, ((r.n : Int) == 0) = b → decide ((withL p.adding p.removing).length = 0) = b := fun b hb => by
    rw [← hb, ← n9, Bool.eq_iff_iff]; simp
  refine br_intro (fun h13 => ?_) (fun h13 => no _ s4 (by simp only [rightB, hh13 _ h13, Bool.and_false, Bool.false_and]))
  have h13 := hh13 _ h13
  have hh14 : ∀ b, decide ((v.removing.n : Int) < v.replicas.n) = b → decide (p.removing.length < p.replicas.length) = b := fun b hb => by
    rw [← hb]; exact decide_eq_decide.2 (by omega)
  refine br_intro (fun h14 => ?_) (fun h14 => no _ s4 (by simp only [rightB, hh14 _ h14, Bool.and_false, Bool.false_and]))
  have h14 := hh14 _ h14
  have fin : ∀ b : Bool, (decide (p.leader = 0) || decide (p.leader ∈ p.isr)) = b → rightB p = b := fun b hb => by
    simp only [rightB, h1, h2, h3, h4, h5, h6, h7, h8, h9, h10, h11, h12, h13, h14, Bool.and_self, Bool.true_and, hb]
  have k4 := k H4 s4
  refine br_intro (fun h15 => ?_) (fun h15 => ?_)
  · have h15 : p.leader = 0 := by simpa using h15
    rw [fin true (by simp [h15])] at k4
    exact k4
  · have h15 : ¬ p.leader = 0 := by simpa using h15
    refine contains_spec (hi.sub s4) ⟨_, rfl, ?_⟩
    rw [fin (decide (p.leader ∈ p.isr)) (by rw [decide_eq_false h15, Bool.false_or])] at k4
    exact k4
end Go.Proofs.YtmofinghoacobaaGreatDoor
namespace Go.Proofs.YtmofinghoacobaaGreatDoor
open Go Go.HL
set_option maxRecDepth 100000
theorem eqb {a b : Int} : ((a : Int) == b) = decide (a = b) := by rw [Bool.eq_iff_iff]; simp
def sameB (p q : Part) : Bool := decide (p.id = q.id) && decide (p.leader = q.leader) && decide (p.epoch = q.epoch) && decide (p.version = q.version) && decide (p.min = q.min) && decide (p.isr = q.isr) && decide (p.replicas = q.replicas) && decide (p.adding = q.adding) && decide (p.removing = q.removing)
def openB (p : Part) : Bool := decide (0 < p.adding.length + p.removing.length)
theorem open_spec {H : Heap} {v : PV} {p : Part} {K : Value → Heap → Prop} (h : PIn H v p) (hb : p.adding.length ≤ 7 ∧ p.removing.length ≤ 7) (k : K (.bool (openB p)) H) : FnH Tryz.prog 113 #[v.val] H K := by
  apply reassign_open_fn
  unfold reassign_open_vc
  have n1 := h.adding.len
  have n2 := h.removing.len
  rw [wrap64_id (by omega) (by omega)]
  have : decide (((v.adding.n : Int) + v.removing.n) > 0) = openB p := decide_eq_decide.2 (by omega)
  rw [this]; exact k
def zeroPart : Part := ⟨0, 0, 0, 0, [], [], [], [], 0⟩
def changedP (p : Part) : Part × Int := if p.version + 1 > 1000000000 ∨ p.epoch > 1000000000 then (zeroPart, 20) else ({ p with version := p.version + 1 }, 0)
theorem zero_in (H : Heap) : PIn H ⟨0, 0, 0, 0, ⟨none, 0, 0⟩, ⟨none, 0, 0⟩, ⟨none, 0, 0⟩, ⟨none, 0, 0⟩, 0⟩ zeroPart := ⟨rfl, rfl, rfl, rfl, rfl, Ints.nil _, Ints.nil _, Ints.nil _, Ints.nil _⟩
theorem changed_spec {H : Heap} {v : PV} {p : Part} {K : Value → Heap → Prop} (h : PIn H v p) (hb : 0 ≤ p.version ∧ p.version ≤ 1000000000) (k : ∀ u, PIn H u (changedP p).1 → K (.tuple #[u.val, .int .i64 (changedP p).2]) H) : FnH Tryz.prog 110 #[v.val] H K := by
  apply reassign_changed_fn
  unfold reassign_changed_vc
  obtain ⟨e1, e2, e3, e4, e5, hi, hr, ha, hm⟩ := h
  rw [e4, wrap64_id (by omega) (by omega)]
  refine br_intro (fun h1 => ?_) (fun h1 => ?_)
  · have h1 := of_decide_eq_true h1
    have hc : p.version + 1 > 1000000000 ∨ p.epoch > 1000000000 := by
      rw [e3] at h1; split at h1 <;> omega
    have := k ⟨0, 0, 0, 0, ⟨none, 0, 0⟩, ⟨none, 0, 0⟩, ⟨none, 0, 0⟩, ⟨none, 0, 0⟩, 0⟩ (by rw [changedP, if_pos hc]; exact zero_in H)
    rw [changedP, if_pos hc] at this
    exact this
  · have h1 := of_decide_eq_false h1
    have hc : ¬ (p.version + 1 > 1000000000 ∨ p.epoch > 1000000000) := by
      rw [e3] at h1; split at h1 <;> omega
    have := k ⟨v.id, v.leader, v.epoch, p.version + 1, v.isr, v.replicas, v.adding, v.removing, v.min⟩ (by rw [changedP, if_neg hc]; exact ⟨e1, e2, e3, rfl, e5, hi, hr, ha, hm⟩)
    rw [changedP, if_neg hc] at this
    exact this
abbrev PV.cells (v : PV) : Array Value := #[.int .i64 v.id, .int .i64 v.leader, .int .i64 v.epoch, .int .i64 v.version, .slice v.isr.p v.isr.n v.isr.c, .slice v.replicas.p v.replicas.n v.replicas.c, .slice v.adding.p v.adding.n v.adding.c, .slice v.removing.p v.removing.n v.removing.c, .int .i64 v.min]
def ledV (v : PV) (n : Int) : PV := if v.leader = n then v else { v with leader := n, epoch := v.epoch + 1 }
def ledP (p : Part) (n : Int) : Part := if p.leader = n then p else { p with leader := n, epoch := p.epoch + 1 }
theorem led_in {H : Heap} {v : PV} {p : Part} (h : PIn H v p) (n : Int) : PIn H (ledV v n) (ledP p n) := by
  obtain ⟨e1, e2, e3, e4, e5, hi, hr, ha, hm⟩ := h
  unfold ledV ledP
  rw [e2]
  split
  · exact ⟨e1, e2, e3, e4, e5, hi, hr, ha, hm⟩
  · exact ⟨e1, rfl, by simp [e3], e4, e5, hi, hr, ha, hm⟩
theorem led_spec {H : Heap} {q T : Nat} {v : PV} {n : Int} {K : Value → Heap → Prop} (hb : 0 ≤ v.epoch ∧ v.epoch ≤ 1000000000) (k : K (.tuple #[]) (H.upd q (.cells (ledV v n).cells T (0, 0)))) :
    FnH Tryz.prog 109 #[.pointer (some ⟨q, 0, none⟩), .int .i64 n] (H.upd q (.cells v.cells T (0, 0))) K := by
  apply reassign_led_fn
  unfold reassign_led_vc
  have hc := fun o => cellH_eq (o := o) (Heap.upd_same H q (.cells v.cells T (0, 0)))
  refine ⟨v.leader, by rw [hc]; rfl, br_intro (fun h1 => ?_) (fun h1 => ?_)⟩
  · have h1 : ¬ v.leader = n := by simpa using h1
    unfold ledV at k
    rw [if_neg h1] at k
    refine ⟨⟨_, by rw [hc]; rfl⟩, frozenH_eq (Heap.upd_same _ _ _), ?_⟩
    rw [Heap.set_block (Heap.upd_same _ _ _), Heap.upd_upd]
    have hc2 := fun o => cellH_eq (o := o) (Heap.upd_same H q (.cells (v.cells.setIfInBounds (0 + 1) (.int .i64 n)) T (0, 0)))
    refine ⟨v.epoch, by rw [hc2]; rfl, ⟨_, by rw [hc2]; rfl⟩, frozenH_eq (Heap.upd_same _ _ _), ?_⟩
    rw [Heap.set_block (Heap.upd_same _ _ _), Heap.upd_upd, wrap64_id (by omega) (by omega)]
    exact k
  · have h1 : v.leader = n := by simpa using h1
    unfold ledV at k
    rw [if_pos h1] at k
    exact k
def wayL (l isr up : List Int) (but : Int) : Int := ((withL (withL l isr) up).find? fun x => decide (x ≠ but)).getD 0
theorem find_take_next {l : List Int} {but n : Int} (h0 : 0 ≤ n) (h1 : n < l.length) (h : ∀ x ∈ l.take n.toNat, x = but) : ∀ (hx : l.getD n.toNat 0 ≠ but), l.find? (fun x => decide (x ≠ but)) = some (l.getD n.toNat 0) := by
  intro hx
  have hl : n.toNat < l.length := by omega
  have e : l = l.take n.toNat ++ l.getD n.toNat 0 :: l.drop (n.toNat + 1) := by
    have := List.take_append_drop n.toNat l
    rw [List.drop_eq_getElem_cons hl] at this
    simp [List.getD, hl]
  rw [e, List.find?_append]
  have h2 : (l.take n.toNat).find? (fun x => decide (x ≠ but)) = none := by
    rw [List.find?_eq_none]
    intro x hxx; simp [h x hxx]
  rw [h2]
  have hl2 : (l.take n.toNat).length = n.toNat := by simp; omega
  simp only [Option.none_or, List.find?_cons]
  rw [← e]
  simp only [decide_eq_true hx]
theorem way_spec {H : Heap} {s t u : Sl} {l isr up : List Int} {but : Int} {K : Value → Heap → Prop} (hl : Ints H s l) (hi : Ints H t isr) (hu : Ints H u up) (hb : s.n ≤ 1000000)
    (k : ∀ H', HL.Sub H H' → K (.int .i64 (wayL l isr up but)) H') : FnH Tryz.prog 115 #[.slice s.p s.n s.c, .slice t.p t.n t.c, .slice u.p u.n u.c, .int .i64 but] H K := by
  apply reassign_way_fn
  have n0 := hl.len
  refine with_spec hl hi hb fun r1 H1 s1 g1 => ⟨r1, rfl, ?_⟩
  have n1 := g1.len
  have m1 : (withL l isr).length ≤ l.length := List.length_filter_le _ _
  refine with_spec g1 (hu.sub s1) (by omega) fun r2 H2 s2 g2 => ⟨r2, rfl, ?_⟩
  have n2 := g2.len
  have m2 : (withL (withL l isr) up).length ≤ (withL l isr).length := List.length_filter_le _ _
  have k := k H2 (s1.trans s2)
  unfold wayL at k
  revert k n2 m2 g2
  generalize withL (withL l isr) up = m
  intro g2 n2 m2 k
  refine ⟨fun n H3 => H3 = H2 ∧ 0 ≤ n ∧ n ≤ r2.n ∧ ∀ x ∈ m.take n.toNat, x = but, fun n _ => (r2.n - n).toNat, ⟨rfl, by omega, by omega, by simp⟩, ?_⟩
  rintro n H3 ⟨rfl, h0, h1, h2⟩
  refine br_intro (fun hlt => ?_) (fun hge => ?_)
  · have hlt := of_decide_eq_true hlt
    obtain ⟨b, o, f1, f2, f3, f4⟩ := g2.at_ h0 hlt
    refine ⟨b, o, f1, f2, f3, _, f4, br_intro (fun he => ?_) (fun he => ?_)⟩
    · have he : ¬ m.getD n.toNat 0 = but := by simpa using he
      rw [find_take_next h0 (by omega) h2 he] at k
      exact k
    · have he : m.getD n.toNat 0 = but := by simpa using he
      rw [wrap64_id (by omega) (by omega)]
      refine ⟨rfl, ⟨rfl, by omega, by omega, ?_⟩, by dsimp only; omega⟩
      rw [take_next (d := 0) h0 (by omega)]
      intro x hx
      rcases List.mem_append.1 hx with hx | hx
      · exact h2 x hx
      · simp only [List.mem_singleton] at hx; rw [hx, he]
  · have hge : ¬ n < r2.n := by simpa using hge
    rw [take_all (by omega)] at h2
    have : m.find? (fun x => decide (x ≠ but)) = none := by
      rw [List.find?_eq_none]
      intro x hx; simp [h2 x hx]
    rw [this] at k
    exact k
end Go.Proofs.YtmofinghoacobaaGreatDoor
namespace Go.Proofs.YtmofinghoacobaaGreatDoor
open Go Go.HL
set_option maxRecDepth 100000
theorem join2 {H : Heap} {q1 q2 : Nat} {a b : Obj} (h1 : H q1 = none) (h2 : H q2 = none) : (H.upd q1 a).upd q2 b = H.join ((Heap.emp.upd q1 a).upd q2 b) := by
  funext x
  unfold Heap.upd Heap.join Heap.emp
  by_cases e2 : x = q2
  · subst e2; simp [h2]
  · by_cases e1 : x = q1
    · subst e1; simp [h1, e2]
    · simp [e1, e2]
theorem disj2 {H : Heap} {q1 q2 : Nat} {a b : Obj} (h1 : H q1 = none) (h2 : H q2 = none) : H.disj ((Heap.emp.upd q1 a).upd q2 b) := by
  intro x o h
  unfold Heap.upd Heap.emp at h
  by_cases e2 : x = q2
  · subst e2; exact h2
  · by_cases e1 : x = q1
    · subst e1; exact h1
    · simp [e1, e2] at h
theorem swap2 {H : Heap} {q1 q2 : Nat} {a a' b : Obj} (hne : q1 ≠ q2) : ((H.upd q1 a).upd q2 b).upd q1 a' = (H.upd q1 a').upd q2 b := by
  funext x
  unfold Heap.upd
  by_cases e2 : x = q2
  · subst e2; simp [Ne.symm hne]
  · by_cases e1 : x = q1
    · subst e1; simp [hne]
    · simp [e1, e2]
structure Small (p : Part) : Prop where
  isr : p.isr.length ≤ 1000000
  replicas : p.replicas.length ≤ 1000000
  adding : p.adding.length ≤ 1000000
  removing : p.removing.length ≤ 1000000
theorem clone_part_spec {H : Heap} {v : PV} {p : Part} {K : Value → Heap → Prop} (h : PIn H v p) (hb : Small p) (k : ∀ u H', HL.Sub H H' → PIn H' u p → K u.val H') : FnH Tryz.prog 37 #[v.val] H K := by
  apply reassign_Clone_fn
  unfold reassign_Clone_vc
  intro q1 hq1
  refine letH_intro fun H1 e1 => ?_
  intro q2 hq2
  refine letH_intro fun H2 e2 => ?_
  have hne : q1 ≠ q2 := by rintro rfl; rw [e1, Heap.upd_same] at hq2; cases hq2
  have hq2' : H q2 = none := by rw [e1, Heap.upd_ne _ _ (Ne.symm hne)] at hq2; exact hq2
  refine ⟨fun n H3 => 0 ≤ n ∧ n ≤ 4 ∧ ∃ u Hx, PIn Hx u p ∧ HL.Sub H Hx ∧ Hx q1 = none ∧ Hx q2 = none ∧ H3 = (Hx.upd q1 (.cells u.cells 41 (0, 0))).upd q2 (.cells #[.pointer (some ⟨q1, 4, none⟩), .pointer (some ⟨q1, 5, none⟩), .pointer (some ⟨q1, 6, none⟩), .pointer (some ⟨q1, 7, none⟩)] 88 (0, 0)),
    fun n _ => (4 - n).toNat, ⟨by omega, by omega, v, H, h, Sub.refl _, hq1, hq2', by rw [e2, e1]⟩, ?_⟩
  rintro n H3 ⟨h0, h4, u, Hx, hu, hs, x1, x2, rfl⟩
  have c1 : ∀ (A : Array Value) (Hx : Heap) o, cellH ((Hx.upd q1 (.cells A 41 (0, 0))).upd q2 (.cells #[.pointer (some ⟨q1, 4, none⟩), .pointer (some ⟨q1, 5, none⟩), .pointer (some ⟨q1, 6, none⟩), .pointer (some ⟨q1, 7, none⟩)] 88 (0, 0))) ⟨q1, o, none⟩ = A[o]? :=
    fun A Hx o => cellH_eq (by rw [Heap.upd_ne _ _ hne, Heap.upd_same])
  have c1' : ∀ (A : Array Value) (Hx : Heap), ((Hx.upd q1 (.cells A 41 (0, 0))).upd q2 (.cells #[.pointer (some ⟨q1, 4, none⟩), .pointer (some ⟨q1, 5, none⟩), .pointer (some ⟨q1, 6, none⟩), .pointer (some ⟨q1, 7, none⟩)] 88 (0, 0))) q1 = some (.cells A 41 (0, 0)) :=
    fun A Hx => by rw [Heap.upd_ne _ _ hne, Heap.upd_same]
  refine br_intro (fun hlt => ?_) (fun hge => ?_)
  · have hlt := of_decide_eq_true hlt
    refine ⟨q2, 0, rfl, h0, hlt, ?_⟩
    obtain ⟨m, s, l, hm, hn, hl, hlen, hcell, hput⟩ : ∃ (m : Nat) (s : Sl) (l : List Int), m < 4 ∧ n = m ∧ Ints Hx s l ∧ l.length ≤ 1000000 ∧ u.cells[4 + m]? = some (.slice s.p s.n s.c) ∧
        ∀ r Hx', HL.Sub Hx Hx' → Ints Hx' r l → ∃ u', PIn Hx' u' p ∧ u'.cells = u.cells.setIfInBounds (4 + m) (.slice r.p r.n r.c) := by
      have hd : n = 0 ∨ n = 1 ∨ n = 2 ∨ n = 3 := by omega
      rcases hd with e | e | e | e
      · exact ⟨0, u.isr, p.isr, by omega, by simpa using e, hu.isr, hb.isr, rfl, fun r Hx' hs hr => ⟨{ u with isr := r }, ⟨hu.id, hu.leader, hu.epoch, hu.version, hu.min, hr, hu.replicas.sub hs, hu.adding.sub hs, hu.removing.sub hs⟩, rfl⟩⟩
      · exact ⟨1, u.replicas, p.replicas, by omega, by simpa using e, hu.replicas, hb.replicas, rfl, fun r Hx' hs hr => ⟨{ u with replicas := r }, ⟨hu.id, hu.leader, hu.epoch, hu.version, hu.min, hu.isr.sub hs, hr, hu.adding.sub hs, hu.removing.sub hs⟩, rfl⟩⟩
      · exact ⟨2, u.adding, p.adding, by omega, by simpa using e, hu.adding, hb.adding, rfl, fun r Hx' hs hr => ⟨{ u with adding := r }, ⟨hu.id, hu.leader, hu.epoch, hu.version, hu.min, hu.isr.sub hs, hu.replicas.sub hs, hr, hu.removing.sub hs⟩, rfl⟩⟩
      · exact ⟨3, u.removing, p.removing, by omega, by simpa using e, hu.removing, hb.removing, rfl, fun r Hx' hs hr => ⟨{ u with removing := r }, ⟨hu.id, hu.leader, hu.epoch, hu.version, hu.min, hu.isr.sub hs, hu.replicas.sub hs, hu.adding.sub hs, hr⟩, rfl⟩⟩
    subst hn
    refine ⟨some ⟨q1, 4 + m, none⟩, ?_, ?_⟩
    · rw [cellH_eq (Heap.upd_same _ _ _)]
      match m, hm with
      | 0, _ => rfl
      | 1, _ => rfl
      | 2, _ => rfl
      | 3, _ => rfl
    · refine ptrm_intro rfl ⟨s, by rw [c1]; exact hcell, ?_⟩
      have sl := hl.len
      refine FnH.beside (join2 x1 x2) (disj2 x1 x2) (clone_spec hl (by omega) fun r Hx' hs' hr hd => ⟨r, rfl, ?_⟩)
      have y1 : Hx' q1 = none := hd q1 (.cells u.cells 41 (0, 0)) (by rw [Heap.upd_ne _ _ hne, Heap.upd_same])
      have y2 : Hx' q2 = none := hd q2 _ (Heap.upd_same _ _ _)
      rw [← join2 y1 y2]
      refine ptrm_intro rfl ⟨⟨_, by rw [c1]; exact hcell⟩, frozenH_eq (c1' _ _), letH_intro fun H5 e5 => ⟨rfl, ?_, ?_⟩⟩
      · rw [Heap.set_block (c1' _ _), swap2 hne] at e5
        obtain ⟨u', g1, g2⟩ := hput r Hx' hs' hr
        rw [wrap64_id (by omega) (by omega)]
        exact ⟨by omega, by omega, u', Hx', g1, hs.trans hs', y1, y2, by rw [e5, g2]⟩
      · rw [wrap64_id (by omega) (by omega)]; dsimp only; omega
  · have hge : ¬ n < 4 := of_decide_eq_false hge
    refine ⟨u.id, by rw [c1]; rfl, u.leader, by rw [c1]; rfl, u.epoch, by rw [c1]; rfl, u.version, by rw [c1]; rfl, u.isr, by rw [c1]; rfl, u.replicas, by rw [c1]; rfl, u.adding, by rw [c1]; rfl, u.removing, by rw [c1]; rfl, u.min, by rw [c1]; rfl, ?_⟩
    have hs2 : HL.Sub Hx ((Hx.upd q1 (.cells u.cells 41 (0, 0))).upd q2 (.cells #[.pointer (some ⟨q1, 4, none⟩), .pointer (some ⟨q1, 5, none⟩), .pointer (some ⟨q1, 6, none⟩), .pointer (some ⟨q1, 7, none⟩)] 88 (0, 0))) := (Sub.new x1 _).upd x2 _
    exact k u _ (hs.trans hs2) (hu.sub hs2)
end Go.Proofs.YtmofinghoacobaaGreatDoor
namespace Go.Proofs.YtmofinghoacobaaGreatDoor
open Go Go.HL
set_option maxRecDepth 100000
structure RightOf (p : Part) : Prop where
  id : 1 ≤ p.id ∧ p.id ≤ 16
  min : 1 ≤ p.min ∧ p.min ≤ 5
  epoch : 1 ≤ p.epoch ∧ p.epoch ≤ 1000000000
  version : 1 ≤ p.version ∧ p.version ≤ 1000000000
  replicas : idsL p.replicas = true
  isr : idsL p.isr = true
  adding : idsL p.adding = true
  removing : idsL p.removing = true
  pos : 0 < p.isr.length
  isrIn : withinL p.isr p.replicas = true
  addIn : withinL p.adding p.replicas = true
  remIn : withinL p.removing p.replicas = true
  apart : (withL p.adding p.removing).length = 0
  fewer : p.removing.length < p.replicas.length
  leader : p.leader = 0 ∨ p.leader ∈ p.isr
theorem right_iff {p : Part} : rightB p = true ↔ RightOf p := by
  unfold rightB
  simp only [Bool.and_eq_true, Bool.or_eq_true, decide_eq_true_eq]
  constructor
  · rintro ⟨⟨⟨⟨⟨⟨⟨⟨⟨⟨⟨⟨⟨⟨h1, h2⟩, h3⟩, h4⟩, h5⟩, h6⟩, h7⟩, h8⟩, h9⟩, h10⟩, h11⟩, h12⟩, h13⟩, h14⟩, h15⟩
    exact ⟨h1, h2, h3, h4, h5, h6, h7, h8, h9, h10, h11, h12, h13, h14, h15⟩
  · rintro ⟨h1, h2, h3, h4, h5, h6, h7, h8, h9, h10, h11, h12, h13, h14, h15⟩
    exact ⟨⟨⟨⟨⟨⟨⟨⟨⟨⟨⟨⟨⟨⟨h1, h2⟩, h3⟩, h4⟩, h5⟩, h6⟩, h7⟩, h8⟩, h9⟩, h10⟩, h11⟩, h12⟩, h13⟩, h14⟩, h15⟩
theorem RightOf.small {p : Part} (h : RightOf p) : Small p :=
  ⟨by have := ids_len h.isr; omega, by have := ids_len h.replicas; omega, by have := ids_len h.adding; omega, by have := ids_len h.removing; omega⟩
theorem led_changed {H : Heap} {v : PV} {p : Part} {n : Int} {K : Value → Heap → Prop} (h : PIn H v p) (he : 0 ≤ p.epoch ∧ p.epoch ≤ 1000000000) (hv : 0 ≤ p.version ∧ p.version ≤ 1000000000)
    (k : ∀ u, PIn H u (changedP (ledP p n)).1 → K (.tuple #[u.val, .int .i64 (changedP (ledP p n)).2]) H) : ∀ q1 : Nat, H q1 = none →
    FnH Tryz.prog 109 #[.pointer (some ⟨q1, 0, none⟩), .int .i64 n] (Heap.upd H q1 (.cells v.cells 41 (0, 0))) fun r6 H8 =>
      r6 = .tuple #[] ∧ ∃ (n11 n12 n13 n14 : Int) (l9 l10 l11 l12 : Sl) (n15 : Int),
      H8 q1 = some (.cells #[.int .i64 n11, .int .i64 n12, .int .i64 n13, .int .i64 n14, .slice l9.p l9.n l9.c, .slice l10.p l10.n l10.c, .slice l11.p l11.n l11.c, .slice l12.p l12.n l12.c, .int .i64 n15] 41 (0, 0)) ∧
      letH (Heap.del H8 q1) fun H9 =>
      FnH Tryz.prog 110 #[.agg #[.int .i64 n11, .int .i64 n12, .int .i64 n13, .int .i64 n14, .slice l9.p l9.n l9.c, .slice l10.p l10.n l10.c, .slice l11.p l11.n l11.c, .slice l12.p l12.n l12.c, .int .i64 n15]] H9 fun r7 H10 =>
        ∃ (n16 n17 n18 n19 : Int) (l13 l14 l15 l16 : Sl) (n20 n21 : Int),
        r7 = .tuple #[.agg #[.int .i64 n16, .int .i64 n17, .int .i64 n18, .int .i64 n19, .slice l13.p l13.n l13.c, .slice l14.p l14.n l14.c, .slice l15.p l15.n l15.c, .slice l16.p l16.n l16.c, .int .i64 n20], .int .i64 n21] ∧
        K (.tuple #[.agg #[.int .i64 n16, .int .i64 n17, .int .i64 n18, .int .i64 n19, .slice l13.p l13.n l13.c, .slice l14.p l14.n l14.c, .slice l15.p l15.n l15.c, .slice l16.p l16.n l16.c, .int .i64 n20], .int .i64 n21]) H10 := by
  intro q hq
  refine led_spec (by rw [h.epoch]; exact he) ⟨rfl, (ledV v n).id, (ledV v n).leader, (ledV v n).epoch, (ledV v n).version, (ledV v n).isr, (ledV v n).replicas, (ledV v n).adding, (ledV v n).removing, (ledV v n).min, Heap.upd_same _ _ _, ?_⟩
  refine letH_intro fun H9 e9 => ?_
  rw [Heap.del_upd hq] at e9
  subst e9
  have hver : (ledP p n).version = p.version := by unfold ledP; split <;> rfl
  refine changed_spec (led_in h n) (by rw [hver]; exact hv) fun u hu => ⟨u.id, u.leader, u.epoch, u.version, u.isr, u.replicas, u.adding, u.removing, u.min, _, rfl, k u hu⟩
theorem changed_only {H : Heap} {v : PV} {p : Part} {K : Value → Heap → Prop} (h : PIn H v p) (hv : 0 ≤ p.version ∧ p.version ≤ 1000000000)
    (k : ∀ u, PIn H u (changedP p).1 → K (.tuple #[u.val, .int .i64 (changedP p).2]) H) :
      FnH Tryz.prog 110 #[v.val] H fun r7 H10 =>
        ∃ (n16 n17 n18 n19 : Int) (l13 l14 l15 l16 : Sl) (n20 n21 : Int),
        r7 = .tuple #[.agg #[.int .i64 n16, .int .i64 n17, .int .i64 n18, .int .i64 n19, .slice l13.p l13.n l13.c, .slice l14.p l14.n l14.c, .slice l15.p l15.n l15.c, .slice l16.p l16.n l16.c, .int .i64 n20], .int .i64 n21] ∧
        K (.tuple #[.agg #[.int .i64 n16, .int .i64 n17, .int .i64 n18, .int .i64 n19, .slice l13.p l13.n l13.c, .slice l14.p l14.n l14.c, .slice l15.p l15.n l15.c, .slice l16.p l16.n l16.c, .int .i64 n20], .int .i64 n21]) H10 :=
  changed_spec h hv fun u hu => ⟨u.id, u.leader, u.epoch, u.version, u.isr, u.replicas, u.adding, u.removing, u.min, _, rfl, k u hu⟩
def zeroV : PV := ⟨0, 0, 0, 0, ⟨none, 0, 0⟩, ⟨none, 0, 0⟩, ⟨none, 0, 0⟩, ⟨none, 0, 0⟩, 0⟩
def Ans (K : Value → Heap → Prop) (H : Heap) (a : Part × Int) : Prop := ∀ (u : PV) H', HL.Sub H H' → PIn H' u a.1 → K (.tuple #[u.val, .int .i64 a.2]) H'
theorem Ans.err {K : Value → Heap → Prop} {H : Heap} {a : Part × Int} (k : Ans K H a) {c : Int} (e : a = (zeroPart, c)) {H' : Heap} (hs : HL.Sub H H') :
    K (.tuple #[.agg #[.int .i64 0, .int .i64 0, .int .i64 0, .int .i64 0, .slice none 0 0, .slice none 0 0, .slice none 0 0, .slice none 0 0, .int .i64 0], .int .i64 c]) H' := by
  subst e
  exact k zeroV H' hs (zero_in H')
def electP (p : Part) (leader : Int) : Part × Int :=
  if (!rightB p || (leader != 0 && !decide (1 ≤ leader ∧ leader ≤ 7))) = true then (zeroPart, 1)
  else if (leader != 0 && !decide (leader ∈ p.isr)) = true then (zeroPart, 19)
  else if (leader == p.leader) = true then (p, 0)
  else changedP (ledP p leader)
theorem elect_spec {H : Heap} {v : PV} {p : Part} {leader : Int} {K : Value → Heap → Prop} (h : PIn H v p) (hb : Small p) (k : Ans K H (electP p leader)) : FnH Tryz.prog 77 #[v.val, .int .i64 leader] H K := by
  apply reassign_Elect_fn
  unfold reassign_Elect_vc
  refine ⟨fun b H' => HL.Sub H H' ∧ b = (!rightB p || (leader != 0 && !decide (1 ≤ leader ∧ leader ≤ 7))), right_spec h fun H1 s1 => ⟨_, rfl, br_intro (fun h1 => ?_) (fun h1 => br_intro (fun h2 => ?_) (fun h2 => ?_))⟩, ?_⟩
  · exact ⟨rfl, s1, by rw [h1, Bool.true_or]⟩
  · exact broker_spec ⟨_, rfl, rfl, s1, by rw [h1, h2, Bool.false_or, Bool.true_and]⟩
  · exact ⟨rfl, s1, by rw [h1, h2, Bool.false_or, Bool.false_and]⟩
  · rintro b H3 ⟨s3, e⟩
    refine br_intro (fun h3 => ?_) (fun h3 => ?_)
    · exact k.err (by rw [electP, if_pos (by rw [← e]; exact h3)]) s3
    · have h3' : ¬ (!rightB p || (leader != 0 && !decide (1 ≤ leader ∧ leader ≤ 7))) = true := by rw [← e, h3]; simp
      have hr : RightOf p := by
        refine right_iff.1 ?_
        cases hh : rightB p with
        | true => rfl
        | false => rw [hh] at h3'; simp at h3'
      refine ⟨fun b H' => HL.Sub H H' ∧ b = (leader != 0 && !decide (leader ∈ p.isr)), br_intro (fun h2 => ?_) (fun h2 => ?_), ?_⟩
      · exact contains_spec (h.isr.sub s3) ⟨_, rfl, rfl, s3, by rw [h2, Bool.true_and]⟩
      · exact ⟨rfl, s3, by rw [h2, Bool.false_and]⟩
      · rintro b H5 ⟨s5, e5⟩
        refine br_intro (fun h4 => ?_) (fun h4 => ?_)
        · exact k.err (by rw [electP, if_neg h3', if_pos (by rw [← e5]; exact h4)]) s5
        · have h4' : ¬ (leader != 0 && !decide (leader ∈ p.isr)) = true := by rw [← e5, h4]; simp
          refine br_intro (fun h6 => ?_) (fun h6 => ?_) <;> rw [h.leader] at h6
          · rw [electP, if_neg h3', if_neg h4', if_pos h6] at k
            exact clone_part_spec (h.sub s5) hb fun u H' hs hu => ⟨u.id, u.leader, u.epoch, u.version, u.isr, u.replicas, u.adding, u.removing, u.min, rfl, k u H' (s5.trans hs) hu⟩
          · rw [electP, if_neg h3', if_neg h4', if_neg (by rw [h6]; simp)] at k
            exact clone_part_spec (h.sub s5) hb fun u H' hs hu => ⟨u.id, u.leader, u.epoch, u.version, u.isr, u.replicas, u.adding, u.removing, u.min, rfl,
              led_changed hu (by have := hr.epoch; omega) (by have := hr.version; omega) fun u2 hu2 => k u2 H' (s5.trans hs) hu2⟩
def backP (p : Part) (id : Int) : Part × Int :=
  if (!rightB p) = true then (zeroPart, 1) else if (!decide (1 ≤ id ∧ id ≤ 7)) = true then (zeroPart, 1)
  else if (p.leader != 0) = true then (p, 0) else if (!decide (id ∈ p.isr)) = true then (p, 0) else changedP (ledP p id)
theorem back_spec {H : Heap} {v : PV} {p : Part} {id : Int} {K : Value → Heap → Prop} (h : PIn H v p) (hb : Small p) (k : Ans K H (backP p id)) : FnH Tryz.prog 70 #[v.val, .int .i64 id] H K := by
  apply reassign_Back_fn
  unfold reassign_Back_vc
  refine right_spec h fun H1 s1 => ⟨_, rfl, br_intro (fun h1 => k.err (by rw [backP, if_pos h1]) s1) (fun h1 => ?_)⟩
  have h1' : ¬ (!rightB p) = true := by rw [h1]; simp
  have hr : RightOf p := right_iff.1 (by simpa using h1)
  refine broker_spec ⟨_, rfl, br_intro (fun h2 => k.err (by rw [backP, if_neg h1', if_pos h2]) s1) (fun h2 => ?_)⟩
  have h2' : ¬ (!decide (1 ≤ id ∧ id ≤ 7)) = true := by rw [h2]; simp
  rw [backP, if_neg h1', if_neg h2'] at k
  refine clone_part_spec (h.sub s1) hb fun u H' hs hu => ⟨u.id, u.leader, u.epoch, u.version, u.isr, u.replicas, u.adding, u.removing, u.min, rfl, ?_⟩
  refine br_intro (fun h3 => ?_) (fun h3 => ?_) <;> rw [hu.leader] at h3
  · rw [if_pos h3] at k
    exact k u H' (s1.trans hs) hu
  · rw [if_neg (by rw [h3]; simp)] at k
    refine contains_spec hu.isr ⟨_, rfl, br_intro (fun h4 => ?_) (fun h4 => ?_)⟩
    · rw [if_pos h4] at k
      exact k u H' (s1.trans hs) hu
    · rw [if_neg (by rw [h4]; simp)] at k
      exact led_changed hu (by have := hr.epoch; omega) (by have := hr.version; omega) fun u2 hu2 => k u2 H' (s1.trans hs) hu2
end Go.Proofs.YtmofinghoacobaaGreatDoor
namespace Go.Proofs.YtmofinghoacobaaGreatDoor
open Go Go.HL
set_option maxRecDepth 100000
abbrev ChangedTail (K : Value → Heap → Prop) : Value → Heap → Prop := fun r7 H10 =>
        ∃ (n16 n17 n18 n19 : Int) (l13 l14 l15 l16 : Sl) (n20 n21 : Int),
        r7 = .tuple #[.agg #[.int .i64 n16, .int .i64 n17, .int .i64 n18, .int .i64 n19, .slice l13.p l13.n l13.c, .slice l14.p l14.n l14.c, .slice l15.p l15.n l15.c, .slice l16.p l16.n l16.c, .int .i64 n20], .int .i64 n21] ∧
        K (.tuple #[.agg #[.int .i64 n16, .int .i64 n17, .int .i64 n18, .int .i64 n19, .slice l13.p l13.n l13.c, .slice l14.p l14.n l14.c, .slice l15.p l15.n l15.c, .slice l16.p l16.n l16.c, .int .i64 n20], .int .i64 n21]) H10
abbrev LedTail (v : PV) (n : Int) (K : Value → Heap → Prop) (H : Heap) : Prop := ∀ q1 : Nat, H q1 = none →
    FnH Tryz.prog 109 #[.pointer (some ⟨q1, 0, none⟩), .int .i64 n] (Heap.upd H q1 (.cells v.cells 41 (0, 0))) fun r6 H8 =>
      r6 = .tuple #[] ∧ ∃ (n11 n12 n13 n14 : Int) (l9 l10 l11 l12 : Sl) (n15 : Int),
      H8 q1 = some (.cells #[.int .i64 n11, .int .i64 n12, .int .i64 n13, .int .i64 n14, .slice l9.p l9.n l9.c, .slice l10.p l10.n l10.c, .slice l11.p l11.n l11.c, .slice l12.p l12.n l12.c, .int .i64 n15] 41 (0, 0)) ∧
      letH (Heap.del H8 q1) fun H9 =>
      FnH Tryz.prog 110 #[.agg #[.int .i64 n11, .int .i64 n12, .int .i64 n13, .int .i64 n14, .slice l9.p l9.n l9.c, .slice l10.p l10.n l10.c, .slice l11.p l11.n l11.c, .slice l12.p l12.n l12.c, .int .i64 n15]] H9 (ChangedTail K)
theorem way_led {H : Heap} {v : PV} {p : Part} {s t u : Sl} {l i up : List Int} {but : Int} {K : Value → Heap → Prop} (hl : Ints H s l) (hi : Ints H t i) (hu : Ints H u up) (hb : s.n ≤ 1000000) (h : PIn H v p)
    (he : 0 ≤ p.epoch ∧ p.epoch ≤ 1000000000) (hv : 0 ≤ p.version ∧ p.version ≤ 1000000000) (k : Ans K H (changedP (ledP p (wayL l i up but)))) :
    FnH Tryz.prog 115 #[.slice s.p s.n s.c, .slice t.p t.n t.c, .slice u.p u.n u.c, .int .i64 but] H fun r6 H8 => ∃ n6 : Int, r6 = .int .i64 n6 ∧ LedTail v n6 K H8 :=
  way_spec hl hi hu hb fun H' hs => ⟨_, rfl, led_changed (h.sub hs) he hv fun w hw => k w H' hs hw⟩
def fenceP (p : Part) (id : Int) (up : List Int) : Part × Int :=
  if (!rightB p) = true then (zeroPart, 1) else if (!decide (1 ≤ id ∧ id ≤ 7)) = true then (zeroPart, 1) else
  if (!(decide (id ∈ p.isr) && decide (1 < p.isr.length)) && p.leader != id) = true then (p, 0) else
  changedP (if (p.leader == id) = true then ledP (if (decide (id ∈ p.isr) && decide (1 < p.isr.length)) = true then { p with isr := withoutL p.isr [id] } else p) (wayL p.replicas (if (decide (id ∈ p.isr) && decide (1 < p.isr.length)) = true then withoutL p.isr [id] else p.isr) up id)
    else if (decide (id ∈ p.isr) && decide (1 < p.isr.length)) = true then { p with isr := withoutL p.isr [id] } else p)
theorem fence_tail {H : Heap} {v : PV} {p : Part} {u : Sl} {up : List Int} {id : Int} {K : Value → Heap → Prop} (h : PIn H v p) (hb : Small p) (hu : Ints H u up) (he : 0 ≤ p.epoch ∧ p.epoch ≤ 1000000000) (hv : 0 ≤ p.version ∧ p.version ≤ 1000000000)
    (k : Ans K H (changedP (if (p.leader == id) = true then ledP p (wayL p.replicas p.isr up id) else p))) :
    br (v.leader == id) (FnH Tryz.prog 115 #[.slice v.replicas.p v.replicas.n v.replicas.c, .slice v.isr.p v.isr.n v.isr.c, .slice u.p u.n u.c, .int .i64 id] H fun r6 H8 => ∃ n6 : Int, r6 = .int .i64 n6 ∧ LedTail v n6 K H8)
      (FnH Tryz.prog 110 #[v.val] H (ChangedTail K)) := by
  refine br_intro (fun h6 => ?_) (fun h6 => ?_) <;> rw [h.leader] at h6
  · rw [if_pos h6] at k
    exact way_led h.replicas h.isr hu (by rw [h.replicas.len]; exact hb.replicas) h he hv k
  · rw [if_neg (by rw [h6]; simp)] at k
    exact changed_only h hv fun w hw => k w H (Sub.refl _) hw
theorem one_in {H : Heap} {q : Nat} {id : Int} : Ints (H.upd q (.cells #[.int .i64 id] 3 (0, 0))) ⟨some ⟨q, 0, none⟩, 1, 1⟩ [id] :=
  ⟨rfl, by show (1 : Nat) ≤ _; omega, Nat.le_refl _, CellsAt.block (Heap.upd_same _ _ _) (fun i hi => by simp at hi; subst hi; rfl)⟩
theorem Ans.sub {K : Value → Heap → Prop} {H H' : Heap} {a : Part × Int} (k : Ans K H a) (hs : HL.Sub H H') : Ans K H' a := fun u H2 h2 hu => k u H2 (hs.trans h2) hu
theorem fence_spec {H : Heap} {v : PV} {p : Part} {u : Sl} {up : List Int} {id : Int} {K : Value → Heap → Prop} (h : PIn H v p) (hb : Small p) (hup : Ints H u up) (k : Ans K H (fenceP p id up)) : FnH Tryz.prog 107 #[v.val, .int .i64 id, .slice u.p u.n u.c] H K := by
  apply reassign_Fence_fn
  unfold reassign_Fence_vc
  refine right_spec h fun H1 s1 => ⟨_, rfl, br_intro (fun h1 => k.err (by rw [fenceP, if_pos h1]) s1) (fun h1 => ?_)⟩
  have h1' : ¬ (!rightB p) = true := by rw [h1]; simp
  have hr : RightOf p := right_iff.1 (by simpa using h1)
  refine broker_spec ⟨_, rfl, br_intro (fun h2 => k.err (by rw [fenceP, if_neg h1', if_pos h2]) s1) (fun h2 => ?_)⟩
  have h2' : ¬ (!decide (1 ≤ id ∧ id ≤ 7)) = true := by rw [h2]; simp
  rw [fenceP, if_neg h1', if_neg h2'] at k
  refine clone_part_spec (h.sub s1) hb fun w H' hs hw => ⟨w.id, w.leader, w.epoch, w.version, w.isr, w.replicas, w.adding, w.removing, w.min, rfl, ?_⟩
  have s2 := s1.trans hs
  have he : 0 ≤ p.epoch ∧ p.epoch ≤ 1000000000 := by have := hr.epoch; omega
  have hv : 0 ≤ p.version ∧ p.version ≤ 1000000000 := by have := hr.version; omega
  have hlen : decide (((w.isr.n : Nat) : Int) > 1) = decide (1 < p.isr.length) := decide_eq_decide.2 (by have := hw.isr.len; omega)
  refine ⟨fun b H5 => H5 = H' ∧ b = (decide (id ∈ p.isr) && decide (1 < p.isr.length)), contains_spec hw.isr ⟨_, rfl, br_intro (fun h3 => ⟨rfl, rfl, by rw [hlen, h3, Bool.true_and]⟩) (fun h3 => ⟨rfl, rfl, by rw [h3, Bool.false_and]⟩)⟩, ?_⟩
  rintro b H5 ⟨rfl, eb⟩
  rw [← eb] at k
  have k := k.sub s2
  have A : b = true → (!b && p.leader != id) = false → ∀ q1, H5 q1 = none → letH (Heap.upd H5 q1 (.cells #[.int .i64 id] 3 (0, 0))) fun H6 => FnH Tryz.prog 112 #[.slice w.isr.p w.isr.n w.isr.c, .slice (some ⟨q1, 0, none⟩) 1 1] H6 fun r5 H7 =>
      ∃ l5 : Sl, r5 = .slice l5.p l5.n l5.c ∧ br (w.leader == id) (FnH Tryz.prog 115 #[.slice w.replicas.p w.replicas.n w.replicas.c, .slice l5.p l5.n l5.c, .slice u.p u.n u.c, .int .i64 id] H7 fun r6 H8 => ∃ n6 : Int, r6 = .int .i64 n6 ∧ LedTail { w with isr := l5 } n6 K H8)
      (FnH Tryz.prog 110 #[({ w with isr := l5 } : PV).val] H7 (ChangedTail K)) := by
    intro h4 h5 q1 hq1
    rw [if_neg (by rw [h5]; simp)] at k
    refine letH_intro fun H6 e6 => ?_
    have s6 : HL.Sub H5 H6 := by rw [e6]; exact Sub.new hq1 _
    refine without_spec (t := ⟨some ⟨q1, 0, none⟩, 1, 1⟩) (m := [id]) (hw.isr.sub s6) (by rw [e6]; exact one_in) (by rw [hw.isr.len]; exact hb.isr) fun r H7 s7 hr7 => ⟨r, rfl, ?_⟩
    have s57 := s6.trans s7
    have hw7 : PIn H7 { w with isr := r } { p with isr := withoutL p.isr [id] } := ⟨hw.id, hw.leader, hw.epoch, hw.version, hw.min, hr7, hw.replicas.sub s57, hw.adding.sub s57, hw.removing.sub s57⟩
    refine fence_tail hw7 ⟨Nat.le_trans (List.length_filter_le _ _) hb.isr, hb.replicas, hb.adding, hb.removing⟩ (hup.sub (s2.trans s57)) he hv ?_
    simp only [h4, if_true] at k
    exact k.sub s57
  have B : b = false → (!b && p.leader != id) = false → br (w.leader == id) (FnH Tryz.prog 115 #[.slice w.replicas.p w.replicas.n w.replicas.c, .slice w.isr.p w.isr.n w.isr.c, .slice u.p u.n u.c, .int .i64 id] H5 fun r6 H8 => ∃ n6 : Int, r6 = .int .i64 n6 ∧ LedTail w n6 K H8)
      (FnH Tryz.prog 110 #[w.val] H5 (ChangedTail K)) := by
    intro h4 h5
    rw [if_neg (by rw [h5]; simp)] at k
    refine fence_tail hw hb (hup.sub s2) he hv ?_
    simp only [h4, if_neg Bool.false_ne_true] at k
    exact k
  refine br_intro (fun h4 => br_intro (fun h5 => ?_) (fun h5 => ?_)) (fun h4 => ?_)
  · rw [hw.leader] at h5
    rw [if_pos (by rw [h4, h5]; rfl)] at k
    exact k w H5 (Sub.refl _) hw
  · rw [hw.leader] at h5
    have h5 : (!b && p.leader != id) = false := by rw [h4, h5]; rfl
    exact br_intro (fun h6 => A h6 h5) (fun h6 => B h6 h5)
  · have h5 : (!b && p.leader != id) = false := by rw [h4]; rfl
    exact br_intro (fun h6 => A h6 h5) (fun h6 => B h6 h5)
end Go.Proofs.YtmofinghoacobaaGreatDoor
namespace Go.Proofs.YtmofinghoacobaaGreatDoor
open Go Go.HL
set_option maxRecDepth 100000
set_option maxHeartbeats 400000
def alterP (p : Part) (leader epoch version : Int) (isr up : List Int) : Part × Int :=
  if (!rightB p) = true then (zeroPart, 1) else
  if (decide (epoch < p.epoch) || (epoch == p.epoch && decide (version < p.version))) = true then (zeroPart, 13) else
  if (decide (epoch > p.epoch) || decide (version > p.version)) = true then (zeroPart, 14) else
  if (leader == 0 || leader != p.leader) = true then (zeroPart, 19) else
  if (!idsL isr) = true then (zeroPart, 1) else if (!decide (leader ∈ isr)) = true then (zeroPart, 1) else if (!withinL isr p.replicas) = true then (zeroPart, 1) else if (!withinL (withoutL isr p.isr) up) = true then (zeroPart, 1) else
  changedP { p with isr := withL p.replicas isr }
theorem ne_of_false {b : Bool} (h : b = false) : ¬ b = true := by rw [h]; simp
theorem alter_spec {H : Heap} {v : PV} {p : Part} {s u : Sl} {isr up : List Int} {leader epoch version : Int} {K : Value → Heap → Prop} (h : PIn H v p) (hb : Small p) (hi : Ints H s isr) (hup : Ints H u up)
    (k : Ans K H (alterP p leader epoch version isr up)) : FnH Tryz.prog 72 #[v.val, .int .i64 leader, .int .i64 epoch, .int .i64 version, .slice s.p s.n s.c, .slice u.p u.n u.c] H K := by
  apply reassign_Alter_fn
  unfold reassign_Alter_vc
  refine right_spec h fun H1 s1 => ⟨_, rfl, br_intro (fun h1 => k.err (by rw [alterP, if_pos h1]) s1) (fun h1 => ?_)⟩
  have h1' : ¬ (!rightB p) = true := ne_of_false h1
  have hr : RightOf p := right_iff.1 (by simpa using h1)
  rw [alterP, if_neg h1'] at k
  have k := k.sub s1
  have hi := hi.sub s1
  have hup := hup.sub s1
  have h := h.sub s1
  refine ⟨fun b H' => H' = H1 ∧ b = (decide (epoch < p.epoch) || (epoch == p.epoch && decide (version < p.version))), br_intro (fun h2 => ⟨rfl, rfl, ?_⟩) (fun h2 => br_intro (fun h3 => ⟨rfl, rfl, ?_⟩) (fun h3 => ⟨rfl, rfl, ?_⟩)), ?_⟩
  · rw [h.epoch] at h2; rw [h2]; rfl
  · rw [h.epoch] at h2 h3; rw [h2, h3, h.version]; rfl
  · rw [h.epoch] at h2 h3; rw [h2, h3]; rfl
  rintro b H2 ⟨rfl, e2⟩
  refine br_intro (fun h2 => k.err (by rw [if_pos (e2 ▸ h2)]) (Sub.refl _)) (fun h2 => ?_)
  rw [if_neg (ne_of_false (e2 ▸ h2))] at k
  refine ⟨fun b H' => H' = H2 ∧ b = (decide (epoch > p.epoch) || decide (version > p.version)), br_intro (fun h2 => ⟨rfl, rfl, ?_⟩) (fun h2 => ⟨rfl, rfl, ?_⟩), ?_⟩
  · rw [h.epoch] at h2; rw [h2]; rfl
  · rw [h.epoch] at h2; rw [h2, h.version]; rfl
  rintro b H3 ⟨rfl, e3⟩
  refine br_intro (fun h2 => k.err (by rw [if_pos (e3 ▸ h2)]) (Sub.refl _)) (fun h3 => ?_)
  rw [if_neg (ne_of_false (e3 ▸ h3))] at k
  refine ⟨fun b H' => H' = H3 ∧ b = (leader == 0 || leader != p.leader), br_intro (fun h2 => ⟨rfl, rfl, ?_⟩) (fun h2 => ⟨rfl, rfl, ?_⟩), ?_⟩
  · rw [h2]; rfl
  · rw [h2, h.leader]; rfl
  rintro b H4 ⟨rfl, e4⟩
  refine br_intro (fun h2 => k.err (by rw [if_pos (e4 ▸ h2)]) (Sub.refl _)) (fun h4 => ?_)
  rw [if_neg (ne_of_false (e4 ▸ h4))] at k
  refine ids_spec hi ⟨_, rfl, br_intro (fun h5 => k.err (by rw [if_pos h5]) (Sub.refl _)) (fun h5 => ?_)⟩
  rw [if_neg (ne_of_false h5)] at k
  have l5 := ids_len (l := isr) (by simpa using h5)
  have n5 := hi.len
  refine contains_spec hi ⟨_, rfl, br_intro (fun h6 => k.err (by rw [if_pos h6]) (Sub.refl _)) (fun h6 => ?_)⟩
  rw [if_neg (ne_of_false h6)] at k
  refine within_spec hi h.replicas (by omega) fun H7 s7 => ⟨_, rfl, br_intro (fun h7 => k.err (by rw [if_pos h7]) s7) (fun h7 => ?_)⟩
  rw [if_neg (ne_of_false h7)] at k
  refine without_spec (hi.sub s7) (h.isr.sub s7) (by omega) fun r H8 s8 hr8 => ⟨r, rfl, ?_⟩
  have s78 := s7.trans s8
  have n8 := hr8.len
  have m8 : (withoutL isr p.isr).length ≤ isr.length := List.length_filter_le _ _
  refine within_spec hr8 (hup.sub s78) (by omega) fun H9 s9 => ⟨_, rfl, br_intro (fun h7 => k.err (by rw [if_pos h7]) (s78.trans s9)) (fun h9 => ?_)⟩
  rw [if_neg (ne_of_false h9)] at k
  have s9 := s78.trans s9
  refine clone_part_spec (h.sub s9) hb fun w H' hs hw => ⟨w.id, w.leader, w.epoch, w.version, w.isr, w.replicas, w.adding, w.removing, w.min, rfl, ?_⟩
  have s10 := s9.trans hs
  refine with_spec hw.replicas (hi.sub s10) (by rw [hw.replicas.len]; exact hb.replicas) fun r2 H11 s11 hr11 => ⟨r2, rfl, ?_⟩
  have hw11 : PIn H11 { w with isr := r2 } { p with isr := withL p.replicas isr } := ⟨hw.id, hw.leader, hw.epoch, hw.version, hw.min, hr11, hw.replicas.sub s11, hw.adding.sub s11, hw.removing.sub s11⟩
  have T := changed_only (K := K) hw11 (by have := hr.version; show 0 ≤ p.version ∧ p.version ≤ _; omega) fun z hz => k z H11 (s10.trans s11) hz
  exact T
def finishB (p : Part) (up : List Int) : Part :=
  if (p.leader != 0 && !decide (p.leader ∈ withoutL p.replicas p.removing)) = true
  then ledP { p with replicas := withoutL p.replicas p.removing, adding := [], removing := [], isr := withL p.isr (withoutL p.replicas p.removing) } (wayL (withoutL p.replicas p.removing) (withL p.isr (withoutL p.replicas p.removing)) up 0)
  else { p with replicas := withoutL p.replicas p.removing, adding := [], removing := [], isr := withL p.isr (withoutL p.replicas p.removing) }
def finishP (p : Part) (up : List Int) : Part × Int :=
  if (!rightB p) = true then (zeroPart, 1) else if (!openB p) = true then (zeroPart, 19) else if (!withinL (withoutL p.replicas p.removing) p.isr) = true then (zeroPart, 19) else
  changedP (finishB p up)
theorem finish_spec {H : Heap} {v : PV} {p : Part} {u : Sl} {up : List Int} {K : Value → Heap → Prop} (h : PIn H v p) (hb : Small p) (hup : Ints H u up)
    (k : Ans K H (finishP p up)) : FnH Tryz.prog 75 #[v.val, .slice u.p u.n u.c] H K := by
  apply reassign_Finish_fn
  unfold reassign_Finish_vc
  have n1 := h.replicas.len
  have b1 := hb.replicas
  refine without_spec h.replicas h.removing (by omega) fun t H1 s1 ht => ⟨t, rfl, ?_⟩
  have h := h.sub s1
  have hup := hup.sub s1
  have k := k.sub s1
  refine right_spec h fun H2 s2 => ⟨_, rfl, br_intro (fun h1 => k.err (by rw [finishP, if_pos h1]) s2) (fun h1 => ?_)⟩
  have hr : RightOf p := right_iff.1 (by simpa using h1)
  rw [finishP, if_neg (ne_of_false h1)] at k
  have h := h.sub s2
  have hup := hup.sub s2
  have k := k.sub s2
  have ht := ht.sub s2
  refine open_spec h ⟨ids_len hr.adding, ids_len hr.removing⟩ ⟨_, rfl, br_intro (fun h1 => k.err (by rw [if_pos h1]) (Sub.refl _)) (fun h1 => ?_)⟩
  rw [if_neg (ne_of_false h1)] at k
  have nt := ht.len
  have bt : (withoutL p.replicas p.removing).length ≤ p.replicas.length := List.length_filter_le _ _
  refine within_spec ht h.isr (by omega) fun H4 s4 => ⟨_, rfl, br_intro (fun h1 => k.err (by rw [if_pos h1]) s4) (fun h1 => ?_)⟩
  rw [if_neg (ne_of_false h1)] at k
  have k := k.sub s4
  refine clone_part_spec (h.sub s4) hb fun w H5 s5 hw => ⟨w.id, w.leader, w.epoch, w.version, w.isr, w.replicas, w.adding, w.removing, w.min, rfl, ?_⟩
  have s45 := s4.trans s5
  have k := k.sub s5
  refine with_spec hw.isr (ht.sub s45) (by rw [hw.isr.len]; exact hb.isr) fun r H6 s6 hr6 => ⟨r, rfl, ?_⟩
  have k := k.sub s6
  have ht := ht.sub (s45.trans s6)
  have hup := hup.sub (s45.trans s6)
  have he : 0 ≤ p.epoch ∧ p.epoch ≤ 1000000000 := by have := hr.epoch; omega
  have hv : 0 ≤ p.version ∧ p.version ≤ 1000000000 := by have := hr.version; omega
  have hw6 : PIn H6 ⟨w.id, w.leader, w.epoch, w.version, r, t, ⟨none, 0, 0⟩, ⟨none, 0, 0⟩, w.min⟩ { p with replicas := withoutL p.replicas p.removing, adding := [], removing := [], isr := withL p.isr (withoutL p.replicas p.removing) } :=
    ⟨hw.id, hw.leader, hw.epoch, hw.version, hw.min, hr6, ht, Ints.nil _, Ints.nil _⟩
  unfold finishB at k
  refine br_intro (fun h2 => ?_) (fun h2 => ?_) <;> rw [hw.leader] at h2
  · have e7 : w.leader = p.leader := hw.leader
    rw [e7]
    refine contains_spec ht ⟨_, rfl, br_intro (fun h3 => ?_) (fun h3 => ?_)⟩
    · rw [if_pos (by rw [h2, h3]; rfl)] at k
      rw [← e7]
      have T := way_led (K := K) ht hr6 hup (by omega) hw6 he hv k
      exact T
    · rw [if_neg (by rw [h2, h3]; simp)] at k
      rw [← e7]
      have T := changed_only (K := K) hw6 hv fun z hz => k z H6 (Sub.refl _) hz
      exact T
  · rw [if_neg (by rw [h2]; simp)] at k
    have T := changed_only (K := K) hw6 hv fun z hz => k z H6 (Sub.refl _) hz
    exact T
def cancelB (p : Part) (up : List Int) : Part :=
  if p.leader ∈ p.adding
  then ledP { p with replicas := withoutL p.replicas p.adding, isr := withoutL p.isr p.adding, adding := [], removing := [] } (wayL (withoutL p.replicas p.adding) (withoutL p.isr p.adding) up 0)
  else { p with replicas := withoutL p.replicas p.adding, isr := withoutL p.isr p.adding, adding := [], removing := [] }
def cancelP (p : Part) (up : List Int) : Part × Int :=
  if (!rightB p) = true then (zeroPart, 1) else if (!openB p) = true then (zeroPart, 19) else if withinL p.isr p.adding = true then (zeroPart, 19) else
  changedP (cancelB p up)
theorem cancel_spec {H : Heap} {v : PV} {p : Part} {u : Sl} {up : List Int} {K : Value → Heap → Prop} (h : PIn H v p) (hb : Small p) (hup : Ints H u up)
    (k : Ans K H (cancelP p up)) : FnH Tryz.prog 74 #[v.val, .slice u.p u.n u.c] H K := by
  apply reassign_Cancel_fn
  unfold reassign_Cancel_vc
  refine right_spec h fun H2 s2 => ⟨_, rfl, br_intro (fun h1 => k.err (by rw [cancelP, if_pos h1]) s2) (fun h1 => ?_)⟩
  have hr : RightOf p := right_iff.1 (by simpa using h1)
  rw [cancelP, if_neg (ne_of_false h1)] at k
  have h := h.sub s2
  have hup := hup.sub s2
  have k := k.sub s2
  refine open_spec h ⟨ids_len hr.adding, ids_len hr.removing⟩ ⟨_, rfl, br_intro (fun h1 => k.err (by rw [if_pos h1]) (Sub.refl _)) (fun h1 => ?_)⟩
  rw [if_neg (ne_of_false h1)] at k
  refine within_spec h.isr h.adding (by rw [h.isr.len]; exact hb.isr) fun H4 s4 => ⟨_, rfl, br_intro (fun h1 => k.err (by rw [if_pos h1]) s4) (fun h1 => ?_)⟩
  rw [if_neg (ne_of_false h1)] at k
  have k := k.sub s4
  refine clone_part_spec (h.sub s4) hb fun w H5 s5 hw => ⟨w.id, w.leader, w.epoch, w.version, w.isr, w.replicas, w.adding, w.removing, w.min, rfl, ?_⟩
  have s45 := s4.trans s5
  have k := k.sub s5
  refine contains_spec hw.adding ⟨_, rfl, ?_⟩
  have e7 : decide (w.leader ∈ p.adding) = decide (p.leader ∈ p.adding) := by rw [hw.leader]
  refine without_spec hw.replicas hw.adding (by rw [hw.replicas.len]; exact hb.replicas) fun r6 H6 s6 hr6 => ⟨r6, rfl, s6, ?_⟩
  refine without_spec (hw.isr.sub s6) (hw.adding.sub s6) (by rw [hw.isr.len]; exact hb.isr) fun r7 H7 s7 hr7 => ⟨r7, rfl, s6.trans s7, ?_⟩
  have k := k.sub (s6.trans s7)
  have hup := hup.sub (s45.trans (s6.trans s7))
  have he : 0 ≤ p.epoch ∧ p.epoch ≤ 1000000000 := by have := hr.epoch; omega
  have hv : 0 ≤ p.version ∧ p.version ≤ 1000000000 := by have := hr.version; omega
  have hw6 : PIn H7 ⟨w.id, w.leader, w.epoch, w.version, r7, r6, ⟨none, 0, 0⟩, ⟨none, 0, 0⟩, w.min⟩ { p with replicas := withoutL p.replicas p.adding, isr := withoutL p.isr p.adding, adding := [], removing := [] } :=
    ⟨hw.id, hw.leader, hw.epoch, hw.version, hw.min, hr7, hr6.sub s7, Ints.nil _, Ints.nil _⟩
  have n6 := hr6.len
  have m6 : (withoutL p.replicas p.adding).length ≤ p.replicas.length := List.length_filter_le _ _
  have b6 := hb.replicas
  unfold cancelB at k
  refine br_intro (fun h2 => ?_) (fun h2 => ?_) <;> rw [e7] at h2
  · rw [if_pos (of_decide_eq_true h2)] at k
    have T := way_led (K := K) (hr6.sub s7) hr7 hup (by omega) hw6 he hv k
    exact T
  · rw [if_neg (of_decide_eq_false h2)] at k
    have T := changed_only (K := K) hw6 hv fun z hz => k z H7 (Sub.refl _) hz
    exact T
end Go.Proofs.YtmofinghoacobaaGreatDoor
namespace Go.Proofs.YtmofinghoacobaaGreatDoor
open Go Go.HL
set_option maxRecDepth 100000
set_option maxHeartbeats 400000
theorem clone_own_spec {H : Heap} {s : Sl} {l : List Int} {K : Value → Heap → Prop} (hl : Ints H s l) (hb : s.n ≤ 1000000)
    (k : ∀ r H', HL.Sub H H' → Own H' 3 1 r (l.map (Value.int .i64)) → Fresh H r → K (.slice r.p r.n r.c) H') : FnH Tryz.prog 66 #[.slice s.p s.n s.c] H K := by
  apply slices_Clone_Lint_int_fn
  unfold slices_Clone_Lint_int_vc
  refine br_intro (fun hn => ?_) (fun hn => ?_)
  · have hp : s.p = none := by simpa using hn
    rw [hl.pnone hp] at k
    exact k ⟨none, 0, 0⟩ H (Sub.refl _) (Own.nil _ _ _) (Fresh.nil _ _ _)
  · intro q hq
    refine letH_intro fun H1 e1 => ?_
    have hs1 : HL.Sub H H1 := by rw [e1]; exact Sub.new hq _
    have ho : Own H1 3 1 ⟨some ⟨q, 0, none⟩, 0, 0⟩ [] := ⟨rfl, Nat.le_refl _, .inr ⟨q, #[], rfl, by rw [e1]; exact Heap.upd_same _ _ _, rfl, fun i h => by simp at h⟩⟩
    refine append_own (s := ⟨some ⟨q, 0, none⟩, 0, 0⟩) ok22 ok22.under ho (H0 := H) (fun b o sp h => by simp at h; rw [← h.1]; exact hq) hs1 (hl.cells.sub hs1) (by simp [hl.len]) (noTups_ints _ _) (by show 0 + s.n ≤ _; omega) ?_
    intro r H2 go gf gs gn
    exact ⟨r, rfl, k r H2 gs (by simpa using go) gf⟩
def beginB (p : Part) (targets : List Int) : Part := { p with adding := withoutL targets p.replicas, removing := withoutL p.replicas targets, replicas := targets ++ withoutL p.replicas targets }
def beginP (p : Part) (targets up : List Int) : Part × Int :=
  if (!rightB p || (!idsL targets || (decide (targets.length = 0) || decide (5 < targets.length)))) = true then (zeroPart, 1) else if openB p = true then (zeroPart, 19) else
  if (!withinL (withoutL targets p.replicas) up) = true then (zeroPart, 8) else if targets = p.replicas then (p, 0) else changedP (beginB p targets)
theorem begin_spec {H : Heap} {v : PV} {p : Part} {s u : Sl} {targets up : List Int} {K : Value → Heap → Prop} (h : PIn H v p) (hb : Small p) (hi : Ints H s targets) (hup : Ints H u up)
    (k : Ans K H (beginP p targets up)) : FnH Tryz.prog 73 #[v.val, .slice s.p s.n s.c, .slice u.p u.n u.c] H K := by
  apply reassign_Begin_fn
  unfold reassign_Begin_vc
  have n0 := hi.len
  refine ⟨fun b H' => HL.Sub H H' ∧ b = (!rightB p || (!idsL targets || (decide (targets.length = 0) || decide (5 < targets.length)))), right_spec h fun H1 s1 => ⟨_, rfl, br_intro (fun h1 => ⟨rfl, s1, by rw [h1, Bool.true_or]⟩) (fun h1 => ?_)⟩, ?_⟩
  · refine ids_spec (hi.sub s1) ⟨_, rfl, br_intro (fun h2 => ⟨rfl, s1, by rw [h1, h2, Bool.true_or, Bool.or_true]⟩) (fun h2 => ?_)⟩
    have e : (((s.n : Nat) : Int) == 0) = decide (targets.length = 0) := by rw [eqb]; exact decide_eq_decide.2 (by omega)
    refine br_intro (fun h3 => ⟨rfl, s1, ?_⟩) (fun h3 => ⟨rfl, s1, ?_⟩) <;> rw [e] at h3
    · rw [h3, Bool.true_or, Bool.or_true, Bool.or_true]
    · rw [h1, h2, h3, Bool.false_or, Bool.false_or, Bool.false_or]; have e2 : decide (((s.n : Nat) : Int) > 5) = decide (5 < targets.length) := decide_eq_decide.2 (by omega)
      rw [e2]
  rintro b H3 ⟨s3, eb⟩
  refine br_intro (fun h1 => k.err (by rw [beginP, if_pos (eb ▸ h1)]) s3) (fun h1 => ?_)
  rw [eb] at h1
  rw [beginP, if_neg (ne_of_false h1)] at k
  simp only [Bool.or_eq_false_iff] at h1
  obtain ⟨h1, h2, h3, h4⟩ := h1
  have hr : RightOf p := right_iff.1 (by simpa using h1)
  have h := h.sub s3
  have hi := hi.sub s3
  have hup := hup.sub s3
  have k := k.sub s3
  have l1 : targets.length ≤ 5 := by simpa using h4
  refine open_spec h ⟨ids_len hr.adding, ids_len hr.removing⟩ ⟨_, rfl, br_intro (fun h1 => k.err (by rw [if_pos h1]) (Sub.refl _)) (fun h1 => ?_)⟩
  rw [if_neg (ne_of_false h1)] at k
  refine without_spec hi h.replicas (by omega) fun r5 H5 s5 hr5 => ⟨r5, rfl, ?_⟩
  have n5 := hr5.len
  have m5 : (withoutL targets p.replicas).length ≤ targets.length := List.length_filter_le _ _
  refine within_spec hr5 (hup.sub s5) (by omega) fun H6 s6 => ⟨_, rfl, br_intro (fun h1 => k.err (by rw [if_pos h1]) (s5.trans s6)) (fun h1 => ?_)⟩
  rw [if_neg (ne_of_false h1)] at k
  have s6 := s5.trans s6
  refine clone_part_spec (h.sub s6) hb fun w H7 s7 hw => ⟨w.id, w.leader, w.epoch, w.version, w.isr, w.replicas, w.adding, w.removing, w.min, rfl, ?_⟩
  have s7 := s6.trans s7
  have k := k.sub s7
  have hi := hi.sub s7
  refine equal_spec hi hw.replicas ⟨_, rfl, br_intro (fun h2 => ?_) (fun h2 => ?_)⟩
  · rw [if_pos (of_decide_eq_true h2)] at k
    exact k w H7 (Sub.refl _) hw
  · rw [if_neg (of_decide_eq_false h2)] at k
    refine without_spec hi hw.replicas (by omega) fun r9 H9 s9 hr9 => ⟨r9, rfl, s9, ?_⟩
    refine without_spec (hw.replicas.sub s9) (hi.sub s9) (by rw [hw.replicas.len]; exact hb.replicas) fun r10 H10 s10 hr10 => ⟨r10, rfl, s9.trans s10, ?_⟩
    have s710 := s9.trans s10
    refine clone_own_spec (hi.sub s710) (by omega) fun r11 H11 s11 ho11 hf11 => ⟨r11, rfl, s11, ?_⟩
    have n10 := hr10.len
    have m10 : (withoutL p.replicas targets).length ≤ p.replicas.length := List.length_filter_le _ _
    have lr := ids_len hr.replicas
    have n11 := ho11.1
    simp only [List.length_map, Nat.mul_one] at n11
    refine append_own ok22 ok22.under ho11 hf11 s11 (hr10.cells.sub s11) (by simp [hr10.len]) (noTups_ints _ _) (by omega) ?_
    intro r12 H12 ho12 hf12 s12 n12
    refine ⟨r12, rfl, ?_⟩
    have hr12 : Ints H12 r12 (targets ++ withoutL p.replicas targets) := Own.ints (by rw [List.map_append]; exact ho12) (by simp; omega)
    have s712 := s710.trans s12
    have hw12 : PIn H12 ⟨w.id, w.leader, w.epoch, w.version, w.isr, r12, r9, r10, w.min⟩ (beginB p targets) :=
      ⟨hw.id, hw.leader, hw.epoch, hw.version, hw.min, hw.isr.sub s712, hr12, hr9.sub (s10.trans s12), hr10.sub s12⟩
    have T := changed_only (K := K) hw12 (by have := hr.version; show 0 ≤ p.version ∧ p.version ≤ _; omega) fun z hz => k z H12 s712 hz
    exact T
theorem sameList_spec {H : Heap} {s t : Sl} {l m : List Int} {K : Value → Heap → Prop} (hl : Ints H s l) (hm : Ints H t m) (k : K (.bool (decide (l = m))) H) :
    FnH Tryz.prog 31 #[.slice s.p s.n s.c, .slice t.p t.n t.c] H K := by
  apply logboomlaw12_sameList_fn
  unfold logboomlaw12_sameList_vc
  have h1 := hl.len
  have h2 := hm.len
  have hbig := hl.big
  have no : ¬ l = m → K (.bool false) H := fun q => by rw [decide_eq_false q] at k; exact k
  refine br_intro (fun hne => ?_) (fun heq => ?_)
  · have hne : ¬ (s.n : Int) = t.n := by simpa using hne
    exact no fun q => hne (by rw [h1, h2, q])
  · have heq : (s.n : Int) = t.n := by simpa using heq
    refine ⟨fun n H1 => H1 = H ∧ 0 ≤ n ∧ n ≤ s.n ∧ l.take n.toNat = m.take n.toNat, fun n _ => (s.n - n).toNat, ⟨rfl, by omega, by omega, by simp⟩, ?_⟩
    rintro n H1 ⟨rfl, h3, h4, h5⟩
    refine br_intro (fun hlt => ?_) (fun hge => ?_)
    · have hlt := of_decide_eq_true hlt
      obtain ⟨b, o, g1, g2, g3, g4⟩ := hl.at_ h3 hlt
      obtain ⟨b', o', f1, f2, f3, f4⟩ := hm.at_ h3 (by omega)
      refine ⟨b, o, g1, g2, g3, _, g4, b', o', f1, f2, f3, _, f4, br_intro (fun he => ?_) (fun he => ?_)⟩
      · have he : ¬ l.getD n.toNat 0 = m.getD n.toNat 0 := by simpa using he
        exact no fun q => he (by rw [q])
      · have he : l.getD n.toNat 0 = m.getD n.toNat 0 := by simpa using he
        rw [wrap64_id (by omega) (by omega)]
        refine ⟨rfl, ⟨rfl, by omega, by omega, ?_⟩, by dsimp only; omega⟩
        rw [take_next (d := 0) h3 (by omega), take_next (d := 0) h3 (by omega), h5, he]
    · have hge : ¬ n < s.n := by simpa using hge
      rw [take_all (by omega), take_all (by omega)] at h5
      rw [decide_eq_true h5] at k; exact k
def pickI (c n : Int) : Int := Int.tmod (if c < 0 then IntKind.wrap .i64 (0 - IntKind.wrap .i64 (c + 1)) else c) n
end Go.Proofs.YtmofinghoacobaaGreatDoor
namespace Go.Proofs.YtmofinghoacobaaGreatDoor
open Go.HL
theorem mem_with {x : Int} {l m : List Int} : x ∈ withL l m ↔ x ∈ l ∧ x ∈ m := by simp [withL]
theorem mem_without {x : Int} {l m : List Int} : x ∈ withoutL l m ↔ x ∈ l ∧ ¬ x ∈ m := by simp [withoutL]
theorem within_iff {l m : List Int} : withinL l m = true ↔ ∀ x ∈ l, x ∈ m := by
  unfold withinL
  rw [List.isEmpty_iff, List.eq_nil_iff_forall_not_mem]
  constructor
  · intro h x hx
    have := h x
    rw [mem_without] at this
    by_cases hm : x ∈ m
    · exact hm
    · exact absurd ⟨hx, hm⟩ this
  · intro h x hx
    rw [mem_without] at hx
    exact hx.2 (h x hx.1)
theorem ids_iff {l : List Int} : idsL l = true ↔ l.Nodup ∧ ∀ x ∈ l, 1 ≤ x ∧ x ≤ 7 := by simp [idsL]
theorem ids_with {l m : List Int} (h : idsL l = true) : idsL (withL l m) = true := ids_iff.2 ⟨(ids_iff.1 h).1.filter _, fun x hx => (ids_iff.1 h).2 x (mem_with.1 hx).1⟩
theorem ids_without {l m : List Int} (h : idsL l = true) : idsL (withoutL l m) = true := ids_iff.2 ⟨(ids_iff.1 h).1.filter _, fun x hx => (ids_iff.1 h).2 x (mem_without.1 hx).1⟩
theorem nil_of_forall {l : List Int} (h : ∀ x, ¬ x ∈ l) : l = [] := List.eq_nil_iff_forall_not_mem.2 h
theorem without_self {l m : List Int} (h : ∀ x ∈ l, ¬ x ∈ m) : withoutL l m = l := List.filter_eq_self.2 fun x hx => by simp [h x hx]
theorem with_nil {l m : List Int} (h : ∀ x ∈ l, ¬ x ∈ m) : withL l m = [] := nil_of_forall fun x hx => h x (mem_with.1 hx).1 (mem_with.1 hx).2
def bump (p : Part) : Part := ⟨p.id, p.leader, p.epoch, p.version + 1, p.isr, p.replicas, p.adding, p.removing, p.min⟩
theorem changed_ok {p : Part} (h : p.version + 1 ≤ 1000000000 ∧ p.epoch ≤ 1000000000) : changedP p = (bump p, 0) := if_neg (by omega)
theorem changed_cases (p : Part) : (changedP p = (zeroPart, 20) ∧ (p.version + 1 > 1000000000 ∨ p.epoch > 1000000000)) ∨ (changedP p = (bump p, 0) ∧ p.version + 1 ≤ 1000000000 ∧ p.epoch ≤ 1000000000) := by
  unfold changedP
  split
  · rename_i q; exact .inl ⟨rfl, q⟩
  · rename_i q; exact .inr ⟨rfl, by omega, by omega⟩
theorem begin_cases {p : Part} {targets up : List Int} : (∃ c, c ≠ 0 ∧ beginP p targets up = (zeroPart, c)) ∨
    (RightOf p ∧ idsL targets = true ∧ 0 < targets.length ∧ openB p = false ∧ ((targets = p.replicas ∧ beginP p targets up = (p, 0)) ∨
      (targets ≠ p.replicas ∧ p.version + 1 ≤ 1000000000 ∧ beginP p targets up = ((bump (beginB p targets)), 0)))) := by
  unfold beginP
  split
  · exact .inl ⟨1, by decide, rfl⟩
  · rename_i h1
    split
    · exact .inl ⟨19, by decide, rfl⟩
    · rename_i h2
      split
      · exact .inl ⟨8, by decide, rfl⟩
      · rename_i h3
        have h1 : (!rightB p || (!idsL targets || (decide (targets.length = 0) || decide (5 < targets.length)))) = false := by simpa using h1
        simp only [Bool.or_eq_false_iff] at h1
        obtain ⟨h1, h4, h5, h6⟩ := h1
        have hr : RightOf p := right_iff.1 (by simpa using h1)
        have h4 : idsL targets = true := by simpa using h4
        have h5 : 0 < targets.length := by have := of_decide_eq_false h5; omega
        have h2 : openB p = false := by simpa using h2
        split
        · rename_i h7
          exact .inr ⟨hr, h4, h5, h2, .inl ⟨h7, rfl⟩⟩
        · rename_i h7
          rcases changed_cases (beginB p targets) with ⟨e, -⟩ | ⟨e, hv, -⟩
          · exact .inl ⟨20, by decide, e⟩
          · exact .inr ⟨hr, h4, h5, h2, .inr ⟨h7, hv, e⟩⟩
theorem begun_right {p : Part} {targets : List Int} (hr : RightOf p) (ht : idsL targets = true) (hp : 0 < targets.length) (hv : p.version + 1 ≤ 1000000000) : RightOf (bump (beginB p targets)) := by
  have t := ids_iff.1 ht
  have r := ids_iff.1 hr.replicas
  have hin : ∀ x ∈ p.replicas, x ∈ targets ++ withoutL p.replicas targets := fun x hx => by
    rw [List.mem_append, mem_without]
    by_cases q : x ∈ targets
    · exact .inl q
    · exact .inr ⟨hx, q⟩
  refine ⟨hr.id, hr.min, hr.epoch, ?_, ?_, hr.isr, ids_without ht, ids_without hr.replicas, hr.pos, ?_, ?_, ?_, ?_, ?_, hr.leader⟩
  · have := hr.version; show 1 ≤ p.version + 1 ∧ p.version + 1 ≤ 1000000000; omega
  · refine ids_iff.2 ⟨List.nodup_append.2 ⟨t.1, r.1.filter _, fun a ha b hb e => ?_⟩, fun x hx => ?_⟩
    · subst e; exact (mem_without.1 hb).2 ha
    · rcases List.mem_append.1 hx with q | q
      · exact t.2 x q
      · exact r.2 x (mem_without.1 q).1
  · exact within_iff.2 fun x hx => hin x (within_iff.1 hr.isrIn x hx)
  · exact within_iff.2 fun x hx => List.mem_append.2 (.inl (mem_without.1 hx).1)
  · exact within_iff.2 fun x hx => List.mem_append.2 (.inr hx)
  · show (withL (withoutL targets p.replicas) (withoutL p.replicas targets)).length = 0
    rw [with_nil]; rfl
    intro x hx hy
    exact (mem_without.1 hx).2 (mem_without.1 hy).1
  · show (withoutL p.replicas targets).length < (targets ++ withoutL p.replicas targets).length
    simp; omega
end Go.Proofs.YtmofinghoacobaaGreatDoor
namespace Go.Proofs.YtmofinghoacobaaGreatDoor
open Go.HL
structure Good (p q : Part) (kind : Int) : Prop where
  right : RightOf q
  id : q.id = p.id
  min : q.min = p.min
  version : q.version = p.version + 1
  ep : (q.leader = p.leader ∧ q.epoch = p.epoch) ∨ (q.leader ≠ p.leader ∧ q.epoch = p.epoch + 1)
  lead : q.leader ≠ p.leader → q.leader ≠ 0 → q.leader ∈ p.isr ∧ q.leader ∈ q.isr
  keep : ∀ x ∈ p.replicas, x ∈ q.replicas ∨ (kind = 5 ∧ x ∈ p.adding) ∨ (kind = 6 ∧ ∀ y ∈ q.replicas, y ∈ q.isr)
theorem bump_right {p : Part} (h : RightOf p) (hv : p.version + 1 ≤ 1000000000) : RightOf (bump p) :=
  ⟨h.id, h.min, h.epoch, by have := h.version; show 1 ≤ p.version + 1 ∧ p.version + 1 ≤ 1000000000; omega, h.replicas, h.isr, h.adding, h.removing, h.pos, h.isrIn, h.addIn, h.remIn, h.apart, h.fewer, h.leader⟩
theorem led_right {p : Part} {n : Int} (h : RightOf p) (hn : n = 0 ∨ n ∈ p.isr) (he : (ledP p n).epoch ≤ 1000000000) : RightOf (ledP p n) := by
  unfold ledP at he ⊢
  split
  · exact h
  · rename_i e
    rw [if_neg e] at he
    have he : p.epoch + 1 ≤ 1000000000 := he
    exact ⟨h.id, h.min, by have := h.epoch; show 1 ≤ p.epoch + 1 ∧ p.epoch + 1 ≤ 1000000000; omega, h.version, h.replicas, h.isr, h.adding, h.removing, h.pos, h.isrIn, h.addIn, h.remIn, h.apart, h.fewer, hn⟩
theorem led_leader (p : Part) (n : Int) : (ledP p n).leader = n := by
  unfold ledP
  split
  · assumption
  · rfl
theorem led_ep (p : Part) (n : Int) : (n = p.leader ∧ (ledP p n).epoch = p.epoch) ∨ (n ≠ p.leader ∧ (ledP p n).epoch = p.epoch + 1) := by
  unfold ledP
  split
  · rename_i e; exact .inl ⟨e.symm, rfl⟩
  · rename_i e; exact .inr ⟨fun q => e q.symm, rfl⟩
theorem led_same (p : Part) (n : Int) : (ledP p n).id = p.id ∧ (ledP p n).min = p.min ∧ (ledP p n).version = p.version ∧ (ledP p n).isr = p.isr ∧ (ledP p n).replicas = p.replicas ∧ (ledP p n).adding = p.adding ∧ (ledP p n).removing = p.removing := by
  unfold ledP
  split <;> exact ⟨rfl, rfl, rfl, rfl, rfl, rfl, rfl⟩
theorem way_cases (l isr up : List Int) (but : Int) : wayL l isr up but = 0 ∨ (wayL l isr up but ∈ isr ∧ wayL l isr up but ∈ up ∧ wayL l isr up but ≠ but) := by
  unfold wayL
  cases h : (withL (withL l isr) up).find? fun x => decide (x ≠ but) with
  | none => exact .inl rfl
  | some a =>
    have h1 := List.mem_of_find?_eq_some h
    have h2 := List.find?_some h
    exact .inr ⟨(mem_with.1 (mem_with.1 h1).1).2, (mem_with.1 h1).2, of_decide_eq_true h2⟩
def Step (p : Part) (kind : Int) (a : Part × Int) : Prop := (a.2 ≠ 0 ∧ a.1 = zeroPart) ∨ (a.2 = 0 ∧ (a.1 = p ∨ Good p a.1 kind))
theorem Step.err {p : Part} {kind c : Int} (h : c ≠ 0) : Step p kind (zeroPart, c) := .inl ⟨h, rfl⟩
theorem Step.changed {p b : Part} {kind : Int} (hr : b.epoch ≤ 1000000000 → RightOf b) (h1 : b.id = p.id) (h2 : b.min = p.min) (h3 : b.version = p.version)
    (h4 : (b.leader = p.leader ∧ b.epoch = p.epoch) ∨ (b.leader ≠ p.leader ∧ b.epoch = p.epoch + 1)) (h5 : b.leader ≠ p.leader → b.leader ≠ 0 → b.leader ∈ p.isr ∧ b.leader ∈ b.isr)
    (h6 : ∀ x ∈ p.replicas, x ∈ b.replicas ∨ (kind = 5 ∧ x ∈ p.adding) ∨ (kind = 6 ∧ ∀ y ∈ b.replicas, y ∈ b.isr)) : Step p kind (changedP b) := by
  rcases changed_cases b with ⟨e, -⟩ | ⟨e, hv, he⟩
  · rw [e]; exact Step.err (by decide)
  · rw [e]; exact .inr ⟨rfl, .inr ⟨bump_right (hr he) hv, h1, h2, by show b.version + 1 = _; rw [h3], h4, h5, h6⟩⟩
theorem elect_step {p : Part} {leader kind : Int} (hr : RightOf p) : Step p kind (electP p leader) := by
  unfold electP
  split
  · exact Step.err (by decide)
  · split
    · exact Step.err (by decide)
    · rename_i h2
      have h2 : leader = 0 ∨ leader ∈ p.isr := by
        simp at h2
        by_cases h : leader = 0
        · exact .inl h
        · exact .inr (h2 h)
      split
      · exact .inr ⟨rfl, .inl rfl⟩
      · obtain ⟨e1, e2, e3, e4, e5, e6, e7⟩ := led_same p leader
        have el := led_leader p leader
        refine Step.changed (fun he => led_right hr h2 he) e1 e2 e3 (by rw [el]; exact led_ep p leader) (fun _ h0 => ?_) (fun x hx => .inl (by rw [e5]; exact hx))
        rw [el] at h0 ⊢
        have := h2.resolve_left h0
        exact ⟨this, by rw [e4]; exact this⟩
theorem back_step {p : Part} {id kind : Int} (hr : RightOf p) : Step p kind (backP p id) := by
  unfold backP
  split
  · exact Step.err (by decide)
  · split
    · exact Step.err (by decide)
    · split
      · exact .inr ⟨rfl, .inl rfl⟩
      · split
        · exact .inr ⟨rfl, .inl rfl⟩
        · rename_i h4
          have h4 : id ∈ p.isr := by simpa using h4
          obtain ⟨e1, e2, e3, e4, e5, e6, e7⟩ := led_same p id
          have el := led_leader p id
          refine Step.changed (fun he => led_right hr (.inr h4) he) e1 e2 e3 (by rw [el]; exact led_ep p id) (fun _ h0 => ?_) (fun x hx => .inl (by rw [e5]; exact hx))
          rw [el]
          exact ⟨h4, by rw [e4]; exact h4⟩
def fenceOut (p : Part) (id : Int) : Part := if (decide (id ∈ p.isr) && decide (1 < p.isr.length)) = true then { p with isr := withoutL p.isr [id] } else p
def fenceB (p : Part) (id : Int) (up : List Int) : Part := if (p.leader == id) = true then ledP (fenceOut p id) (wayL p.replicas (fenceOut p id).isr up id) else fenceOut p id
theorem fence_isr (p : Part) (id : Int) : (fenceOut p id).isr = if (decide (id ∈ p.isr) && decide (1 < p.isr.length)) = true then withoutL p.isr [id] else p.isr := by
  unfold fenceOut; split <;> rfl
theorem fence_eq (p : Part) (id : Int) (up : List Int) : fenceP p id up = if (!rightB p) = true then (zeroPart, 1) else if (!decide (1 ≤ id ∧ id ≤ 7)) = true then (zeroPart, 1) else
    if (!(decide (id ∈ p.isr) && decide (1 < p.isr.length)) && p.leader != id) = true then (p, 0) else changedP (fenceB p id up) := by
  unfold fenceP fenceB
  rw [fence_isr]
  rfl
theorem out_same (p : Part) (id : Int) : (fenceOut p id).id = p.id ∧ (fenceOut p id).min = p.min ∧ (fenceOut p id).version = p.version ∧ (fenceOut p id).epoch = p.epoch ∧ (fenceOut p id).leader = p.leader ∧ (fenceOut p id).replicas = p.replicas ∧ (fenceOut p id).adding = p.adding ∧ (fenceOut p id).removing = p.removing := by
  unfold fenceOut
  split <;> exact ⟨rfl, rfl, rfl, rfl, rfl, rfl, rfl, rfl⟩
theorem out_sub {p : Part} {id x : Int} (h : x ∈ (fenceOut p id).isr) : x ∈ p.isr := by
  rw [fence_isr] at h
  split at h
  · exact (mem_without.1 h).1
  · exact h
theorem out_keep {p : Part} {id x : Int} (h : x ∈ p.isr) (hx : x ≠ id) : x ∈ (fenceOut p id).isr := by
  rw [fence_isr]
  split
  · exact mem_without.2 ⟨h, by simpa using hx⟩
  · exact h
theorem out_ids {p : Part} (hr : RightOf p) (id : Int) : idsL (fenceOut p id).isr = true := by
  rw [fence_isr]
  split
  · exact ids_without hr.isr
  · exact hr.isr
theorem out_pos {p : Part} (hr : RightOf p) (id : Int) : 0 < (fenceOut p id).isr.length := by
  rw [fence_isr]
  split
  · rename_i h
    simp only [Bool.and_eq_true, decide_eq_true_eq] at h
    rcases Nat.eq_zero_or_pos (withoutL p.isr [id]).length with h0 | h0
    · have h1 := List.length_eq_zero_iff.1 h0
      have h2 : p.isr.length ≤ [id].length := length_le_of_nodup [id] (ids_iff.1 hr.isr).1 fun x hx => by
        by_cases e : x ∈ [id]
        · exact e
        · have := mem_without.2 ⟨hx, e⟩
          rw [h1] at this; simp at this
      simp at h2; omega
    · exact h0
  · exact hr.pos
theorem out_right {p : Part} (hr : RightOf p) {id n : Int} (e : Int) (he : 1 ≤ e ∧ e ≤ 1000000000) (hn : n = 0 ∨ n ∈ (fenceOut p id).isr) : RightOf { fenceOut p id with leader := n, epoch := e } := by
  obtain ⟨e1, e2, e3, e4, e5, e6, e7, e8⟩ := out_same p id
  refine ⟨by show 1 ≤ (fenceOut p id).id ∧ _; rw [e1]; exact hr.id, by show 1 ≤ (fenceOut p id).min ∧ _; rw [e2]; exact hr.min, he, by show 1 ≤ (fenceOut p id).version ∧ _; rw [e3]; exact hr.version, by show idsL (fenceOut p id).replicas = true; rw [e6]; exact hr.replicas, out_ids hr id,
    by show idsL (fenceOut p id).adding = true; rw [e7]; exact hr.adding, by show idsL (fenceOut p id).removing = true; rw [e8]; exact hr.removing, out_pos hr id, within_iff.2 fun x hx => ?_, ?_, ?_, ?_, ?_, hn⟩
  · show x ∈ (fenceOut p id).replicas
    rw [e6]; exact within_iff.1 hr.isrIn x (out_sub hx)
  · show withinL (fenceOut p id).adding (fenceOut p id).replicas = true; rw [e6, e7]; exact hr.addIn
  · show withinL (fenceOut p id).removing (fenceOut p id).replicas = true; rw [e6, e8]; exact hr.remIn
  · show (withL (fenceOut p id).adding (fenceOut p id).removing).length = 0; rw [e7, e8]; exact hr.apart
  · show (fenceOut p id).removing.length < (fenceOut p id).replicas.length; rw [e6, e8]; exact hr.fewer
theorem fenceB_right {p : Part} (hr : RightOf p) {id : Int} {up : List Int} (he : (fenceB p id up).epoch ≤ 1000000000) : RightOf (fenceB p id up) := by
  obtain ⟨e1, e2, e3, e4, e5, e6, e7, e8⟩ := out_same p id
  unfold fenceB at he ⊢
  have hbase : p.leader ≠ id → RightOf (fenceOut p id) := fun hne => by
    have := out_right hr (id := id) (n := p.leader) p.epoch hr.epoch (by
      rcases hr.leader with h | h
      · exact .inl h
      · exact .inr (out_keep h hne))
    rw [← e5, ← e4] at this
    exact this
  split
  · rename_i h
    have h : p.leader = id := by simpa using h
    rw [if_pos (by simpa using h)] at he
    unfold ledP at he ⊢
    have hw := way_cases p.replicas (fenceOut p id).isr up id
    split
    · rename_i hl
      rw [if_pos hl] at he
      have := out_right hr (id := id) (n := (fenceOut p id).leader) (fenceOut p id).epoch (by rw [e4]; exact hr.epoch) (by
        rw [hl]
        rcases hw with q | q
        · exact .inl q
        · exact .inr q.1)
      exact this
    · rename_i hl
      rw [if_neg hl] at he
      have he : (fenceOut p id).epoch + 1 ≤ 1000000000 := he
      exact out_right hr (id := id) ((fenceOut p id).epoch + 1) (by rw [e4] at he ⊢; have := hr.epoch; omega) (by
        rcases hw with q | q
        · exact .inl q
        · exact .inr q.1)
  · rename_i h
    exact hbase (by simpa using h)
theorem fence_step {p : Part} {id kind : Int} {up : List Int} (hr : RightOf p) : Step p kind (fenceP p id up) := by
  rw [fence_eq]
  split
  · exact Step.err (by decide)
  · split
    · exact Step.err (by decide)
    · split
      · exact .inr ⟨rfl, .inl rfl⟩
      · obtain ⟨e1, e2, e3, e4, e5, e6, e7, e8⟩ := out_same p id
        by_cases h : p.leader = id
        · have hb : fenceB p id up = ledP (fenceOut p id) (wayL p.replicas (fenceOut p id).isr up id) := by unfold fenceB; rw [if_pos (by simpa using h)]
          obtain ⟨f1, f2, f3, f4, f5, f6, f7⟩ := led_same (fenceOut p id) (wayL p.replicas (fenceOut p id).isr up id)
          have fl := led_leader (fenceOut p id) (wayL p.replicas (fenceOut p id).isr up id)
          have fe := led_ep (fenceOut p id) (wayL p.replicas (fenceOut p id).isr up id)
          refine Step.changed (fun he => fenceB_right hr he) (by rw [hb, f1, e1]) (by rw [hb, f2, e2]) (by rw [hb, f3, e3]) ?_ (fun _ h0 => ?_) (fun x hx => .inl (by rw [hb, f5, e6]; exact hx))
          · rw [hb, fl]
            rw [e5, e4] at fe
            exact fe
          · rw [hb, fl] at h0 ⊢
            have hw := (way_cases p.replicas (fenceOut p id).isr up id).resolve_left h0
            exact ⟨out_sub hw.1, by rw [f4]; exact hw.1⟩
        · have hb : fenceB p id up = fenceOut p id := by unfold fenceB; rw [if_neg (by simpa using h)]
          exact Step.changed (fun he => fenceB_right hr he) (by rw [hb, e1]) (by rw [hb, e2]) (by rw [hb, e3]) (.inl ⟨by rw [hb, e5], by rw [hb, e4]⟩) (fun h0 => absurd (by rw [hb, e5]) h0) (fun x hx => .inl (by rw [hb, e6]; exact hx))
theorem alter_step {p : Part} {leader epoch version kind : Int} {isr up : List Int} (hr : RightOf p) : Step p kind (alterP p leader epoch version isr up) := by
  unfold alterP
  split
  · exact Step.err (by decide)
  split
  · exact Step.err (by decide)
  split
  · exact Step.err (by decide)
  split
  · exact Step.err (by decide)
  rename_i h4
  split
  · exact Step.err (by decide)
  split
  · exact Step.err (by decide)
  rename_i h6
  split
  · exact Step.err (by decide)
  rename_i h7
  split
  · exact Step.err (by decide)
  have h4 : leader ≠ 0 ∧ leader = p.leader := by simpa using h4
  have h6 : leader ∈ isr := by simpa using h6
  have h7 := within_iff.1 (show withinL isr p.replicas = true by simpa using h7)
  have hm : p.leader ∈ withL p.replicas isr := mem_with.2 ⟨h4.2 ▸ h7 _ h6, h4.2 ▸ h6⟩
  refine Step.changed (fun _ => ⟨hr.id, hr.min, hr.epoch, hr.version, hr.replicas, ids_with hr.replicas, hr.adding, hr.removing, ?_, within_iff.2 fun x hx => (mem_with.1 hx).1, hr.addIn, hr.remIn, hr.apart, hr.fewer, .inr hm⟩) rfl rfl rfl (.inl ⟨rfl, rfl⟩) (fun h => absurd rfl h) (fun x hx => .inl hx)
  exact List.length_pos_of_mem hm
theorem begin_step {p : Part} {targets up : List Int} {kind : Int} : Step p kind (beginP p targets up) := by
  rcases begin_cases (p := p) (targets := targets) (up := up) with ⟨c, hc, e⟩ | ⟨hr, ht, hp, -, ⟨-, e⟩ | ⟨-, hv, e⟩⟩
  · rw [e]; exact Step.err hc
  · rw [e]; exact .inr ⟨rfl, .inl rfl⟩
  · rw [e]
    refine .inr ⟨rfl, .inr ⟨begun_right hr ht hp hv, rfl, rfl, rfl, .inl ⟨rfl, rfl⟩, fun h => absurd rfl h, fun x hx => .inl ?_⟩⟩
    show x ∈ targets ++ withoutL p.replicas targets
    rw [List.mem_append, mem_without]
    by_cases q : x ∈ targets
    · exact .inl q
    · exact .inr ⟨hx, q⟩
end Go.Proofs.YtmofinghoacobaaGreatDoor
namespace Go.Proofs.YtmofinghoacobaaGreatDoor
open Go.HL
theorem finish_step {p : Part} {up : List Int} (hr : RightOf p) : Step p 6 (finishP p up) := by
  unfold finishP
  split
  · exact Step.err (by decide)
  split
  · exact Step.err (by decide)
  split
  · exact Step.err (by decide)
  rename_i h3
  have h3 := within_iff.1 (show withinL (withoutL p.replicas p.removing) p.isr = true by simpa using h3)
  have hpos : 0 < (withoutL p.replicas p.removing).length := by
    rcases Nat.eq_zero_or_pos (withoutL p.replicas p.removing).length with h0 | h0
    · have h1 := List.length_eq_zero_iff.1 h0
      have h2 : p.replicas.length ≤ p.removing.length := length_le_of_nodup _ (ids_iff.1 hr.replicas).1 fun x hx => by
        by_cases e : x ∈ p.removing
        · exact e
        · have := mem_without.2 ⟨hx, e⟩
          rw [h1] at this; simp at this
      have := hr.fewer; omega
    · exact h0
  obtain ⟨a, ha⟩ := List.exists_mem_of_length_pos hpos
  have hai : a ∈ withL p.isr (withoutL p.replicas p.removing) := mem_with.2 ⟨h3 a ha, ha⟩
  have base : ∀ (n e : Int), 1 ≤ e ∧ e ≤ 1000000000 → (n = 0 ∨ n ∈ withL p.isr (withoutL p.replicas p.removing)) →
      RightOf ⟨p.id, n, e, p.version, withL p.isr (withoutL p.replicas p.removing), withoutL p.replicas p.removing, [], [], p.min⟩ := fun n e he hn =>
    ⟨hr.id, hr.min, he, hr.version, ids_without hr.replicas, ids_with hr.isr, by rfl, by rfl, List.length_pos_of_mem hai, within_iff.2 fun x hx => (mem_with.1 hx).2, within_iff.2 fun x hx => absurd hx (by simp), within_iff.2 fun x hx => absurd hx (by simp), rfl, hpos, hn⟩
  have keep : ∀ (q : Part), q.replicas = withoutL p.replicas p.removing → q.isr = withL p.isr (withoutL p.replicas p.removing) → ∀ x ∈ p.replicas, x ∈ q.replicas ∨ ((6 : Int) = 5 ∧ x ∈ p.adding) ∨ ((6 : Int) = 6 ∧ ∀ y ∈ q.replicas, y ∈ q.isr) := fun q e1 e2 x hx =>
    .inr (.inr ⟨rfl, fun y hy => by rw [e1] at hy; rw [e2]; exact mem_with.2 ⟨h3 y hy, hy⟩⟩)
  unfold finishB
  split
  · rename_i h4
    have h4 : ¬ p.leader = 0 ∧ ¬ p.leader ∈ withoutL p.replicas p.removing := by simpa using h4
    have hw := way_cases (withoutL p.replicas p.removing) (withL p.isr (withoutL p.replicas p.removing)) up 0
    have hne : ¬ p.leader = wayL (withoutL p.replicas p.removing) (withL p.isr (withoutL p.replicas p.removing)) up 0 := fun e => by
      rcases hw with q | q
      · exact h4.1 (e.trans q)
      · rw [← e] at q; exact h4.2 (mem_with.1 q.1).2
    have hw : _ = (0 : Int) ∨ _ ∈ withL p.isr (withoutL p.replicas p.removing) := hw.imp_right And.left
    unfold ledP
    rw [if_neg hne]
    refine Step.changed (fun he => ?_) rfl rfl rfl (.inr ⟨fun e => hne e.symm, rfl⟩) (fun _ h0 => ?_) (keep _ rfl rfl)
    · have he : p.epoch + 1 ≤ 1000000000 := he
      exact base _ _ (by have := hr.epoch; show 1 ≤ p.epoch + 1 ∧ p.epoch + 1 ≤ 1000000000; omega) hw
    · have := hw.resolve_left h0
      exact ⟨(mem_with.1 this).1, this⟩
  · rename_i h4
    have h4 : p.leader = 0 ∨ p.leader ∈ withL p.isr (withoutL p.replicas p.removing) := by
      rcases hr.leader with e | e
      · exact .inl e
      · by_cases e0 : p.leader = 0
        · exact .inl e0
        · refine .inr (mem_with.2 ⟨e, ?_⟩)
          simp at h4
          exact h4 e0
    exact Step.changed (fun _ => base _ _ hr.epoch h4) rfl rfl rfl (.inl ⟨rfl, rfl⟩) (fun h => absurd rfl h) (keep _ rfl rfl)
theorem cancel_step {p : Part} {up : List Int} (hr : RightOf p) : Step p 5 (cancelP p up) := by
  unfold cancelP
  split
  · exact Step.err (by decide)
  split
  · exact Step.err (by decide)
  split
  · exact Step.err (by decide)
  rename_i h3
  obtain ⟨a, ha⟩ : ∃ a, a ∈ withoutL p.isr p.adding := by
    rcases Nat.eq_zero_or_pos (withoutL p.isr p.adding).length with h0 | h0
    · have h1 := List.length_eq_zero_iff.1 h0
      refine absurd (within_iff.2 fun x hx => ?_) h3
      by_cases e : x ∈ p.adding
      · exact e
      · have := mem_without.2 ⟨hx, e⟩
        rw [h1] at this; simp at this
    · exact List.exists_mem_of_length_pos h0
  have sub : ∀ x ∈ withoutL p.isr p.adding, x ∈ withoutL p.replicas p.adding := fun x hx => mem_without.2 ⟨within_iff.1 hr.isrIn x (mem_without.1 hx).1, (mem_without.1 hx).2⟩
  have base : ∀ (n e : Int), 1 ≤ e ∧ e ≤ 1000000000 → (n = 0 ∨ n ∈ withoutL p.isr p.adding) →
      RightOf ⟨p.id, n, e, p.version, withoutL p.isr p.adding, withoutL p.replicas p.adding, [], [], p.min⟩ := fun n e he hn =>
    ⟨hr.id, hr.min, he, hr.version, ids_without hr.replicas, ids_without hr.isr, by rfl, by rfl, List.length_pos_of_mem ha, within_iff.2 sub, within_iff.2 fun x hx => absurd hx (by simp), within_iff.2 fun x hx => absurd hx (by simp), rfl, List.length_pos_of_mem (sub a ha), hn⟩
  have keep : ∀ (q : Part), q.replicas = withoutL p.replicas p.adding → ∀ x ∈ p.replicas, x ∈ q.replicas ∨ ((5 : Int) = 5 ∧ x ∈ p.adding) ∨ ((5 : Int) = 6 ∧ ∀ y ∈ q.replicas, y ∈ q.isr) := fun q e1 x hx => by
    by_cases e : x ∈ p.adding
    · exact .inr (.inl ⟨rfl, e⟩)
    · exact .inl (by rw [e1]; exact mem_without.2 ⟨hx, e⟩)
  unfold cancelB
  split
  · rename_i h4
    have hw := way_cases (withoutL p.replicas p.adding) (withoutL p.isr p.adding) up 0
    have ad := (ids_iff.1 hr.adding).2 _ h4
    have hne : ¬ p.leader = wayL (withoutL p.replicas p.adding) (withoutL p.isr p.adding) up 0 := fun e => by
      rcases hw with q | q
      · rw [← e] at q; omega
      · rw [← e] at q; exact (mem_without.1 q.1).2 h4
    have hw : _ = (0 : Int) ∨ _ ∈ withoutL p.isr p.adding := hw.imp_right And.left
    unfold ledP
    rw [if_neg hne]
    refine Step.changed (fun he => ?_) rfl rfl rfl (.inr ⟨fun e => hne e.symm, rfl⟩) (fun _ h0 => ?_) (keep _ rfl)
    · have he : p.epoch + 1 ≤ 1000000000 := he
      exact base _ _ (by have := hr.epoch; show 1 ≤ p.epoch + 1 ∧ p.epoch + 1 ≤ 1000000000; omega) hw
    · have := hw.resolve_left h0
      exact ⟨(mem_without.1 this).1, this⟩
  · rename_i h4
    have h4 : p.leader = 0 ∨ p.leader ∈ withoutL p.isr p.adding := hr.leader.imp_right fun e => mem_without.2 ⟨e, h4⟩
    exact Step.changed (fun _ => base _ _ hr.epoch h4) rfl rfl rfl (.inl ⟨rfl, rfl⟩) (fun h => absurd rfl h) (keep _ rfl)
theorem fenceB_facts (p : Part) (id : Int) (up : List Int) : (fenceB p id up).isr = (fenceOut p id).isr ∧ (fenceB p id up).version = p.version ∧ (fenceB p id up).epoch ≤ p.epoch + 1 ∧
    (fenceB p id up).leader = if p.leader = id then wayL p.replicas (fenceOut p id).isr up id else p.leader := by
  obtain ⟨e1, e2, e3, e4, e5, e6, e7, e8⟩ := out_same p id
  unfold fenceB
  by_cases h : p.leader = id
  · rw [if_pos (by simpa using h), if_pos h]
    obtain ⟨f1, f2, f3, f4, f5, f6, f7⟩ := led_same (fenceOut p id) (wayL p.replicas (fenceOut p id).isr up id)
    have fe := led_ep (fenceOut p id) (wayL p.replicas (fenceOut p id).isr up id)
    exact ⟨f4, by rw [f3, e3], by rw [e4] at fe; omega, led_leader _ _⟩
  · rw [if_neg (by simpa using h), if_neg h]
    exact ⟨rfl, e3, by rw [e4]; omega, e5⟩
end Go.Proofs.YtmofinghoacobaaGreatDoor
namespace Go.Proofs.YtmofinghoacobaaGreatDoor
open Go Go.HL
def ltI (a b : Int) : Bool := decide (a < b)
theorem ltI_ok : LtOK ltI where
  irr a := by unfold ltI; simp
  trans a b c h1 h2 := by
    unfold ltI at *
    have h1 := of_decide_eq_true h1
    have h2 := of_decide_eq_true h2
    exact decide_eq_true (by omega)
  tri a b h := by
    unfold ltI
    by_cases h2 : a < b
    · exact .inl (decide_eq_true h2)
    · exact .inr (decide_eq_true (by omega))
structure Im where
  app : Int
  brk : List (Int × (Int × Bool))
  top : List (ByteArray × Int × Int)
  prt : List Part
  prd : List Int
structure Mt where
  kind : Int
  a : Int
  b : Int
  c : Int
  d : Int
  name : ByteArray
  text : ByteArray
  list : List Int
def newI : Im := ⟨0, [], [], [], []⟩
def upL (B : List (Int × (Int × Bool))) : List Int := (B.filter fun x => x.2.2).map Prod.fst
def brkOf (B : List (Int × (Int × Bool))) (id : Int) : Int × Bool := (lookL B id).getD (0, false)
def eachP (f : Part → Part × Int) (l : List Part) : List Part := l.map fun p => if (f p).2 = 0 then (f p).1 else p
def fencingB (I : Im) (id : Int) : List (Int × (Int × Bool)) := insL ltI I.brk id ((brkOf I.brk id).1, false)
def fencingI (I : Im) (id : Int) : Im := { I with brk := fencingB I id, prt := eachP (fun p => fenceP p id (upL (fencingB I id))) I.prt }
def regI (I : Im) (a : Int) : Im := if (brkOf I.brk a).2 = true then fencingI I a else I
def registerI (I : Im) (a b : Int) : Im × Int × Int :=
  if a < 1 ∨ a > 7 ∨ b < 1 ∨ b > 1000000000 then (I, 0, 1)
  else if b ≤ (brkOf I.brk a).1 then (I, 0, 13)
  else ({ regI I a with brk := insL ltI (regI I a).brk a (b, false) }, a, 0)
def turnI (I : Im) (a b : Int) (up : Bool) : Im × Int × Int :=
  if a < 1 ∨ a > 7 then (I, 0, 1)
  else if lookL I.brk a = none then (I, 0, 8)
  else if (brkOf I.brk a).1 ≠ b then (I, 0, 13)
  else if (brkOf I.brk a).2 = up then (I, 0, 19)
  else if up = false then (fencingI I a, a, 0)
  else ({ I with brk := insL ltI I.brk a ((brkOf I.brk a).1, true), prt := eachP (fun p => backP p a) I.prt }, a, 0)
def tCut : List UInt8 := [97, 98, 99, 100, 101, 102, 103, 104, 105, 106, 107, 108, 109, 110, 111, 112, 113, 114, 115, 116, 117, 118, 119, 120, 121, 122, 48, 49, 50, 51, 52, 53, 54, 55, 56, 57, 45]
def tNamed (s : ByteArray) : Bool := decide (s.size ≠ 0) && decide (s.size ≤ 32) && s.data.toList.all fun b => tCut.contains b
def repl (up : List Int) (n : Nat) (k : Nat) : List Int := (List.range n).map fun i => up.getD ((k + i) % up.length) 0
def newPart (up : List Int) (first n c : Int) (k : Nat) : Part := ⟨first + k, (repl up n.toNat k).headD 0, 1, 1, repl up n.toNat k, repl up n.toNat k, [], [], c⟩
def topicI (I : Im) (name : ByteArray) (a b c : Int) : Im × Int × Int :=
  if tNamed name = false ∨ a < 1 ∨ a > 16 ∨ b < 1 ∨ b > 5 ∨ c < 1 ∨ c > b then (I, 0, 1)
  else if (I.top.any fun t => decide (t.1 = name)) = true then (I, 0, 9)
  else if (I.prt.length : Int) + a > 16 ∨ ((upL I.brk).length : Int) < b then (I, 0, 3)
  else ({ I with prt := I.prt ++ (List.range a.toNat).map (newPart (upL I.brk) (I.prt.length + 1) b c), top := I.top ++ [(name, (I.prt.length : Int) + 1, a)] }, (I.prt.length : Int) + 1, 0)
def preferP (p : Part) (up : List Int) : Part × Int := if p.replicas.headD 0 ∈ up then electP p (p.replicas.headD 0) else (zeroPart, 19)
def doP (p : Part) (r : Mt) (up : List Int) : Part × Int :=
  if r.kind = 5 then alterP p r.b r.c r.d r.list up
  else if r.kind = 6 then beginP p r.list up
  else if r.kind = 7 then cancelP p up
  else if r.kind = 10 then finishP p up
  else preferP p up
def partI (I : Im) (r : Mt) : Im × Int × Int :=
  match (if r.a < 1 then none else I.prt[(r.a - 1).toNat]?) with
  | none => (I, 0, 8)
  | some p => if (doP p r (upL I.brk)).2 = 0 then ({ I with prt := I.prt.set (r.a - 1).toNat (doP p r (upL I.brk)).1 }, (doP p r (upL I.brk)).1.version, 0) else (I, 0, (doP p r (upL I.brk)).2)
def pidI (I : Im) (a : Int) : Im × Int × Int :=
  if a < 0 then (I, 0, 1)
  else if a > I.prd.length then (I, 0, 8)
  else if a = 0 then if I.prd.length ≥ 1000 then (I, 0, 3) else ({ I with prd := I.prd ++ [0] }, (I.prd.length : Int) + 1, 0)
  else if I.prd.getD (a - 1).toNat 0 ≥ 1000000000 then (I, 0, 20)
  else ({ I with prd := I.prd.set (a - 1).toNat (I.prd.getD (a - 1).toNat 0 + 1) }, I.prd.getD (a - 1).toNat 0 + 1, 0)
def bodyI (I : Im) (r : Mt) : Im × Int × Int :=
  if r.kind = 1 then registerI I r.a r.b
  else if r.kind = 2 ∨ r.kind = 3 then turnI I r.a r.b (decide (r.kind = 3))
  else if r.kind = 4 then topicI I r.name r.a r.b r.c
  else if r.kind = 5 ∨ r.kind = 6 ∨ r.kind = 7 ∨ r.kind = 9 ∨ r.kind = 10 then partI I r
  else if r.kind = 8 then pidI I r.a
  else (I, 0, 1)
def applyI (I : Im) (r : Mt) : Im × Int × Int := bodyI { I with app := I.app + 1 } r
structure ImOk (I : Im) : Prop where
  sorted : SortedL ltI I.brk
  ids : ∀ x ∈ I.brk, 1 ≤ x.1 ∧ x.1 ≤ 7 ∧ 1 ≤ x.2.1 ∧ x.2.1 ≤ 1000000000
  right : ∀ p ∈ I.prt, RightOf p
  parts : I.prt.length ≤ 16
  tops : I.top.length ≤ 16
  topv : ∀ t ∈ I.top, tNamed t.1 = true ∧ 1 ≤ t.2.1 ∧ t.2.1 ≤ 16 ∧ 1 ≤ t.2.2 ∧ t.2.2 ≤ 16
  prds : I.prd.length ≤ 1000
  prd : ∀ e ∈ I.prd, 0 ≤ e ∧ e ≤ 1000000000
theorem newI_ok : ImOk newI := ⟨List.Pairwise.nil, by simp [newI], by simp [newI], by simp [newI], by simp [newI], by simp [newI], by simp [newI], by simp [newI]⟩
end Go.Proofs.YtmofinghoacobaaGreatDoor
namespace Go.Proofs.YtmofinghoacobaaGreatDoor
open Go Go.HL
def LedOk (up : List Int) (p : Part) : Prop := p.leader = 0 ∨ p.leader ∈ up
theorem changed_leader {b : Part} (h : (changedP b).2 = 0) : (changedP b).1.leader = b.leader := by
  rcases changed_cases b with ⟨e, -⟩ | ⟨e, -⟩
  · rw [e] at h; exact absurd h (by decide)
  · rw [e]; rfl
theorem changed_replicas {b : Part} (h : (changedP b).2 = 0) : (changedP b).1.replicas = b.replicas := by
  rcases changed_cases b with ⟨e, -⟩ | ⟨e, -⟩
  · rw [e] at h; exact absurd h (by decide)
  · rw [e]; rfl
theorem elect_leader {p : Part} {n : Int} : (electP p n).2 = 0 → (electP p n).1.leader = n := by
  unfold electP
  split
  · exact fun h => absurd h (by decide)
  split
  · exact fun h => absurd h (by decide)
  split
  · rename_i h; intro _; exact (by simpa using h : n = p.leader).symm
  · intro h; rw [changed_leader h]; exact led_leader p n
theorem back_leader {p : Part} {n : Int} : (backP p n).2 = 0 → (backP p n).1.leader = p.leader ∨ (backP p n).1.leader = n := by
  unfold backP
  split
  · exact fun h => absurd h (by decide)
  split
  · exact fun h => absurd h (by decide)
  split
  · exact fun _ => .inl rfl
  split
  · exact fun _ => .inl rfl
  · intro h; rw [changed_leader h]; exact .inr (led_leader p n)
theorem fence_leader {p : Part} {id : Int} {up : List Int} : (fenceP p id up).2 = 0 → LedOk up (fenceP p id up).1 ∨ ((fenceP p id up).1.leader = p.leader ∧ p.leader ≠ id) := by
  rw [fence_eq]
  split
  · exact fun h => absurd h (by decide)
  split
  · exact fun h => absurd h (by decide)
  split
  · rename_i h
    intro _
    refine .inr ⟨rfl, ?_⟩
    have := (Bool.and_eq_true _ _).mp h
    simpa using this.2
  · intro h
    rw [changed_leader h]
    by_cases e : p.leader = id
    · have hb : fenceB p id up = ledP (fenceOut p id) (wayL p.replicas (fenceOut p id).isr up id) := by unfold fenceB; rw [if_pos (by simpa using e)]
      have hl : (changedP (fenceB p id up)).1.leader = wayL p.replicas (fenceOut p id).isr up id := by rw [changed_leader h, hb, led_leader]
      left
      unfold LedOk
      rw [hl]
      exact (way_cases p.replicas (fenceOut p id).isr up id).imp_right fun q => q.2.1
    · have hb : fenceB p id up = fenceOut p id := by unfold fenceB; rw [if_neg (by simpa using e)]
      right
      rw [hb]
      exact ⟨(out_same p id).2.2.2.2.1, e⟩
theorem alter_leader {p : Part} {leader epoch version : Int} {isr up : List Int} : (alterP p leader epoch version isr up).2 = 0 → (alterP p leader epoch version isr up).1.leader = p.leader := by
  unfold alterP
  repeat' split
  all_goals first | exact fun h => absurd h (by decide) | (intro h; rw [changed_leader h])
theorem begin_leader {p : Part} {targets up : List Int} : (beginP p targets up).2 = 0 → (beginP p targets up).1.leader = p.leader := by
  unfold beginP
  repeat' split
  all_goals first | exact fun h => absurd h (by decide) | exact fun _ => rfl | (intro h; rw [changed_leader h]; rfl)
theorem led_way {p : Part} {l isr up : List Int} {but : Int} : LedOk up (ledP p (wayL l isr up but)) := by
  unfold LedOk
  rw [led_leader]
  exact (way_cases l isr up but).imp_right fun q => q.2.1
theorem finishB_leader {p : Part} {up : List Int} : LedOk up (finishB p up) ∨ (finishB p up).leader = p.leader := by
  unfold finishB
  split
  · exact .inl led_way
  · exact .inr rfl
theorem finish_leader {p : Part} {up : List Int} : (finishP p up).2 = 0 → LedOk up (finishP p up).1 ∨ (finishP p up).1.leader = p.leader := by
  unfold finishP
  repeat' split
  all_goals first | exact fun h => absurd h (by decide) | (intro h; unfold LedOk; rw [changed_leader h]; exact finishB_leader)
theorem cancelB_leader {p : Part} {up : List Int} : LedOk up (cancelB p up) ∨ (cancelB p up).leader = p.leader := by
  unfold cancelB
  split
  · exact .inl led_way
  · exact .inr rfl
theorem cancel_leader {p : Part} {up : List Int} : (cancelP p up).2 = 0 → LedOk up (cancelP p up).1 ∨ (cancelP p up).1.leader = p.leader := by
  unfold cancelP
  repeat' split
  all_goals first | exact fun h => absurd h (by decide) | (intro h; unfold LedOk; rw [changed_leader h]; exact cancelB_leader)
theorem finish_done {p : Part} {up : List Int} : (finishP p up).2 = 0 → ∀ y ∈ (finishP p up).1.replicas, y ∈ p.isr := by
  unfold finishP
  split
  · exact fun h => absurd h (by decide)
  split
  · exact fun h => absurd h (by decide)
  split
  · exact fun h => absurd h (by decide)
  · rename_i h3
    intro h y hy
    rw [changed_replicas h] at hy
    have e : (finishB p up).replicas = withoutL p.replicas p.removing := by
      unfold finishB
      split
      · exact (led_same _ _).2.2.2.2.1
      · rfl
    rw [e] at hy
    exact within_iff.1 (by simpa using h3) y hy
theorem fence_ok {p : Part} {id : Int} {up : List Int} (hr : RightOf p) (hi : 1 ≤ id ∧ id ≤ 7) (hv : p.version + 1 ≤ 1000000000) (he : p.epoch + 1 ≤ 1000000000) : (fenceP p id up).2 = 0 := by
  rw [fence_eq, right_iff.2 hr]
  rw [if_neg (by decide), if_neg (by simpa using hi)]
  split
  · rfl
  · obtain ⟨-, f2, f3, -⟩ := fenceB_facts p id up
    rw [changed_ok ⟨by rw [f2]; exact hv, by omega⟩]
structure Rise (p q : Part) (kind : Int) : Prop where
  id : q.id = p.id
  version : q.version = p.version ∨ q.version = p.version + 1
  ep : (q.leader = p.leader ∧ q.epoch = p.epoch) ∨ (q.leader ≠ p.leader ∧ q.epoch = p.epoch + 1)
  lead : q.leader ≠ p.leader → q.leader ≠ 0 → q.leader ∈ p.isr
  keep : ∀ x ∈ p.replicas, x ∈ q.replicas ∨ kind = 10 ∨ (kind = 7 ∧ x ∈ p.adding)
  done : kind = 10 → q.version = p.version + 1 → ∀ y ∈ q.replicas, y ∈ p.isr
theorem Rise.refl (p : Part) (kind : Int) : Rise p p kind := ⟨rfl, .inl rfl, .inl ⟨rfl, rfl⟩, fun h => absurd rfl h, fun _ h => .inl h, fun _ h => by omega⟩
theorem Step.rise {p : Part} {k' kind : Int} {a : Part × Int} (hr : RightOf p) (s : Step p k' a) (h : a.2 = 0) (h5 : k' = 5 → kind = 7) (h6 : k' = 6 → kind = 10) (hd : kind = 10 → ∀ y ∈ a.1.replicas, y ∈ p.isr) : RightOf a.1 ∧ Rise p a.1 kind := by
  rcases s with ⟨e, -⟩ | ⟨-, e | g⟩
  · exact absurd h e
  · rw [e]; exact ⟨hr, Rise.refl _ _⟩
  · refine ⟨g.right, g.id, .inr g.version, g.ep, fun h1 h2 => (g.lead h1 h2).1, fun x hx => ?_, fun h1 _ => hd h1⟩
    rcases g.keep x hx with q | ⟨q, q2⟩ | ⟨q, -⟩
    · exact .inl q
    · exact .inr (.inr ⟨h5 q, q2⟩)
    · exact .inr (.inl (h6 q))
theorem doP_law {p : Part} {r : Mt} {up : List Int} (hr : RightOf p) (hk : r.kind = 5 ∨ r.kind = 6 ∨ r.kind = 7 ∨ r.kind = 9 ∨ r.kind = 10) (h : (doP p r up).2 = 0) :
    RightOf (doP p r up).1 ∧ Rise p (doP p r up).1 r.kind ∧ (LedOk up (doP p r up).1 ∨ (doP p r up).1.leader = p.leader) := by
  unfold doP at h ⊢
  by_cases k5 : r.kind = 5
  · rw [if_pos k5] at h ⊢
    obtain ⟨h1, h2⟩ := (alter_step (kind := 0) hr).rise (kind := r.kind) hr h (fun e => absurd e (by decide)) (fun e => absurd e (by decide)) (fun e => by omega)
    exact ⟨h1, h2, .inr (alter_leader h)⟩
  rw [if_neg k5] at h ⊢
  by_cases k6 : r.kind = 6
  · rw [if_pos k6] at h ⊢
    obtain ⟨h1, h2⟩ := (begin_step (kind := 0)).rise (kind := r.kind) hr h (fun e => absurd e (by decide)) (fun e => absurd e (by decide)) (fun e => by omega)
    exact ⟨h1, h2, .inr (begin_leader h)⟩
  rw [if_neg k6] at h ⊢
  by_cases k7 : r.kind = 7
  · rw [if_pos k7] at h ⊢
    obtain ⟨h1, h2⟩ := (cancel_step hr).rise (kind := r.kind) hr h (fun _ => k7) (fun e => absurd e (by decide)) (fun e => by omega)
    exact ⟨h1, h2, cancel_leader h⟩
  rw [if_neg k7] at h ⊢
  by_cases k10 : r.kind = 10
  · rw [if_pos k10] at h ⊢
    obtain ⟨h1, h2⟩ := (finish_step hr).rise (kind := r.kind) hr h (fun e => absurd e (by decide)) (fun _ => k10) (fun _ => finish_done h)
    exact ⟨h1, h2, finish_leader h⟩
  rw [if_neg k10] at h ⊢
  unfold preferP at h ⊢
  split at h
  · rename_i hu
    rw [if_pos hu]
    obtain ⟨h1, h2⟩ := (elect_step (kind := 0) hr).rise (kind := r.kind) hr h (fun e => absurd e (by decide)) (fun e => absurd e (by decide)) (fun e => by omega)
    exact ⟨h1, h2, .inl (.inr (by rw [elect_leader h]; exact hu))⟩
  · exact absurd h (by decide)
def chainT : Int → List (ByteArray × Int × Int) → Int → Prop
  | a, [], b => a = b
  | a, t :: l, b => t.2.1 = a ∧ chainT (a + t.2.2) l b
theorem chainT_snoc : ∀ {l : List (ByteArray × Int × Int)} {a b : Int} {t : ByteArray × Int × Int}, chainT a l b → t.2.1 = b → chainT a (l ++ [t]) (b + t.2.2)
  | [], a, b, t, h, e => by
    have h : a = b := h
    subst h
    exact ⟨e, rfl⟩
  | x :: l, a, b, t, h, e => ⟨h.1, chainT_snoc h.2 e⟩
theorem chainT_len : ∀ {l : List (ByteArray × Int × Int)} {a b : Int}, chainT a l b → (∀ t ∈ l, 1 ≤ t.2.2) → a + l.length ≤ b
  | [], a, b, h, _ => by have h : a = b := h; simp; omega
  | t :: l, a, b, h, ht => by
    have := chainT_len h.2 (fun x hx => ht x (List.mem_cons_of_mem _ hx))
    have := ht t (List.mem_cons_self ..)
    simp only [List.length_cons]; omega
structure ImR (I : Im) : Prop where
  ok : ImOk I
  chain : chainT 1 I.top (I.prt.length + 1)
  names : (I.top.map Prod.fst).Nodup
  idp : ∀ (i : Nat) (p : Part), I.prt[i]? = some p → p.id = (i : Int) + 1
theorem newI_r : ImR newI := ⟨newI_ok, by show (1 : Int) = _; simp [newI], by simp [newI], by simp [newI]⟩
theorem up_mem {B : List (Int × (Int × Bool))} {x : Int} : x ∈ upL B ↔ ∃ b, (x, b, true) ∈ B := by
  unfold upL
  simp only [List.mem_map, List.mem_filter]
  constructor
  · rintro ⟨⟨a, b, c⟩, ⟨h1, h2⟩, rfl⟩
    have h2 : c = true := h2
    subst h2
    exact ⟨b, h1⟩
  · rintro ⟨b, h⟩
    exact ⟨(x, b, true), ⟨h, rfl⟩, rfl⟩
theorem up_sub (B : List (Int × (Int × Bool))) : (upL B).Sublist (B.map Prod.fst) := List.filter_sublist.map _
theorem up_ids {I : Im} (h : ImOk I) : idsL (upL I.brk) = true := by
  refine ids_iff.2 ⟨(h.sorted.nodup ltI_ok).sublist (up_sub _), fun x hx => ?_⟩
  obtain ⟨b, hb⟩ := up_mem.1 hx
  have := h.ids _ hb
  exact ⟨this.1, this.2.1⟩
theorem brk_nodup {I : Im} (h : ImOk I) : (I.brk.map Prod.fst).Nodup := h.sorted.nodup ltI_ok
theorem up_ins {B : List (Int × (Int × Bool))} (h : SortedL ltI B) {id : Int} {v : Int × Bool} {x : Int} : x ∈ upL (insL ltI B id v) ↔ (x = id ∧ v.2 = true) ∨ (x ≠ id ∧ x ∈ upL B) := by
  have hn := h.nodup ltI_ok
  have hn2 := (insL_sorted ltI_ok h (k := id) (v := v)).nodup ltI_ok
  have key : ∀ y, y ∈ upL (insL ltI B id v) ↔ ∃ b, lookL (insL ltI B id v) y = some (b, true) := fun y => by
    rw [up_mem]
    exact exists_congr fun b => (lookL_iff hn2).symm
  rw [key]
  constructor
  · rintro ⟨b, hb⟩
    rw [look_ins ltI_ok h] at hb
    split at hb
    · rename_i e
      cases hb
      exact .inl ⟨e, rfl⟩
    · rename_i e
      exact .inr ⟨e, up_mem.2 ⟨b, (lookL_iff hn).1 hb⟩⟩
  · rintro (⟨e, hv⟩ | ⟨e, hx⟩)
    · refine ⟨v.1, ?_⟩
      rw [look_ins ltI_ok h, if_pos e, ← hv]
    · obtain ⟨b, hb⟩ := up_mem.1 hx
      exact ⟨b, by rw [look_ins ltI_ok h, if_neg e]; exact (lookL_iff hn).2 hb⟩
theorem eachP_get {f : Part → Part × Int} {l : List Part} {i : Nat} {p : Part} (h : l[i]? = some p) : (eachP f l)[i]? = some (if (f p).2 = 0 then (f p).1 else p) := by
  unfold eachP
  rw [List.getElem?_map, h]; rfl
theorem eachP_mem {f : Part → Part × Int} {l : List Part} {q : Part} (h : q ∈ eachP f l) : ∃ p ∈ l, q = if (f p).2 = 0 then (f p).1 else p := by
  obtain ⟨p, hp, rfl⟩ := List.mem_map.1 h
  exact ⟨p, hp, rfl⟩
theorem eachP_len {f : Part → Part × Int} {l : List Part} : (eachP f l).length = l.length := List.length_map _
theorem each_law {f : Part → Part × Int} {l : List Part} {kind : Int} (hk : kind ≠ 10) (hf : ∀ p ∈ l, Step p 0 (f p)) (hr : ∀ p ∈ l, RightOf p) : (∀ q ∈ eachP f l, RightOf q) ∧ ∀ (i : Nat) (p : Part), l[i]? = some p → ∃ q, (eachP f l)[i]? = some q ∧ Rise p q kind := by
  have one : ∀ p ∈ l, RightOf (if (f p).2 = 0 then (f p).1 else p) ∧ Rise p (if (f p).2 = 0 then (f p).1 else p) kind := fun p hp => by
    split
    · rename_i e
      exact (hf p hp).rise (hr p hp) e (fun e => absurd e (by decide)) (fun e => absurd e (by decide)) (fun e => absurd e hk)
    · exact ⟨hr p hp, Rise.refl _ _⟩
  refine ⟨fun q hq => ?_, fun i p hp => ⟨_, eachP_get hp, (one p (List.mem_of_getElem? hp)).2⟩⟩
  obtain ⟨p, hp, rfl⟩ := eachP_mem hq
  exact (one p hp).1
end Go.Proofs.YtmofinghoacobaaGreatDoor
namespace Go.Proofs.YtmofinghoacobaaGreatDoor
open Go Go.HL
structure Next (I J : Im) (kind : Int) : Prop where
  rise : ∀ (i : Nat) (p : Part), I.prt[i]? = some p → ∃ q, J.prt[i]? = some q ∧ Rise p q kind
  fresh : ∀ (i : Nat) (q : Part), J.prt[i]? = some q → I.prt.length ≤ i → q.version = 1 ∧ q.epoch = 1 ∧ q.leader ∈ upL J.brk
theorem Next.len {I J : Im} {kind : Int} (h : Next I J kind) : I.prt.length ≤ J.prt.length := by
  rcases Nat.eq_zero_or_pos I.prt.length with e | e
  · omega
  · obtain ⟨q, hq, -⟩ := h.rise (I.prt.length - 1) _ (List.getElem?_eq_getElem (by omega))
    have := (List.getElem?_eq_some_iff.1 hq).1
    omega
theorem none_at {α : Type} {l : List α} {i : Nat} {x : α} (h : l[i]? = some x) (hi : l.length ≤ i) : False := by
  have := (List.getElem?_eq_some_iff.1 h).1
  omega
theorem Next.same {I J : Im} {kind : Int} (e : J.prt = I.prt) : Next I J kind :=
  ⟨fun i p h => ⟨p, by rw [e]; exact h, Rise.refl _ _⟩, fun i q h hi => (none_at (by rw [e] at h; exact h) hi).elim⟩
theorem Next.each {I J : Im} {kind : Int} (hl : J.prt.length = I.prt.length) (h : ∀ (i : Nat) (p : Part), I.prt[i]? = some p → ∃ q, J.prt[i]? = some q ∧ Rise p q kind) : Next I J kind :=
  ⟨h, fun i q h hi => (none_at h (by rw [hl]; exact hi)).elim⟩
theorem ImR.setPrt {I : Im} (h : ImR I) {l : List Part} {kind : Int} (hl : l.length = I.prt.length) (hr : ∀ q ∈ l, RightOf q) (hs : ∀ (i : Nat) (p : Part), I.prt[i]? = some p → ∃ q, l[i]? = some q ∧ Rise p q kind) : ImR { I with prt := l } :=
  ⟨⟨h.ok.sorted, h.ok.ids, hr, by rw [hl]; exact h.ok.parts, h.ok.tops, h.ok.topv, h.ok.prds, h.ok.prd⟩, by show chainT 1 I.top (l.length + 1); rw [hl]; exact h.chain, h.names, fun i q hq => by
    have hq : l[i]? = some q := hq
    have hi := (List.getElem?_eq_some_iff.1 hq).1
    obtain ⟨q2, e, g⟩ := hs i _ (List.getElem?_eq_getElem (by omega))
    rw [hq] at e
    cases e
    rw [g.id]
    exact h.idp i _ (List.getElem?_eq_getElem (by omega))⟩
theorem ImR.setBrk {I : Im} (h : ImR I) {id : Int} {v : Int × Bool} (h1 : 1 ≤ id ∧ id ≤ 7) (h2 : 1 ≤ v.1 ∧ v.1 ≤ 1000000000) : ImR { I with brk := insL ltI I.brk id v } :=
  ⟨⟨insL_sorted ltI_ok h.ok.sorted, fun x hx => by
    rcases insL_keys hx with rfl | hx
    · exact ⟨h1.1, h1.2, h2.1, h2.2⟩
    · exact h.ok.ids x hx, h.ok.right, h.ok.parts, h.ok.tops, h.ok.topv, h.ok.prds, h.ok.prd⟩, h.chain, h.names, h.idp⟩
theorem ImR.brk {I : Im} (h : ImR I) {id : Int} {x : Int × Bool} (e : lookL I.brk id = some x) : (1 ≤ id ∧ id ≤ 7) ∧ (1 ≤ x.1 ∧ x.1 ≤ 1000000000) := by
  have := h.ok.ids (id, x) ((lookL_iff (brk_nodup h.ok)).1 e)
  exact ⟨⟨this.1, this.2.1⟩, this.2.2⟩
theorem brkOf_eq {B : List (Int × (Int × Bool))} {id : Int} {x : Int × Bool} (e : lookL B id = some x) : brkOf B id = x := by unfold brkOf; rw [e]; rfl
theorem brkOf_up {B : List (Int × (Int × Bool))} {id : Int} (h : (brkOf B id).2 = true) : ∃ x, lookL B id = some x := by
  unfold brkOf at h
  cases e : lookL B id with
  | none => rw [e] at h; cases h
  | some x => exact ⟨x, rfl⟩
theorem fencing_r {I : Im} (h : ImR I) {id kind : Int} {x : Int × Bool} (e : lookL I.brk id = some x) (hk : kind ≠ 10) : ImR (fencingI I id) ∧ Next I (fencingI I id) kind := by
  obtain ⟨h1, h2⟩ := h.brk e
  have hb := h.setBrk (id := id) (v := ((brkOf I.brk id).1, false)) h1 (by rw [brkOf_eq e]; exact h2)
  obtain ⟨g1, g2⟩ := each_law (kind := kind) (f := fun p => fenceP p id (upL (fencingB I id))) hk (fun p hp => fence_step (h.ok.right p hp)) h.ok.right
  exact ⟨hb.setPrt eachP_len g1 g2, Next.each eachP_len g2⟩
theorem fencing_led {I : Im} (h : ImR I) (low : ∀ p ∈ I.prt, p.version + 1 ≤ 1000000000 ∧ p.epoch + 1 ≤ 1000000000) (led : ∀ p ∈ I.prt, LedOk (upL I.brk) p) {id : Int} {x : Int × Bool} (e : lookL I.brk id = some x) : ∀ q ∈ (fencingI I id).prt, LedOk (upL (fencingB I id)) q := by
  intro q hq
  obtain ⟨p, hp, rfl⟩ := eachP_mem (f := fun p => fenceP p id (upL (fencingB I id))) hq
  obtain ⟨h1, -⟩ := h.brk e
  obtain ⟨l1, l2⟩ := low p hp
  have h0 : (fenceP p id (upL (fencingB I id))).2 = 0 := fence_ok (h.ok.right p hp) h1 l1 l2
  rw [if_pos h0]
  rcases fence_leader h0 with g | ⟨g, g2⟩
  · exact g
  · unfold LedOk
    rw [g]
    exact (led p hp).imp_right fun m => (up_ins h.ok.sorted).2 (.inr ⟨g2, m⟩)
theorem reg_r {I : Im} (h : ImR I) (a : Int) : ImR (regI I a) ∧ Next I (regI I a) 1 := by
  unfold regI
  split
  · rename_i e
    obtain ⟨x, hx⟩ := brkOf_up e
    exact fencing_r h hx (by decide)
  · exact ⟨h, Next.same rfl⟩
theorem register_r {I : Im} (h : ImR I) (a b : Int) : ImR (registerI I a b).1 ∧ Next I (registerI I a b).1 1 := by
  unfold registerI
  split
  · exact ⟨h, Next.same rfl⟩
  split
  · exact ⟨h, Next.same rfl⟩
  · rename_i h1 h2
    obtain ⟨g1, g2⟩ := reg_r h a
    exact ⟨g1.setBrk (by omega) (by show 1 ≤ b ∧ b ≤ _; omega), ⟨g2.rise, fun i q hq hi => by
      obtain ⟨e1, e2, e3⟩ := g2.fresh i q hq hi
      have hl : (regI I a).prt.length = I.prt.length := by
        unfold regI; split
        · exact eachP_len
        · rfl
      exact (none_at hq (by show (regI I a).prt.length ≤ i; rw [hl]; exact hi)).elim⟩⟩
theorem turn_r {I : Im} (h : ImR I) (a b : Int) (up : Bool) {kind : Int} (hk : kind ≠ 10) : ImR (turnI I a b up).1 ∧ Next I (turnI I a b up).1 kind := by
  unfold turnI
  split
  · exact ⟨h, Next.same rfl⟩
  split
  · exact ⟨h, Next.same rfl⟩
  split
  · exact ⟨h, Next.same rfl⟩
  split
  · exact ⟨h, Next.same rfl⟩
  · rename_i h1 h2 h3 h4
    obtain ⟨x, hx⟩ : ∃ x, lookL I.brk a = some x := by
      cases e : lookL I.brk a with
      | none => exact absurd e h2
      | some x => exact ⟨x, rfl⟩
    split
    · exact fencing_r h hx hk
    · obtain ⟨b1, b2⟩ := h.brk hx
      obtain ⟨g1, g2⟩ := each_law (kind := kind) (f := fun p => backP p a) hk (fun p hp => back_step (h.ok.right p hp)) h.ok.right
      exact ⟨(h.setBrk b1 (by rw [brkOf_eq hx]; exact b2)).setPrt eachP_len g1 g2, Next.each eachP_len g2⟩
theorem repl_len (up : List Int) (n k : Nat) : (repl up n k).length = n := by simp [repl]
theorem getD_up {up : List Int} {j : Nat} (h : j < up.length) : up.getD j 0 = up[j] := by simp [List.getD, h]
theorem repl_mem {up : List Int} {n k : Nat} (hn : n ≤ up.length) {x : Int} (hx : x ∈ repl up n k) : x ∈ up := by
  unfold repl at hx
  obtain ⟨i, hi, rfl⟩ := List.mem_map.1 hx
  have hi := List.mem_range.1 hi
  have hm : (k + i) % up.length < up.length := Nat.mod_lt _ (by omega)
  rw [getD_up hm]
  exact List.getElem_mem hm
theorem repl_nodup {up : List Int} {n k : Nat} (hu : up.Nodup) (hn : n ≤ up.length) : (repl up n k).Nodup := by
  unfold repl
  rw [List.nodup_iff_pairwise_ne, List.pairwise_map]
  refine List.Pairwise.imp_of_mem (R := fun a b => a < b) (fun {a b} ha hb hab e => ?_) List.pairwise_lt_range
  have ha := List.mem_range.1 ha
  have hb := List.mem_range.1 hb
  have h1 : (k + a) % up.length < up.length := Nat.mod_lt _ (by omega)
  have h2 : (k + b) % up.length < up.length := Nat.mod_lt _ (by omega)
  rw [getD_up h1, getD_up h2] at e
  have e : (k + a) % up.length = (k + b) % up.length := (List.getElem_inj hu).1 e
  have d1 := Nat.div_add_mod (k + a) up.length
  have d2 := Nat.div_add_mod (k + b) up.length
  rw [e] at d1
  generalize (k + a) / up.length = u at d1
  generalize (k + b) / up.length = v at d2
  have hle : up.length * u ≤ up.length * v := by omega
  rcases Nat.lt_or_ge u v with q | q
  · have : up.length * (u + 1) ≤ up.length * v := Nat.mul_le_mul_left _ q
    rw [Nat.mul_add] at this
    omega
  · have : up.length * v ≤ up.length * u := Nat.mul_le_mul_left _ q
    omega
theorem repl_head {up : List Int} {n k : Nat} (hp : 0 < n) : (repl up n k).headD 0 ∈ repl up n k := by
  have := repl_len up n k
  cases e : repl up n k with
  | nil => rw [e] at this; simp at this; omega
  | cons a t => simp
theorem newPart_right {up : List Int} {first b c : Int} {k : Nat} (hu : idsL up = true) (hb : 1 ≤ b ∧ b ≤ 5 ∧ b ≤ up.length) (hc : 1 ≤ c ∧ c ≤ b) (hi : 1 ≤ first + k ∧ first + k ≤ 16) : RightOf (newPart up first b c k) := by
  obtain ⟨u1, u2⟩ := ids_iff.1 hu
  have hl := repl_len up b.toNat k
  have hids : idsL (repl up b.toNat k) = true := ids_iff.2 ⟨repl_nodup u1 (by omega), fun x hx => u2 x (repl_mem (by omega) hx)⟩
  exact ⟨hi, by show 1 ≤ c ∧ c ≤ 5; omega, by show (1 : Int) ≤ 1 ∧ (1 : Int) ≤ _; omega, by show (1 : Int) ≤ 1 ∧ (1 : Int) ≤ _; omega, hids, hids, by rfl, by rfl, by show 0 < (repl up b.toNat k).length; omega, within_iff.2 fun x hx => hx, within_iff.2 fun x hx => absurd hx (by simp [newPart]), within_iff.2 fun x hx => absurd hx (by simp [newPart]), rfl, by show 0 < (repl up b.toNat k).length; omega, .inr (repl_head (by omega))⟩
theorem topic_r {I : Im} (h : ImR I) (name : ByteArray) (a b c : Int) {kind : Int} : ImR (topicI I name a b c).1 ∧ Next I (topicI I name a b c).1 kind := by
  unfold topicI
  split
  · exact ⟨h, Next.same rfl⟩
  split
  · exact ⟨h, Next.same rfl⟩
  split
  · exact ⟨h, Next.same rfl⟩
  · rename_i h1 h2 h3
    have hu := up_ids h.ok
    have hn : tNamed name = true := by
      cases e : tNamed name with
      | true => rfl
      | false => exact absurd (.inl e) h1
    have hp : ((I.prt.length : Int)) + a ≤ 16 ∧ b ≤ (upL I.brk).length := by omega
    have hab : 1 ≤ a ∧ 1 ≤ b ∧ b ≤ 5 ∧ 1 ≤ c ∧ c ≤ b := by omega
    have hnew : ∀ (i : Nat) (q : Part), ((List.range a.toNat).map (newPart (upL I.brk) (I.prt.length + 1) b c))[i]? = some q → i < a.toNat ∧ q = newPart (upL I.brk) (I.prt.length + 1) b c i := fun i q hq => by
      have hi := (List.getElem?_eq_some_iff.1 hq).1
      rw [List.length_map, List.length_range] at hi
      rw [List.getElem?_map, List.getElem?_range hi] at hq
      exact ⟨hi, (Option.some.inj hq).symm⟩
    have hlen : (I.prt ++ (List.range a.toNat).map (newPart (upL I.brk) (I.prt.length + 1) b c)).length = I.prt.length + a.toNat := by simp
    have hch := chainT_snoc (t := (name, (I.prt.length : Int) + 1, a)) h.chain rfl
    have htl := chainT_len hch (fun t ht => by
      rcases List.mem_append.1 ht with q | q
      · exact (h.ok.topv t q).2.2.2.1
      · rw [List.mem_singleton.1 q]; exact hab.1)
    refine ⟨⟨⟨h.ok.sorted, h.ok.ids, ?_, ?_, ?_, ?_, h.ok.prds, h.ok.prd⟩, ?_, ?_, ?_⟩, ?_, ?_⟩
    · intro p hp'
      rcases List.mem_append.1 hp' with q | q
      · exact h.ok.right p q
      · obtain ⟨i, hi, rfl⟩ := List.mem_map.1 q
        have hi := List.mem_range.1 hi
        exact newPart_right hu (by omega) (by omega) (by omega)
    · show (I.prt ++ (List.range a.toNat).map (newPart (upL I.brk) (I.prt.length + 1) b c)).length ≤ 16
      rw [hlen]; omega
    · show (I.top ++ [(name, (I.prt.length : Int) + 1, a)]).length ≤ 16
      have : (1 : Int) + (I.top ++ [(name, (I.prt.length : Int) + 1, a)]).length ≤ I.prt.length + 1 + a := htl
      omega
    · intro t ht
      rcases List.mem_append.1 ht with q | q
      · exact h.ok.topv t q
      · rw [List.mem_singleton.1 q]
        refine ⟨hn, ?_⟩
        show 1 ≤ (I.prt.length : Int) + 1 ∧ (I.prt.length : Int) + 1 ≤ 16 ∧ 1 ≤ a ∧ a ≤ 16
        omega
    · show chainT 1 (I.top ++ [(name, (I.prt.length : Int) + 1, a)]) (((I.prt ++ (List.range a.toNat).map (newPart (upL I.brk) (I.prt.length + 1) b c)).length : Nat) + 1)
      rw [hlen]
      have e : ((I.prt.length + a.toNat : Nat) : Int) + 1 = (I.prt.length : Int) + 1 + a := by omega
      rw [e]; exact hch
    · show ((I.top ++ [(name, (I.prt.length : Int) + 1, a)]).map Prod.fst).Nodup
      rw [List.map_append, List.nodup_append]
      refine ⟨h.names, by simp, fun x hx y hy e => ?_⟩
      have hy : y = name := by simpa using hy
      obtain ⟨t, ht, hte⟩ := List.mem_map.1 hx
      refine h2 (List.any_eq_true.2 ⟨t, ht, decide_eq_true ?_⟩)
      rw [hte, e, hy]
    · intro i p hip
      have hip : (I.prt ++ (List.range a.toNat).map (newPart (upL I.brk) (I.prt.length + 1) b c))[i]? = some p := hip
      by_cases e : i < I.prt.length
      · rw [List.getElem?_append_left e] at hip
        exact h.idp i p hip
      · rw [List.getElem?_append_right (by omega)] at hip
        obtain ⟨-, rfl⟩ := hnew _ _ hip
        show (I.prt.length : Int) + 1 + ((i - I.prt.length : Nat) : Int) = _
        omega
    · intro i p hip
      exact ⟨p, by show (I.prt ++ _)[i]? = _; rw [List.getElem?_append_left (List.getElem?_eq_some_iff.1 hip).1]; exact hip, Rise.refl _ _⟩
    · intro i q hiq hi
      have hiq : (I.prt ++ (List.range a.toNat).map (newPart (upL I.brk) (I.prt.length + 1) b c))[i]? = some q := hiq
      rw [List.getElem?_append_right hi] at hiq
      obtain ⟨-, rfl⟩ := hnew _ _ hiq
      have hm := repl_mem (up := upL I.brk) (n := b.toNat) (k := i - I.prt.length) (by omega) (repl_head (by omega))
      exact ⟨rfl, rfl, hm⟩
theorem part_r {I : Im} (h : ImR I) {r : Mt} (hk : r.kind = 5 ∨ r.kind = 6 ∨ r.kind = 7 ∨ r.kind = 9 ∨ r.kind = 10) :
    ImR (partI I r).1 ∧ Next I (partI I r).1 r.kind ∧ ((∀ p ∈ I.prt, LedOk (upL I.brk) p) → ∀ q ∈ (partI I r).1.prt, LedOk (upL I.brk) q) := by
  unfold partI
  split
  · exact ⟨h, Next.same rfl, fun l => l⟩
  · rename_i p hp
    have hp : 1 ≤ r.a ∧ I.prt[(r.a - 1).toNat]? = some p := by
      split at hp
      · cases hp
      · exact ⟨by omega, hp⟩
    split
    · rename_i h0
      obtain ⟨g1, g2, g3⟩ := doP_law (up := upL I.brk) (h.ok.right p (List.mem_of_getElem? hp.2)) hk h0
      have hst : ∀ (i : Nat) (p' : Part), I.prt[i]? = some p' → ∃ q, (I.prt.set (r.a - 1).toNat (doP p r (upL I.brk)).1)[i]? = some q ∧ Rise p' q r.kind := fun i p' hi => by
        rw [List.getElem?_set]
        split
        · rename_i e
          subst e
          rw [hp.2] at hi
          cases hi
          rw [if_pos (List.getElem?_eq_some_iff.1 hp.2).1]
          exact ⟨_, rfl, g2⟩
        · exact ⟨p', hi, Rise.refl _ _⟩
      refine ⟨h.setPrt (List.length_set) (fun q hq => ?_) hst, Next.each (List.length_set) hst, fun l q hq => ?_⟩
      · rcases List.mem_or_eq_of_mem_set hq with m | m
        · exact h.ok.right q m
        · rw [m]; exact g1
      · rcases List.mem_or_eq_of_mem_set hq with m | m
        · exact l q m
        · rw [m]
          rcases g3 with g3 | g3
          · exact g3
          · unfold LedOk; rw [g3]; exact l p (List.mem_of_getElem? hp.2)
    · exact ⟨h, Next.same rfl, fun l => l⟩
theorem pid_r {I : Im} (h : ImR I) (a : Int) {kind : Int} : ImR (pidI I a).1 ∧ Next I (pidI I a).1 kind ∧ (pidI I a).1.brk = I.brk ∧ (pidI I a).1.prt = I.prt := by
  unfold pidI
  split
  · exact ⟨h, Next.same rfl, rfl, rfl⟩
  split
  · exact ⟨h, Next.same rfl, rfl, rfl⟩
  split
  · split
    · exact ⟨h, Next.same rfl, rfl, rfl⟩
    · rename_i h1 h2 h3 h4
      refine ⟨⟨⟨h.ok.sorted, h.ok.ids, h.ok.right, h.ok.parts, h.ok.tops, h.ok.topv, ?_, ?_⟩, h.chain, h.names, h.idp⟩, Next.same rfl, rfl, rfl⟩
      · show (I.prd ++ [0]).length ≤ 1000
        rw [List.length_append]
        have : ([0] : List Int).length = 1 := rfl
        omega
      · intro e he
        rcases List.mem_append.1 he with q | q
        · exact h.ok.prd e q
        · rw [List.mem_singleton.1 q]; omega
  · split
    · exact ⟨h, Next.same rfl, rfl, rfl⟩
    · rename_i h1 h2 h3 h4
      have hm : I.prd.getD (a - 1).toNat 0 ∈ I.prd := by
        have hi : (a - 1).toNat < I.prd.length := by omega
        rw [List.getD_eq_getElem?_getD, List.getElem?_eq_getElem hi]
        exact List.getElem_mem hi
      have hpr := h.ok.prd _ hm
      refine ⟨⟨⟨h.ok.sorted, h.ok.ids, h.ok.right, h.ok.parts, h.ok.tops, h.ok.topv, ?_, ?_⟩, h.chain, h.names, h.idp⟩, Next.same rfl, rfl, rfl⟩
      · show (I.prd.set _ _).length ≤ 1000
        rw [List.length_set]; exact h.ok.prds
      · intro e he
        rcases List.mem_or_eq_of_mem_set he with q | q
        · exact h.ok.prd e q
        · rw [q]; omega
theorem ImR.setApp {I : Im} (h : ImR I) (n : Int) : ImR { I with app := n } := ⟨⟨h.ok.sorted, h.ok.ids, h.ok.right, h.ok.parts, h.ok.tops, h.ok.topv, h.ok.prds, h.ok.prd⟩, h.chain, h.names, h.idp⟩
theorem body_r {I : Im} (h : ImR I) (r : Mt) : ImR (bodyI I r).1 ∧ Next I (bodyI I r).1 r.kind := by
  unfold bodyI
  split
  · rename_i e; rw [e]; exact register_r h r.a r.b
  split
  · exact turn_r h _ _ _ (by omega)
  split
  · exact topic_r h _ _ _ _
  split
  · rename_i e; exact ⟨(part_r h e).1, (part_r h e).2.1⟩
  split
  · exact ⟨(pid_r h r.a (kind := r.kind)).1, (pid_r h r.a).2.1⟩
  · exact ⟨h, Next.same rfl⟩
theorem apply_r {I : Im} (h : ImR I) (r : Mt) : ImR (applyI I r).1 ∧ Next I (applyI I r).1 r.kind := by
  obtain ⟨g1, g2⟩ := body_r (h.setApp (I.app + 1)) r
  exact ⟨g1, g2.rise, g2.fresh⟩
theorem body_led {I : Im} (h : ImR I) (low : ∀ p ∈ I.prt, p.version + 1 ≤ 1000000000 ∧ p.epoch + 1 ≤ 1000000000) (led : ∀ p ∈ I.prt, LedOk (upL I.brk) p) (r : Mt) : ∀ q ∈ (bodyI I r).1.prt, LedOk (upL (bodyI I r).1.brk) q := by
  unfold bodyI
  split
  · unfold registerI
    split
    · exact led
    split
    · exact led
    · rename_i h1 h2
      have key : ∀ q ∈ (regI I r.a).prt, LedOk (upL (regI I r.a).brk) q ∧ q.leader ≠ r.a := by
        unfold regI
        split
        · rename_i e
          obtain ⟨x, hx⟩ := brkOf_up e
          intro q hq
          have g := fencing_led h low led hx q hq
          refine ⟨g, fun e2 => ?_⟩
          rcases g with g | g
          · rw [g] at e2; omega
          · rcases (up_ins h.ok.sorted).1 g with ⟨-, g⟩ | ⟨g, -⟩
            · exact absurd (show false = true from g) (by decide)
            · exact g e2
        · rename_i e
          intro q hq
          refine ⟨led q hq, fun e2 => ?_⟩
          rcases led q hq with g | g
          · rw [g] at e2; omega
          · obtain ⟨b, hb⟩ := up_mem.1 g
            rw [e2] at hb
            exact e (by rw [brkOf_eq ((lookL_iff (brk_nodup h.ok)).2 hb)])
      intro q hq
      obtain ⟨k1, k2⟩ := key q hq
      exact k1.imp_right fun m => (up_ins (reg_r h r.a).1.ok.sorted).2 (.inr ⟨k2, m⟩)
  split
  · unfold turnI
    split
    · exact led
    split
    · exact led
    split
    · exact led
    split
    · exact led
    · rename_i h1 h2 h3 h4
      obtain ⟨x, hx⟩ : ∃ x, lookL I.brk r.a = some x := by
        cases e : lookL I.brk r.a with
        | none => exact absurd e h2
        | some x => exact ⟨x, rfl⟩
      split
      · exact fencing_led h low led hx
      · intro q hq
        obtain ⟨p, hp, rfl⟩ := eachP_mem (f := fun p => backP p r.a) hq
        have keep : ∀ y, y ∈ upL I.brk → y ∈ upL (insL ltI I.brk r.a ((brkOf I.brk r.a).1, true)) := fun y hy => by
          rw [up_ins h.ok.sorted]
          by_cases e : y = r.a
          · exact .inl ⟨e, rfl⟩
          · exact .inr ⟨e, hy⟩
        split
        · rename_i h0
          rcases back_leader h0 with e | e
          · show _ = (0 : Int) ∨ _
            rw [e]; exact (led p hp).imp_right (keep _)
          · right
            rw [e]; exact (up_ins h.ok.sorted).2 (.inl ⟨rfl, rfl⟩)
        · exact (led p hp).imp_right (keep _)
  split
  · intro q hq
    obtain ⟨-, hN⟩ := topic_r (kind := 4) h r.name r.a r.b r.c
    have hbk : (topicI I r.name r.a r.b r.c).1.brk = I.brk := by
      unfold topicI
      split
      · rfl
      split
      · rfl
      split <;> rfl
    obtain ⟨i, hi, e⟩ := List.getElem_of_mem hq
    have hq2 : (topicI I r.name r.a r.b r.c).1.prt[i]? = some q := by rw [List.getElem?_eq_getElem hi, e]
    by_cases hlt : i < I.prt.length
    · have : (topicI I r.name r.a r.b r.c).1.prt[i]? = I.prt[i]? := by
        unfold topicI
        split
        · rfl
        split
        · rfl
        split
        · rfl
        · exact List.getElem?_append_left hlt
      rw [this] at hq2
      rw [hbk]
      exact led q (List.mem_of_getElem? hq2)
    · exact .inr (hN.fresh i q hq2 (by omega)).2.2
  split
  · rename_i e
    have hbk : (partI I r).1.brk = I.brk := by
      unfold partI
      split
      · rfl
      · split <;> rfl
    rw [hbk]
    exact (part_r h e).2.2 led
  split
  · obtain ⟨-, -, e1, e2⟩ := pid_r (kind := 8) h r.a
    rw [e1, e2]; exact led
  · exact led
structure Ruled (I : Im) (n : Int) : Prop where
  r : ImR I
  low : ∀ p ∈ I.prt, p.version ≤ 1 + n ∧ p.epoch ≤ 1 + n
  led : ∀ p ∈ I.prt, LedOk (upL I.brk) p
theorem Ruled.next {I : Im} {n : Int} (h : Ruled I n) (hn : 0 ≤ n ∧ n ≤ 1000000) (r : Mt) : Ruled (applyI I r).1 (n + 1) := by
  obtain ⟨g1, g2⟩ := apply_r h.r r
  refine ⟨g1, fun q hq => ?_, body_led (h.r.setApp (I.app + 1)) (fun p hp => ?_) h.led r⟩
  · obtain ⟨i, hi, e⟩ := List.getElem_of_mem hq
    have hq2 : (applyI I r).1.prt[i]? = some q := by rw [List.getElem?_eq_getElem hi, e]
    by_cases hlt : i < I.prt.length
    · obtain ⟨q2, e2, R⟩ := g2.rise i _ (List.getElem?_eq_getElem hlt)
      rw [hq2] at e2
      cases e2
      have := h.low _ (List.getElem_mem hlt)
      have r1 := R.version
      have r2 := R.ep
      omega
    · obtain ⟨e1, e2, -⟩ := g2.fresh i q hq2 (by omega)
      omega
  · have := h.low p hp
    omega
end Go.Proofs.YtmofinghoacobaaGreatDoor
namespace Go.Proofs.YtmofinghoacobaaGreatDoor
open Go.HL
set_option maxHeartbeats 400000
set_option maxRecDepth 10000
def i64B (n : Int) : Prop := -9223372036854775808 ≤ n ∧ n ≤ 9223372036854775807
theorem okBy : ElemOK Tryz.prog 58 5 1 := ElemOK.of (by kernel_rfl)
theorem uStr : Tryz.prog.underlying 9 = some .string := by kernel_rfl
abbrev bv (l : List Int) : List Value := l.map (Value.int .u8)
def sevens : Nat → Int → List Int
  | 0, _ => []
  | k + 1, z => if z ≥ 128 then orI .u8 (IntKind.wrap .u8 z) 128 :: sevens k (shrI .u64 z 7) else [IntKind.wrap .u8 z]
def zig (n : Int) : Int := IntKind.wrap .u64 (xorI .i64 (shlI .i64 n 1) (shrI .i64 n 63))
def encInt (n : Int) : List Int := sevens 10 (zig n)
theorem wrap_u64 (n : Int) : 0 ≤ IntKind.wrap .u64 n ∧ IntKind.wrap .u64 n < 18446744073709551616 := by
  have e : IntKind.wrap .u64 n = n % 18446744073709551616 := by kernel_rfl
  rw [e]; omega
theorem shr7 (z : Int) : shrI .u64 z 7 = z / 128 := by
  have e : shrI .u64 z 7 = z.fdiv 128 := by kernel_rfl
  rw [e, Int.fdiv_eq_ediv_of_nonneg _ (by decide)]
theorem bv_app (l m : List Int) : bv (l ++ m) = bv l ++ bv m := by simp [bv]
theorem appendInt_spec {cs : List Chunk} {H : Heap} {b : Sl} {l : List Int} {n : Int} {K : Value → Heap → Prop} (h : Holds (own 5 1 b (bv l) :: cs) H) (hb : b.n ≤ 200000000)
    (k : ∀ (r : Sl) H', Holds (own 5 1 r (bv (l ++ encInt n)) :: cs) H' → r.n = b.n + (encInt n).length → K (.slice r.p r.n r.c) H') : FnH Tryz.prog 82 #[.slice b.p b.n b.c, .int .i64 n] H K := by
  apply wire_appendInt_fn
  unfold wire_appendInt_vc
  obtain ⟨z0, z1⟩ := wrap_u64 (xorI .i64 (shlI .i64 n 1) (shrI .i64 n 63))
  unfold encInt zig at k
  generalize IntKind.wrap .u64 (xorI .i64 (shlI .i64 n 1) (shrI .i64 n 63)) = z at *
  have hl := (h.own 0 rfl).1
  simp only [List.length_map, Nat.mul_one] at hl
  refine ⟨fun c y H1 => ∃ (j : Nat) (m : List Int), 0 < j ∧ j ≤ 10 ∧ 0 ≤ y ∧ y < 128 ^ j ∧ m ++ sevens j y = l ++ sevens 10 z ∧ m.length ≤ l.length + (10 - j) ∧ Holds (own 5 1 c (bv m) :: cs) H1, fun _ y _ => y.toNat,
    ⟨10, l, by decide, by decide, z0, by omega, rfl, by omega, h⟩, ?_⟩
  rintro c y H1 ⟨j, m, j0, j1, y0, y1, em, hm, h1⟩
  have hc := (h1.own 0 rfl).1
  simp only [List.length_map, Nat.mul_one] at hc
  obtain ⟨i, rfl⟩ : ∃ i, j = i + 1 := ⟨j - 1, by omega⟩
  refine br_intro (fun q => ?_) (fun q => ?_)
  · have q := of_decide_eq_true q
    refine Holds.push okBy h1 (m := 1) rfl rfl (by omega) fun r H3 h3 n3 => ⟨r, rfl, rfl, ⟨i, m ++ [orI .u8 (IntKind.wrap .u8 y) 128], ?_, by omega, ?_, ?_, ?_, by simp; omega, ?_⟩, ?_⟩
    · refine Nat.pos_of_ne_zero fun e => ?_
      subst e
      simp at y1; omega
    · rw [shr7]; omega
    · rw [shr7]
      have e : (128 : Int) ^ (i + 1) = 128 ^ i * 128 := Int.pow_succ ..
      rw [e] at y1
      exact Int.ediv_lt_of_lt_mul (by decide) y1
    · rw [← em]
      have : sevens (i + 1) y = orI .u8 (IntKind.wrap .u8 y) 128 :: sevens i (shrI .u64 y 7) := by
        show (if y ≥ 128 then _ else _) = _
        rw [if_pos q]
      rw [this]; simp
    · rw [bv_app]; exact h3
    · dsimp only; rw [shr7]; omega
  · have q := of_decide_eq_false q
    have : sevens (i + 1) y = [IntKind.wrap .u8 y] := by
      show (if y ≥ 128 then _ else _) = _
      rw [if_neg q]
    rw [this] at em
    refine Holds.push okBy h1 (m := 1) rfl rfl (by omega) fun r H3 h3 n3 => ⟨r, rfl, k r H3 ?_ ?_⟩
    · rw [← em, bv_app]; exact h3
    · have := congrArg List.length em
      simp at this
      omega
end Go.Proofs.YtmofinghoacobaaGreatDoor
namespace Go.Proofs.YtmofinghoacobaaGreatDoor
open Go Go.HL
set_option maxHeartbeats 1000000
set_option maxRecDepth 10000
theorem uBy : Tryz.prog.underlying 58 = some (.slice 5) := by kernel_rfl
theorem uByte : Tryz.prog.underlying 5 = some (.int .u8) := by kernel_rfl
theorem sevens_eq : ∀ (f z : Nat), sevens f (z : Int) = (encD f z).map fun b : Nat => (b : Int) := by
  intro f
  induction f with
  | zero => intro z; rfl
  | succ f ih =>
    intro z
    unfold sevens encD
    by_cases c : z ≥ 128
    · rw [if_pos (by omega), if_pos c, List.map_cons, shr7]
      have e1 : (z : Int) / 128 = ((z / 128 : Nat) : Int) := by omega
      rw [e1, ih, wrap_u8]
      have e2 : (z : Int) % 256 = ((z % 256 : Nat) : Int) := by omega
      rw [e2, or_u8_128 (by omega)]
      congr 2; omega
    · rw [if_neg (by omega), if_neg c, wrap_u8]
      show [(z : Int) % 256] = [(z : Int)]
      congr 1; omega
theorem encInt_eq {n : Int} (hn : i64B n) : encInt n = (encN n).map fun b : Nat => (b : Int) := by
  unfold encInt zig
  rw [zig_code hn.1 hn.2, sevens_eq]; rfl
theorem bv_nat (l : List Nat) : bv (l.map fun b : Nat => (b : Int)) = l.map fun b : Nat => Value.int .u8 (b : Int) := by simp [bv, Function.comp_def]
theorem strV_str {l : List Nat} (h : ∀ b ∈ l, b < 256) : strV (strN l) = l.map fun b : Nat => Value.int .u8 (b : Int) := by rw [strV_nb, nb_str h]
theorem encN_bytes (n : Int) : ∀ b ∈ encN n, b < 256 := encD_bytes 10 _
theorem encN_len (n : Int) : (encN n).length ≤ 10 := encD_len 10 _
theorem toStr {H : Heap} {K : Value → Heap → Prop} {r : Sl} {l : List Nat} (h : Own H 5 1 r (l.map fun b : Nat => Value.int .u8 (b : Int))) (hl : ∀ b ∈ l, b < 256) (k : K (.string (strN l)) H) : runH Tryz.prog (convert 58 9 (.slice r.p r.n r.c)) H K :=
  runH_toString uBy uStr uByte (own_byts (by rw [strV_str hl]; exact h)) k
theorem int_spec {H : Heap} {K : Value → Heap → Prop} {n : Int} (hn : i64B n) (k : ∀ H', HL.Sub H H' → K (.string (strN (encN n))) H') : FnH Tryz.prog 41 #[.int .i64 n] H K := by
  apply wire_Int_fn
  unfold wire_Int_vc
  refine appendInt_spec (b := ⟨none, 0, 0⟩) (l := []) ((Holds.whole H).own_nil 5 1) (by decide) fun r H1 h1 n1 => ⟨r, rfl, ?_⟩
  have ho := h1.own 0 rfl
  rw [List.nil_append, encInt_eq hn, bv_nat] at ho
  exact toStr ho (encN_bytes n) ⟨_, rfl, k H1 (h1.sub 1 rfl)⟩
theorem rd_step {f i z : Nat} {b : Nat} {l : List Nat} (h : b < 256) : rd (f + 1) i z (b :: l) = (if i = 9 ∧ b > 1 then ((0 : Int), (0 : Int), (4 : Int)) else if b > 127 then rd f (i + 1) (z + b % 128 * 128 ^ i) l else if i > 0 ∧ b = 0 then (0, 0, 4) else (unzig (z + b % 128 * 128 ^ i), (i : Int) + 1, 0)) := rfl
abbrev trp (t : Int × Int × Int) : Value := .tuple #[.int .i64 t.1, .int .i64 t.2.1, .int .i64 t.2.2]
theorem digit {z b i : Nat} (hz : z < 128 ^ i) (hb : b < 256) (hi : i ≤ 9) (h9 : i = 9 → b ≤ 1) :
    orI .u64 (z : Int) (shlI .u64 (IntKind.wrap .u64 (andI .u8 (b : Int) 127)) (IntKind.wrap .i64 (7 * (i : Int)))) = ((z + b % 128 * 128 ^ i : Nat) : Int) ∧ z + b % 128 * 128 ^ i < 18446744073709551616 ∧ (i ≤ 8 → z + b % 128 * 128 ^ i < 128 ^ (i + 1)) := by
  have hp := pow_top hi
  have hpos : 0 < 128 ^ i := Nat.pow_pos (by decide)
  have hlt8 : i ≤ 8 → z + b % 128 * 128 ^ i < 128 ^ (i + 1) := fun h8 => by
    have h1 : b % 128 * 128 ^ i ≤ 127 * 128 ^ i := Nat.mul_le_mul_right _ (by omega)
    rw [Nat.pow_succ]; omega
  have hlt : z + b % 128 * 128 ^ i < 18446744073709551616 := by
    rcases Nat.lt_or_ge i 9 with q | q
    · have := hlt8 (by omega)
      have h3 : 128 ^ (i + 1) ≤ 128 ^ 9 := Nat.pow_le_pow_right (by decide) (by omega)
      have h4 : (128 : Nat) ^ 9 = 9223372036854775808 := by decide
      omega
    · have e : i = 9 := by omega
      subst e
      have h4 : (128 : Nat) ^ 9 = 9223372036854775808 := by decide
      have := h9 rfl
      rw [h4] at hz ⊢
      have : b % 128 = b := by omega
      rw [this]
      have : b * 9223372036854775808 ≤ 1 * 9223372036854775808 := Nat.mul_le_mul_right _ (by omega)
      omega
  refine ⟨?_, hlt, hlt8⟩
  rw [and_u8_127 hb, wrap_u64', wrap64_id (n := 7 * (i : Int)) (by omega) (by omega)]
  have e1 : ((b % 128 : Nat) : Int) % 18446744073709551616 = ((b % 128 : Nat) : Int) := by omega
  rw [e1]
  unfold shlI
  have e2 : IntKind.bits .u64 = 64 := rfl
  have e3 : min (7 * (i : Int)).toNat 64 = 7 * i := by omega
  rw [e2, e3]
  have e4 : (2 : Int) ^ (7 * i) = ((128 ^ i : Nat) : Int) := by
    rw [Int.pow_mul]; push_cast; rfl
  rw [e4, ← Int.natCast_mul, wrap_u64']
  have e5 : ((b % 128 * 128 ^ i : Nat) : Int) % 18446744073709551616 = ((b % 128 * 128 ^ i : Nat) : Int) := by omega
  rw [e5, or_u64 (by omega) (by omega)]
  congr 1
  have e6 : 128 ^ i = 2 ^ (7 * i) := by rw [Nat.pow_mul]
  rw [e6] at hz ⊢
  have := Nat.two_pow_add_eq_or_of_lt hz (b % 128)
  rw [Nat.or_comm, Nat.mul_comm (b % 128), ← this]; omega
theorem readInt_spec {b : ByteArray} {H : Heap} {K : Value → Heap → Prop} (k : K (trp (readN (nb b))) H) : FnH Tryz.prog 84 #[.string b] H K := by
  apply wire_ReadInt_fn
  unfold wire_ReadInt_vc
  refine ⟨fun z n H1 => H1 = H ∧ ∃ i y : Nat, n = i ∧ z = y ∧ i ≤ 10 ∧ i ≤ b.size ∧ (i ≤ 9 → y < 128 ^ i) ∧ rd (10 - i) i y ((nb b).drop i) = readN (nb b), fun _ n _ => (10 - n).toNat, ⟨rfl, 0, 0, rfl, rfl, by decide, Nat.zero_le _, fun _ => by decide, rfl⟩, ?_⟩
  rintro _ _ H1 ⟨rfl, i, z, rfl, rfl, hi, hib, hz, hrd⟩
  have fin : ∀ t : Int × Int × Int, rd (10 - i) i z ((nb b).drop i) = t → K (trp t) H1 := fun t ht => by rw [← ht, hrd]; exact k
  refine br_intro (fun q => ?_) (fun q => ?_)
  · have q := of_decide_eq_true q
    have hz := hz (by omega)
    obtain ⟨f, hf⟩ : ∃ f, 10 - i = f + 1 := ⟨9 - i, by omega⟩
    have hf2 : 10 - (i + 1) = f := by omega
    rw [hf] at fin hrd
    refine br_intro (fun q2 => ?_) (fun q2 => ?_)
    · have q2 : (i : Int) = b.size := by simpa using q2
      have e : (nb b).drop i = [] := List.drop_eq_nil_of_le (by rw [nb_len]; omega)
      rw [e] at fin
      exact fin (0, 0, 5) rfl
    have q2 : ¬ (i : Int) = b.size := by simpa using q2
    obtain ⟨c, e1, e2, e3⟩ := nb_get (s := b) (i := i) (by omega)
    have hlen : i < (nb b).length := by rw [nb_len]; omega
    have ed : (nb b).drop i = c.toNat :: (nb b).drop (i + 1) := by
      rw [List.drop_eq_getElem_cons hlen]
      congr 1
      rw [List.getElem?_eq_getElem hlen] at e2; exact Option.some.inj e2
    rw [ed] at fin hrd
    rw [rd_step e3] at fin hrd
    have ei : (i : Int).toNat = i := by omega
    have hn1 : IntKind.wrap .i64 ((i : Int) + 1) = ((i + 1 : Nat) : Int) := by rw [wrap64_id (by omega) (by omega)]; omega
    have sh : ∀ {p : Prop}, p → shG (decide (IntKind.wrap .i64 (7 * (i : Int)) < 0)) p := fun {p} hp => by
      rw [wrap64_id (by omega) (by omega), decide_eq_false (by omega)]; exact hp
    have body : (¬ (i = 9 ∧ c.toNat > 1)) → ∀ {p : Prop} (_ : (∀ z' : Nat, orI .u64 (z : Int) (shlI .u64 (IntKind.wrap .u64 (andI .u8 (c.toNat : Int) 127)) (IntKind.wrap .i64 (7 * (i : Int)))) = (z' : Int) → z' < 18446744073709551616 → z' = z + c.toNat % 128 * 128 ^ i → (i ≤ 8 → z' < 128 ^ (i + 1)) → p)), p := fun h9 {p} hp => by
      obtain ⟨d1, d2, d3⟩ := digit (z := z) (b := c.toNat) (i := i) hz e3 (by omega) (fun e => Nat.le_of_not_lt fun z => h9 ⟨e, z⟩)
      exact hp _ d1 d2 rfl d3
    refine br_intro (fun q9 => ?_) (fun q9 => ?_)
    all_goals
      first
        | (refine ⟨by omega, c, by rw [ei]; exact e1, br_intro (fun q1 => ?_) (fun q1 => ?_)⟩
           · have q9 : (i : Int) = 9 := by simpa using q9
             have q1 := of_decide_eq_true q1
             exact fin (0, 0, 4) (by rw [if_pos ⟨by omega, by omega⟩]))
        | skip
    all_goals
      have h9 : ¬ (i = 9 ∧ c.toNat > 1) := fun z => by
        first
          | (have q1 := of_decide_eq_false q1; omega)
          | (have q9 : ¬ (i : Int) = 9 := by simpa using q9
             omega)
      rw [if_neg h9] at fin hrd
      refine ⟨by omega, c, by rw [ei]; exact e1, sh ⟨by omega, c, by rw [ei]; exact e1, body h9 fun z' hz1 hz2 hz3 hz4 => ?_⟩⟩
      rw [hz1, hn1]
      refine br_intro (fun c1 => ?_) (fun c1 => ?_)
      · have c1 := of_decide_eq_true c1
        rw [if_pos (by omega)] at hrd
        exact ⟨rfl, ⟨rfl, i + 1, z', rfl, rfl, by omega, by omega, fun h => hz4 (by omega), by rw [hf2, hz3]; exact hrd⟩, by dsimp only; omega⟩
      · have c1 := of_decide_eq_false c1
        rw [if_neg (by omega)] at fin
        refine ⟨fun bb H2 => H2 = H1 ∧ bb = (decide (i > 0) && decide (c.toNat = 0)), br_intro (fun c2 => ⟨by omega, c, by rw [ei]; exact e1, rfl, rfl, ?_⟩) (fun c2 => ⟨rfl, rfl, ?_⟩), ?_⟩
        · have c2 := of_decide_eq_true c2
          rw [decide_eq_true (show i > 0 by omega), Bool.true_and]
          have : (((c.toNat : Nat) : Int) == 0) = decide (c.toNat = 0) := by
            by_cases z : c.toNat = 0
            · rw [decide_eq_true z, z]; rfl
            · rw [decide_eq_false z]; simpa using z
          exact this
        · have c2 := of_decide_eq_false c2
          rw [decide_eq_false (show ¬ i > 0 by omega)]; rfl
        rintro bb H2 ⟨rfl, hbb⟩
        refine br_intro (fun c3 => ?_) (fun c3 => ?_)
        · rw [c3] at hbb
          have hbb := hbb.symm
          simp only [Bool.and_eq_true, decide_eq_true_eq] at hbb
          exact fin (0, 0, 4) (by rw [if_pos hbb])
        · rw [c3] at hbb
          have hbb := hbb.symm
          simp only [Bool.and_eq_false_iff, decide_eq_false_iff_not] at hbb
          have hno : ¬ (i > 0 ∧ c.toNat = 0) := fun z => hbb.elim (fun y => y z.1) (fun y => y z.2)
          have := fin (unzig z', (i : Int) + 1, 0) (by rw [if_neg hno, hz3])
          rw [unzig_code hz2]
          exact this
  · have q := of_decide_eq_false q
    have e : 10 - i = 0 := by omega
    rw [e] at fin
    exact fin (0, 0, 4) rfl
theorem foldl_take {l : List Nat} {i : Nat} {b : Nat} (h : l[i]? = some b) (c : Nat) : (l.take (i + 1)).foldl byteC c = byteC ((l.take i).foldl byteC c) b := by
  obtain ⟨h1, h2⟩ := List.getElem?_eq_some_iff.1 h
  rw [List.take_succ_eq_append_getElem h1, h2, List.foldl_append]; rfl
theorem foldC_lt {l : List Nat} (h : ∀ b ∈ l, b < 256) : ∀ {c : Nat}, c < 4294967296 → l.foldl byteC c < 4294967296 := by
  induction l with
  | nil => intro c hc; exact hc
  | cons a l ih => intro c hc; exact ih (fun b hb => h b (List.mem_cons_of_mem _ hb)) (byteC_lt hc (h a List.mem_cons_self))
theorem crc_spec {b : ByteArray} {H : Heap} {K : Value → Heap → Prop} (hb : b.size ≤ 9223372036854775807) (k : K (.int .i64 (crcN (nb b))) H) : FnH Tryz.prog 44 #[.string b] H K := by
  apply wire_Crc_fn
  unfold wire_Crc_vc
  refine ⟨fun c n H1 => H1 = H ∧ 0 ≤ n ∧ n ≤ b.size ∧ c = (((nb b).take n.toNat).foldl byteC 4294967295 : Nat), fun _ n _ => (b.size - n).toNat, ⟨rfl, Int.le_refl _, by omega, rfl⟩, ?_⟩
  rintro _ n H1 ⟨rfl, n0, n1, rfl⟩
  have hlt : ((nb b).take n.toNat).foldl byteC 4294967295 < 4294967296 := foldC_lt (fun x hx => nb_byte b x (List.mem_of_mem_take hx)) (by decide)
  refine br_intro (fun q => ?_) (fun q => ?_)
  · have q := of_decide_eq_true q
    obtain ⟨c, e1, e2, e3⟩ := nb_get (s := b) (i := n.toNat) (by omega)
    have et := foldl_take e2 4294967295
    generalize ((nb b).take n.toNat).foldl byteC 4294967295 = cc at *
    have ew : IntKind.wrap .u32 ((c.toNat : Nat) : Int) = ((c.toNat : Nat) : Int) := by rw [wrap_u32]; omega
    have hx : cc ^^^ c.toNat < 4294967296 := Nat.xor_lt_two_pow (n := 32) (by omega) (by omega)
    refine ⟨n0, c, e1, ?_⟩
    rw [ew, xor_u32 hlt (by omega)]
    refine ⟨fun c2 m H2 => H2 = H1 ∧ 0 ≤ m ∧ m ≤ 8 ∧ c2 = (bitsC m.toNat (cc ^^^ c.toNat) : Nat), fun _ m _ => (8 - m).toNat, ⟨rfl, Int.le_refl _, by decide, rfl⟩, ?_⟩
    rintro _ m H2 ⟨rfl, m0, m1, rfl⟩
    refine br_intro (fun v => ?_) (fun v => ?_)
    · have v := of_decide_eq_true v
      rw [bit_code (bitsC_lt _ hx), wrap64_id (n := m + 1) (by omega) (by omega)]
      have em : (m + 1).toNat = m.toNat + 1 := by omega
      exact ⟨rfl, ⟨rfl, by omega, by omega, by rw [em, bitsC_snoc]⟩, by dsimp only; omega⟩
    · have v := of_decide_eq_false v
      have em : m.toNat = 8 := by omega
      rw [em, wrap64_id (n := n + 1) (by omega) (by omega)]
      have en : (n + 1).toNat = n.toNat + 1 := by omega
      exact ⟨rfl, ⟨rfl, by omega, by omega, by rw [en, et]; rfl⟩, by dsimp only; omega⟩
  · have q := of_decide_eq_false q
    have e : (nb b).take n.toNat = nb b := List.take_of_length_le (by rw [nb_len]; omega)
    rw [e] at hlt ⊢
    have e2 : xorI .u32 4294967295 (((nb b).foldl byteC 4294967295 : Nat) : Int) = ((crcN (nb b) : Nat) : Int) := by
      have := xor_u32 (a := 4294967295) (b := (nb b).foldl byteC 4294967295) (by decide) hlt
      unfold crcN
      rw [Nat.xor_comm]; exact this
    have hc : crcN (nb b) < 4294967296 := Nat.xor_lt_two_pow (n := 32) (by omega) (by decide)
    rw [e2, wrap64_id (by omega) (by omega)]; exact k
end Go.Proofs.YtmofinghoacobaaGreatDoor
namespace Go.Proofs.YtmofinghoacobaaGreatDoor
open Go Go.HL
set_option maxRecDepth 10000
set_option maxHeartbeats 1600000
abbrev byV (l : List Nat) : List Value := l.map fun b : Nat => Value.int .u8 (b : Int)
abbrev ownY (s : Sl) (l : List Nat) : Chunk := own 5 1 s (byV l)
def encL (L : List Int) : List Nat := L.flatMap encN
theorem encL_app (a b : List Int) : encL (a ++ b) = encL a ++ encL b := by simp [encL]
theorem encL_bytes (L : List Int) : ∀ b ∈ encL L, b < 256 := fun b hb => by
  obtain ⟨n, _, h⟩ := List.mem_flatMap.1 hb
  exact encN_bytes n b h
theorem crcN_lt (l : List Nat) (hl : ∀ b ∈ l, b < 256) : crcN l < 4294967296 := Nat.xor_lt_two_pow (n := 32) (foldC_lt hl (by decide)) (by decide)
theorem shr_n (c : Nat) (k : Nat) (hk : k < 64) : shrI .i64 (c : Int) k = ((c / 2 ^ k : Nat) : Int) := by
  have e : shrI .i64 (c : Int) k = (c : Int).fdiv ((2 : Int) ^ k) := by
    have h2 : min k IntKind.i64.bits = k := Nat.min_eq_left (by have : IntKind.i64.bits = 64 := rfl; omega)
    unfold shrI; simp [h2]
  rw [e, Int.fdiv_eq_ediv_of_nonneg _ (by exact Int.le_of_lt (Int.pow_pos (by decide)))]
  simp
section
variable {cs : List Chunk} {H : Heap} {K : Value → Heap → Prop}
end
end Go.Proofs.YtmofinghoacobaaGreatDoor
namespace Go.Proofs.YtmofinghoacobaaGreatDoor
open Go Go.HL
def rest (l : List Nat) : List Nat := l.drop (readN l).2.1.toNat
theorem rest_le (l : List Nat) : (rest l).length ≤ l.length := by unfold rest; rw [List.length_drop]; omega
theorem read_k (l : List Nat) (hl : ∀ b ∈ l, b < 256) : 0 ≤ (readN l).2.1 ∧ (readN l).2.1 ≤ l.length := by
  have h := rd_k 10 0 0 l
  refine ⟨h.1, ?_⟩
  by_cases e : (readN l).2.2 = 0
  · obtain ⟨r, h1, h2, h3, -⟩ := read_ok (n := (readN l).1) (k := (readN l).2.1) hl (by rw [← e])
    have := congrArg List.length h1
    rw [List.length_append] at this
    omega
  · have := (h.2 e).1
    have e2 : (readN l).2.1 = 0 := this
    omega
def nx (s : ByteArray) : ByteArray := s.extract (readN (nb s)).2.1.toNat s.size
theorem nb_nx (s : ByteArray) : nb (nx s) = rest (nb s) := by
  unfold nx rest
  rw [nb_extract, List.take_of_length_le (by rw [nb_len]; exact Nat.le_refl _)]
section
variable {cs : List Chunk} {H : Heap} {K : Value → Heap → Prop}
theorem held_undo {b : Nat} {o : Obj} (h : Holds (blk b o :: cs) H) : H b = some o ∧ Holds cs (H.del b) := by
  refine ⟨h.get 0 rfl, ?_⟩
  obtain ⟨A, B, e, d, p, q⟩ := h
  refine Holds.up (fun x y hx => ?_) q
  have hne : x ≠ b := by
    rintro rfl
    have := d x y hx
    rw [show A x = some o from p] at this; cases this
  rw [Heap.del_ne _ hne, e]
  exact Heap.join_right d hx
end
end Go.Proofs.YtmofinghoacobaaGreatDoor
namespace Go.Proofs.YtmofinghoacobaaGreatDoor
open Go Go.HL
set_option maxRecDepth 10000
set_option maxHeartbeats 1600000
def fourN (c : Nat) : List Nat := [c / 16777216 % 256, c / 65536 % 256, c / 256 % 256, c % 256]
theorem fourN_bytes (c : Nat) : ∀ b ∈ fourN c, b < 256 := by
  intro b hb
  simp only [fourN, List.mem_cons, List.not_mem_nil, or_false] at hb
  omega
theorem tdiv_n (c k : Nat) : Int.tdiv (c : Int) (k : Int) = ((c / k : Nat) : Int) := by
  rw [Int.tdiv_eq_ediv_of_nonneg (Int.natCast_nonneg c)]; rfl
theorem tmod_n (c k : Nat) : Int.tmod (c : Int) (k : Int) = ((c % k : Nat) : Int) := by
  rw [Int.tmod_eq_emod_of_nonneg (Int.natCast_nonneg c)]; rfl
section
variable {cs : List Chunk} {H : Heap} {K : Value → Heap → Prop}
theorem four_spec {c : Nat} (hc : c < 4294967296) (k : ∀ H', HL.Sub H H' → K (.string (strN (fourN c))) H') : FnH Tryz.prog 99 #[.int .i64 (c : Int)] H K := by
  apply logboomref3_Four_fn
  unfold logboomref3_Four_vc
  refine ⟨by decide, by decide, by decide, by decide, by decide, by decide, ?_⟩
  have a1 : Int.tdiv (c : Int) 16777216 = ((c / 16777216 : Nat) : Int) := tdiv_n c 16777216
  have a2 : Int.tdiv (c : Int) 65536 = ((c / 65536 : Nat) : Int) := tdiv_n c 65536
  have a3 : Int.tdiv (c : Int) 256 = ((c / 256 : Nat) : Int) := tdiv_n c 256
  have a4 : Int.tmod (c : Int) 256 = ((c % 256 : Nat) : Int) := tmod_n c 256
  rw [a1, a2, a3, a4, wrap64_id (n := ((c / 16777216 : Nat) : Int)) (by omega) (by omega), wrap64_id (n := ((c / 65536 : Nat) : Int)) (by omega) (by omega), wrap64_id (n := ((c / 256 : Nat) : Int)) (by omega) (by omega)]
  have b2 : Int.tmod ((c / 65536 : Nat) : Int) 256 = ((c / 65536 % 256 : Nat) : Int) := tmod_n _ 256
  have b3 : Int.tmod ((c / 256 : Nat) : Int) 256 = ((c / 256 % 256 : Nat) : Int) := tmod_n _ 256
  rw [b2, b3]
  have w : ∀ n : Nat, IntKind.wrap .u8 (n : Int) = ((n % 256 : Nat) : Int) := fun n => by rw [wrap_u8]; omega
  rw [w, w, w, w]
  refine (Holds.whole H).newS fun q H1 s1 h1 => ?_
  have ho : Own H1 5 1 ⟨some ⟨q, 0, none⟩, 4, 4⟩ (byV (fourN c)) := ⟨rfl, Nat.le_refl _, .inr ⟨q, _, rfl, h1.get 0 rfl, rfl, ?_⟩⟩
  · exact toStr (r := ⟨some ⟨q, 0, none⟩, 4, 4⟩) ho (fourN_bytes c) ⟨_, rfl, k H1 s1⟩
  · intro i hi
    have z : i = 0 ∨ i = 1 ∨ i = 2 ∨ i = 3 := by simp [fourN] at hi; omega
    rcases z with rfl | rfl | rfl | rfl
    · rfl
    · show some (Value.int .u8 _) = some (Value.int .u8 _); congr 2; omega
    · show some (Value.int .u8 _) = some (Value.int .u8 _); congr 2; omega
    · show some (Value.int .u8 _) = some (Value.int .u8 _); congr 2; omega
theorem rcrc_spec {b : ByteArray} (hb : b.size ≤ 9223372036854775806) (k : K (.int .i64 (crcN (nb b))) H) : FnH Tryz.prog 100 #[.string b] H K := by
  apply logboomref3_Crc_fn
  unfold logboomref3_Crc_vc
  refine ⟨fun c n H1 => H1 = H ∧ 0 ≤ n ∧ n ≤ b.size ∧ c = (((nb b).take n.toNat).foldl byteC 4294967295 : Nat), fun _ n _ => (b.size - n).toNat, ⟨rfl, Int.le_refl _, by omega, rfl⟩, ?_⟩
  rintro _ n H1 ⟨rfl, n0, n1, rfl⟩
  have hlt : ((nb b).take n.toNat).foldl byteC 4294967295 < 4294967296 := foldC_lt (fun x hx => nb_byte b x (List.mem_of_mem_take hx)) (by decide)
  refine br_intro (fun q => ?_) (fun q => ?_)
  · have q := of_decide_eq_true q
    obtain ⟨c, e1, e2, e3⟩ := nb_get (s := b) (i := n.toNat) (by omega)
    have et := foldl_take e2 4294967295
    generalize ((nb b).take n.toNat).foldl byteC 4294967295 = cc at *
    have ew : IntKind.wrap .u32 ((c.toNat : Nat) : Int) = ((c.toNat : Nat) : Int) := by rw [wrap_u32]; omega
    have hx : cc ^^^ c.toNat < 4294967296 := Nat.xor_lt_two_pow (n := 32) (by omega) (by omega)
    refine ⟨n0, c, e1, ?_⟩
    rw [ew, xor_u32 hlt (by omega)]
    refine ⟨fun c2 m H2 => H2 = H1 ∧ 0 ≤ m ∧ m ≤ 8 ∧ c2 = (bitsC m.toNat (cc ^^^ c.toNat) : Nat), fun _ m _ => (8 - m).toNat, ⟨rfl, Int.le_refl _, by decide, rfl⟩, ?_⟩
    rintro _ m H2 ⟨rfl, m0, m1, rfl⟩
    refine br_intro (fun v => ⟨by decide, by decide, ?_⟩) (fun v => ?_)
    · have v := of_decide_eq_true v
      have hc2 := bitsC_lt m.toNat hx
      have es := bitsC_snoc m.toNat (cc ^^^ c.toNat)
      generalize bitsC m.toNat (cc ^^^ c.toNat) = y at *
      have em : (m + 1).toNat = m.toNat + 1 := by omega
      have t1 : Int.tmod (y : Int) 2 = ((y % 2 : Nat) : Int) := tmod_n y 2
      have t2 : IntKind.wrap .u32 (Int.tdiv (y : Int) 2) = ((y / 2 : Nat) : Int) := by
        have : Int.tdiv (y : Int) 2 = ((y / 2 : Nat) : Int) := tdiv_n y 2
        rw [this, wrap_u32]; omega
      have t3 : xorI .u32 ((y / 2 : Nat) : Int) 2197175160 = (((y / 2) ^^^ 2197175160 : Nat) : Int) := xor_u32 (a := y / 2) (b := 2197175160) (by omega) (by decide)
      rw [t1, t2, wrap64_id (n := m + 1) (by omega) (by omega), t3]
      refine br_intro (fun w => ?_) (fun w => ?_)
      · have w : y % 2 = 1 := by have w : ((y % 2 : Nat) : Int) = 1 := by simpa using w
                                 omega
        exact ⟨rfl, ⟨rfl, by omega, by omega, by rw [em, es]; unfold bitC; rw [if_pos w]⟩, by dsimp only; omega⟩
      · have w : ¬ y % 2 = 1 := fun z => by rw [z] at w; simp at w
        exact ⟨rfl, ⟨rfl, by omega, by omega, by rw [em, es]; unfold bitC; rw [if_neg w]⟩, by dsimp only; omega⟩
    · have v := of_decide_eq_false v
      have em : m.toNat = 8 := by omega
      rw [em, wrap64_id (n := n + 1) (by omega) (by omega)]
      have en : (n + 1).toNat = n.toNat + 1 := by omega
      exact ⟨rfl, ⟨rfl, by omega, by omega, by rw [en, et]; rfl⟩, by dsimp only; omega⟩
  · have q := of_decide_eq_false q
    have e : (nb b).take n.toNat = nb b := List.take_of_length_le (by rw [nb_len]; omega)
    rw [e] at hlt ⊢
    have hc : crcN (nb b) < 4294967296 := Nat.xor_lt_two_pow (n := 32) (by omega) (by decide)
    have e2 : xorI .u32 (((nb b).foldl byteC 4294967295 : Nat) : Int) 4294967295 = ((crcN (nb b) : Nat) : Int) := xor_u32 (a := (nb b).foldl byteC 4294967295) (b := 4294967295) hlt (by decide)
    rw [e2, wrap64_id (by omega) (by omega)]; exact k
theorem sevens_loop {z0 : Nat} {n : Int} (hz : z0 = zigN n) (hn : i64B n) (k : ∀ H', HL.Sub H H' → K (.string (strN (encN n))) H') :
    ∃ I1 : Int → Sl → Heap → Prop, ∃ M1 : Int → Sl → Heap → Nat, I1 (z0 : Int) ⟨none, 0, 0⟩ H ∧ ∀ (z_1 : Int) (b_1 : Sl) (H1 : Heap), I1 z_1 b_1 H1 →
      br (decide (z_1 ≥ 128)) ((128 : Int) ≠ 0 ∧ ∀ q1 : Nat, H1 q1 = none → letH (Heap.upd H1 q1 (.cells #[.int .u8 (IntKind.wrap .u8 (IntKind.wrap .u64 ((Int.tmod z_1 128) + 128)))] 5 (0, 0))) fun H2 =>
        runH Tryz.prog (Builtin.append_ #[58, 58] 58 #[.slice b_1.p b_1.n b_1.c, .slice (some ⟨q1, 0, none⟩) 1 1]) H2 fun r1 H3 => ∃ l1 : Sl, r1 = .slice l1.p l1.n l1.c ∧ (128 : Int) ≠ 0 ∧ SelfEq ([], [], []) ∧ I1 (IntKind.wrap .u64 (Int.tdiv z_1 128)) l1 H3 ∧ M1 (IntKind.wrap .u64 (Int.tdiv z_1 128)) l1 H3 < M1 z_1 b_1 H1)
       (∀ q2 : Nat, H1 q2 = none → letH (Heap.upd H1 q2 (.cells #[.int .u8 (IntKind.wrap .u8 z_1)] 5 (0, 0))) fun H4 =>
        runH Tryz.prog (Builtin.append_ #[58, 58] 58 #[.slice b_1.p b_1.n b_1.c, .slice (some ⟨q2, 0, none⟩) 1 1]) H4 fun r2 H5 => ∃ l2 : Sl, r2 = .slice l2.p l2.n l2.c ∧ runH Tryz.prog (convert 58 9 (.slice l2.p l2.n l2.c)) H5 fun r3 H6 => ∃ s1 : ByteArray, r3 = .string s1 ∧ K (.string s1) H6) := by
  have hz64 : z0 < 18446744073709551616 := by rw [hz]; exact zig_lt hn.1 hn.2
  refine ⟨fun z b H1 => ∃ (y j : Nat) (m : List Nat), z = y ∧ 0 < j ∧ j ≤ 10 ∧ y < 128 ^ j ∧ y < 18446744073709551616 ∧ m ++ encD j y = encN n ∧ (∀ x ∈ m, x < 256) ∧ Holds [ownY b m, ro H] H1, fun z _ _ => z.toNat,
    ⟨z0, 10, [], rfl, by decide, by decide, by omega, hz64, by rw [hz]; rfl, by simp, (Holds.whole H).own_nil 5 1⟩, ?_⟩
  rintro _ b H1 ⟨y, j, m, rfl, j0, j1, y1, y2, em, hm, h1⟩
  obtain ⟨i, rfl⟩ : ∃ i, j = i + 1 := ⟨j - 1, by omega⟩
  have hbn := (h1.own 0 rfl).1
  simp only [List.length_map, Nat.mul_one] at hbn
  have hml : m.length ≤ 10 := by
    have := congrArg List.length em
    have h2 := encN_len n
    rw [List.length_append] at this; omega
  have w : ∀ n : Nat, IntKind.wrap .u8 (n : Int) = ((n % 256 : Nat) : Int) := fun n => by rw [wrap_u8]; omega
  have push : ∀ (x : Nat) (X : Value → Heap → Prop), (∀ (r : Sl) H3, Holds [ownY r (m ++ [x]), ro H] H3 → X (.slice r.p r.n r.c) H3) → ∀ q, H1 q = none → letH (Heap.upd H1 q (.cells #[.int .u8 ((x : Nat) : Int)] 5 (0, 0))) fun H2 => runH Tryz.prog (Builtin.append_ #[58, 58] 58 #[.slice b.p b.n b.c, .slice (some ⟨q, 0, none⟩) 1 1]) H2 X := fun x X kX =>
    Holds.push okBy h1 (xs := [.int .u8 ((x : Nat) : Int)]) (m := 1) rfl rfl (by omega) fun r H3 h3 _ => kX r H3 (by
      have e : byV (m ++ [x]) = byV m ++ [.int .u8 ((x : Nat) : Int)] := by simp
      show Holds [own 5 1 r (byV (m ++ [x])), _] H3
      rw [e]; exact h3)
  refine br_intro (fun q => ⟨by decide, ?_⟩) (fun q => ?_)
  · have q : y ≥ 128 := by have := of_decide_eq_true q; omega
    have t1 : Int.tmod (y : Int) 128 = ((y % 128 : Nat) : Int) := tmod_n y 128
    have t2 : Int.tdiv (y : Int) 128 = ((y / 128 : Nat) : Int) := tdiv_n y 128
    have t3 : IntKind.wrap .u8 (IntKind.wrap .u64 (((y % 128 : Nat) : Int) + 128)) = ((y % 128 + 128 : Nat) : Int) := by rw [wrap_u64', wrap_u8]; omega
    have t4 : IntKind.wrap .u64 ((y / 128 : Nat) : Int) = ((y / 128 : Nat) : Int) := by rw [wrap_u64']; omega
    rw [t1, t2, t3, t4]
    have ed : encD (i + 1) y = (y % 128 + 128) :: encD i (y / 128) := by
      show (if y ≥ 128 then _ else _) = _
      rw [if_pos q]
    have i0 : 0 < i := Nat.pos_of_ne_zero fun e => by
      subst e
      simp at y1; omega
    refine push _ _ fun r H3 h3 => ⟨r, rfl, by decide, rfl, ⟨y / 128, i, m ++ [y % 128 + 128], rfl, i0, by omega, ?_, by omega, ?_, fun x hx => ?_, h3⟩, by dsimp only; omega⟩
    · rw [Nat.pow_succ] at y1; omega
    · rw [← em, ed]; simp
    · rcases List.mem_append.1 hx with z | z
      · exact hm x z
      · simp only [List.mem_singleton] at z; rw [z]; omega
  · have q : ¬ y ≥ 128 := by have := of_decide_eq_false q; omega
    have ed : encD (i + 1) y = [y] := by
      show (if y ≥ 128 then _ else _) = _
      rw [if_neg q]
    have t5 : IntKind.wrap .u8 (y : Int) = ((y : Nat) : Int) := by rw [wrap_u8]; omega
    rw [t5]
    refine push _ _ fun r H3 h3 => ⟨r, rfl, ?_⟩
    rw [← ed, em] at h3
    exact toStr (h3.own 0 rfl) (encN_bytes n) ⟨_, rfl, k H3 (h3.sub 1 rfl)⟩
theorem rint3_spec {n : Int} (hn : i64B n) (k : ∀ H', HL.Sub H H' → K (.string (strN (encN n))) H') : FnH Tryz.prog 57 #[.int .i64 n] H K := by
  apply logboomref3_Int_fn
  unfold logboomref3_Int_vc
  obtain ⟨n0, n1⟩ := hn
  have hz := zig_lt n0 n1
  refine br_intro (fun q => ?_) (fun q => ?_)
  · have q := of_decide_eq_true q
    have e : IntKind.wrap .u64 ((IntKind.wrap .u64 (2 * (IntKind.wrap .u64 (IntKind.wrap .i64 (0 - (IntKind.wrap .i64 (n + 1))))))) + 1) = ((zigN n : Nat) : Int) := by
      rw [wrap64_id (n := n + 1) (by omega) (by omega), wrap64_id (n := 0 - (n + 1)) (by omega) (by omega), wrap_u64', wrap_u64', wrap_u64']
      unfold zigN
      rw [if_pos q]; omega
    rw [e]
    exact sevens_loop rfl ⟨n0, n1⟩ k
  · have q := of_decide_eq_false q
    have e : IntKind.wrap .u64 (2 * (IntKind.wrap .u64 n)) = ((zigN n : Nat) : Int) := by
      rw [wrap_u64', wrap_u64']
      unfold zigN
      rw [if_neg q]; omega
    rw [e]
    exact sevens_loop rfl ⟨n0, n1⟩ k
end
end Go.Proofs.YtmofinghoacobaaGreatDoor
namespace Go.Proofs.YtmofinghoacobaaGreatDoor
open Go Go.HL
set_option maxRecDepth 10000
set_option maxHeartbeats 1600000
section
variable {cs : List Chunk} {H : Heap} {K : Value → Heap → Prop}
end
end Go.Proofs.YtmofinghoacobaaGreatDoor
namespace Go.Proofs.YtmofinghoacobaaGreatDoor
open Go Go.HL
def lstB (l : List Int) : List Nat := encN l.length ++ encL l
def brkB (x : Int × (Int × Bool)) : List Nat := encL [x.1, x.2.1, if x.2.2 = true then 1 else 0]
def topB (t : ByteArray × Int × Int) : List Nat := encN t.1.size ++ nb t.1 ++ encL [t.2.1, t.2.2]
def prtB (p : Part) : List Nat := encL [p.leader, p.epoch, p.version, p.min] ++ lstB p.isr ++ lstB p.replicas ++ lstB p.adding ++ lstB p.removing
def bodyB (I : Im) : List Nat := encL [I.app, I.brk.length] ++ I.brk.flatMap brkB ++ encL [(I.top.length : Int)] ++ I.top.flatMap topB ++ encL [(I.prt.length : Int)] ++ I.prt.flatMap prtB ++ lstB I.prd
def keepB (I : Im) : List Nat := fourN (crcN (bodyB I)) ++ bodyB I
def intP (least most : Int) (l : List Nat) : Option (Int × List Nat) := if (readN l).2.2 = 0 ∧ least ≤ (readN l).1 ∧ (readN l).1 ≤ most then some ((readN l).1, rest l) else none
def repP (a b : Int) : Nat → List Int → List Nat → Option (List Int × List Nat)
  | 0, acc, l => some (acc, l)
  | k + 1, acc, l => (intP a b l).bind fun x => repP a b k (acc ++ [x.1]) x.2
def lstP (many a b : Int) (l : List Nat) : Option (List Int × List Nat) := (intP 0 many l).bind fun x => repP a b x.1.toNat [] x.2
def brkP : Nat → Int → List (Int × (Int × Bool)) → List Nat → Option (List (Int × (Int × Bool)) × List Nat)
  | 0, _, acc, l => some (acc, l)
  | k + 1, last, acc, l => (intP (last + 1) 7 l).bind fun i => (intP 1 1000000000 i.2).bind fun f => (intP 0 1 f.2).bind fun u => brkP k i.1 (acc ++ [(i.1, f.1, decide (u.1 = 1))]) u.2
def topP : Nat → Int → List (ByteArray × Int × Int) → List Nat → Option (List (ByteArray × Int × Int) × Int × List Nat)
  | 0, next, acc, l => some (acc, next, l)
  | k + 1, next, acc, l => (intP 1 32 l).bind fun n => if (n.2.length : Int) < n.1 then none else
      (intP 1 16 (n.2.drop n.1.toNat)).bind fun f => (intP 1 16 f.2).bind fun m =>
        if tNamed (strN (n.2.take n.1.toNat)) = true ∧ (∀ t ∈ acc, t.1 ≠ strN (n.2.take n.1.toNat)) ∧ f.1 = next then topP k (next + m.1) (acc ++ [(strN (n.2.take n.1.toNat), f.1, m.1)]) m.2 else none
def oneP (id : Int) (l : List Nat) : Option (Part × List Nat) :=
  (intP 0 7 l).bind fun a => (intP 1 1000000000 a.2).bind fun b => (intP 1 1000000000 b.2).bind fun c => (intP 1 5 c.2).bind fun d =>
    (lstP 7 1 7 d.2).bind fun i => (lstP 7 1 7 i.2).bind fun r => (lstP 7 1 7 r.2).bind fun x => (lstP 7 1 7 x.2).bind fun y =>
      if rightB ⟨id, a.1, b.1, c.1, i.1, r.1, x.1, y.1, d.1⟩ = true then some (⟨id, a.1, b.1, c.1, i.1, r.1, x.1, y.1, d.1⟩, y.2) else none
def prtP : Nat → List Part → List Nat → Option (List Part × List Nat)
  | 0, acc, l => some (acc, l)
  | k + 1, acc, l => (oneP (acc.length + 1) l).bind fun p => prtP k (acc ++ [p.1]) p.2
def bodyP (l : List Nat) : Option Im :=
  (intP 0 9223372036854775807 l).bind fun a => (intP 0 7 a.2).bind fun n => (brkP n.1.toNat 0 [] n.2).bind fun B => (intP 0 16 B.2).bind fun nt => (topP nt.1.toNat 1 [] nt.2).bind fun T =>
    (intP 0 16 T.2.2).bind fun np => (prtP np.1.toNat [] np.2).bind fun P => (lstP 1000 0 1000000000 P.2).bind fun D =>
      if D.2 = [] ∧ T.2.1 = (P.1.length : Int) + 1 then some ⟨a.1, B.1, T.1, P.1, D.1⟩ else none
def loadP (s : List Nat) : Option Im := if s.length < 4 ∨ fourN (crcN (s.drop 4)) ≠ s.take 4 then none else bodyP (s.drop 4)
theorem intP_enc {n least most : Int} {r : List Nat} (h : least ≤ n ∧ n ≤ most) (hi : i64B n) : intP least most (encN n ++ r) = some (n, r) := by
  unfold intP rest
  rw [read_enc hi.1 hi.2 r]
  rw [if_pos ⟨rfl, h.1, h.2⟩]
  show some (n, (encN n ++ r).drop ((encN n).length : Int).toNat) = _
  rw [Int.toNat_natCast, List.drop_left]
theorem encL_cons (n : Int) (L : List Int) : encL (n :: L) = encN n ++ encL L := rfl
theorem encL_nil : encL [] = [] := rfl
theorem repP_enc {a b : Int} (hab : -9223372036854775808 ≤ a ∧ b ≤ 9223372036854775807) : ∀ {L acc : List Int} {r : List Nat}, (∀ x ∈ L, a ≤ x ∧ x ≤ b) → repP a b L.length acc (encL L ++ r) = some (acc ++ L, r)
  | [], acc, r, _ => by simp [repP, encL_nil]
  | x :: L, acc, r, h => by
    have hx := h x (List.mem_cons_self ..)
    show (intP a b (encL (x :: L) ++ r)).bind _ = _
    rw [encL_cons, List.append_assoc, intP_enc hx ⟨by omega, by omega⟩]
    show repP a b L.length (acc ++ [x]) (encL L ++ r) = _
    rw [repP_enc hab fun y hy => h y (List.mem_cons_of_mem _ hy)]
    simp
theorem lstP_enc {many a b : Int} (hab : -9223372036854775808 ≤ a ∧ b ≤ 9223372036854775807) {L : List Int} {r : List Nat} (hm : (L.length : Int) ≤ many ∧ many ≤ 9223372036854775807) (h : ∀ x ∈ L, a ≤ x ∧ x ≤ b) : lstP many a b (lstB L ++ r) = some (L, r) := by
  unfold lstP lstB
  rw [List.append_assoc, intP_enc ⟨by omega, hm.1⟩ ⟨by omega, by omega⟩]
  show repP a b ((L.length : Int)).toNat [] (encL L ++ r) = _
  rw [Int.toNat_natCast, repP_enc hab h, List.nil_append]
theorem brkP_enc : ∀ {B acc : List (Int × (Int × Bool))} {last : Int} {r : List Nat}, 0 ≤ last → SortedL ltI B → (∀ x ∈ B, last < x.1 ∧ x.1 ≤ 7 ∧ 1 ≤ x.2.1 ∧ x.2.1 ≤ 1000000000) → brkP B.length last acc (B.flatMap brkB ++ r) = some (acc ++ B, r)
  | [], acc, last, r, _, _, _ => by simp [brkP]
  | (id, life, up) :: B, acc, last, r, h0, hs, h => by
    have hx := h _ (List.mem_cons_self ..)
    have hx : last < id ∧ id ≤ 7 ∧ 1 ≤ life ∧ life ≤ 1000000000 := hx
    have e : (((id, life, up) :: B).flatMap brkB ++ r) = encN id ++ (encN life ++ (encN (if up = true then 1 else 0) ++ (B.flatMap brkB ++ r))) := by
      simp [brkB, encL, List.flatMap_cons]
    rw [e]
    show (intP (last + 1) 7 _).bind _ = _
    rw [intP_enc ⟨by omega, by omega⟩ ⟨by omega, by omega⟩]
    show (intP 1 1000000000 _).bind _ = _
    rw [intP_enc ⟨by omega, by omega⟩ ⟨by omega, by omega⟩]
    show (intP 0 1 _).bind _ = _
    rw [intP_enc (by cases up <;> decide) ⟨by cases up <;> decide, by cases up <;> decide⟩]
    show brkP B.length id (acc ++ [(id, life, decide ((if up = true then (1 : Int) else 0) = 1))]) _ = _
    have eu : decide ((if up = true then (1 : Int) else 0) = 1) = up := by cases up <;> decide
    obtain ⟨s1, s2⟩ := List.pairwise_cons.1 hs
    rw [eu, brkP_enc (by omega) s2 fun x hx' => ⟨of_decide_eq_true (s1 x hx'), (h x (List.mem_cons_of_mem _ hx')).2⟩]
    simp
theorem strN_nb (s : ByteArray) : strN (nb s) = s := nb_inj (nb_str (nb_byte s))
theorem topP_enc : ∀ {T acc : List (ByteArray × Int × Int)} {next last : Int} {r : List Nat}, chainT next T last → ((acc ++ T).map Prod.fst).Nodup → (∀ t ∈ T, tNamed t.1 = true ∧ 1 ≤ t.2.1 ∧ t.2.1 ≤ 16 ∧ 1 ≤ t.2.2 ∧ t.2.2 ≤ 16) →
    topP T.length next acc (T.flatMap topB ++ r) = some (acc ++ T, last, r)
  | [], acc, next, last, r, hc, _, _ => by have hc : next = last := hc; simp [topP, hc]
  | (name, first, many) :: T, acc, next, last, r, hc, hn, h => by
    have hx := h _ (List.mem_cons_self ..)
    have hx : tNamed name = true ∧ 1 ≤ first ∧ first ≤ 16 ∧ 1 ≤ many ∧ many ≤ 16 := hx
    obtain ⟨c1, c2⟩ := hc
    have c1 : first = next := c1
    have hsz : name.size ≠ 0 ∧ name.size ≤ 32 := by
      have := hx.1
      unfold tNamed at this
      simp only [Bool.and_eq_true, decide_eq_true_eq] at this
      exact this.1
    have e : (((name, first, many) :: T).flatMap topB ++ r) = encN name.size ++ (nb name ++ (encN first ++ (encN many ++ (T.flatMap topB ++ r)))) := by
      simp [topB, encL, List.flatMap_cons]
    have hl := nb_len name
    rw [e]
    show (intP 1 32 _).bind _ = _
    rw [intP_enc ⟨by omega, by omega⟩ ⟨by omega, by omega⟩]
    show (if ((nb name ++ (encN first ++ (encN many ++ (T.flatMap topB ++ r)))).length : Int) < (name.size : Int) then none else _) = _
    rw [if_neg (by rw [List.length_append, hl]; omega)]
    have et : (nb name ++ (encN first ++ (encN many ++ (T.flatMap topB ++ r)))).take ((name.size : Int)).toNat = nb name := by rw [Int.toNat_natCast, ← hl, List.take_left]
    have ed : (nb name ++ (encN first ++ (encN many ++ (T.flatMap topB ++ r)))).drop ((name.size : Int)).toNat = encN first ++ (encN many ++ (T.flatMap topB ++ r)) := by rw [Int.toNat_natCast, ← hl, List.drop_left]
    show (intP 1 16 (List.drop ((name.size : Int)).toNat _)).bind _ = _
    rw [ed, et, intP_enc ⟨by omega, by omega⟩ ⟨by omega, by omega⟩]
    show (intP 1 16 (encN many ++ _)).bind _ = _
    rw [intP_enc ⟨by omega, by omega⟩ ⟨by omega, by omega⟩, strN_nb]
    have hfresh : ∀ t ∈ acc, t.1 ≠ name := fun t ht e => by
      rw [List.map_append, List.nodup_append] at hn
      exact hn.2.2 t.1 (List.mem_map_of_mem ht) name (by simp) e
    show (if tNamed name = true ∧ (∀ t ∈ acc, t.1 ≠ name) ∧ first = next then topP T.length (next + many) (acc ++ [(name, first, many)]) (T.flatMap topB ++ r) else none) = _
    rw [if_pos ⟨hx.1, hfresh, c1⟩]
    have ea : acc ++ [(name, first, many)] ++ T = acc ++ (name, first, many) :: T := by simp
    rw [topP_enc c2 (by rw [ea]; exact hn) fun t ht => h t (List.mem_cons_of_mem _ ht), ea]
theorem ids_bound {l : List Int} (h : idsL l = true) : (l.length : Int) ≤ 7 ∧ ∀ x ∈ l, 1 ≤ x ∧ x ≤ 7 := ⟨by have := ids_len h; omega, (ids_iff.1 h).2⟩
theorem oneP_enc {p : Part} {id : Int} {r : List Nat} (h : RightOf p) (e : p.id = id) : oneP id (prtB p ++ r) = some (p, r) := by
  have hb := right_iff.2 h
  have hlead : 0 ≤ p.leader ∧ p.leader ≤ 7 := by
    rcases h.leader with q | q
    · omega
    · have := (ids_iff.1 h.isr).2 _ q; omega
  have h1 := h.epoch; have h2 := h.version; have h3 := h.min
  obtain ⟨i1, i2⟩ := ids_bound h.isr; obtain ⟨r1, r2⟩ := ids_bound h.replicas; obtain ⟨a1, a2⟩ := ids_bound h.adding; obtain ⟨m1, m2⟩ := ids_bound h.removing
  have ee : prtB p ++ r = encN p.leader ++ (encN p.epoch ++ (encN p.version ++ (encN p.min ++ (lstB p.isr ++ (lstB p.replicas ++ (lstB p.adding ++ (lstB p.removing ++ r))))))) := by simp [prtB, encL]
  rw [ee]
  unfold oneP
  rw [intP_enc hlead ⟨by omega, by omega⟩]
  show (intP 1 1000000000 (encN p.epoch ++ _)).bind _ = _
  rw [intP_enc h1 ⟨by omega, by omega⟩]
  show (intP 1 1000000000 (encN p.version ++ _)).bind _ = _
  rw [intP_enc h2 ⟨by omega, by omega⟩]
  show (intP 1 5 (encN p.min ++ _)).bind _ = _
  rw [intP_enc h3 ⟨by omega, by omega⟩]
  show (lstP 7 1 7 (lstB p.isr ++ _)).bind _ = _
  rw [lstP_enc (by decide) ⟨i1, by decide⟩ i2]
  show (lstP 7 1 7 (lstB p.replicas ++ _)).bind _ = _
  rw [lstP_enc (by decide) ⟨r1, by decide⟩ r2]
  show (lstP 7 1 7 (lstB p.adding ++ _)).bind _ = _
  rw [lstP_enc (by decide) ⟨a1, by decide⟩ a2]
  show (lstP 7 1 7 (lstB p.removing ++ _)).bind _ = _
  rw [lstP_enc (by decide) ⟨m1, by decide⟩ m2]
  subst e
  show (if rightB p = true then some (p, r) else none) = _
  rw [if_pos hb]
theorem prtP_enc : ∀ {P acc : List Part} {r : List Nat}, (∀ p ∈ P, RightOf p) → (∀ (i : Nat) (p : Part), P[i]? = some p → p.id = (acc.length : Int) + i + 1) → prtP P.length acc (P.flatMap prtB ++ r) = some (acc ++ P, r)
  | [], acc, r, _, _ => by simp [prtP]
  | p :: P, acc, r, h, hi => by
    have e0 := hi 0 p rfl
    have ee : (p :: P).flatMap prtB ++ r = prtB p ++ (P.flatMap prtB ++ r) := by simp [List.flatMap_cons]
    rw [ee]
    show (oneP (acc.length + 1) _).bind _ = _
    rw [oneP_enc (h p (List.mem_cons_self ..)) (by rw [e0]; simp)]
    show prtP P.length (acc ++ [p]) (P.flatMap prtB ++ r) = _
    rw [prtP_enc (fun q hq => h q (List.mem_cons_of_mem _ hq)) fun i q hq => by
      rw [hi (i + 1) q (by simpa using hq), List.length_append]
      have : ([p] : List Part).length = 1 := rfl
      omega]
    simp
theorem body_enc {I : Im} (h : ImR I) (ha : 0 ≤ I.app ∧ I.app ≤ 9223372036854775807) : bodyP (bodyB I) = some I := by
  have hbl : I.brk.length ≤ 7 := by
    have := ids_len (l := I.brk.map Prod.fst) (ids_iff.2 ⟨brk_nodup h.ok, fun x hx => by
      obtain ⟨y, hy, rfl⟩ := List.mem_map.1 hx
      have := h.ok.ids y hy
      omega⟩)
    rwa [List.length_map] at this
  have htl := h.ok.tops
  have hpl := h.ok.parts
  have hdl := h.ok.prds
  have e : bodyB I = encN I.app ++ (encN I.brk.length ++ (I.brk.flatMap brkB ++ (encN I.top.length ++ (I.top.flatMap topB ++ (encN I.prt.length ++ (I.prt.flatMap prtB ++ (lstB I.prd ++ []))))))) := by simp [bodyB, encL]
  rw [e]
  unfold bodyP
  rw [intP_enc ha ⟨by omega, by omega⟩]
  show (intP 0 7 (encN I.brk.length ++ _)).bind _ = _
  rw [intP_enc ⟨by omega, by omega⟩ ⟨by omega, by omega⟩]
  show (brkP ((I.brk.length : Int)).toNat 0 [] _).bind _ = _
  rw [Int.toNat_natCast, brkP_enc (by decide) h.ok.sorted fun x hx => by have := h.ok.ids x hx; omega]
  show (intP 0 16 (encN I.top.length ++ _)).bind _ = _
  rw [intP_enc ⟨by omega, by omega⟩ ⟨by omega, by omega⟩]
  show (topP ((I.top.length : Int)).toNat 1 [] _).bind _ = _
  rw [Int.toNat_natCast, topP_enc h.chain (by simpa using h.names) h.ok.topv]
  show (intP 0 16 (encN I.prt.length ++ _)).bind _ = _
  rw [intP_enc ⟨by omega, by omega⟩ ⟨by omega, by omega⟩]
  show (prtP ((I.prt.length : Int)).toNat [] _).bind _ = _
  rw [Int.toNat_natCast, prtP_enc h.ok.right fun i p hp => by rw [h.idp i p hp]; simp]
  show (lstP 1000 0 1000000000 (lstB I.prd ++ [])).bind _ = _
  rw [lstP_enc (by decide) ⟨by omega, by decide⟩ h.ok.prd]
  show (if ([] : List Nat) = [] ∧ (I.prt.length : Int) + 1 = (([] ++ I.prt).length : Int) + 1 then some (⟨I.app, [] ++ I.brk, [] ++ I.top, [] ++ I.prt, I.prd⟩ : Im) else none) = _
  rw [if_pos ⟨rfl, by simp⟩]
  simp
theorem load_keep {I : Im} (h : ImR I) (ha : 0 ≤ I.app ∧ I.app ≤ 9223372036854775807) : loadP (keepB I) = some I := by
  have h4 : (fourN (crcN (bodyB I))).length = 4 := rfl
  unfold loadP keepB
  rw [List.drop_left' h4, List.take_left' h4, if_neg (by rw [List.length_append, h4]; simp)]
  exact body_enc h ha
end Go.Proofs.YtmofinghoacobaaGreatDoor
namespace Go.Proofs.YtmofinghoacobaaGreatDoor
open Go Go.HL
end Go.Proofs.YtmofinghoacobaaGreatDoor
