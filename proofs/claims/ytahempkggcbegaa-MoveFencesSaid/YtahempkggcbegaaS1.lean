/- What the functions on lists do: they read lists, and make new ones. -/
import Derived.Test.YtahempkggcbegaaV1
import Derived.Test.YtahempkggcbegaaHlUse
namespace Go.Proofs.Ytahempkggcbegaa
open Go.HL

theorem ok22 : ElemOK Try.prog 22 3 1 := ElemOK.of (by kernel_rfl)
theorem small {l : List Int} {H : Heap} {s : Sl} (h : Ints H s l) (hb : l.length ≤ 1000000) : s.n ≤ 1000000 := by rw [h.len]; exact hb

theorem index_spec {H : Heap} {s : Sl} {l : List Int} {x : Int} {K : Value → Heap → Prop} (h : Ints H s l) (k : ∀ n : Int, (0 ≤ n ↔ x ∈ l) → K (.int .i64 n) H) :
    FnH Try.prog 39 #[.slice s.p s.n s.c, .int .i64 x] H K := by
  apply slices_Index_Lint_int_fn
  unfold slices_Index_Lint_int_vc
  have hl := h.len
  have hbig := h.big
  refine ⟨fun n H1 => H1 = H ∧ 0 ≤ n ∧ n ≤ s.n ∧ x ∉ l.take n.toNat, fun n _ => (s.n - n).toNat, ⟨rfl, by omega, by omega, by simp⟩, ?_⟩
  rintro n H1 ⟨rfl, h0, h1, hx⟩
  refine br_intro (fun hlt => ?_) (fun hge => ?_)
  · have hlt := of_decide_eq_true hlt
    obtain ⟨b, o, g1, g2, g3, g4⟩ := h.at_ h0 hlt
    refine ⟨b, o, g1, g2, g3, _, g4, br_intro (fun he => ?_) (fun hne => ?_)⟩
    · have he : x = l.getD n.toNat 0 := by simpa using he
      refine k _ ⟨fun _ => ?_, fun _ => h0⟩
      rw [he]; exact getD_mem h0 (by omega)
    · have hne : ¬ x = l.getD n.toNat 0 := by simpa using hne
      rw [wrap64_id (by omega) (by omega)]
      refine ⟨rfl, ⟨rfl, by omega, by omega, ?_⟩, by dsimp only; omega⟩
      rw [take_next (d := 0) h0 (by omega)]
      simp only [List.mem_append, List.mem_singleton]
      rintro (q | q)
      · exact hx q
      · exact hne q
  · have hge : ¬ n < s.n := by simpa using hge
    refine k _ ⟨fun q => absurd q (by decide), fun q => ?_⟩
    rw [take_all (by omega)] at hx
    exact absurd q hx
theorem index_list_spec {H : Heap} {s : Sl} {l : List Int} {x : Int} {K : Value → Heap → Prop} (h : Ints H s l) (k : ∀ n : Int, (0 ≤ n ↔ x ∈ l) → K (.int .i64 n) H) :
    FnH Try.prog 42 #[.slice s.p s.n s.c, .int .i64 x] H K := by
  apply slices_Index_reassign_list_int_fn
  unfold slices_Index_reassign_list_int_vc
  have hl := h.len
  have hbig := h.big
  refine ⟨fun n H1 => H1 = H ∧ 0 ≤ n ∧ n ≤ s.n ∧ x ∉ l.take n.toNat, fun n _ => (s.n - n).toNat, ⟨rfl, by omega, by omega, by simp⟩, ?_⟩
  rintro n H1 ⟨rfl, h0, h1, hx⟩
  refine br_intro (fun hlt => ?_) (fun hge => ?_)
  · have hlt := of_decide_eq_true hlt
    obtain ⟨b, o, g1, g2, g3, g4⟩ := h.at_ h0 hlt
    refine ⟨b, o, g1, g2, g3, _, g4, br_intro (fun he => ?_) (fun hne => ?_)⟩
    · have he : x = l.getD n.toNat 0 := by simpa using he
      refine k _ ⟨fun _ => ?_, fun _ => h0⟩
      rw [he]; exact getD_mem h0 (by omega)
    · have hne : ¬ x = l.getD n.toNat 0 := by simpa using hne
      rw [wrap64_id (by omega) (by omega)]
      refine ⟨rfl, ⟨rfl, by omega, by omega, ?_⟩, by dsimp only; omega⟩
      rw [take_next (d := 0) h0 (by omega)]
      simp only [List.mem_append, List.mem_singleton]
      rintro (q | q)
      · exact hx q
      · exact hne q
  · have hge : ¬ n < s.n := by simpa using hge
    refine k _ ⟨fun q => absurd q (by decide), fun q => ?_⟩
    rw [take_all (by omega)] at hx
    exact absurd q hx

theorem contains_spec {H : Heap} {s : Sl} {l : List Int} {x : Int} {K : Value → Heap → Prop} (h : Ints H s l) (k : K (.bool (decide (x ∈ l))) H) :
    FnH Try.prog 27 #[.slice s.p s.n s.c, .int .i64 x] H K := by
  apply slices_Contains_Lint_int_fn
  refine index_spec h fun n hn => ⟨n, rfl, ?_⟩
  have : decide (n ≥ 0) = decide (x ∈ l) := decide_eq_decide.2 hn
  rw [this]; exact k
theorem contains_list_spec {H : Heap} {s : Sl} {l : List Int} {x : Int} {K : Value → Heap → Prop} (h : Ints H s l) (k : K (.bool (decide (x ∈ l))) H) :
    FnH Try.prog 41 #[.slice s.p s.n s.c, .int .i64 x] H K := by
  apply slices_Contains_reassign_list_int_fn
  refine index_list_spec h fun n hn => ⟨n, rfl, ?_⟩
  have : decide (n ≥ 0) = decide (x ∈ l) := decide_eq_decide.2 hn
  rw [this]; exact k
theorem has_spec {H : Heap} {s : Sl} {l : List Int} {x : Int} {K : Value → Heap → Prop} (h : Ints H s l) (k : K (.bool (decide (x ∈ l))) H) :
    FnH Try.prog 38 #[.slice s.p s.n s.c, .int .i64 x] H K := by
  apply reassign_list_has_fn
  exact contains_list_spec h ⟨_, rfl, k⟩
theorem lacks_spec {H : Heap} {s : Sl} {l : List Int} {x : Int} {K : Value → Heap → Prop} (h : Ints H s l) (k : K (.bool (!decide (x ∈ l))) H) :
    FnH Try.prog 40 #[.slice s.p s.n s.c, .int .i64 x] H K := by
  apply reassign_list_lacks_fn
  exact has_spec h ⟨_, rfl, k⟩

def withL (l m : List Int) : List Int := l.filter fun x => decide (x ∈ m)
def withoutL (l m : List Int) : List Int := l.filter fun x => !decide (x ∈ m)

theorem of_not_decide {p : Prop} [Decidable p] (h : (!decide p) = true) : ¬ p := by simpa using h
theorem of_not_decide2 {p : Prop} [Decidable p] (h : (!decide p) = false) : ¬ ¬ p := by simpa using h
theorem those_has_spec {H : Heap} {s t : Sl} {l m : List Int} {K : Value → Heap → Prop} (hl : Ints H s l) (hm : Ints H t m) (hb : s.n ≤ 1000000)
    (k : ∀ r H', Sub H H' → Ints H' r (withL l m) → K (.slice r.p r.n r.c) H') : FnH Try.prog 37 #[.slice s.p s.n s.c, .func (.func 38) #[] #[], .slice t.p t.n t.c] H K := by
  apply those_has_fn
  unfold those_has_vc
  have hn := hl.len
  have hbig := hl.big
  refine ⟨fun out n H1 => Sub H H1 ∧ Fresh H out ∧ 0 ≤ n ∧ n ≤ s.n ∧ Own H1 3 1 out ((withL (l.take n.toNat) m).map (Value.int .i64)), fun _ n _ => (s.n - n).toNat,
    ⟨Sub.refl _, Fresh.nil _ _ _, by omega, by omega, Own.nil _ _ _⟩, ?_⟩
  rintro out n H1 ⟨hs, hf, h0, h1, ho⟩
  refine br_intro (fun hlt => ?_) (fun hge => ?_)
  · have hlt := of_decide_eq_true hlt
    obtain ⟨b, o, g1, g2, g3, g4⟩ := (hl.sub hs).at_ h0 hlt
    refine ⟨b, o, g1, g2, g3, _, g4, ?_⟩
    have hlen := ho.1
    simp only [List.length_map, Nat.mul_one] at hlen
    have hle : (withL (l.take n.toNat) m).length ≤ n.toNat := Nat.le_trans (List.length_filter_le _ _) (List.length_take_le _ _)
    have htn : withL (l.take (n + 1).toNat) m = withL (l.take n.toNat) m ++ (if l.getD n.toNat 0 ∈ m then [l.getD n.toNat 0] else []) := by
      rw [take_next (d := 0) h0 (by omega)]
      unfold withL
      rw [List.filter_append]
      congr 1
      simp [List.filter_cons]
    refine has_spec (hm.sub hs) ⟨_, rfl, br_intro (fun he => ?_) (fun he => ?_)⟩
    · have he := of_decide_eq_true he
      intro q hq
      refine letH_intro fun H2 e2 => ?_
      rw [wrap64_id (by omega) (by omega)]
      have hs1 : Sub H1 H2 := by rw [e2]; exact Sub.new hq _
      have ho2 : Own H2 3 1 out ((withL (l.take n.toNat) m).map (Value.int .i64)) := by
        refine ⟨ho.1, ho.2.1, ?_⟩
        rcases ho.2.2 with ho | ⟨b, arr, q1, q2, q3⟩
        · exact .inl ho
        · exact .inr ⟨b, arr, q1, hs1 _ _ q2, q3⟩
      refine append_own ok22 ok22.under ho2 hf (hs.trans hs1) (xs := [.int .i64 (l.getD n.toNat 0)]) ?_ rfl rfl (by omega) ?_
      · rw [e2]; exact CellsAt.block (Heap.upd_same _ _ _) (fun i hi => by simp at hi; subst hi; rfl)
      · intro r H3 go gf gs gn
        refine ⟨r, rfl, rfl, ⟨gs, gf, by omega, by omega, ?_⟩, by dsimp only; omega⟩
        rw [htn, if_pos he]
        simpa using go
    · have he := of_decide_eq_false he
      rw [wrap64_id (by omega) (by omega)]
      refine ⟨rfl, ⟨hs, hf, by omega, by omega, ?_⟩, by dsimp only; omega⟩
      rw [htn, if_neg he]
      simpa using ho
  · have hge : ¬ n < s.n := by simpa using hge
    rw [take_all (by omega)] at ho
    exact k out H1 hs (ho.ints (Nat.le_trans (List.length_filter_le _ _) (by omega)))
theorem those_lacks_spec {H : Heap} {s t : Sl} {l m : List Int} {K : Value → Heap → Prop} (hl : Ints H s l) (hm : Ints H t m) (hb : s.n ≤ 1000000)
    (k : ∀ r H', Sub H H' → Ints H' r (withoutL l m) → K (.slice r.p r.n r.c) H') : FnH Try.prog 37 #[.slice s.p s.n s.c, .func (.func 40) #[] #[], .slice t.p t.n t.c] H K := by
  apply those_lacks_fn
  unfold those_lacks_vc
  have hn := hl.len
  have hbig := hl.big
  refine ⟨fun out n H1 => Sub H H1 ∧ Fresh H out ∧ 0 ≤ n ∧ n ≤ s.n ∧ Own H1 3 1 out ((withoutL (l.take n.toNat) m).map (Value.int .i64)), fun _ n _ => (s.n - n).toNat,
    ⟨Sub.refl _, Fresh.nil _ _ _, by omega, by omega, Own.nil _ _ _⟩, ?_⟩
  rintro out n H1 ⟨hs, hf, h0, h1, ho⟩
  refine br_intro (fun hlt => ?_) (fun hge => ?_)
  · have hlt := of_decide_eq_true hlt
    obtain ⟨b, o, g1, g2, g3, g4⟩ := (hl.sub hs).at_ h0 hlt
    refine ⟨b, o, g1, g2, g3, _, g4, ?_⟩
    have hlen := ho.1
    simp only [List.length_map, Nat.mul_one] at hlen
    have hle : (withoutL (l.take n.toNat) m).length ≤ n.toNat := Nat.le_trans (List.length_filter_le _ _) (List.length_take_le _ _)
    have htn : withoutL (l.take (n + 1).toNat) m = withoutL (l.take n.toNat) m ++ (if ¬ l.getD n.toNat 0 ∈ m then [l.getD n.toNat 0] else []) := by
      rw [take_next (d := 0) h0 (by omega)]
      unfold withoutL
      rw [List.filter_append]
      congr 1
      simp [List.filter_cons]
    refine lacks_spec (hm.sub hs) ⟨_, rfl, br_intro (fun he => ?_) (fun he => ?_)⟩
    · have he := of_not_decide he
      intro q hq
      refine letH_intro fun H2 e2 => ?_
      rw [wrap64_id (by omega) (by omega)]
      have hs1 : Sub H1 H2 := by rw [e2]; exact Sub.new hq _
      have ho2 : Own H2 3 1 out ((withoutL (l.take n.toNat) m).map (Value.int .i64)) := by
        refine ⟨ho.1, ho.2.1, ?_⟩
        rcases ho.2.2 with ho | ⟨b, arr, q1, q2, q3⟩
        · exact .inl ho
        · exact .inr ⟨b, arr, q1, hs1 _ _ q2, q3⟩
      refine append_own ok22 ok22.under ho2 hf (hs.trans hs1) (xs := [.int .i64 (l.getD n.toNat 0)]) ?_ rfl rfl (by omega) ?_
      · rw [e2]; exact CellsAt.block (Heap.upd_same _ _ _) (fun i hi => by simp at hi; subst hi; rfl)
      · intro r H3 go gf gs gn
        refine ⟨r, rfl, rfl, ⟨gs, gf, by omega, by omega, ?_⟩, by dsimp only; omega⟩
        rw [htn, if_pos he]
        simpa using go
    · have he : ¬ ¬ _ := of_not_decide2 he
      rw [wrap64_id (by omega) (by omega)]
      refine ⟨rfl, ⟨hs, hf, by omega, by omega, ?_⟩, by dsimp only; omega⟩
      rw [htn, if_neg he]
      simpa using ho
  · have hge : ¬ n < s.n := by simpa using hge
    rw [take_all (by omega)] at ho
    exact k out H1 hs (ho.ints (Nat.le_trans (List.length_filter_le _ _) (by omega)))

theorem with_spec {H : Heap} {s t : Sl} {l m : List Int} {K : Value → Heap → Prop} (hl : Ints H s l) (hm : Ints H t m) (hb : s.n ≤ 1000000)
    (k : ∀ r H', Sub H H' → Ints H' r (withL l m) → K (.slice r.p r.n r.c) H') : FnH Try.prog 26 #[.slice s.p s.n s.c, .slice t.p t.n t.c] H K := by
  apply reassign_with_fn
  exact those_has_spec hl hm hb fun r H' hs hr => ⟨r, rfl, k r H' hs hr⟩
theorem without_spec {H : Heap} {s t : Sl} {l m : List Int} {K : Value → Heap → Prop} (hl : Ints H s l) (hm : Ints H t m) (hb : s.n ≤ 1000000)
    (k : ∀ r H', Sub H H' → Ints H' r (withoutL l m) → K (.slice r.p r.n r.c) H') : FnH Try.prog 29 #[.slice s.p s.n s.c, .slice t.p t.n t.c] H K := by
  apply reassign_without_fn
  exact those_lacks_spec hl hm hb fun r H' hs hr => ⟨r, rfl, k r H' hs hr⟩
def withinL (l m : List Int) : Bool := (withoutL l m).isEmpty
theorem within_spec {H : Heap} {s t : Sl} {l m : List Int} {K : Value → Heap → Prop} (hl : Ints H s l) (hm : Ints H t m) (hb : s.n ≤ 1000000)
    (k : ∀ H', Sub H H' → K (.bool (withinL l m)) H') : FnH Try.prog 25 #[.slice s.p s.n s.c, .slice t.p t.n t.c] H K := by
  apply reassign_within_fn
  refine without_spec hl hm hb fun r H' hs hr => ⟨r, rfl, ?_⟩
  have : (((r.n : Nat) : Int) == 0) = withinL l m := by
    unfold withinL
    rw [hr.len]
    cases withoutL l m with
    | nil => rfl
    | cons a t => simp; omega
  rw [this]; exact k H' hs

/-- No number twice, each a broker's. -/
def idsL : List Int → Bool := fun l => decide (l.Nodup ∧ ∀ x ∈ l, 1 ≤ x ∧ x ≤ 7)
theorem nodup_take_next {l : List Int} {n : Int} (h0 : 0 ≤ n) (h1 : n < l.length) (h : (l.take n.toNat).Nodup) (hx : l.getD n.toNat 0 ∉ l.take n.toNat) : (l.take (n + 1).toNat).Nodup := by
  rw [take_next (d := 0) h0 h1, List.nodup_append]
  exact ⟨h, by simp, fun a ha b hb e => by
    have hb : b = l.getD n.toNat 0 := by simpa using hb
    rw [e, hb] at ha; exact hx ha⟩
theorem ids_spec {H : Heap} {s : Sl} {l : List Int} {K : Value → Heap → Prop} (h : Ints H s l) (k : K (.bool (idsL l)) H) :
    FnH Try.prog 24 #[.slice s.p s.n s.c] H K := by
  apply reassign_ids_fn
  unfold reassign_ids_vc
  have hl := h.len
  have hbig := h.big
  have hcap := h.cap
  refine ⟨fun n H1 => H1 = H ∧ 0 ≤ n ∧ n ≤ s.n ∧ (l.take n.toNat).Nodup ∧ ∀ x ∈ l.take n.toNat, 1 ≤ x ∧ x ≤ 7, fun n _ => (s.n - n).toNat, ⟨rfl, by omega, by omega, by simp, by simp⟩, ?_⟩
  rintro n H1 ⟨rfl, h0, h1, hnd, hall⟩
  refine br_intro (fun hlt => ?_) (fun hge => ?_)
  · have hlt := of_decide_eq_true hlt
    obtain ⟨b, o, g1, g2, g3, g4⟩ := h.at_ h0 hlt
    have hmem := getD_mem (l := l) h0 (by omega)
    have no : ¬ (l.Nodup ∧ ∀ x ∈ l, 1 ≤ x ∧ x ≤ 7) → K (.bool false) H1 := fun q => by
      have : idsL l = false := decide_eq_false q
      rw [this] at k; exact k
    refine ⟨b, o, g1, g2, g3, _, g4, br_intro (fun he => ?_) (fun he => br_intro (fun he2 => ?_) (fun he2 => ?_))⟩
    · have he := of_decide_eq_true he
      exact no fun q => by have := q.2 _ hmem; omega
    · have he2 := of_decide_eq_true he2
      exact no fun q => by have := q.2 _ hmem; omega
    · have he := of_decide_eq_false he
      have he2 := of_decide_eq_false he2
      refine ⟨h0, by omega, contains_spec (s := s.upto n 1) (h.upto h0 h1) ⟨_, rfl, br_intro (fun he3 => ?_) (fun he3 => ?_)⟩⟩
      · have he3 := of_decide_eq_true he3
        refine no fun q => ?_
        have h5 := q.1
        have e : l = l.take n.toNat ++ l.drop n.toNat := (List.take_append_drop _ _).symm
        rw [e, List.nodup_append] at h5
        refine h5.2.2 _ he3 (l.getD n.toNat 0) ?_ rfl
        have hl2 : n.toNat < l.length := by omega
        have e6 : l.getD n.toNat 0 = l[n.toNat] := by simp [List.getD, hl2]
        rw [List.drop_eq_getElem_cons hl2, e6]
        exact List.mem_cons_self
      · have he3 := of_decide_eq_false he3
        rw [wrap64_id (by omega) (by omega)]
        refine ⟨rfl, ⟨rfl, by omega, by omega, nodup_take_next h0 (by omega) hnd he3, ?_⟩, by dsimp only; omega⟩
        rw [take_next (d := 0) h0 (by omega)]
        intro x hx
        rcases List.mem_append.1 hx with hx | hx
        · exact hall x hx
        · simp only [List.mem_singleton] at hx; omega
  · have hge : ¬ n < s.n := by simpa using hge
    rw [take_all (by omega)] at hnd hall
    have : idsL l = true := decide_eq_true ⟨hnd, hall⟩
    rw [this] at k; exact k
theorem equal_spec {H : Heap} {s t : Sl} {l m : List Int} {K : Value → Heap → Prop} (hl : Ints H s l) (hm : Ints H t m) (k : K (.bool (decide (l = m))) H) :
    FnH Try.prog 31 #[.slice s.p s.n s.c, .slice t.p t.n t.c] H K := by
  apply slices_Equal_Lint_int_fn
  unfold slices_Equal_Lint_int_vc
  have h1 := hl.len
  have h2 := hm.len
  have hbig := hl.big
  have no : ¬ l = m → K (.bool false) H := fun q => by rw [decide_eq_false q] at k; exact k
  refine br_intro (fun hne => ?_) (fun heq => ?_)
  · have hne : ¬ (s.n : Int) = t.n := by simpa using hne
    exact no fun q => hne (by rw [h1, h2, q])
  · have heq : (s.n : Int) = t.n := by simpa using heq
    refine ⟨fun n H1 => H1 = H ∧ 0 ≤ n ∧ n ≤ s.n ∧ l.take n.toNat = m.take n.toNat, fun n _ => (s.n - n).toNat, ⟨rfl, by omega, by omega, by simp⟩, ?_⟩
    rintro n H1 ⟨rfl, h3, h4, h5⟩
    refine br_intro (fun hlt => ?_) (fun hge => ?_)
    · have hlt := of_decide_eq_true hlt
      obtain ⟨b, o, g1, g2, g3, g4⟩ := hl.at_ h3 hlt
      obtain ⟨b', o', f1, f2, f3, f4⟩ := hm.at_ h3 (by omega)
      refine ⟨b, o, g1, g2, g3, _, g4, b', o', f1, f2, f3, _, f4, br_intro (fun he => ?_) (fun he => ?_)⟩
      · have he : ¬ l.getD n.toNat 0 = m.getD n.toNat 0 := by simpa using he
        exact no fun q => he (by rw [q])
      · have he : l.getD n.toNat 0 = m.getD n.toNat 0 := by simpa using he
        rw [wrap64_id (by omega) (by omega)]
        refine ⟨rfl, ⟨rfl, by omega, by omega, ?_⟩, by dsimp only; omega⟩
        rw [take_next (d := 0) h3 (by omega), take_next (d := 0) h3 (by omega), h5, he]
    · have hge : ¬ n < s.n := by simpa using hge
      rw [take_all (by omega), take_all (by omega)] at h5
      rw [decide_eq_true h5] at k; exact k
/-- slices.Clone: nil stays nil, all else lies in a new block. -/
theorem clone_spec {H : Heap} {s : Sl} {l : List Int} {K : Value → Heap → Prop} (hl : Ints H s l) (hb : s.n ≤ 1000000)
    (k : ∀ r H', Sub H H' → Ints H' r l → K (.slice r.p r.n r.c) H') : FnH Try.prog 32 #[.slice s.p s.n s.c] H K := by
  apply slices_Clone_Lint_int_fn
  unfold slices_Clone_Lint_int_vc
  refine br_intro (fun hn => ?_) (fun hn => ?_)
  · have hp : s.p = none := by simpa using hn
    rw [hl.pnone hp] at k
    exact k ⟨none, 0, 0⟩ H (Sub.refl _) (Ints.nil _)
  · intro q hq
    refine letH_intro fun H1 e1 => ?_
    have hs1 : Sub H H1 := by rw [e1]; exact Sub.new hq _
    have ho : Own H1 3 1 ⟨some ⟨q, 0, none⟩, 0, 0⟩ [] := ⟨rfl, Nat.le_refl _, .inr ⟨q, #[], rfl, by rw [e1]; exact Heap.upd_same _ _ _, rfl, fun i h => by simp at h⟩⟩
    refine append_own (s := ⟨some ⟨q, 0, none⟩, 0, 0⟩) ok22 ok22.under ho (H0 := H) (fun b o sp h => by simp at h; rw [← h.1]; exact hq) hs1 (hl.cells.sub hs1) (by simp [hl.len]) (noTups_ints _ _) (by show 0 + s.n ≤ _; omega) ?_
    intro r H2 go gf gs gn
    exact ⟨r, rfl, k r H2 gs (Own.ints (by simpa using go) (by have := hl.len; omega))⟩
theorem number_spec {n m : Int} {H : Heap} {K : Value → Heap → Prop} (k : K (.bool (decide (1 ≤ n ∧ n ≤ m))) H) : FnH Try.prog 23 #[.int .i64 n, .int .i64 m] H K := by
  apply reassign_Right_1_fn
  refine br_intro (fun h => ?_) (fun h => ?_)
  · have h := of_decide_eq_true h
    have e : decide (n ≤ m) = decide (1 ≤ n ∧ n ≤ m) := decide_eq_decide.2 ⟨fun q => ⟨h, q⟩, fun q => q.2⟩
    rw [e]; exact k
  · have h := of_decide_eq_false h
    rw [decide_eq_false (fun q => h q.1)] at k; exact k
theorem broker_spec {n : Int} {H : Heap} {K : Value → Heap → Prop} (k : K (.bool (decide (1 ≤ n ∧ n ≤ 7))) H) : FnH Try.prog 36 #[.int .i64 n] H K := by
  apply reassign_broker_fn
  refine br_intro (fun h => ?_) (fun h => ?_)
  · have h := of_decide_eq_true h
    have e : decide (n ≤ 7) = decide (1 ≤ n ∧ n ≤ 7) := decide_eq_decide.2 ⟨fun q => ⟨h, q⟩, fun q => q.2⟩
    rw [e]; exact k
  · have h := of_decide_eq_false h
    rw [decide_eq_false (fun q => h q.1)] at k; exact k
end Go.Proofs.Ytahempkggcbegaa
