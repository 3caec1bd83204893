import Derived.Test.YtmofinghoacobaaGreatDoorBM
import Derived.Test.YtmofinghoacobaaGreatDoorVb
import Derived.Test.YtmofinghoacobaaGreatDoorVc
import Derived.Test.YtmofinghoacobaaGreatDoorVd
import Derived.Test.YtmofinghoacobaaGreatDoorVe
import Derived.Test.YtmofinghoacobaaGreatDoorLay2
namespace Go.Proofs.YtmofinghoacobaaGreatDoor
open Go Go.HL
set_option maxHeartbeats 3200000
set_option maxRecDepth 100000
theorem take_notin {l : List Int} {x : Int} {i : Int} (h0 : 0 ≤ i) (h1 : i < l.length) (h : x ∉ l.take i.toNat) (hx : ¬ l.getD i.toNat 0 = x) : x ∉ l.take (i + 1).toNat := by
  rw [take_next (d := 0) h0 h1]
  intro q
  rcases List.mem_append.1 q with q | q
  · exact h q
  · exact hx (List.mem_singleton.1 q).symm
theorem rhas_spec {H : Heap} {s : Sl} {l : List Int} {x : Int} {K : Value → Heap → Prop} (h : Ints H s l) (k : K (.bool (decide (x ∈ l))) H) : FnH Tryz.prog 97 #[.slice s.p s.n s.c, .int .i64 x] H K := by
  apply logboomref11_Has_fn
  unfold logboomref11_Has_vc
  have hl := h.len
  have hb := h.big
  refine ⟨fun n H1 => H1 = H ∧ 0 ≤ n ∧ n ≤ s.n ∧ x ∉ l.take n.toNat, fun n _ => (s.n - n).toNat, ⟨rfl, Int.le_refl _, by omega, by simp⟩, ?_⟩
  rintro n H1 ⟨rfl, n0, n1, hn⟩
  refine br_intro (fun w => ?_) (fun w => ?_)
  · have w := of_decide_eq_true w
    obtain ⟨b, o, g1, g2, g3, g4⟩ := h.at_ n0 w
    refine ⟨b, o, g1, g2, g3, _, g4, br_intro (fun e => ?_) (fun e => ?_)⟩
    · have e : l.getD n.toNat 0 = x := by simpa using e
      have hm : x ∈ l := by rw [← e]; exact getD_mem n0 (by omega)
      rw [decide_eq_true hm] at k
      exact k
    · have e : ¬ l.getD n.toNat 0 = x := by simpa using e
      rw [wrap64_id (n := n + 1) (by omega) (by omega)]
      exact ⟨rfl, ⟨rfl, by omega, by omega, take_notin n0 (by omega) hn e⟩, by dsimp only; omega⟩
  · have w := of_decide_eq_false w
    rw [take_all (by omega)] at hn
    rw [decide_eq_false hn] at k
    exact k
theorem rwithout_spec {H : Heap} {s t : Sl} {l m : List Int} {K : Value → Heap → Prop} (hl : Ints H s l) (hm : Ints H t m) (hb : s.n ≤ 1000000)
    (k : ∀ r H', HL.Sub H H' → Ints H' r (withoutL l m) → K (.slice r.p r.n r.c) H') : FnH Tryz.prog 139 #[.slice s.p s.n s.c, .slice t.p t.n t.c] H K := by
  apply logboomref11_Without_fn
  unfold logboomref11_Without_vc
  have hn := hl.len
  refine ⟨fun out n H1 => 0 ≤ n ∧ n ≤ s.n ∧ HL.Holds [own 3 1 out (iv (withoutL (l.take n.toNat) m)), ro H] H1, fun _ n _ => (s.n - n).toNat, ⟨Int.le_refl _, by omega, (Holds.whole H).own_nil 3 1⟩, ?_⟩
  rintro out n H1 ⟨n0, n1, h1⟩
  have s1 := h1.sub 1 rfl
  have hle : (withoutL (l.take n.toNat) m).length ≤ n.toNat := Nat.le_trans (List.length_filter_le _ _) (by rw [List.length_take]; omega)
  have ho := own_ints (h1.own 0 rfl) (by omega)
  have hon := ho.len
  refine br_intro (fun w => ?_) (fun w => ?_)
  · have w := of_decide_eq_true w
    obtain ⟨b, o, g1, g2, g3, g4⟩ := (hl.sub s1).at_ n0 w
    have hst : withoutL (l.take (n + 1).toNat) m = withoutL (l.take n.toNat) m ++ (if l.getD n.toNat 0 ∈ m then [] else [l.getD n.toNat 0]) := by
      rw [take_next (d := 0) n0 (by omega)]
      unfold withoutL
      rw [List.filter_append]
      congr 1
      by_cases e : l.getD n.toNat 0 ∈ m
      · rw [if_pos e, List.filter_cons_of_neg (by simpa using e)]; rfl
      · rw [if_neg e, List.filter_cons_of_pos (by simpa using e)]; rfl
    rw [wrap64_id (n := n + 1) (by omega) (by omega)]
    refine ⟨b, o, g1, g2, g3, _, g4, rhas_spec (hm.sub s1) ⟨_, rfl, br_intro (fun e => ?_) (fun e => ?_)⟩⟩
    · have e : ¬ l.getD n.toNat 0 ∈ m := by simpa using e
      refine ⟨b, o, g1, g2, g3, _, g4, Holds.push okInt h1 (xs := [.int .i64 (l.getD n.toNat 0)]) (m := 1) rfl rfl (by omega) fun l2 H3 h3 n3 => ⟨l2, rfl, rfl, ⟨by omega, by omega, ?_⟩, by dsimp only; omega⟩⟩
      rw [hst, if_neg e]
      simpa [iv] using h3
    · have e : l.getD n.toNat 0 ∈ m := by simpa using e
      refine ⟨rfl, ⟨by omega, by omega, ?_⟩, by dsimp only; omega⟩
      rw [hst, if_pos e, List.append_nil]
      exact h1
  · have w := of_decide_eq_false w
    rw [take_all (by omega)] at ho
    exact k out H1 s1 ho
theorem rwith_spec {H : Heap} {s t : Sl} {l m : List Int} {K : Value → Heap → Prop} (hl : Ints H s l) (hm : Ints H t m) (hb : s.n ≤ 1000000)
    (k : ∀ r H', HL.Sub H H' → Ints H' r (withL l m) → K (.slice r.p r.n r.c) H') : FnH Tryz.prog 140 #[.slice s.p s.n s.c, .slice t.p t.n t.c] H K := by
  apply logboomref11_With_fn
  unfold logboomref11_With_vc
  have hn := hl.len
  refine ⟨fun out n H1 => 0 ≤ n ∧ n ≤ s.n ∧ HL.Holds [own 3 1 out (iv (withL (l.take n.toNat) m)), ro H] H1, fun _ n _ => (s.n - n).toNat, ⟨Int.le_refl _, by omega, (Holds.whole H).own_nil 3 1⟩, ?_⟩
  rintro out n H1 ⟨n0, n1, h1⟩
  have s1 := h1.sub 1 rfl
  have hle : (withL (l.take n.toNat) m).length ≤ n.toNat := Nat.le_trans (List.length_filter_le _ _) (by rw [List.length_take]; omega)
  have ho := own_ints (h1.own 0 rfl) (by omega)
  have hon := ho.len
  refine br_intro (fun w => ?_) (fun w => ?_)
  · have w := of_decide_eq_true w
    obtain ⟨b, o, g1, g2, g3, g4⟩ := (hl.sub s1).at_ n0 w
    have hst : withL (l.take (n + 1).toNat) m = withL (l.take n.toNat) m ++ (if l.getD n.toNat 0 ∈ m then [l.getD n.toNat 0] else []) := by
      rw [take_next (d := 0) n0 (by omega)]
      unfold withL
      rw [List.filter_append]
      congr 1
      by_cases e : l.getD n.toNat 0 ∈ m
      · rw [if_pos e, List.filter_cons_of_pos (by simpa using e)]; rfl
      · rw [if_neg e, List.filter_cons_of_neg (by simpa using e)]; rfl
    rw [wrap64_id (n := n + 1) (by omega) (by omega)]
    refine ⟨b, o, g1, g2, g3, _, g4, rhas_spec (hm.sub s1) ⟨_, rfl, br_intro (fun e => ?_) (fun e => ?_)⟩⟩
    · have e : l.getD n.toNat 0 ∈ m := by simpa using e
      refine ⟨b, o, g1, g2, g3, _, g4, Holds.push okInt h1 (xs := [.int .i64 (l.getD n.toNat 0)]) (m := 1) rfl rfl (by omega) fun l2 H3 h3 n3 => ⟨l2, rfl, rfl, ⟨by omega, by omega, ?_⟩, by dsimp only; omega⟩⟩
      rw [hst, if_pos e]
      simpa [iv] using h3
    · have e : ¬ l.getD n.toNat 0 ∈ m := by simpa using e
      refine ⟨rfl, ⟨by omega, by omega, ?_⟩, by dsimp only; omega⟩
      rw [hst, if_neg e, List.append_nil]
      exact h1
  · have w := of_decide_eq_false w
    rw [take_all (by omega)] at ho
    exact k out H1 s1 ho
theorem rpart_spec {H : Heap} {s t : Sl} {l m : List Int} {K : Value → Heap → Prop} (hl : Ints H s l) (hm : Ints H t m) (hb : s.n ≤ 1000000) (k : ∀ H', HL.Sub H H' → K (.bool (withinL l m)) H') : FnH Tryz.prog 138 #[.slice s.p s.n s.c, .slice t.p t.n t.c] H K := by
  apply logboomref11_part_fn
  refine rwithout_spec hl hm hb fun r H' hs hr => ⟨r, rfl, ?_⟩
  have : (((r.n : Nat) : Int) == 0) = withinL l m := by
    unfold withinL
    rw [hr.len]
    cases withoutL l m with
    | nil => rfl
    | cons a t => simp; omega
  rw [this]; exact k H' hs
theorem rids_spec {H : Heap} {s : Sl} {l : List Int} {K : Value → Heap → Prop} (h : Ints H s l) (k : K (.bool (idsL l)) H) : FnH Tryz.prog 137 #[.slice s.p s.n s.c] H K := by
  apply logboomref11_ids_fn
  unfold logboomref11_ids_vc
  have hl := h.len
  have hb := h.big
  have hcap := h.cap
  refine ⟨fun n H1 => H1 = H ∧ 0 ≤ n ∧ n ≤ s.n ∧ (l.take n.toNat).Nodup ∧ ∀ x ∈ l.take n.toNat, 1 ≤ x ∧ x ≤ 7, fun n _ => (s.n - n).toNat, ⟨rfl, Int.le_refl _, by omega, by simp, by simp⟩, ?_⟩
  rintro n H1 ⟨rfl, n0, n1, hnd, hall⟩
  have no : ¬ (l.Nodup ∧ ∀ x ∈ l, 1 ≤ x ∧ x ≤ 7) → K (.bool false) H1 := fun q => by
    have : idsL l = false := decide_eq_false q
    rw [this] at k; exact k
  refine br_intro (fun w => ?_) (fun w => ?_)
  · have w := of_decide_eq_true w
    obtain ⟨b, o, g1, g2, g3, g4⟩ := h.at_ n0 w
    have hmem := getD_mem (l := l) n0 (by omega)
    refine ⟨n0, by omega, b, o, g1, g2, g3, _, g4, rhas_spec (s := s.upto n 1) (h.upto n0 n1) ⟨_, rfl, HL.Sub.refl _, b, o, g1, g2, g3, _, g4, br_intro (fun e => no fun q => ?_) (fun e1 => ⟨b, o, g1, g2, g3, _, g4, br_intro (fun e => no fun q => ?_) (fun e2 => br_intro (fun e => no fun q => ?_) (fun e3 => ?_))⟩)⟩⟩
    · have := of_decide_eq_true e
      have := q.2 _ hmem
      omega
    · have := of_decide_eq_true e
      have := q.2 _ hmem
      omega
    · have e := of_decide_eq_true e
      have hd : n.toNat < l.length := by omega
      have h1 := List.take_append_drop n.toNat l
      rw [List.drop_eq_getElem_cons hd] at h1
      have h2 := q.1
      rw [← h1, List.nodup_append] at h2
      refine h2.2.2 _ e _ (List.mem_cons_self ..) ?_
      rw [List.getD_eq_getElem?_getD, List.getElem?_eq_getElem hd]; rfl
    · have e1 := of_decide_eq_false e1
      have e2 := of_decide_eq_false e2
      have e3 := of_decide_eq_false e3
      rw [wrap64_id (n := n + 1) (by omega) (by omega)]
      refine ⟨rfl, ⟨rfl, by omega, by omega, nodup_take_next n0 (by omega) hnd e3, ?_⟩, by dsimp only; omega⟩
      rw [take_next (d := 0) n0 (by omega)]
      intro x hx
      rcases List.mem_append.1 hx with q | q
      · exact hall x q
      · rw [List.mem_singleton.1 q]; omega
  · have w := of_decide_eq_false w
    rw [take_all (by omega)] at hnd hall
    have : idsL l = true := decide_eq_true ⟨hnd, hall⟩
    rw [this] at k; exact k
theorem with_comm_nil {l m : List Int} : (withL l m).length = 0 ↔ (withL m l).length = 0 := by
  rw [List.length_eq_zero_iff, List.length_eq_zero_iff]
  constructor <;> intro h <;> refine nil_of_forall fun x hx => ?_
  · have := mem_with.1 hx
    have : x ∈ withL l m := mem_with.2 ⟨this.2, this.1⟩
    rw [h] at this; cases this
  · have := mem_with.1 hx
    have : x ∈ withL m l := mem_with.2 ⟨this.2, this.1⟩
    rw [h] at this; cases this
theorem rright_spec {H : Heap} {v : PV} {p : Part} {K : Value → Heap → Prop} (h : PIn H v p) (hb : Small p) (k : ∀ H', HL.Sub H H' → K (.bool (rightB p)) H') : FnH Tryz.prog 103 #[v.val] H K := by
  apply logboomref11_Right_fn
  unfold logboomref11_Right_vc
  have no : ∀ H', HL.Sub H H' → ¬ RightOf p → K (.bool false) H' := fun H' s q => by
    have := k H' s
    have e : rightB p = false := by
      cases e : rightB p with
      | false => rfl
      | true => exact absurd (right_iff.1 e) q
    rw [e] at this; exact this
  have i1 := h.isr.len; have i2 := h.replicas.len; have i3 := h.adding.len; have i4 := h.removing.len
  have b1 := hb.isr; have b2 := hb.replicas; have b3 := hb.adding; have b4 := hb.removing
  rw [h.id, h.min, h.epoch, h.version, h.leader]
  have S := HL.Sub.refl H
  refine br_intro (fun w => no H S fun q => by have := of_decide_eq_true w; have := q.id; omega) (fun w1 => br_intro (fun w => no H S fun q => by have := of_decide_eq_true w; have := q.id; omega) (fun w2 =>
    br_intro (fun w => no H S fun q => by have := of_decide_eq_true w; have := q.min; omega) (fun w3 => br_intro (fun w => no H S fun q => by have := of_decide_eq_true w; have := q.min; omega) (fun w4 =>
    br_intro (fun w => no H S fun q => by have := of_decide_eq_true w; have := q.epoch; omega) (fun w5 => br_intro (fun w => no H S fun q => by have := of_decide_eq_true w; have := q.epoch; omega) (fun w6 =>
    br_intro (fun w => no H S fun q => by have := of_decide_eq_true w; have := q.version; omega) (fun w7 => br_intro (fun w => no H S fun q => by have := of_decide_eq_true w; have := q.version; omega) (fun w8 =>
    br_intro (fun w => no H S fun q => by have := of_decide_eq_true w; have := q.fewer; omega) (fun w9 => br_intro (fun w => no H S fun q => by have := of_decide_eq_true w; have := q.pos; omega) (fun w10 => ?_))))))))))
  refine rids_spec h.replicas ⟨_, rfl, rids_spec h.isr ⟨_, rfl, rids_spec h.adding ⟨_, rfl, rids_spec h.removing ⟨_, rfl, ?_⟩⟩⟩⟩
  refine br_intro (fun w => no H S fun q => by rw [q.replicas] at w; cases w) (fun w11 => br_intro (fun w => no H S fun q => by rw [q.isr] at w; cases w) (fun w12 => br_intro (fun w => no H S fun q => by rw [q.adding] at w; cases w) (fun w13 => br_intro (fun w => no H S fun q => by rw [q.removing] at w; cases w) (fun w14 => ?_))))
  refine rpart_spec h.isr h.replicas (by omega) fun H1 s1 => ⟨_, rfl, rpart_spec (h.adding.sub s1) (h.replicas.sub s1) (by omega) fun H2 s2 => ⟨_, rfl, ?_⟩⟩
  have s2 := s1.trans s2
  refine rpart_spec (h.removing.sub s2) (h.replicas.sub s2) (by omega) fun H3 s3 => ⟨_, rfl, ?_⟩
  have s3 := s2.trans s3
  refine rhas_spec (h.isr.sub s3) ⟨_, rfl, ?_⟩
  refine br_intro (fun w15 => br_intro (fun w16 => br_intro (fun w17 => ?_) (fun w => no H3 s3 fun q => by rw [q.remIn] at w; cases w)) (fun w => no H3 s3 fun q => by rw [q.addIn] at w; cases w)) (fun w => no H3 s3 fun q => by rw [q.isrIn] at w; cases w)
  refine rwith_spec (h.removing.sub s3) (h.adding.sub s3) (by omega) fun r H4 s4 hr => ⟨r, rfl, ?_⟩
  have s4 := s3.trans s4
  have hrl := hr.len
  refine br_intro (fun w18 => br_intro (fun w19 => ?_) (fun w => no H4 s4 fun q => by have := of_decide_eq_false w; have := q.fewer; omega)) (fun w => no H4 s4 fun q => ?_)
  · have w18 : ((r.n : Nat) : Int) = 0 := by simpa using w18
    have w19 := of_decide_eq_true w19
    have w1 := of_decide_eq_false w1; have w2 := of_decide_eq_false w2; have w3 := of_decide_eq_false w3; have w4 := of_decide_eq_false w4; have w5 := of_decide_eq_false w5; have w6 := of_decide_eq_false w6; have w7 := of_decide_eq_false w7; have w8 := of_decide_eq_false w8; have w10 := of_decide_eq_false w10
    have yes : (p.leader = 0 ∨ p.leader ∈ p.isr) → RightOf p := fun e => ⟨by omega, by omega, by omega, by omega, by simpa using w11, by simpa using w12, by simpa using w13, by simpa using w14, by omega, w15, w16, w17, with_comm_nil.1 (by omega), by omega, e⟩
    refine br_intro (fun e => ?_) (fun e => ?_)
    · have e : p.leader = 0 := by simpa using e
      have := k H4 s4
      rw [right_iff.2 (yes (.inl e))] at this
      exact this
    · have e : ¬ p.leader = 0 := by simpa using e
      by_cases e2 : p.leader ∈ p.isr
      · have := k H4 s4
        rw [right_iff.2 (yes (.inr e2))] at this
        rw [decide_eq_true e2]
        exact this
      · rw [decide_eq_false e2]
        exact no H4 s4 fun q => q.leader.elim e e2
  · have w : ¬ ((r.n : Nat) : Int) = 0 := by simpa using w
    rw [with_comm_nil.1 q.apart] at hrl
    exact w (by rw [hrl]; rfl)
theorem copied_spec {H : Heap} {s : Sl} {l : List Int} {K : Value → Heap → Prop} (h : Ints H s l) (hb : l.length ≤ 1000000) (k : ∀ r H', HL.Sub H H' → Ints H' r l → K (.slice r.p r.n r.c) H') : FnH Tryz.prog 141 #[.slice s.p s.n s.c] H K := by
  apply logboomref11_copied_fn
  unfold logboomref11_copied_vc
  have hn := h.len
  refine (Holds.whole H).newS fun q1 H1 s1 h1 => ?_
  have h2 : HL.Holds (own 3 1 ⟨some ⟨q1, 0, none⟩, 0, 0⟩ [] :: [ro H]) H1 := h1.head fun A hA => ⟨rfl, Nat.le_refl _, .inr ⟨q1, #[], rfl, hA, rfl, fun i hi => by simp at hi⟩⟩
  refine Holds.append (s := ⟨some ⟨q1, 0, none⟩, 0, 0⟩) okInt okInt.under h2 (h.cells.sub s1) (by simp [hn]) (noTups_ints _ _) (by show 0 + s.n ≤ _; omega) fun r H' h' n' => ⟨r, rfl, k r H' (h'.sub 1 rfl) (own_ints (h'.own 0 rfl) hb)⟩
theorem rclone_spec {H : Heap} {v : PV} {p : Part} {K : Value → Heap → Prop} (h : PIn H v p) (hb : Small p) (k : ∀ u H', HL.Sub H H' → PIn H' u p → K u.val H') : FnH Tryz.prog 134 #[v.val] H K := by
  apply logboomref11_Clone_fn
  unfold logboomref11_Clone_vc
  refine copied_spec h.isr hb.isr fun a H1 s1 h1 => ⟨a, rfl, copied_spec (h.replicas.sub s1) hb.replicas fun b H2 s2 h2 => ⟨b, rfl, ?_⟩⟩
  have t2 := s1.trans s2
  refine copied_spec (h.adding.sub t2) hb.adding fun c H3 s3 h3 => ⟨c, rfl, ?_⟩
  have t3 := t2.trans s3
  refine copied_spec (h.removing.sub t3) hb.removing fun d H4 s4 h4 => ⟨d, rfl, ?_⟩
  exact k ⟨v.id, v.leader, v.epoch, v.version, a, b, c, d, v.min⟩ H4 (t3.trans s4) ⟨h.id, h.leader, h.epoch, h.version, h.min, h1.sub (s2.trans (s3.trans s4)), h2.sub (s3.trans s4), h3.sub s4, h4⟩
theorem rsame_spec {H : Heap} {s t : Sl} {l m : List Int} {K : Value → Heap → Prop} (hl : Ints H s l) (hm : Ints H t m) (k : K (.bool (decide (l = m))) H) : FnH Tryz.prog 104 #[.slice s.p s.n s.c, .slice t.p t.n t.c] H K := by
  apply logboomref11_same_fn
  unfold logboomref11_same_vc
  exact ints_formula hl hm k
theorem rleads_spec {H : Heap} {v : PV} {p : Part} {n : Int} {K : Value → Heap → Prop} (h : PIn H v p) (he : 0 ≤ p.epoch ∧ p.epoch ≤ 1000000000) (k : ∀ u, PIn H u (ledP p n) → K u.val H) : FnH Tryz.prog 136 #[v.val, .int .i64 n] H K := by
  apply logboomref11_leads_fn
  unfold logboomref11_leads_vc
  rw [h.leader, h.epoch, wrap64_id (n := p.epoch + 1) (by omega) (by omega)]
  unfold ledP at k
  refine br_intro (fun w => ?_) (fun w => ?_)
  · have w : ¬ p.leader = n := by simpa using w
    rw [if_neg w] at k
    exact k ⟨v.id, n, p.epoch + 1, v.version, v.isr, v.replicas, v.adding, v.removing, v.min⟩ ⟨h.id, rfl, rfl, h.version, h.min, h.isr, h.replicas, h.adding, h.removing⟩
  · have w : p.leader = n := by simpa using w
    rw [if_pos w] at k
    exact k ⟨v.id, p.leader, p.epoch, v.version, v.isr, v.replicas, v.adding, v.removing, v.min⟩ ⟨h.id, rfl, rfl, h.version, h.min, h.isr, h.replicas, h.adding, h.removing⟩
theorem rchanged_spec {H : Heap} {v : PV} {p : Part} {K : Value → Heap → Prop} (h : PIn H v p) (hv : 0 ≤ p.version ∧ p.version ≤ 1000000000) (k : ∀ u, PIn H u (changedP p).1 → K (.tuple #[u.val, .int .i64 (changedP p).2]) H) : FnH Tryz.prog 135 #[v.val] H K := by
  apply logboomref11_changed_fn
  unfold logboomref11_changed_vc
  rw [h.version, h.epoch, wrap64_id (n := p.version + 1) (by omega) (by omega)]
  unfold changedP at k
  refine br_intro (fun w => ?_) (fun w => br_intro (fun w2 => ?_) (fun w2 => ?_))
  · rw [if_pos (.inl (of_decide_eq_true w))] at k
    exact k zeroV (zero_in H)
  · rw [if_pos (.inr (of_decide_eq_true w2))] at k
    exact k zeroV (zero_in H)
  · rw [if_neg (by have := of_decide_eq_false w; have := of_decide_eq_false w2; omega)] at k
    exact k ⟨v.id, v.leader, p.epoch, p.version + 1, v.isr, v.replicas, v.adding, v.removing, v.min⟩ ⟨h.id, h.leader, rfl, rfl, h.min, h.isr, h.replicas, h.adding, h.removing⟩
theorem find_filter2 {l a b : List Int} {but : Int} : ((withL (withL l a) b).find? fun x => decide (x ≠ but)) = l.find? fun x => decide (x ∈ a) && (decide (x ∈ b) && decide (x ≠ but)) := by
  unfold withL
  rw [List.find?_filter, List.find?_filter]
  congr 1
  funext x
  simp [Bool.and_assoc]
theorem rfirst_spec {H : Heap} {s t u : Sl} {l a b : List Int} {but : Int} {K : Value → Heap → Prop} (hl : Ints H s l) (ha : Ints H t a) (hb : Ints H u b) (k : K (.int .i64 (wayL l a b but)) H) : FnH Tryz.prog 142 #[.slice s.p s.n s.c, .slice t.p t.n t.c, .slice u.p u.n u.c, .int .i64 but] H K := by
  apply logboomref11_first_fn
  unfold logboomref11_first_vc
  have hn := hl.len
  have hbig := hl.big
  unfold wayL at k
  rw [find_filter2] at k
  refine ⟨fun n H1 => H1 = H ∧ 0 ≤ n ∧ n ≤ s.n ∧ ∀ x ∈ l.take n.toNat, (decide (x ∈ a) && (decide (x ∈ b) && decide (x ≠ but))) = false, fun n _ => (s.n - n).toNat, ⟨rfl, Int.le_refl _, by omega, by simp⟩, ?_⟩
  rintro n H1 ⟨rfl, n0, n1, hx⟩
  refine br_intro (fun w => ?_) (fun w => ?_)
  · have w := of_decide_eq_true w
    obtain ⟨q, o, g1, g2, g3, g4⟩ := hl.at_ n0 w
    rw [wrap64_id (n := n + 1) (by omega) (by omega)]
    have hd : n.toNat < l.length := by omega
    have eg : l.getD n.toNat 0 = l[n.toNat] := by simp [List.getD, hd]
    have next : (decide (l.getD n.toNat 0 ∈ a) && (decide (l.getD n.toNat 0 ∈ b) && decide (l.getD n.toNat 0 ≠ but))) = false → ∀ x ∈ l.take (n + 1).toNat, (decide (x ∈ a) && (decide (x ∈ b) && decide (x ≠ but))) = false := fun e x hm => by
      rw [take_next (d := 0) n0 (by omega)] at hm
      rcases List.mem_append.1 hm with m | m
      · exact hx x m
      · rw [List.mem_singleton.1 m]; exact e
    refine ⟨q, o, g1, g2, g3, _, g4, rhas_spec ha ⟨_, rfl, q, o, g1, g2, g3, _, g4, rhas_spec hb ⟨_, rfl, br_intro (fun e1 => br_intro (fun e2 => ⟨q, o, g1, g2, g3, _, g4, br_intro (fun e3 => ?_) (fun e3 => ?_)⟩) (fun e2 => ?_)) (fun e1 => ?_)⟩⟩⟩
    · have e3 : ¬ l.getD n.toNat 0 = but := by simpa using e3
      have hf : (l.find? fun x => decide (x ∈ a) && (decide (x ∈ b) && decide (x ≠ but))) = some (l.getD n.toNat 0) := by
        have h1 := List.take_append_drop n.toNat l
        rw [List.drop_eq_getElem_cons hd] at h1
        rw [← h1, List.find?_append, List.find?_eq_none.2 (fun x hxx => by rw [hx x hxx]; decide), Option.none_or, List.find?_cons_of_pos (by rw [← eg, e1, e2]; simpa using e3), h1, eg]
      rw [hf] at k
      exact ⟨q, o, g1, g2, g3, _, g4, k⟩
    · have e3 : l.getD n.toNat 0 = but := by simpa using e3
      exact ⟨rfl, ⟨rfl, by omega, by omega, next (by rw [e3]; simp)⟩, by dsimp only; omega⟩
    · exact ⟨rfl, ⟨rfl, by omega, by omega, next (by rw [e2]; simp)⟩, by dsimp only; omega⟩
    · exact ⟨rfl, ⟨rfl, by omega, by omega, next (by rw [e1]; simp)⟩, by dsimp only; omega⟩
  · have w := of_decide_eq_false w
    rw [take_all (by omega)] at hx
    rw [List.find?_eq_none.2 (fun x hxx => by rw [hx x hxx]; decide)] at k
    exact k
end Go.Proofs.YtmofinghoacobaaGreatDoor
namespace Go.Proofs.YtmofinghoacobaaGreatDoor
open Go Go.HL
set_option maxHeartbeats 3200000
set_option maxRecDepth 100000
section
variable {H : Heap} {K : Value → Heap → Prop}
theorem rled_changed {G : Heap} {v : PV} {p : Part} {n : Int} (hG : HL.Sub G H) (h : PIn H v p) (he : 0 ≤ p.epoch ∧ p.epoch ≤ 1000000000) (hv : 0 ≤ p.version ∧ p.version ≤ 1000000000) (k : Ans K G (changedP (ledP p n))) :
    FnH Tryz.prog 136 #[v.val, .int .i64 n] H fun r6 H7 => ∃ n7 : Int, ∃ n8 : Int, ∃ n9 : Int, ∃ n10 : Int, ∃ l7 : Sl, ∃ l8 : Sl, ∃ l9 : Sl, ∃ l10 : Sl, ∃ n11 : Int, r6 = .agg #[.int .i64 n7, .int .i64 n8, .int .i64 n9, .int .i64 n10, .slice l7.p l7.n l7.c, .slice l8.p l8.n l8.c, .slice l9.p l9.n l9.c, .slice l10.p l10.n l10.c, .int .i64 n11] ∧
      FnH Tryz.prog 135 #[.agg #[.int .i64 n7, .int .i64 n8, .int .i64 n9, .int .i64 n10, .slice l7.p l7.n l7.c, .slice l8.p l8.n l8.c, .slice l9.p l9.n l9.c, .slice l10.p l10.n l10.c, .int .i64 n11]] H7 fun r7 H8 => ∃ n12 : Int, ∃ n13 : Int, ∃ n14 : Int, ∃ n15 : Int, ∃ l11 : Sl, ∃ l12 : Sl, ∃ l13 : Sl, ∃ l14 : Sl, ∃ n16 : Int, ∃ n17 : Int,
        r7 = .tuple #[.agg #[.int .i64 n12, .int .i64 n13, .int .i64 n14, .int .i64 n15, .slice l11.p l11.n l11.c, .slice l12.p l12.n l12.c, .slice l13.p l13.n l13.c, .slice l14.p l14.n l14.c, .int .i64 n16], .int .i64 n17] ∧
        K (.tuple #[.agg #[.int .i64 n12, .int .i64 n13, .int .i64 n14, .int .i64 n15, .slice l11.p l11.n l11.c, .slice l12.p l12.n l12.c, .slice l13.p l13.n l13.c, .slice l14.p l14.n l14.c, .int .i64 n16], .int .i64 n17]) H8 :=
  rleads_spec h he fun u hu => ⟨u.id, u.leader, u.epoch, u.version, u.isr, u.replicas, u.adding, u.removing, u.min, rfl, rchanged_spec (v := u) hu (by rw [(led_same p n).2.2.1]; exact hv) fun w hw => ⟨w.id, w.leader, w.epoch, w.version, w.isr, w.replicas, w.adding, w.removing, w.min, _, rfl, k w H hG hw⟩⟩
theorem rled_changedS {G : Heap} {v : PV} {p : Part} {n : Int} (hG : HL.Sub G H) {F : Heap} (hF : HL.Sub F H) (h : PIn H v p) (he : 0 ≤ p.epoch ∧ p.epoch ≤ 1000000000) (hv : 0 ≤ p.version ∧ p.version ≤ 1000000000) (k : Ans K G (changedP (ledP p n))) :
    FnH Tryz.prog 136 #[v.val, .int .i64 n] H fun r6 H7 => ∃ n7 : Int, ∃ n8 : Int, ∃ n9 : Int, ∃ n10 : Int, ∃ l7 : Sl, ∃ l8 : Sl, ∃ l9 : Sl, ∃ l10 : Sl, ∃ n11 : Int, r6 = .agg #[.int .i64 n7, .int .i64 n8, .int .i64 n9, .int .i64 n10, .slice l7.p l7.n l7.c, .slice l8.p l8.n l8.c, .slice l9.p l9.n l9.c, .slice l10.p l10.n l10.c, .int .i64 n11] ∧ HL.Sub F H7 ∧
      FnH Tryz.prog 135 #[.agg #[.int .i64 n7, .int .i64 n8, .int .i64 n9, .int .i64 n10, .slice l7.p l7.n l7.c, .slice l8.p l8.n l8.c, .slice l9.p l9.n l9.c, .slice l10.p l10.n l10.c, .int .i64 n11]] H7 fun r7 H8 => ∃ n12 : Int, ∃ n13 : Int, ∃ n14 : Int, ∃ n15 : Int, ∃ l11 : Sl, ∃ l12 : Sl, ∃ l13 : Sl, ∃ l14 : Sl, ∃ n16 : Int, ∃ n17 : Int,
        r7 = .tuple #[.agg #[.int .i64 n12, .int .i64 n13, .int .i64 n14, .int .i64 n15, .slice l11.p l11.n l11.c, .slice l12.p l12.n l12.c, .slice l13.p l13.n l13.c, .slice l14.p l14.n l14.c, .int .i64 n16], .int .i64 n17] ∧
        K (.tuple #[.agg #[.int .i64 n12, .int .i64 n13, .int .i64 n14, .int .i64 n15, .slice l11.p l11.n l11.c, .slice l12.p l12.n l12.c, .slice l13.p l13.n l13.c, .slice l14.p l14.n l14.c, .int .i64 n16], .int .i64 n17]) H8 :=
  rleads_spec h he fun u hu => ⟨u.id, u.leader, u.epoch, u.version, u.isr, u.replicas, u.adding, u.removing, u.min, rfl, hF, rchanged_spec (v := u) hu (by rw [(led_same p n).2.2.1]; exact hv) fun w hw => ⟨w.id, w.leader, w.epoch, w.version, w.isr, w.replicas, w.adding, w.removing, w.min, _, rfl, k w H hG hw⟩⟩
theorem rchanged_only {G : Heap} {v : PV} {p : Part} (hG : HL.Sub G H) (h : PIn H v p) (hv : 0 ≤ p.version ∧ p.version ≤ 1000000000) (k : Ans K G (changedP p)) :
    FnH Tryz.prog 135 #[v.val] H fun r7 H8 => ∃ n12 : Int, ∃ n13 : Int, ∃ n14 : Int, ∃ n15 : Int, ∃ l11 : Sl, ∃ l12 : Sl, ∃ l13 : Sl, ∃ l14 : Sl, ∃ n16 : Int, ∃ n17 : Int,
        r7 = .tuple #[.agg #[.int .i64 n12, .int .i64 n13, .int .i64 n14, .int .i64 n15, .slice l11.p l11.n l11.c, .slice l12.p l12.n l12.c, .slice l13.p l13.n l13.c, .slice l14.p l14.n l14.c, .int .i64 n16], .int .i64 n17] ∧
        K (.tuple #[.agg #[.int .i64 n12, .int .i64 n13, .int .i64 n14, .int .i64 n15, .slice l11.p l11.n l11.c, .slice l12.p l12.n l12.c, .slice l13.p l13.n l13.c, .slice l14.p l14.n l14.c, .int .i64 n16], .int .i64 n17]) H8 :=
  rchanged_spec h hv fun w hw => ⟨w.id, w.leader, w.epoch, w.version, w.isr, w.replicas, w.adding, w.removing, w.min, _, rfl, k w H hG hw⟩
theorem relect_spec {v : PV} {p : Part} {leader : Int} (h : PIn H v p) (hr : RightOf p) (k : Ans K H (electP p leader)) : FnH Tryz.prog 98 #[v.val, .int .i64 leader] H K := by
  apply logboomref11_Elect_fn
  unfold logboomref11_Elect_vc
  have hb := right_iff.2 hr
  have he := hr.epoch; have hv := hr.version
  unfold electP at k
  refine rright_spec h hr.small fun H1 s1 => ⟨_, rfl, br_f (by rw [hb]; rfl) ?_⟩
  rw [hb] at k
  refine br_intro (fun w => ?_) (fun w1 => br_intro (fun w => ?_) (fun w2 => ?_))
  · have w := of_decide_eq_true w
    exact k.err (by rw [if_pos]; simp; omega) s1
  · have w := of_decide_eq_true w
    exact k.err (by rw [if_pos]; simp; omega) s1
  have w1 := of_decide_eq_false w1
  have w2 := of_decide_eq_false w2
  rw [if_neg (by simp; omega)] at k
  refine rclone_spec (h.sub s1) hr.small fun u H2 s2 hu => ⟨u.id, u.leader, u.epoch, u.version, u.isr, u.replicas, u.adding, u.removing, u.min, rfl, rhas_spec hu.isr ⟨_, rfl, ?_⟩⟩
  have t2 := s1.trans s2
  have tail : (leader = 0 ∨ leader ∈ p.isr) → br (u.leader == leader) (K (.tuple #[.agg #[.int .i64 u.id, .int .i64 u.leader, .int .i64 u.epoch, .int .i64 u.version, .slice u.isr.p u.isr.n u.isr.c, .slice u.replicas.p u.replicas.n u.replicas.c, .slice u.adding.p u.adding.n u.adding.c, .slice u.removing.p u.removing.n u.removing.c, .int .i64 u.min], .int .i64 0]) H2)
      (FnH Tryz.prog 136 #[u.val, .int .i64 leader] H2 fun r6 H7 => ∃ n7 : Int, ∃ n8 : Int, ∃ n9 : Int, ∃ n10 : Int, ∃ l7 : Sl, ∃ l8 : Sl, ∃ l9 : Sl, ∃ l10 : Sl, ∃ n11 : Int, r6 = .agg #[.int .i64 n7, .int .i64 n8, .int .i64 n9, .int .i64 n10, .slice l7.p l7.n l7.c, .slice l8.p l8.n l8.c, .slice l9.p l9.n l9.c, .slice l10.p l10.n l10.c, .int .i64 n11] ∧
      FnH Tryz.prog 135 #[.agg #[.int .i64 n7, .int .i64 n8, .int .i64 n9, .int .i64 n10, .slice l7.p l7.n l7.c, .slice l8.p l8.n l8.c, .slice l9.p l9.n l9.c, .slice l10.p l10.n l10.c, .int .i64 n11]] H7 fun r7 H8 => ∃ n12 : Int, ∃ n13 : Int, ∃ n14 : Int, ∃ n15 : Int, ∃ l11 : Sl, ∃ l12 : Sl, ∃ l13 : Sl, ∃ l14 : Sl, ∃ n16 : Int, ∃ n17 : Int,
        r7 = .tuple #[.agg #[.int .i64 n12, .int .i64 n13, .int .i64 n14, .int .i64 n15, .slice l11.p l11.n l11.c, .slice l12.p l12.n l12.c, .slice l13.p l13.n l13.c, .slice l14.p l14.n l14.c, .int .i64 n16], .int .i64 n17] ∧
        K (.tuple #[.agg #[.int .i64 n12, .int .i64 n13, .int .i64 n14, .int .i64 n15, .slice l11.p l11.n l11.c, .slice l12.p l12.n l12.c, .slice l13.p l13.n l13.c, .slice l14.p l14.n l14.c, .int .i64 n16], .int .i64 n17]) H8) := fun hl => by
    rw [if_neg (by simp; intro q; exact hl.resolve_left q)] at k
    refine br_intro (fun e => ?_) (fun e => ?_)
    · have e : u.leader = leader := by simpa using e
      rw [if_pos (by rw [← hu.leader, e]; simp)] at k
      exact k u H2 t2 hu
    · have e : ¬ u.leader = leader := by simpa using e
      rw [if_neg (by rw [← hu.leader]; simp; exact fun q => e q.symm)] at k
      exact rled_changed t2 hu (by omega) (by omega) k
  refine br_intro (fun w => br_intro (fun y => ?_) (fun y => ?_)) (fun w => ?_)
  · have w : ¬ leader = 0 := by simpa using w
    have y : ¬ leader ∈ p.isr := by simpa using y
    exact k.err (by rw [if_pos]; simp; exact ⟨w, y⟩) t2
  · have y : leader ∈ p.isr := by simpa using y
    exact tail (.inr y)
  · have w : leader = 0 := by simpa using w
    exact tail (.inl w)
theorem rback_spec {v : PV} {p : Part} {id : Int} (h : PIn H v p) (hr : RightOf p) (k : Ans K H (backP p id)) : FnH Tryz.prog 91 #[v.val, .int .i64 id] H K := by
  apply logboomref11_Back_fn
  unfold logboomref11_Back_vc
  have hb := right_iff.2 hr
  have he := hr.epoch; have hv := hr.version
  unfold backP at k
  refine rright_spec h hr.small fun H1 s1 => ⟨_, rfl, br_f (by rw [hb]; rfl) ?_⟩
  rw [hb, if_neg (by decide)] at k
  refine br_intro (fun w => ?_) (fun w1 => br_intro (fun w => ?_) (fun w2 => ?_))
  · have w := of_decide_eq_true w
    exact k.err (by rw [if_pos]; simp; omega) s1
  · have w := of_decide_eq_true w
    exact k.err (by rw [if_pos]; simp; omega) s1
  have w1 := of_decide_eq_false w1
  have w2 := of_decide_eq_false w2
  rw [if_neg (by simp; omega)] at k
  refine rclone_spec (h.sub s1) hr.small fun u H2 s2 hu => ⟨u.id, u.leader, u.epoch, u.version, u.isr, u.replicas, u.adding, u.removing, u.min, rfl, rhas_spec hu.isr ⟨_, rfl, ?_⟩⟩
  have t2 := s1.trans s2
  rw [← hu.leader] at k
  refine br_intro (fun w => ?_) (fun w => br_intro (fun y => ?_) (fun y => ?_))
  · rw [if_pos w] at k
    exact k u H2 t2 hu
  · rw [if_neg (by rw [w]; decide), if_pos y] at k
    exact k u H2 t2 hu
  · rw [if_neg (by rw [w]; decide), if_neg (by rw [y]; decide)] at k
    exact rled_changed t2 hu (by omega) (by omega) k
end
end Go.Proofs.YtmofinghoacobaaGreatDoor
namespace Go.Proofs.YtmofinghoacobaaGreatDoor
open Go Go.HL
set_option maxHeartbeats 3200000
set_option maxRecDepth 100000
theorem way_up {l a up : List Int} {b : Int} : wayL l a (withoutL up [b]) b = wayL l a up b := by
  unfold wayL
  rw [find_filter2, find_filter2]
  congr 2
  funext x
  by_cases e : x = b
  · simp [e]
  · have h1 : decide (x ∈ withoutL up [b]) = decide (x ∈ up) := by
      rw [Bool.eq_iff_iff, decide_eq_true_iff, decide_eq_true_iff, mem_without]
      simp [e]
    rw [h1]
theorem find_congr {f g : Int → Bool} : ∀ {l : List Int}, (∀ x ∈ l, f x = g x) → l.find? f = l.find? g
  | [], _ => rfl
  | a :: t, h => by
    rw [List.find?_cons, List.find?_cons, h a (List.mem_cons_self ..), find_congr fun x hx => h x (List.mem_cons_of_mem _ hx)]
theorem way_but {l a up : List Int} {b c : Int} (h : ∀ x ∈ l, x ≠ b ∧ x ≠ c) : wayL l a up b = wayL l a up c := by
  unfold wayL
  rw [find_filter2, find_filter2]
  congr 1
  refine find_congr fun x hx => ?_
  obtain ⟨h1, h2⟩ := h x hx
  rw [decide_eq_true h1, decide_eq_true h2]
theorem out_rest {p : Part} {id : Int} (hr : RightOf p) (h : withoutL p.isr [id] ≠ []) : fenceOut p id = { p with isr := withoutL p.isr [id] } := by
  unfold fenceOut
  split
  · rfl
  · rename_i e
    have hni : id ∉ p.isr := fun hm => by
      refine e ?_
      rw [decide_eq_true hm, Bool.true_and, decide_eq_true_iff]
      rcases Nat.lt_or_ge 1 p.isr.length with q | q
      · exact q
      · exfalso
        have hp := hr.pos
        obtain ⟨a, ha⟩ : ∃ a, p.isr = [a] := by
          match hI : p.isr, hp, q with
          | [a], _, _ => exact ⟨a, rfl⟩
        rw [ha] at hm
        have : id = a := by simpa using hm
        refine h ?_
        rw [ha, this]
        simp [withoutL]
    have : withoutL p.isr [id] = p.isr := without_self fun x hx => by
      intro q
      have : x = id := by simpa using q
      rw [this] at hx
      exact hni hx
    rw [this]
theorem out_none {p : Part} {id : Int} (h : withoutL p.isr [id] = []) (hr : RightOf p) : fenceOut p id = p ∧ ¬ (decide (id ∈ p.isr) && decide (1 < p.isr.length)) = true := by
  have hall : ∀ x ∈ p.isr, x = id := fun x hx => by
    by_cases e : x = id
    · exact e
    · have : x ∈ withoutL p.isr [id] := mem_without.2 ⟨hx, by simpa using e⟩
      rw [h] at this; cases this
  have hl : p.isr.length ≤ 1 := by
    have hn := (ids_iff.1 hr.isr).1
    have := length_le_of_nodup [id] hn fun x hx => by simp [hall x hx]
    simpa using this
  have hc : ¬ (decide (id ∈ p.isr) && decide (1 < p.isr.length)) = true := fun q => by
    simp at q
    omega
  refine ⟨?_, hc⟩
  unfold fenceOut
  rw [if_neg hc]
theorem rest_len {l : List Int} {id : Int} (hn : l.Nodup) : (withoutL l [id]).length = l.length ↔ id ∉ l := by
  constructor
  · intro h hm
    have hlt : (withoutL l [id]).length < l.length := by
      unfold withoutL
      refine Nat.lt_of_le_of_ne (List.length_filter_le _ _) fun e => ?_
      have := List.length_filter_eq_length_iff.1 e id hm
      simp at this
    omega
  · intro h
    rw [without_self]
    intro x hx q
    have : x = id := by simpa using q
    rw [this] at hx
    exact h hx
section
variable {H : Heap} {K : Value → Heap → Prop}
theorem rfence_tail {G : Heap} {v : PV} {p : Part} {q1 : Nat} {id : Int} {u : Sl} {up : List Int} (hG : HL.Sub G H) (h : PIn H v p) (he : 0 ≤ p.epoch ∧ p.epoch ≤ 1000000000) (hv : 0 ≤ p.version ∧ p.version ≤ 1000000000) (hu : Ints H u up) (hul : up.length ≤ 1000000) (hq : Ints H ⟨some ⟨q1, 0, none⟩, 1, 1⟩ [id])
    (k : Ans K G (changedP (if (p.leader == id) = true then ledP p (wayL p.replicas p.isr up id) else p))) :
    br (v.leader == id) (FnH Tryz.prog 139 #[.slice u.p u.n u.c, .slice (some ⟨q1, 0, none⟩) 1 1] H fun r4 H5 => ∃ l6 : Sl, r4 = .slice l6.p l6.n l6.c ∧ HL.Sub H H5 ∧
      FnH Tryz.prog 142 #[.slice v.replicas.p v.replicas.n v.replicas.c, .slice v.isr.p v.isr.n v.isr.c, .slice l6.p l6.n l6.c, .int .i64 id] H5 fun r5 H6 => ∃ n6 : Int, r5 = .int .i64 n6 ∧ HL.Sub H H6 ∧
      FnH Tryz.prog 136 #[v.val, .int .i64 n6] H6 fun r6 H7 => ∃ n7 : Int, ∃ n8 : Int, ∃ n9 : Int, ∃ n10 : Int, ∃ l7 : Sl, ∃ l8 : Sl, ∃ l9 : Sl, ∃ l10 : Sl, ∃ n11 : Int, r6 = .agg #[.int .i64 n7, .int .i64 n8, .int .i64 n9, .int .i64 n10, .slice l7.p l7.n l7.c, .slice l8.p l8.n l8.c, .slice l9.p l9.n l9.c, .slice l10.p l10.n l10.c, .int .i64 n11] ∧ HL.Sub H H7 ∧
      FnH Tryz.prog 135 #[.agg #[.int .i64 n7, .int .i64 n8, .int .i64 n9, .int .i64 n10, .slice l7.p l7.n l7.c, .slice l8.p l8.n l8.c, .slice l9.p l9.n l9.c, .slice l10.p l10.n l10.c, .int .i64 n11]] H7 fun r7 H8 => ∃ n12 : Int, ∃ n13 : Int, ∃ n14 : Int, ∃ n15 : Int, ∃ l11 : Sl, ∃ l12 : Sl, ∃ l13 : Sl, ∃ l14 : Sl, ∃ n16 : Int, ∃ n17 : Int,
        r7 = .tuple #[.agg #[.int .i64 n12, .int .i64 n13, .int .i64 n14, .int .i64 n15, .slice l11.p l11.n l11.c, .slice l12.p l12.n l12.c, .slice l13.p l13.n l13.c, .slice l14.p l14.n l14.c, .int .i64 n16], .int .i64 n17] ∧
        K (.tuple #[.agg #[.int .i64 n12, .int .i64 n13, .int .i64 n14, .int .i64 n15, .slice l11.p l11.n l11.c, .slice l12.p l12.n l12.c, .slice l13.p l13.n l13.c, .slice l14.p l14.n l14.c, .int .i64 n16], .int .i64 n17]) H8)
     (FnH Tryz.prog 135 #[v.val] H fun r7 H8 => ∃ n12 : Int, ∃ n13 : Int, ∃ n14 : Int, ∃ n15 : Int, ∃ l11 : Sl, ∃ l12 : Sl, ∃ l13 : Sl, ∃ l14 : Sl, ∃ n16 : Int, ∃ n17 : Int,
        r7 = .tuple #[.agg #[.int .i64 n12, .int .i64 n13, .int .i64 n14, .int .i64 n15, .slice l11.p l11.n l11.c, .slice l12.p l12.n l12.c, .slice l13.p l13.n l13.c, .slice l14.p l14.n l14.c, .int .i64 n16], .int .i64 n17] ∧
        K (.tuple #[.agg #[.int .i64 n12, .int .i64 n13, .int .i64 n14, .int .i64 n15, .slice l11.p l11.n l11.c, .slice l12.p l12.n l12.c, .slice l13.p l13.n l13.c, .slice l14.p l14.n l14.c, .int .i64 n16], .int .i64 n17]) H8) := by
  rw [h.leader]
  have hul2 := hu.len
  refine br_intro (fun w => ?_) (fun w => ?_)
  · rw [if_pos w] at k
    refine rwithout_spec (t := ⟨some ⟨q1, 0, none⟩, 1, 1⟩) hu hq (by omega) fun l6 H5 s5 h6 => ⟨l6, rfl, s5, rfirst_spec (h.replicas.sub s5) (h.isr.sub s5) h6 ⟨_, rfl, s5, ?_⟩⟩
    rw [way_up]
    exact rled_changedS (hG.trans s5) s5 (h.sub s5) he hv k
  · rw [if_neg (by rw [w]; decide)] at k
    exact rchanged_only hG h hv k
theorem rfence_spec {v : PV} {p : Part} {u : Sl} {up : List Int} {id : Int} (h : PIn H v p) (hr : RightOf p) (hup : Ints H u up) (hul : up.length ≤ 1000000) (k : Ans K H (fenceP p id up)) : FnH Tryz.prog 133 #[v.val, .int .i64 id, .slice u.p u.n u.c] H K := by
  apply logboomref11_Fence_fn
  unfold logboomref11_Fence_vc
  have hb := right_iff.2 hr
  have he := hr.epoch; have hv := hr.version
  rw [fence_eq] at k
  refine rright_spec h hr.small fun H1 s1 => ⟨_, rfl, br_f (by rw [hb]; rfl) ?_⟩
  rw [hb, if_neg (by decide)] at k
  refine br_intro (fun w => ?_) (fun w1 => br_intro (fun w => ?_) (fun w2 => ?_))
  · have w := of_decide_eq_true w
    exact k.err (by rw [if_pos]; simp; omega) s1
  · have w := of_decide_eq_true w
    exact k.err (by rw [if_pos]; simp; omega) s1
  have w1 := of_decide_eq_false w1
  have w2 := of_decide_eq_false w2
  rw [if_neg (by simp; omega)] at k
  refine rclone_spec (h.sub s1) hr.small fun a H2 s2 ha => ⟨a.id, a.leader, a.epoch, a.version, a.isr, a.replicas, a.adding, a.removing, a.min, rfl, ?_⟩
  have t2 := s1.trans s2
  refine (Holds.whole H2).newS fun q1 H3 s3 h3 => ?_
  have hq : Ints H3 ⟨some ⟨q1, 0, none⟩, 1, 1⟩ [id] := Holds.litInts (l := [id]) h3 (by show (1 : Nat) ≤ _; decide)
  have hil := ids_len hr.isr
  have hal := ha.isr.len
  refine rwithout_spec (t := ⟨some ⟨q1, 0, none⟩, 1, 1⟩) (ha.isr.sub s3) hq (by omega) fun l5 H4 s4 h5 => ⟨l5, rfl, ?_⟩
  have t4 := t2.trans (s3.trans s4)
  have ha4 := ha.sub (s3.trans s4)
  have hl5 := h5.len
  have hnd := (ids_iff.1 hr.isr).1
  have hcr : (((l5.n : Nat) : Int) == (a.isr.n : Nat)) = decide (id ∉ p.isr) := by
    rw [Bool.eq_iff_iff, decide_eq_true_iff, ← rest_len hnd, beq_iff_eq]
    omega
  have hc0 : (((l5.n : Nat) : Int) == 0) = decide (withoutL p.isr [id] = []) := by
    rw [Bool.eq_iff_iff, decide_eq_true_iff, beq_iff_eq, ← List.length_eq_zero_iff]
    omega
  rw [hcr, hc0, ha.leader]
  have ob := out_same p id
  have hstay : withoutL p.isr [id] ≠ [] → PIn H4 { a with isr := l5 } (fenceOut p id) := fun e => by
    rw [out_rest hr e]
    exact ⟨ha4.id, ha4.leader, ha4.epoch, ha4.version, ha4.min, h5, ha4.replicas, ha4.adding, ha4.removing⟩
  have hB : fenceB p id up = if ((fenceOut p id).leader == id) = true then ledP (fenceOut p id) (wayL (fenceOut p id).replicas (fenceOut p id).isr up id) else fenceOut p id := by
    unfold fenceB
    rw [ob.2.2.2.2.1, ob.2.2.2.2.2.1]
  refine br_intro (fun y => br_intro (fun z => ?_) (fun z => br_intro (fun z2 => ?_) (fun z2 => ?_))) (fun y => ?_)
  · have z := of_decide_eq_true z
    rw [if_pos (by rw [y, decide_eq_false z]; rfl)] at k
    rw [← ha.leader]
    exact k { a with } H4 t4 ⟨ha4.id, ha4.leader, ha4.epoch, ha4.version, ha4.min, ha4.isr, ha4.replicas, ha4.adding, ha4.removing⟩
  · have z2 := of_decide_eq_true z2
    have hc := (out_none z2 hr).2
    rw [if_pos (by rw [y, Bool.eq_false_iff.2 hc]; rfl)] at k
    rw [← ha.leader]
    exact k { a with } H4 t4 ⟨ha4.id, ha4.leader, ha4.epoch, ha4.version, ha4.min, ha4.isr, ha4.replicas, ha4.adding, ha4.removing⟩
  · have z := of_decide_eq_false z
    have z2 := of_decide_eq_false z2
    refine br_t (by rw [decide_eq_false z2]; rfl) ?_
    have hin : (decide (id ∈ p.isr) && decide (1 < p.isr.length)) = true := by
      have hm : id ∈ p.isr := Classical.not_not.1 z
      rw [decide_eq_true hm, Bool.true_and, decide_eq_true_iff]
      have h1 : (withoutL p.isr [id]).length ≠ p.isr.length := fun q => (rest_len hnd).1 q hm
      have h2 : (withoutL p.isr [id]).length ≤ p.isr.length := List.length_filter_le _ _
      have h3 : (withoutL p.isr [id]).length ≠ 0 := fun q => z2 (List.length_eq_zero_iff.1 q)
      omega
    rw [if_neg (by rw [hin]; simp), hB] at k
    rw [← ha.leader]
    exact rfence_tail (v := { a with isr := l5 }) t4 (hstay z2) (by rw [ob.2.2.2.1]; omega) (by rw [ob.2.2.1]; omega) (hup.sub t4) hul (hq.sub s4) k
  · have y : p.leader = id := by simpa using y
    rw [if_neg (by rw [y]; simp), hB] at k
    rw [← ha.leader]
    refine br_intro (fun z => ?_) (fun z => ?_)
    · have z : withoutL p.isr [id] ≠ [] := by simpa using z
      exact rfence_tail (v := { a with isr := l5 }) t4 (hstay z) (by rw [ob.2.2.2.1]; omega) (by rw [ob.2.2.1]; omega) (hup.sub t4) hul (hq.sub s4) k
    · have z : withoutL p.isr [id] = [] := by simpa using z
      rw [(out_none z hr).1] at k
      exact rfence_tail (v := a) t4 ha4 (by omega) (by omega) (hup.sub t4) hul (hq.sub s4) k
theorem rSame_spec {v u : PV} {p q : Part} (h : PIn H v p) (g : PIn H u q) (k : K (.bool (sameB p q)) H) : FnH Tryz.prog 62 #[v.val, u.val] H K := by
  apply logboomref11_Same_fn
  unfold logboomref11_Same_vc
  refine rsame_spec h.isr g.isr ⟨_, rfl, rsame_spec h.replicas g.replicas ⟨_, rfl, rsame_spec h.adding g.adding ⟨_, rfl, rsame_spec h.removing g.removing ⟨_, rfl, ?_⟩⟩⟩⟩
  have no : sameB p q = false → K (.bool false) H := fun e => e ▸ k
  rw [h.id, h.leader, h.epoch, h.version, h.min, g.id, g.leader, g.epoch, g.version, g.min, eqb, eqb, eqb, eqb, eqb]
  refine br_intro (fun h6 => br_intro (fun h7 => br_intro (fun h8 => br_intro (fun h9 => br_intro (fun h1 => br_intro (fun h2 => br_intro (fun h3 => br_intro (fun h4 => ?_) (fun h4 => ?_)) (fun h3 => ?_)) (fun h2 => ?_)) (fun h1 => ?_)) (fun h9 => ?_)) (fun h8 => ?_)) (fun h7 => ?_)) (fun h6 => ?_)
  · simp only [sameB, h1, h2, h3, h4, h6, h7, h8, h9, Bool.true_and, Bool.and_true] at k
    exact k
  · exact no (by simp only [sameB, h4, Bool.and_false, Bool.false_and])
  · exact no (by simp only [sameB, h3, Bool.and_false, Bool.false_and])
  · exact no (by simp only [sameB, h2, Bool.and_false, Bool.false_and])
  · exact no (by simp only [sameB, h1, Bool.false_and])
  · exact no (by simp only [sameB, h9, Bool.and_false])
  · exact no (by simp only [sameB, h8, Bool.and_false, Bool.false_and])
  · exact no (by simp only [sameB, h7, Bool.and_false, Bool.false_and])
  · exact no (by simp only [sameB, h6, Bool.and_false, Bool.false_and])
end
end Go.Proofs.YtmofinghoacobaaGreatDoor
namespace Go.Proofs.YtmofinghoacobaaGreatDoor
open Go Go.HL
set_option maxHeartbeats 3200000
set_option maxRecDepth 100000
theorem PIn.cases_ {H : Heap} {v : PV} {p : Part} (h : PIn H v p) {C : PV → Prop} (k : ∀ i r a m : Sl, PIn H ⟨p.id, p.leader, p.epoch, p.version, i, r, a, m, p.min⟩ p → C ⟨p.id, p.leader, p.epoch, p.version, i, r, a, m, p.min⟩) : C v := by
  obtain ⟨v1, v2, v3, v4, i, r, a, m, v5⟩ := v
  obtain ⟨e1, e2, e3, e4, e5, h1, h2, h3, h4⟩ := h
  have e1 : v1 = p.id := e1
  have e2 : v2 = p.leader := e2
  have e3 : v3 = p.epoch := e3
  have e4 : v4 = p.version := e4
  have e5 : v5 = p.min := e5
  subst e1 e2 e3 e4 e5
  exact k i r a m ⟨rfl, rfl, rfl, rfl, rfl, h1, h2, h3, h4⟩
theorem within_len {l m : List Int} {n : Nat} (h : n = (withoutL l m).length) : decide (((n : Nat) : Int) > 0) = !withinL l m := by
  unfold withinL
  rw [h]
  cases withoutL l m with
  | nil => rfl
  | cons a t => simp
theorem open_len {p : Part} {x y : Nat} (hx : x = p.adding.length) (hy : y = p.removing.length) : (((x : Int) + (y : Int)) == 0) = !openB p := by
  subst hx hy
  unfold openB
  cases p.adding with
  | nil => cases p.removing with
    | nil => rfl
    | cons a t =>
      rw [Bool.eq_iff_iff]
      simp
      try omega
  | cons b u =>
    rw [Bool.eq_iff_iff]
    simp
    try omega
section
variable {H : Heap} {K : Value → Heap → Prop}
theorem ralter_spec {v : PV} {p : Part} {s u : Sl} {isr up : List Int} {leader epoch version : Int} (h : PIn H v p) (hr : RightOf p) (hi : Ints H s isr) (hil : isr.length ≤ 1000000) (hup : Ints H u up)
    (k : Ans K H (alterP p leader epoch version isr up)) : FnH Tryz.prog 93 #[v.val, .int .i64 leader, .int .i64 epoch, .int .i64 version, .slice s.p s.n s.c, .slice u.p u.n u.c] H K := by
  refine h.cases_ (C := fun v => FnH Tryz.prog 93 #[v.val, .int .i64 leader, .int .i64 epoch, .int .i64 version, .slice s.p s.n s.c, .slice u.p u.n u.c] H K) fun i r a m h => ?_
  apply logboomref11_Alter_fn
  unfold logboomref11_Alter_vc
  have hb := right_iff.2 hr
  have he := hr.epoch; have hv := hr.version
  have hsn := hi.len
  have l1 := ids_len hr.isr; have l2 := ids_len hr.replicas
  unfold alterP at k
  refine rright_spec (v := ⟨p.id, p.leader, p.epoch, p.version, i, r, a, m, p.min⟩) h hr.small fun H1 s1 => ⟨_, rfl, br_f (by rw [hb]; rfl) ?_⟩
  rw [hb, if_neg (by decide)] at k
  refine ⟨fun b H' => H' = H1 ∧ b = (decide (epoch < p.epoch) || (epoch == p.epoch && decide (version < p.version))), br_intro (fun w => ⟨rfl, rfl, by rw [w]; rfl⟩) (fun w => br_intro (fun y => ⟨rfl, rfl, by rw [w, y]; rfl⟩) (fun y => ⟨rfl, rfl, by rw [w, y]; rfl⟩)), ?_⟩
  rintro b H2 ⟨rfl, e1⟩
  refine br_intro (fun w => k.err (by rw [if_pos (e1 ▸ w)]) s1) (fun w1 => ?_)
  rw [if_neg (by rw [← e1, w1]; decide)] at k
  refine ⟨fun b H' => H' = H2 ∧ b = (decide (epoch > p.epoch) || decide (version > p.version)), br_intro (fun w => ⟨rfl, rfl, by rw [w]; rfl⟩) (fun w => ⟨rfl, rfl, by rw [w]; rfl⟩), ?_⟩
  rintro b2 H3 ⟨rfl, e2⟩
  refine br_intro (fun w => k.err (by rw [if_pos (e2 ▸ w)]) s1) (fun w2 => ?_)
  rw [if_neg (by rw [← e2, w2]; decide)] at k
  refine br_intro (fun w => k.err (by rw [if_pos (by rw [w]; rfl)]) s1) (fun w3 => br_intro (fun w => k.err (by rw [if_pos (by rw [w]; simp)]) s1) (fun w4 => ?_))
  rw [if_neg (by rw [w3, w4]; decide)] at k
  refine rids_spec (hi.sub s1) ⟨_, rfl, rhas_spec (hi.sub s1) ⟨_, rfl, rpart_spec (hi.sub s1) (h.replicas.sub s1) (by omega) fun H4 s4 => ⟨_, rfl, ?_⟩⟩⟩
  have t4 := s1.trans s4
  refine br_intro (fun w => k.err (by rw [if_pos w]) t4) (fun w5 => ?_)
  rw [if_neg (by rw [w5]; decide)] at k
  refine br_intro (fun w => k.err (by rw [if_pos w]) t4) (fun w6 => ?_)
  rw [if_neg (by rw [w6]; decide)] at k
  refine br_intro (fun w => k.err (by rw [if_pos w]) t4) (fun w7 => ?_)
  rw [if_neg (by rw [w7]; decide)] at k
  refine rwithout_spec (hi.sub t4) (h.isr.sub t4) (by omega) fun g H5 s5 hg => ⟨g, rfl, ?_⟩
  have t5 := t4.trans s5
  have gl := hg.len
  have gle : (withoutL isr p.isr).length ≤ isr.length := List.length_filter_le _ _
  refine rwithout_spec hg (hup.sub t5) (by omega) fun g2 H6 s6 hg2 => ⟨g2, rfl, ?_⟩
  have t6 := t5.trans s6
  rw [within_len hg2.len]
  refine br_intro (fun w => k.err (by rw [if_pos w]) t6) (fun w8 => ?_)
  rw [if_neg (by rw [w8]; decide)] at k
  refine rclone_spec (v := ⟨p.id, p.leader, p.epoch, p.version, i, r, a, m, p.min⟩) (h.sub t6) hr.small fun c H7 s7 hc => ⟨c.id, c.leader, c.epoch, c.version, c.isr, c.replicas, c.adding, c.removing, c.min, rfl, ?_⟩
  have t7 := t6.trans s7
  refine rwith_spec hc.replicas (hi.sub t7) (by rw [hc.replicas.len]; omega) fun z H8 s8 hz => ⟨z, rfl, ?_⟩
  exact rchanged_only (v := { c with isr := z }) (p := { p with isr := withL p.replicas isr }) (t7.trans s8) ⟨hc.id, hc.leader, hc.epoch, hc.version, hc.min, hz, hc.replicas.sub s8, hc.adding.sub s8, hc.removing.sub s8⟩ (by show 0 ≤ p.version ∧ p.version ≤ _; omega) k
theorem rbegin_spec {v : PV} {p : Part} {s u : Sl} {targets up : List Int} (h : PIn H v p) (hr : RightOf p) (hi : Ints H s targets) (hil : targets.length ≤ 1000000) (hup : Ints H u up)
    (k : Ans K H (beginP p targets up)) : FnH Tryz.prog 94 #[v.val, .slice s.p s.n s.c, .slice u.p u.n u.c] H K := by
  refine h.cases_ (C := fun v => FnH Tryz.prog 94 #[v.val, .slice s.p s.n s.c, .slice u.p u.n u.c] H K) fun i r a m h => ?_
  apply logboomref11_Begin_fn
  unfold logboomref11_Begin_vc
  have hb := right_iff.2 hr
  have he := hr.epoch; have hv := hr.version
  have hsn := hi.len
  have l1 := ids_len hr.isr; have l2 := ids_len hr.replicas; have l3 := ids_len hr.adding; have l4 := ids_len hr.removing
  have n3 := h.adding.len; have n4 := h.removing.len
  unfold beginP at k
  refine rright_spec (v := ⟨p.id, p.leader, p.epoch, p.version, i, r, a, m, p.min⟩) h hr.small fun H1 s1 => ⟨_, rfl, rids_spec (hi.sub s1) ⟨_, rfl, br_f (by rw [hb]; rfl) ?_⟩⟩
  rw [hb] at k
  have bad : (idsL targets = false ∨ targets.length = 0 ∨ 5 < targets.length) → K (.tuple #[zeroV.val, .int .i64 1]) H1 := fun e => k.err (by
    rw [if_pos]
    simp
    rcases e with e | e | e
    · exact .inl e
    · exact .inr (.inl (List.length_eq_zero_iff.1 e))
    · exact .inr (.inr e)) s1
  refine br_intro (fun w => bad (.inl (by simpa using w))) (fun w1 => br_intro (fun w => bad (.inr (.inl (by have := of_decide_eq_true w; omega)))) (fun w2 => br_intro (fun w => bad (.inr (.inr (by have := of_decide_eq_true w; omega)))) (fun w3 => ?_)))
  clear bad
  have w1 : idsL targets = true := by simpa using w1
  have w2 := of_decide_eq_false w2
  have w3 := of_decide_eq_false w3
  rw [if_neg (by simp [w1]; exact ⟨fun e => by rw [e] at hsn; simp at hsn; omega, by omega⟩)] at k
  have n3 : a.n = p.adding.length := n3
  have n4 : m.n = p.removing.length := n4
  rw [wrap64_id (n := (a.n : Int) + m.n) (by omega) (by omega)]
  have ho : decide (((a.n : Int) + m.n) > 0) = openB p := decide_eq_decide.2 (by omega)
  rw [ho]
  refine br_intro (fun w => k.err (by rw [if_pos w]) s1) (fun w4 => ?_)
  rw [if_neg (by rw [w4]; decide)] at k
  refine rwithout_spec (hi.sub s1) (h.replicas.sub s1) (by omega) fun g H2 s2 hg => ⟨g, rfl, ?_⟩
  have t2 := s1.trans s2
  have gl := hg.len
  have gle : (withoutL targets p.replicas).length ≤ targets.length := List.length_filter_le _ _
  refine rwithout_spec hg (hup.sub t2) (by omega) fun g2 H3 s3 hg2 => ⟨g2, rfl, ?_⟩
  have t3 := t2.trans s3
  rw [within_len hg2.len]
  refine br_intro (fun w => k.err (by rw [if_pos w]) t3) (fun w5 => ?_)
  rw [if_neg (by rw [w5]; decide)] at k
  refine rclone_spec (v := ⟨p.id, p.leader, p.epoch, p.version, i, r, a, m, p.min⟩) (h.sub t3) hr.small fun c H4 s4 hc => ⟨c.id, c.leader, c.epoch, c.version, c.isr, c.replicas, c.adding, c.removing, c.min, rfl, ?_⟩
  have t4 := t3.trans s4
  refine rwithout_spec (hi.sub t4) hc.replicas (by omega) fun x H5 s5 hx => ⟨x, rfl, ?_⟩
  have t5 := t4.trans s5
  refine rwithout_spec (hc.replicas.sub s5) (hi.sub t5) (by rw [hc.replicas.len]; omega) fun y H6 s6 hy => ⟨y, rfl, ?_⟩
  have t6 := t5.trans s6
  have hc6 := hc.sub (s5.trans s6)
  refine rsame_spec (hi.sub t6) hc6.replicas ⟨_, rfl, br_intro (fun w => ?_) (fun w => ?_)⟩
  · rw [if_pos (of_decide_eq_true w)] at k
    exact k c H6 t6 hc6
  rw [if_neg (of_decide_eq_false w)] at k
  apply logboomref11_copied_fn
  unfold logboomref11_copied_vc
  refine (Holds.whole H6).newS fun q1 H7 s7 h7 => ?_
  have h8 : HL.Holds (own 3 1 ⟨some ⟨q1, 0, none⟩, 0, 0⟩ [] :: [ro H6]) H7 := h7.head fun A hA => ⟨rfl, Nat.le_refl _, .inr ⟨q1, #[], rfl, hA, rfl, fun i hi => by simp at hi⟩⟩
  refine Holds.append (s := ⟨some ⟨q1, 0, none⟩, 0, 0⟩) okInt okInt.under h8 ((hi.sub t6).cells.sub s7) (by simp [hsn]) (noTups_ints _ _) (by show 0 + s.n ≤ _; omega) fun z H8 h9 n9 => ⟨z, rfl, z, rfl, ?_⟩
  have s8 := h9.sub 1 rfl
  have yl := hy.len
  have yle : (withoutL p.replicas targets).length ≤ p.replicas.length := List.length_filter_le _ _
  have n9 : z.n = 0 + s.n := n9
  refine Holds.append (s := z) okInt okInt.under h9 (hy.cells.sub s8) (by simp [yl]) (noTups_ints _ _) (by omega) fun z2 H9 h10 n10 => ⟨z2, rfl, ?_⟩
  have s9 := h10.sub 1 rfl
  have hz2 : Ints H9 z2 (targets ++ withoutL p.replicas targets) := by
    have g0 := h10.own 0 rfl
    have e : [] ++ iv targets ++ iv (withoutL p.replicas targets) = iv (targets ++ withoutL p.replicas targets) := by simp [iv]
    exact own_ints (by rw [← e]; exact g0) (by rw [List.length_append]; omega)
  exact rchanged_only (v := { c with replicas := z2, adding := x, removing := y }) (p := beginB p targets) (t6.trans s9) ⟨hc6.id, hc6.leader, hc6.epoch, hc6.version, hc6.min, hc6.isr.sub s9, hz2, hx.sub (s6.trans s9), hy.sub s9⟩ (by show 0 ≤ p.version ∧ p.version ≤ _; omega) k
theorem rfinish_spec {v : PV} {p : Part} {u : Sl} {up : List Int} (h : PIn H v p) (hr : RightOf p) (hup : Ints H u up) (k : Ans K H (finishP p up)) : FnH Tryz.prog 96 #[v.val, .slice u.p u.n u.c] H K := by
  refine h.cases_ (C := fun v => FnH Tryz.prog 96 #[v.val, .slice u.p u.n u.c] H K) fun i r a m h => ?_
  apply logboomref11_Finish_fn
  unfold logboomref11_Finish_vc
  have hb := right_iff.2 hr
  have he := hr.epoch; have hv := hr.version
  have l1 := ids_len hr.isr; have l2 := ids_len hr.replicas; have l3 := ids_len hr.adding; have l4 := ids_len hr.removing
  have n3 : a.n = p.adding.length := h.adding.len
  have n4 : m.n = p.removing.length := h.removing.len
  have n2 : r.n = p.replicas.length := h.replicas.len
  unfold finishP at k
  refine rright_spec (v := ⟨p.id, p.leader, p.epoch, p.version, i, r, a, m, p.min⟩) h hr.small fun H1 s1 => ⟨_, rfl, br_f (by rw [hb]; rfl) ?_⟩
  rw [hb, if_neg (by decide)] at k
  refine rwithout_spec (s := r) (h.replicas.sub s1) (h.removing.sub s1) (by omega) fun t H2 s2 ht => ⟨t, rfl, ?_⟩
  have t2 := s1.trans s2
  have tl := ht.len
  have tle : (withoutL p.replicas p.removing).length ≤ p.replicas.length := List.length_filter_le _ _
  refine rpart_spec ht (h.isr.sub t2) (by omega) fun H3 s3 => ⟨_, rfl, ?_⟩
  have t3 := t2.trans s3
  rw [wrap64_id (n := (a.n : Int) + m.n) (by omega) (by omega)]
  have ho : (((a.n : Int) + m.n) == 0) = !openB p := open_len n3 n4
  rw [ho]
  refine br_intro (fun w => k.err (by rw [if_pos w]) t3) (fun w1 => ?_)
  rw [if_neg (by rw [w1]; decide)] at k
  refine br_intro (fun w => k.err (by rw [if_pos w]) t3) (fun w2 => ?_)
  rw [if_neg (by rw [w2]; decide)] at k
  refine rclone_spec (v := ⟨p.id, p.leader, p.epoch, p.version, i, r, a, m, p.min⟩) (h.sub t3) hr.small fun c H4 s4 hc => ⟨c.id, c.leader, c.epoch, c.version, c.isr, c.replicas, c.adding, c.removing, c.min, rfl, ?_⟩
  have t4 := t3.trans s4
  refine rwith_spec hc.isr (ht.sub (s3.trans s4)) (by rw [hc.isr.len]; omega) fun x H5 s5 hx => ⟨x, rfl, ?_⟩
  have t5 := t4.trans s5
  have ht5 := ht.sub (s3.trans (s4.trans s5))
  refine rhas_spec ht5 ⟨_, rfl, ?_⟩
  have hq : PIn H5 { c with isr := x, replicas := t, adding := ⟨none, 0, 0⟩, removing := ⟨none, 0, 0⟩ } { p with replicas := withoutL p.replicas p.removing, adding := [], removing := [], isr := withL p.isr (withoutL p.replicas p.removing) } := ⟨hc.id, hc.leader, hc.epoch, hc.version, hc.min, hx, ht5, Ints.nil _, Ints.nil _⟩
  unfold finishB at k
  rw [hc.leader]
  refine ⟨fun b H' => H' = H5 ∧ b = (p.leader != 0 && !decide (p.leader ∈ withoutL p.replicas p.removing)), br_intro (fun w => ⟨rfl, rfl, by rw [w]; rfl⟩) (fun w => ⟨rfl, rfl, by rw [w]; rfl⟩), ?_⟩
  rintro b H6 ⟨rfl, eb⟩
  refine br_intro (fun w => ?_) (fun w => ?_)
  · rw [if_pos (eb ▸ w)] at k
    refine rfirst_spec ht5 hx (hup.sub t5) ⟨_, rfl, HL.Sub.refl _, ?_⟩
    have T := rled_changedS (K := K) (G := H) (F := H6) t5 (HL.Sub.refl _) hq (by show 0 ≤ p.epoch ∧ p.epoch ≤ _; omega) (by show 0 ≤ p.version ∧ p.version ≤ _; omega) k
    rw [← hc.leader]
    exact T
  · rw [if_neg (by rw [← eb, w]; decide)] at k
    have T := rchanged_only (K := K) (G := H) t5 hq (by show 0 ≤ p.version ∧ p.version ≤ _; omega) k
    rw [← hc.leader]
    exact T
theorem rcancel_spec {v : PV} {p : Part} {u : Sl} {up : List Int} (h : PIn H v p) (hr : RightOf p) (hup : Ints H u up) (k : Ans K H (cancelP p up)) : FnH Tryz.prog 95 #[v.val, .slice u.p u.n u.c] H K := by
  refine h.cases_ (C := fun v => FnH Tryz.prog 95 #[v.val, .slice u.p u.n u.c] H K) fun i r a m h => ?_
  apply logboomref11_Cancel_fn
  unfold logboomref11_Cancel_vc
  have hb := right_iff.2 hr
  have he := hr.epoch; have hv := hr.version
  have l1 := ids_len hr.isr; have l2 := ids_len hr.replicas; have l3 := ids_len hr.adding; have l4 := ids_len hr.removing
  have n1 : i.n = p.isr.length := h.isr.len
  have n3 : a.n = p.adding.length := h.adding.len
  have n4 : m.n = p.removing.length := h.removing.len
  unfold cancelP at k
  refine rright_spec (v := ⟨p.id, p.leader, p.epoch, p.version, i, r, a, m, p.min⟩) h hr.small fun H1 s1 => ⟨_, rfl, br_f (by rw [hb]; rfl) ?_⟩
  rw [hb, if_neg (by decide)] at k
  refine rpart_spec (s := i) (h.isr.sub s1) (h.adding.sub s1) (by omega) fun H3 s3 => ⟨_, rfl, ?_⟩
  have t3 := s1.trans s3
  rw [wrap64_id (n := (a.n : Int) + m.n) (by omega) (by omega)]
  have ho : (((a.n : Int) + m.n) == 0) = !openB p := open_len n3 n4
  rw [ho]
  refine br_intro (fun w => k.err (by rw [if_pos w]) t3) (fun w1 => ?_)
  rw [if_neg (by rw [w1]; decide)] at k
  refine br_intro (fun w => k.err (by rw [if_pos w]) t3) (fun w2 => ?_)
  rw [if_neg (by rw [w2]; decide)] at k
  refine rclone_spec (v := ⟨p.id, p.leader, p.epoch, p.version, i, r, a, m, p.min⟩) (h.sub t3) hr.small fun c H4 s4 hc => ⟨c.id, c.leader, c.epoch, c.version, c.isr, c.replicas, c.adding, c.removing, c.min, rfl, ?_⟩
  have t4 := t3.trans s4
  refine rwithout_spec hc.replicas hc.adding (by rw [hc.replicas.len]; omega) fun t H5 s5 ht => ⟨t, rfl, ?_⟩
  refine rwithout_spec (hc.isr.sub s5) (hc.adding.sub s5) (by rw [hc.isr.len]; omega) fun x H6 s6 hx => ⟨x, rfl, ?_⟩
  have t6 := t4.trans (s5.trans s6)
  have hc6 := hc.sub (s5.trans s6)
  have ht6 := ht.sub s6
  refine rhas_spec hc6.adding ⟨_, rfl, ?_⟩
  have hq : PIn H6 { c with isr := x, replicas := t, adding := ⟨none, 0, 0⟩, removing := ⟨none, 0, 0⟩ } { p with replicas := withoutL p.replicas p.adding, isr := withoutL p.isr p.adding, adding := [], removing := [] } := ⟨hc6.id, hc6.leader, hc6.epoch, hc6.version, hc6.min, hx, ht6, Ints.nil _, Ints.nil _⟩
  unfold cancelB at k
  rw [hc6.leader]
  have h0 : p.leader ∈ p.adding → p.leader ≠ 0 := fun q e => by
    have := (ids_iff.1 hr.adding).2 _ q
    omega
  refine ⟨fun b H' => H' = H6 ∧ b = decide (p.leader ∈ p.adding), br_intro (fun w => ⟨rfl, rfl, rfl⟩) (fun w => ⟨rfl, rfl, ?_⟩), ?_⟩
  · have w : p.leader = 0 := by simpa using w
    exact (decide_eq_false fun q => h0 q w).symm
  rintro b H7 ⟨rfl, eb⟩
  refine br_intro (fun w => ?_) (fun w => ?_)
  · have hg : p.leader ∈ p.adding := of_decide_eq_true (eb ▸ w)
    rw [if_pos hg] at k
    refine rfirst_spec ht6 hx (hup.sub t6) ⟨_, rfl, HL.Sub.refl _, ?_⟩
    rw [way_but (b := p.leader) (c := 0) fun y hy => ⟨fun e => (mem_without.1 hy).2 (e ▸ hg), fun e => by
      have := (ids_iff.1 hr.replicas).2 _ (mem_without.1 hy).1
      omega⟩]
    have T := rled_changedS (K := K) (G := H) (F := H7) t6 (HL.Sub.refl _) hq (by show 0 ≤ p.epoch ∧ p.epoch ≤ _; omega) (by show 0 ≤ p.version ∧ p.version ≤ _; omega) k
    rw [← hc6.leader]
    exact T
  · have hg : ¬ p.leader ∈ p.adding := of_decide_eq_false (by rw [← eb, w])
    rw [if_neg hg] at k
    have T := rchanged_only (K := K) (G := H) t6 hq (by show 0 ≤ p.version ∧ p.version ≤ _; omega) k
    rw [← hc6.leader]
    exact T
end
end Go.Proofs.YtmofinghoacobaaGreatDoor
namespace Go.Proofs.YtmofinghoacobaaGreatDoor
open Go Go.HL
set_option maxHeartbeats 3200000
set_option maxRecDepth 100000
abbrev eB : Int × (Int × Bool) → List Value := fun b => [.int .i64 b.1, .int .i64 b.2.1, .bool b.2.2]
theorem eBlen : ∀ a, (eB a).length = 3 := fun _ => rfl
structure Rc where
  bs : Sl
  ts : Sl
  ps : Sl
  rs : Sl
  vs : List PV
  A : Heap
abbrev rimgC (m : Nat) (I : Im) (c : Rc) : List Chunk := [blk m (.cells #[.int .i64 I.app, .slice c.bs.p c.bs.n c.bs.c, .slice c.ts.p c.ts.n c.ts.c, .slice c.ps.p c.ps.n c.ps.c, .slice c.rs.p c.rs.n c.rs.c] 56 (0, 0)), own 97 3 c.bs (I.brk.flatMap eB), own 99 3 c.ts (I.top.flatMap eT), own 41 9 c.ps (c.vs.flatMap eP), own 3 1 c.rs (iv I.prd)]
abbrev rimgL (m : Nat) (I : Im) (c : Rc) : List Chunk := rimgC m I c ++ [ro c.A]
def rimg (Lo : Heap) (m : Nat) (I : Im) : Chunk := fun H => ∃ c : Rc, PsIn Lo c.A c.vs I.prt ∧ HL.Holds (rimgL m I c) H
theorem rimg_mono {Lo : Heap} {m : Nat} {I : Im} : Mono (rimg Lo m I) := fun _ _ hs ⟨c, e, h⟩ => ⟨c, e, h.up hs⟩
theorem rimg_open {cs : List Chunk} {H Lo : Heap} {m : Nat} {I : Im} : HL.Holds (rimg Lo m I :: cs) H ↔ ∃ c : Rc, PsIn Lo c.A c.vs I.prt ∧ HL.Holds (rimgL m I c ++ cs) H := by
  constructor
  · intro h
    obtain ⟨c, h⟩ := Holds.ex.1 h
    obtain ⟨e, h⟩ := Holds.pure.1 h
    exact ⟨c, e, Holds.flat.1 h⟩
  · rintro ⟨c, e, h⟩
    exact Holds.ex.2 ⟨c, Holds.pure.2 ⟨e, Holds.flat.2 h⟩⟩
theorem upL_snoc (B : Bs) (b : Int × (Int × Bool)) : upL (B ++ [b]) = upL B ++ (if b.2.2 = true then [b.1] else []) := by
  unfold upL
  rw [List.filter_append, List.map_append]
  congr 1
  by_cases e : b.2.2 = true
  · simp [e]
  · simp [e]
theorem upL_le (B : Bs) : (upL B).length ≤ B.length := by
  unfold upL
  rw [List.length_map]
  exact List.length_filter_le _ _
theorem set_ins {B : Bs} (hs : SortedL ltI B) : ∀ {j : Nat} {id : Int} {x : Int × Bool}, B[j]? = some (id, x) → ∀ v, B.set j (id, v) = insL ltI B id v := by
  induction B with
  | nil => intro j id x h; simp at h
  | cons b t ih =>
    intro j id x h v
    have ht : SortedL ltI t := (List.pairwise_cons.1 hs).2
    have hlt := (List.pairwise_cons.1 hs).1
    cases j with
    | zero =>
      simp at h
      subst h
      simp [insL]
    | succ j =>
      have h : t[j]? = some (id, x) := by simpa using h
      have hb : b.1 < id := of_decide_eq_true (hlt _ (List.mem_of_getElem? h))
      have h2 : ltI id b.1 = false := by unfold ltI; exact decide_eq_false (by omega)
      unfold insL
      rw [if_neg (by omega), h2, if_neg (by decide), List.set_cons_succ, ih ht h v]
section
variable {cs : List Chunk} {H Lo : Heap} {K : Value → Heap → Prop}
theorem rup_spec {m i : Nat} {I : Im} (h : HL.Holds cs H) (ei : cs[i]? = some (rimg Lo m I)) (hbl : I.brk.length ≤ 7) (k : ∀ (s : Sl) H', HL.Sub H H' → HL.Holds [own 3 1 s (iv (upL I.brk)), ro H] H' → K (.slice s.p s.n s.c) H') : FnH Tryz.prog 61 #[.pointer (some ⟨m, 0, none⟩)] H K := by
  apply logboomref12_Image_Up_fn
  unfold logboomref12_Image_Up_vc
  obtain ⟨c, hP, hh⟩ := h.read i ei rimg_mono
  have hR : Recs eB H c.bs I.brk := Own.recs eBlen (by decide) (hh.own 1 rfl) (by omega)
  have hn := hR.len
  refine ⟨fun out n H1 => 0 ≤ n ∧ n ≤ c.bs.n ∧ HL.Holds [own 3 1 out (iv (upL (I.brk.take n.toNat))), ro H] H1, fun _ n _ => (c.bs.n - n).toNat, ⟨Int.le_refl _, by omega, (Holds.whole H).own_nil 3 1⟩, ?_⟩
  rintro out n H1 ⟨n0, n1, h1⟩
  have s1 := h1.sub 1 rfl
  have hle : (upL (I.brk.take n.toNat)).length ≤ 7 := Nat.le_trans (upL_le _) (by rw [List.length_take]; omega)
  have ho := own_ints (h1.own 0 rfl) (by omega)
  have hon := ho.len
  refine ⟨c.bs, (hh.up s1).cell 0 rfl rfl, br_intro (fun w => ?_) (fun w => ?_)⟩
  · have w := of_decide_eq_true w
    obtain ⟨q, o, v, e1, e2, e3⟩ := (Recs.mono _ _ s1 hR).at_ eBlen (by decide) n0 w
    rw [wrap64_id (n := n + 1) (by omega) (by omega)]
    have hst : upL (I.brk.take (n + 1).toNat) = upL (I.brk.take n.toNat) ++ (if v.2.2 = true then [v.1] else []) := by
      rw [take_step n0 e2, upL_snoc]
    refine ⟨c.bs, (hh.up s1).cell 0 rfl rfl, q, o, e1, n0, w, _, e3 2 _ rfl, br_intro (fun e => ?_) (fun e => ?_)⟩
    · refine ⟨c.bs, (hh.up s1).cell 0 rfl rfl, q, o, e1, n0, w, _, e3 0 _ rfl, Holds.push okInt h1 (xs := [.int .i64 v.1]) (m := 1) rfl rfl (by omega) fun l2 H3 h3 n3 => ⟨l2, rfl, rfl, ⟨by omega, by omega, ?_⟩, by dsimp only; omega⟩⟩
      rw [hst, if_pos e]
      simpa [iv] using h3
    · refine ⟨rfl, ⟨by omega, by omega, ?_⟩, by dsimp only; omega⟩
      rw [hst, if_neg (by rw [e]; decide), List.append_nil]
      exact h1
  · have w := of_decide_eq_false w
    rw [List.take_of_length_le (by omega)] at h1
    exact k out H1 s1 h1
theorem rbroker_spec {m i : Nat} {I : Im} {id : Int} (h : HL.Holds cs H) (ei : cs[i]? = some (rimg Lo m I)) (hbl : I.brk.length ≤ 7) (k0 : lookL I.brk id = none → K (.int .i64 (-1)) H) (k1 : ∀ (j : Nat) x, I.brk[j]? = some (id, x) → K (.int .i64 j) H) : FnH Tryz.prog 89 #[.pointer (some ⟨m, 0, none⟩), .int .i64 id] H K := by
  apply logboomref12_Image_broker_fn
  unfold logboomref12_Image_broker_vc
  obtain ⟨c, hP, hh⟩ := h.read i ei rimg_mono
  have hR : Recs eB H c.bs I.brk := Own.recs eBlen (by decide) (hh.own 1 rfl) (by omega)
  have hn := hR.len
  refine ⟨fun n H1 => H1 = H ∧ 0 ≤ n ∧ n ≤ c.bs.n ∧ ∀ x ∈ I.brk.take n.toNat, x.1 ≠ id, fun n _ => (c.bs.n - n).toNat, ⟨rfl, Int.le_refl _, by omega, by simp⟩, ?_⟩
  rintro n H1 ⟨rfl, n0, n1, hno⟩
  refine ⟨c.bs, hh.cell 0 rfl rfl, br_intro (fun w => ?_) (fun w => ?_)⟩
  · have w := of_decide_eq_true w
    obtain ⟨q, o, v, e1, e2, e3⟩ := hR.at_ eBlen (by decide) n0 w
    refine ⟨c.bs, hh.cell 0 rfl rfl, q, o, e1, n0, w, _, e3 0 _ rfl, br_intro (fun e => ?_) (fun e => ?_)⟩
    · have e : v.1 = id := by simpa using e
      have := k1 n.toNat v.2 (by rw [e2, ← e])
      rw [Int.toNat_of_nonneg n0] at this
      exact this
    · have e : ¬ v.1 = id := by simpa using e
      rw [wrap64_id (n := n + 1) (by omega) (by omega)]
      refine ⟨rfl, ⟨rfl, by omega, by omega, ?_⟩, by dsimp only; omega⟩
      rw [take_step n0 e2]
      intro x hx
      rcases List.mem_append.1 hx with hx | hx
      · exact hno x hx
      · rw [List.mem_singleton.1 hx]; exact e
  · have w := of_decide_eq_false w
    rw [List.take_of_length_le (by omega)] at hno
    refine k0 (lookL_none fun hm => ?_)
    obtain ⟨y, hy, e⟩ := List.mem_map.1 hm
    exact hno y hy e
theorem rfencing_spec {m : Nat} {I : Im} {id : Int} {x : Int × Bool} {j : Nat} (h : HL.Holds (rimg Lo m I :: cs) H) (hok : ImOk I) (hx : I.brk[j]? = some (id, x)) (k : ∀ H', HL.Holds (rimg Lo m (fencingI I id) :: cs) H' → K (.tuple #[]) H') : FnH Tryz.prog 90 #[.pointer (some ⟨m, 0, none⟩), .int .i64 j] H K := by
  apply logboomref12_Image_fencing_fn
  unfold logboomref12_Image_fencing_vc
  have hbl := brk_len hok
  have hpl := hok.parts
  have hj := (List.getElem?_eq_some_iff.1 hx).1
  have hbx : brkOf I.brk id = x := brkOf_mem (x := (id, x)) (nodup_brk hok) (List.mem_of_getElem? hx)
  obtain ⟨c, hP, h1⟩ := rimg_open.1 h
  have hR : Recs eB H c.bs I.brk := Own.recs eBlen (by decide) (h1.own 1 rfl) (by omega)
  have hn := hR.len
  have jt : Int.toNat (j : Int) = j := Int.toNat_natCast j
  obtain ⟨q, o, v, e1, e2, e3⟩ := hR.at_ eBlen (by decide) (j := (j : Int)) (by omega) (by omega)
  rw [jt] at e2 e3 ⊢
  rw [hx] at e2
  cases e2
  refine ⟨c.bs, h1.cell 0 rfl rfl, q, o, e1, by omega, by omega, id, e3 0 _ rfl, c.bs, h1.cell 0 rfl rfl, q, o, e1, by omega, by omega, ?_⟩
  refine Holds.setCell (h1.pull 1 rfl) e1 (j := j * 3 + 2) (by rw [flat_len eBlen]; omega) fun H1 h2 => ?_
  rw [flat_set (enc := eB) (k := 3) eBlen (l := I.brk) (j := j) (a := (id, x)) (a' := (id, (x.1, false))) (f := 2) hx (by decide) rfl, set_ins hok.sorted hx] at h2
  have hfb : insL ltI I.brk id (x.1, false) = fencingB I id := by unfold fencingB; rw [hbx]
  rw [hfb] at h2
  have hbl2 : (fencingB I id).length ≤ 7 := by rw [← hfb, ← set_ins hok.sorted hx, List.length_set]; exact hbl
  have hul : (upL (fencingB I id)).length ≤ 7 := Nat.le_trans (upL_le _) hbl2
  have h3 : HL.Holds (rimgL m { I with brk := fencingB I id } c ++ cs) H1 := h2.down 1
  clear h1 h2 hR e3
  have hRp : ∀ {H' : Heap} {vs : List PV} {ds : List Chunk}, HL.Holds (own 41 9 c.ps (vs.flatMap eP) :: ds) H' → vs.length ≤ 16 → Recs eP H' c.ps vs := fun {H' vs ds} h' hv => Own.recs ePlen (by decide) (h'.own 0 rfl) (by omega)
  have hpn : c.ps.n = I.prt.length := by rw [(hRp (h3.pull 3 rfl) (by rw [hP.1]; exact hpl)).len, hP.1]
  refine ⟨fun n H' => 0 ≤ n ∧ n ≤ c.ps.n ∧ ∃ vs A, HL.Sub c.A A ∧ PsIn Lo A vs ((I.prt.take n.toNat).map (eachG fun p => fenceP p id (upL (fencingB I id))) ++ I.prt.drop n.toNat) ∧ HL.Holds (rimgL m { I with brk := fencingB I id } { c with vs := vs, A := A } ++ cs) H', fun n _ => (c.ps.n - n).toNat, ⟨Int.le_refl _, by omega, c.vs, c.A, HL.Sub.refl _, by simpa using hP, h3⟩, ?_⟩
  rintro n H2 ⟨n0, n1, vs, A, sA, hV, h4⟩
  have hvl : vs.length = I.prt.length := by rw [hV.1, List.length_append, List.length_map, List.length_take, List.length_drop]; omega
  refine ⟨c.ps, h4.cell 0 rfl rfl, br_intro (fun w => ?_) (fun w => ?_)⟩
  · have w := of_decide_eq_true w
    have hi : n.toNat < I.prt.length := by omega
    obtain ⟨q3, o3, v, f1, f2, f3⟩ := (hRp (vs := vs) (h4.pull 3 rfl) (by omega)).at_ ePlen (by decide) n0 w
    obtain ⟨p, hp⟩ : ∃ p, I.prt[n.toNat]? = some p := ⟨_, List.getElem?_eq_getElem hi⟩
    have hvp := hV.2.1 _ _ _ f2 (each_at hp)
    have hn1 : (n + 1).toNat = n.toNat + 1 := by omega
    rw [wrap64_id (n := n + 1) (by omega) (by omega)]
    have h5 : HL.Holds (rimg Lo m { I with brk := fencingB I id, prt := (I.prt.take n.toNat).map (eachG fun p => fenceP p id (upL (fencingB I id))) ++ I.prt.drop n.toNat } :: cs) H2 := rimg_open.2 ⟨{ c with vs := vs, A := A }, hV, h4⟩
    have G : ∀ {H3 : Heap} {u : Sl}, HL.Sub H2 H3 → HL.Holds [own 3 1 u (iv (upL (fencingB I id))), ro H2] H3 → ∀ (K' : Value → Heap → Prop), (∀ (w : PV) A' H4, HL.Sub H2 H4 → HL.Sub A A' → PIn A' w (fenceP p id (upL (fencingB I id))).1 → HL.Holds (ro A' :: (rimgC m { I with brk := fencingB I id } { c with vs := vs, A := A } ++ cs)) H4 → K' (.tuple #[w.val, .int .i64 (fenceP p id (upL (fencingB I id))).2]) H4) → FnH Tryz.prog 133 #[v.val, .int .i64 id, .slice u.p u.n u.c] H3 K' := fun {H3 u} s3 h6 K' kk => by
      have h7 := ro_open h4 h6
      have h8 : HL.Holds (own 3 1 u (iv (upL (fencingB I id))) :: ro A :: (rimgC m { I with brk := fencingB I id } { c with vs := vs, A := A } ++ cs)) H3 := (h7.pull 6 rfl).swap
      obtain ⟨A1, sU, hU, h9⟩ := into_store h8 Own.mono
      have hup : Ints A1 u (upL (fencingB I id)) := own_ints hU (by omega)
      refine in_storeS (Q := fun r B' => ∃ w : PV, r = .tuple #[w.val, .int .i64 (fenceP p id (upL (fencingB I id))).2] ∧ PIn B' w (fenceP p id (upL (fencingB I id))).1) h9 (fun B K2 s k2 => rfence_spec ((hvp.sub sU).sub s) (hok.right p (List.mem_of_getElem? hp)) (hup.sub s) (by omega) fun w H' s' hw => k2 _ H' s' ⟨w, rfl, hw⟩) fun r A' H4 sA' q s4 h10 => ?_
      obtain ⟨w, rfl, hw⟩ := q
      exact kk w A' H4 (s3.trans s4) (sU.trans sA') hw h10
    have hst := each_step (g := eachG fun p => fenceP p id (upL (fencingB I id))) hp
    have fin : ∀ {H5 A' w'}, HL.Sub A A' → PIn A' w' (fenceP p id (upL (fencingB I id))).1 → (fenceP p id (upL (fencingB I id))).2 = 0 → HL.Holds (own 41 9 c.ps ((vs.set n.toNat w').flatMap eP) :: (ro A' :: (rimgC m { I with brk := fencingB I id } { c with vs := vs, A := A } ++ cs)).eraseIdx 4) H5 → 0 ≤ n + 1 ∧ n + 1 ≤ c.ps.n ∧ ∃ vs A, HL.Sub c.A A ∧ PsIn Lo A vs ((I.prt.take (n + 1).toNat).map (eachG fun p => fenceP p id (upL (fencingB I id))) ++ I.prt.drop (n + 1).toNat) ∧ HL.Holds (rimgL m { I with brk := fencingB I id } { c with vs := vs, A := A } ++ cs) H5 := fun {H5 A' w'} sA' hw z h11 => by
      refine ⟨by omega, by omega, vs.set n.toNat w', A', sA.trans sA', ?_, (h11.down 4).down 5⟩
      have hg : eachG (fun p => fenceP p id (upL (fencingB I id))) p = (fenceP p id (upL (fencingB I id))).1 := if_pos z
      rw [hn1, ← hst, hg]
      exact (hV.sub sA').set hw
    have stay : ∀ {H5 A'}, HL.Sub A A' → ¬ (fenceP p id (upL (fencingB I id))).2 = 0 → HL.Holds (ro A' :: (rimgC m { I with brk := fencingB I id } { c with vs := vs, A := A } ++ cs)) H5 → 0 ≤ n + 1 ∧ n + 1 ≤ c.ps.n ∧ ∃ vs A, HL.Sub c.A A ∧ PsIn Lo A vs ((I.prt.take (n + 1).toNat).map (eachG fun p => fenceP p id (upL (fencingB I id))) ++ I.prt.drop (n + 1).toNat) ∧ HL.Holds (rimgL m { I with brk := fencingB I id } { c with vs := vs, A := A } ++ cs) H5 := fun {H5 A'} sA' z h11 => by
      refine ⟨by omega, by omega, vs, A', sA.trans sA', ?_, h11.down 5⟩
      have hg : eachG (fun p => fenceP p id (upL (fencingB I id))) p = p := if_neg z
      rw [hg, set_same (each_at hp)] at hst
      rw [hn1, ← hst]; exact hV.sub sA'
    refine ⟨c.ps, h4.cell 0 rfl rfl, q3, o3, f1, n0, w, v.id, f3 0 _ rfl, v.leader, f3 1 _ rfl, v.epoch, f3 2 _ rfl, v.version, f3 3 _ rfl, v.isr, f3 4 _ rfl, v.replicas, f3 5 _ rfl, v.adding, f3 6 _ rfl, v.removing, f3 7 _ rfl, v.min, f3 8 _ rfl, ?_, HL.Sub.refl _, ?_⟩
    · refine rup_spec (i := 0) h5 rfl hbl2 fun u H3 s3 h6 => ⟨u, rfl, s3, G s3 h6 _ fun w' A' H4 s4 sA' hw h7 => ⟨w'.id, w'.leader, w'.epoch, w'.version, w'.isr, w'.replicas, w'.adding, w'.removing, w'.min, _, rfl, s4, s4, ?_⟩, s3, G s3 h6 _ fun w' A' H4 s4 sA' hw h7 => ⟨w'.id, w'.leader, w'.epoch, w'.version, w'.isr, w'.replicas, w'.adding, w'.removing, w'.min, _, rfl, s4, ?_⟩⟩
      all_goals
        refine br_intro (fun z => ?_) (fun z => ?_)
        · have z : (fenceP p id (upL (fencingB I id))).2 = 0 := by simpa using z
          refine ⟨c.ps, h7.cell 1 rfl rfl, q3, o3, f1, n0, w, ?_⟩
          exact put_part (h7.pull 4 rfl) f1 f2 w' fun H5 h8 => ⟨rfl, fin sA' hw z h8, by dsimp only; omega⟩
        · have z : ¬ (fenceP p id (upL (fencingB I id))).2 = 0 := by simpa using z
          exact ⟨rfl, stay sA' z h7, by dsimp only; omega⟩
    · refine rup_spec (i := 0) h5 rfl hbl2 fun u H3 s3 h6 => ⟨u, rfl, s3, G s3 h6 _ fun w' A' H4 s4 sA' hw h7 => ⟨w'.id, w'.leader, w'.epoch, w'.version, w'.isr, w'.replicas, w'.adding, w'.removing, w'.min, _, rfl, s4, ?_⟩⟩
      refine br_intro (fun z => ?_) (fun z => ?_)
      · have z : (fenceP p id (upL (fencingB I id))).2 = 0 := by simpa using z
        refine ⟨c.ps, h7.cell 1 rfl rfl, q3, o3, f1, n0, w, ?_⟩
        exact put_part (h7.pull 4 rfl) f1 f2 w' fun H5 h8 => ⟨rfl, fin sA' hw z h8, by dsimp only; omega⟩
      · have z : ¬ (fenceP p id (upL (fencingB I id))).2 = 0 := by simpa using z
        exact ⟨rfl, stay sA' z h7, by dsimp only; omega⟩
  · have w := of_decide_eq_false w
    rw [List.take_of_length_le (by omega), List.drop_of_length_le (by omega), List.append_nil] at hV
    exact k H2 (rimg_open.2 ⟨{ c with vs := vs, A := A }, hV, h4⟩)
end
end Go.Proofs.YtmofinghoacobaaGreatDoor
namespace Go.Proofs.YtmofinghoacobaaGreatDoor
open Go Go.HL
set_option maxHeartbeats 3200000
set_option maxRecDepth 100000
theorem okBrk : ElemOK Tryz.prog 53 97 3 := ElemOK.of (by kernel_rfl)
theorem noTups_brk (l : Bs) : noTups (l.flatMap eB) = true := noTups_all fun v hv => by
  obtain ⟨a, -, hv⟩ := List.mem_flatMap.1 hv
  simp only [eB, List.mem_cons, List.not_mem_nil, or_false] at hv
  rcases hv with rfl | rfl | rfl <;> rfl
theorem ins_split {id : Int} {v : Int × Bool} : ∀ {B : Bs} {n : Nat}, (∀ x ∈ B.take n, x.1 < id) → (∀ x, B[n]? = some x → id < x.1) → insL ltI B id v = B.take n ++ (id, v) :: B.drop n := by
  intro B
  induction B with
  | nil => intro n _ _; simp [insL]
  | cons b t ih =>
    intro n h1 h2
    cases n with
    | zero =>
      have hb : id < b.1 := h2 b rfl
      have h3 : ltI id b.1 = true := decide_eq_true hb
      unfold insL
      rw [if_neg (by omega), if_pos h3]
      rfl
    | succ n =>
      have hb : b.1 < id := h1 b (by simp)
      have h3 : ¬ ltI id b.1 = true := fun e => by have := of_decide_eq_true e; omega
      unfold insL
      rw [if_neg (by omega), if_neg h3, ih (fun x hx => h1 x (by rw [List.take_succ_cons]; exact List.mem_cons_of_mem _ hx)) fun x hx => h2 x (by simpa using hx)]
      rfl
theorem reg_n {I : Im} {a b : Int} : (registerI I a b).2.1 = if (registerI I a b).2.2 = 0 then a else 0 := by
  unfold registerI
  split
  · rfl
  · split <;> rfl
theorem turn_n {I : Im} {a b : Int} {up : Bool} : (turnI I a b up).2.1 = if (turnI I a b up).2.2 = 0 then a else 0 := by
  unfold turnI
  split
  · rfl
  · split
    · rfl
    · split
      · rfl
      · split
        · rfl
        · split <;> rfl
theorem look_at {I : Im} (hok : ImOk I) {j : Nat} {id : Int} {x : Int × Bool} (hx : I.brk[j]? = some (id, x)) : lookL I.brk id = some x := (lookL_iff (nodup_brk hok)).2 (List.mem_of_getElem? hx)
section
variable {cs : List Chunk} {H Lo : Heap} {K : Value → Heap → Prop}
theorem rlife_put {m : Nat} {I : Im} {id b : Int} {x : Int × Bool} {j : Nat} (h : HL.Holds (rimg Lo m I :: cs) H) (hs : SortedL ltI I.brk) (hbl : I.brk.length ≤ 7) (hx : I.brk[j]? = some (id, x)) {f : Heap → Prop}
    (k : ∀ H', HL.Holds (rimg Lo m { I with brk := insL ltI I.brk id (b, x.2) } :: cs) H' → f H') :
    ∃ l15 : Sl, cellH H ⟨m, 0 + 1, none⟩ = some (.slice l15.p l15.n l15.c) ∧ ∃ q8 : Nat, ∃ o4 : Nat, (l15.p : Option Addr) = some ⟨q8, o4, none⟩ ∧ 0 ≤ (j : Int) ∧ (j : Int) < (l15.n : Nat) ∧ (∃ u, cellH H ⟨q8, o4 + Int.toNat (j : Int) * 3 + 1, none⟩ = some u) ∧
      frozenH H ⟨q8, o4 + Int.toNat (j : Int) * 3 + 1, none⟩ = false ∧ letH (Heap.set H ⟨q8, o4 + Int.toNat (j : Int) * 3 + 1, none⟩ (.int .i64 b)) f := by
  obtain ⟨c, hP, h1⟩ := rimg_open.1 h
  have hR : Recs eB H c.bs I.brk := Own.recs eBlen (by decide) (h1.own 1 rfl) (by omega)
  have hn := hR.len
  have hj := (List.getElem?_eq_some_iff.1 hx).1
  obtain ⟨q, o, v, e1, e2, e3⟩ := hR.at_ eBlen (by decide) (j := (j : Int)) (by omega) (by omega)
  rw [Int.toNat_natCast]
  refine ⟨c.bs, h1.cell 0 rfl rfl, q, o, e1, by omega, by omega, ?_⟩
  refine Holds.setCell (h1.pull 1 rfl) e1 (j := j * 3 + 1) (by rw [flat_len eBlen]; omega) fun H1 h2 => ?_
  rw [flat_set (enc := eB) (k := 3) eBlen (l := I.brk) (j := j) (a := (id, x)) (a' := (id, (b, x.2))) (f := 1) hx (by decide) rfl, set_ins hs hx] at h2
  exact k H1 (rimg_open.2 ⟨c, hP, h2.down 1⟩)
theorem rregister_spec {m : Nat} {I : Im} {a b : Int} (h : HL.Holds (rimg Lo m I :: cs) H) (hok : ImOk I) (k : ∀ H', HL.Holds (rimg Lo m (registerI I a b).1 :: cs) H' → K (.int .i64 (registerI I a b).2.2) H') :
    FnH Tryz.prog 52 #[.pointer (some ⟨m, 0, none⟩), .int .i64 a, .int .i64 b] H K := by
  apply logboomref12_Image_register_fn
  unfold logboomref12_Image_register_vc
  have bad : (a < 1 ∨ a > 7 ∨ b < 1 ∨ b > 1000000000) → K (.int .i64 1) H := fun e => by
    unfold registerI at k
    rw [if_pos e] at k
    exact k H h
  refine br_intro (fun w => bad (.inl (of_decide_eq_true w))) (fun w1 => br_intro (fun w => bad (.inr (.inl (of_decide_eq_true w)))) (fun w2 => br_intro (fun w => bad (.inr (.inr (.inl (of_decide_eq_true w))))) (fun w3 => br_intro (fun w => bad (.inr (.inr (.inr (of_decide_eq_true w))))) (fun w4 => ?_))))
  have w1 := of_decide_eq_false w1
  have w2 := of_decide_eq_false w2
  have w3 := of_decide_eq_false w3
  have w4 := of_decide_eq_false w4
  clear bad
  unfold registerI at k
  rw [if_neg (by omega)] at k
  have hbl := brk_len hok
  refine rbroker_spec (i := 0) h rfl hbl (fun e0 => ⟨_, rfl, br_t (by decide) ?_⟩) (fun j x hx => ⟨_, rfl, br_f (decide_eq_false (by omega)) ?_⟩)
  · have hbo : brkOf I.brk a = (0, false) := by unfold brkOf; rw [e0]; rfl
    have hreg : regI I a = I := by unfold regI; rw [hbo]; rfl
    rw [hbo, if_neg (by show ¬ b ≤ 0; omega), hreg] at k
    obtain ⟨c, hP, h1⟩ := rimg_open.1 h
    have hR : Recs eB H c.bs I.brk := Own.recs eBlen (by decide) (h1.own 1 rfl) (by omega)
    have hn := hR.len
    have hcap := hR.cap
    refine ⟨fun n H1 => H1 = H ∧ 0 ≤ n ∧ n ≤ c.bs.n ∧ ∀ x ∈ I.brk.take n.toNat, x.1 < a, fun n _ => (c.bs.n - n).toNat, ⟨rfl, Int.le_refl _, by omega, by simp⟩, ?_⟩
    rintro n H1 ⟨rfl, n0, n1, hlt⟩
    have go : (∀ x, I.brk[n.toNat]? = some x → a < x.1) → ∀ q2 : Nat, H1 q2 = none → letH (Heap.upd H1 q2 (.cells #[] 97 (0, 0))) fun H3 => ∃ l3 : Sl, cellH H3 ⟨m, 0 + 1, none⟩ = some (.slice l3.p l3.n l3.c) ∧ 0 ≤ (n : Int) ∧ (n : Int) ≤ (l3.c : Nat) ∧
        runH Tryz.prog (Builtin.append_ #[53, 53] 53 #[.slice (some ⟨q2, 0, none⟩) 0 0, .slice (slP l3.p l3.c (0 : Int) 3) (Int.toNat (n - (0 : Int))) (Int.toNat ((l3.c : Nat) - (0 : Int)))]) H3 fun r2 H4 => ∃ l4 : Sl, r2 = .slice l4.p l4.n l4.c ∧
        ∀ q3 : Nat, H4 q3 = none → letH (Heap.upd H4 q3 (.cells #[.int .i64 a, .int .i64 b, .bool false] 97 (0, 0))) fun H5 =>
        runH Tryz.prog (Builtin.append_ #[53, 53] 53 #[.slice l4.p l4.n l4.c, .slice (some ⟨q3, 0, none⟩) 1 1]) H5 fun r3 H6 => ∃ l5 : Sl, r3 = .slice l5.p l5.n l5.c ∧ ∃ l6 : Sl, cellH H6 ⟨m, 0 + 1, none⟩ = some (.slice l6.p l6.n l6.c) ∧ 0 ≤ (n : Int) ∧ (n : Int) ≤ (l6.n : Nat) ∧
        runH Tryz.prog (Builtin.append_ #[53, 53] 53 #[.slice l5.p l5.n l5.c, .slice (slP l6.p l6.c n 3) (Int.toNat ((l6.n : Nat) - n)) (Int.toNat ((l6.c : Nat) - n))]) H6 fun r4 H7 => ∃ l7 : Sl, r4 = .slice l7.p l7.n l7.c ∧
        (∃ u, cellH H7 ⟨m, 0 + 1, none⟩ = some u) ∧ frozenH H7 ⟨m, 0 + 1, none⟩ = false ∧ letH (Heap.set H7 ⟨m, 0 + 1, none⟩ (.slice l7.p l7.n l7.c)) fun H8 => K (.int .i64 0) H8 := fun hgt => by
      refine h1.new fun q2 H3 h3 => ?_
      have h4 : HL.Holds (own 97 3 ⟨some ⟨q2, 0, none⟩, 0, 0⟩ [] :: (rimgL m I c ++ cs)) H3 := h3.head fun A hA => ⟨rfl, Nat.le_refl _, .inr ⟨q2, #[], rfl, hA, rfl, fun i hi => by simp at hi⟩⟩
      have hR3 : Recs eB H3 c.bs I.brk := Own.recs eBlen (by decide) (h3.own 2 rfl) (by omega)
      refine ⟨c.bs, h3.cell 1 rfl rfl, n0, by omega, ?_⟩
      refine Holds.append (s := ⟨some ⟨q2, 0, none⟩, 0, 0⟩) okBrk okBrk.under h4 (hR3.upto eBlen n0 n1).cells (by rw [flat_len eBlen, List.length_take]; congr 1; omega) (noTups_brk _) (by show 0 + Int.toNat (n - 0) ≤ _; omega) fun r H4 h5 n5 => ⟨r, rfl, ?_⟩
      have n5 : r.n = 0 + Int.toNat (n - 0) := n5
      refine Holds.push okBrk h5 (xs := [.int .i64 a, .int .i64 b, .bool false]) (m := 1) rfl rfl (by omega) fun r3 H6 h6 n6 => ⟨r3, rfl, ?_⟩
      have hR6 : Recs eB H6 c.bs I.brk := Own.recs eBlen (by decide) (h6.own 2 rfl) (by omega)
      refine ⟨c.bs, h6.cell 1 rfl rfl, n0, n1, ?_⟩
      refine Holds.append okBrk okBrk.under h6 (hR6.from_ eBlen n0 n1).cells (by rw [flat_len eBlen, List.length_drop]; congr 1; omega) (noTups_brk _) (by show r3.n + Int.toNat ((c.bs.n : Nat) - n) ≤ _; omega) fun r4 H7 h7 n7 => ⟨r4, rfl, ?_⟩
      refine h7.store 1 rfl (by simp) fun H8 h8 => k H8 (rimg_open.2 ⟨{ c with bs := r4 }, hP, ?_⟩)
      have e : (insL ltI I.brk a (b, false)).flatMap eB = ([] ++ (I.brk.take n.toNat).flatMap eB ++ [.int .i64 a, .int .i64 b, .bool false]) ++ (I.brk.drop n.toNat).flatMap eB := by
        rw [ins_split hlt hgt]
        simp [List.flatMap_append]
      show HL.Holds (blk m (.cells #[.int .i64 I.app, .slice r4.p r4.n r4.c, .slice c.ts.p c.ts.n c.ts.c, .slice c.ps.p c.ps.n c.ps.c, .slice c.rs.p c.rs.n c.rs.c] 56 (0, 0)) :: own 97 3 r4 ((insL ltI I.brk a (b, false)).flatMap eB) :: _) H8
      rw [e]
      exact ((h8.pull 2 rfl).tail).swap
    refine ⟨c.bs, h1.cell 0 rfl rfl, br_intro (fun w => ?_) (fun w => ?_)⟩
    · have w := of_decide_eq_true w
      obtain ⟨q, o, v, e1, e2, e3⟩ := hR.at_ eBlen (by decide) n0 w
      refine ⟨c.bs, h1.cell 0 rfl rfl, q, o, e1, n0, w, _, e3 0 _ rfl, br_intro (fun z => ?_) (fun z => ?_)⟩
      · have z : v.1 < a := of_decide_eq_true z
        rw [wrap64_id (n := n + 1) (by omega) (by omega)]
        refine ⟨rfl, ⟨rfl, by omega, by omega, ?_⟩, by dsimp only; omega⟩
        rw [take_step n0 e2]
        intro x hx
        rcases List.mem_append.1 hx with hx | hx
        · exact hlt x hx
        · rw [List.mem_singleton.1 hx]; exact z
      · have z : ¬ v.1 < a := of_decide_eq_false z
        refine go fun x hx => ?_
        rw [e2] at hx
        cases hx
        have hne : v.1 ≠ a := fun e => by
          have := (lookL_iff (nodup_brk hok) (k := v.1) (v := v.2)).2 (List.mem_of_getElem? e2)
          rw [e, e0] at this
          cases this
        omega
    · have w := of_decide_eq_false w
      exact go fun x hx => by have := (List.getElem?_eq_some_iff.1 hx).1; omega
  · have hl := look_at hok hx
    have hbo : brkOf I.brk a = x := by unfold brkOf; rw [hl]; rfl
    rw [hbo] at k
    obtain ⟨c, hP, h1⟩ := rimg_open.1 h
    have hR : Recs eB H c.bs I.brk := Own.recs eBlen (by decide) (h1.own 1 rfl) (by omega)
    have hn := hR.len
    have hj := (List.getElem?_eq_some_iff.1 hx).1
    obtain ⟨q, o, v, e1, e2, e3⟩ := hR.at_ eBlen (by decide) (j := (j : Int)) (by omega) (by omega)
    rw [Int.toNat_natCast, hx] at e2
    cases e2
    refine ⟨c.bs, h1.cell 0 rfl rfl, q, o, e1, by omega, by omega, _, e3 1 _ rfl, br_intro (fun w => ?_) (fun w => ⟨c.bs, h1.cell 0 rfl rfl, q, o, e1, by omega, by omega, _, e3 2 _ rfl, br_intro (fun y => ?_) (fun y => ?_)⟩)⟩
    · rw [if_pos (of_decide_eq_true w)] at k
      exact k H h
    · rw [if_neg (of_decide_eq_false w)] at k
      have y : x.2 = true := y
      have hreg : regI I a = fencingI I a := by unfold regI; rw [hbo, if_pos y]
      rw [hreg] at k
      have hfb : (fencingI I a).brk = I.brk.set j (a, (x.1, false)) := by
        show insL ltI I.brk a ((brkOf I.brk a).1, false) = _
        rw [hbo, set_ins hok.sorted hx]
      refine rfencing_spec h hok hx fun H2 h2 => ⟨rfl, ?_⟩
      refine rlife_put (x := (x.1, false)) h2 (insL_sorted ltI_ok hok.sorted) (by rw [hfb, List.length_set]; exact hbl) (by rw [hfb, List.getElem?_set_self hj]) k
    · rw [if_neg (of_decide_eq_false w)] at k
      have y : x.2 = false := y
      have hreg : regI I a = I := by unfold regI; rw [hbo, if_neg (by rw [y]; decide)]
      rw [hreg] at k
      exact rlife_put (x := x) h hok.sorted hbl hx (by rw [y]; exact k)
theorem rturn_spec {m : Nat} {I : Im} {a b : Int} {up : Bool} (h : HL.Holds (rimg Lo m I :: cs) H) (hok : ImOk I) (k : ∀ H', HL.Holds (rimg Lo m (turnI I a b up).1 :: cs) H' → K (.int .i64 (turnI I a b up).2.2) H') :
    FnH Tryz.prog 53 #[.pointer (some ⟨m, 0, none⟩), .int .i64 a, .int .i64 b, .bool up] H K := by
  apply logboomref12_Image_fence_fn
  unfold logboomref12_Image_fence_vc
  have bad : (a < 1 ∨ a > 7) → K (.int .i64 1) H := fun e => by
    unfold turnI at k
    rw [if_pos e] at k
    exact k H h
  refine br_intro (fun w => bad (.inl (of_decide_eq_true w))) (fun w1 => br_intro (fun w => bad (.inr (of_decide_eq_true w))) (fun w2 => ?_))
  have w1 := of_decide_eq_false w1
  have w2 := of_decide_eq_false w2
  clear bad
  unfold turnI at k
  rw [if_neg (by omega)] at k
  have hbl := brk_len hok
  refine rbroker_spec (i := 0) h rfl hbl (fun e0 => ⟨_, rfl, br_t (by decide) ?_⟩) (fun j x hx => ⟨_, rfl, br_f (decide_eq_false (by omega)) ?_⟩)
  · rw [if_pos e0] at k
    exact k H h
  have hl := look_at hok hx
  have hbo : brkOf I.brk a = x := by unfold brkOf; rw [hl]; rfl
  rw [if_neg (by rw [hl]; simp), hbo] at k
  obtain ⟨c, hP, h1⟩ := rimg_open.1 h
  have hR : Recs eB H c.bs I.brk := Own.recs eBlen (by decide) (h1.own 1 rfl) (by omega)
  have hn := hR.len
  have hj := (List.getElem?_eq_some_iff.1 hx).1
  have hpl := hok.parts
  obtain ⟨q, o, v, e1, e2, e3⟩ := hR.at_ eBlen (by decide) (j := (j : Int)) (by omega) (by omega)
  rw [Int.toNat_natCast, hx] at e2
  cases e2
  refine ⟨c.bs, h1.cell 0 rfl rfl, q, o, e1, by omega, by omega, _, e3 1 _ rfl, br_intro (fun w => ?_) (fun w => ⟨c.bs, h1.cell 0 rfl rfl, q, o, e1, by omega, by omega, _, e3 2 _ rfl, br_intro (fun y => ?_) (fun y => br_intro (fun u => ?_) (fun u => ?_))⟩)⟩
  · have w : ¬ x.1 = b := by simpa using w
    rw [if_pos w] at k
    exact k H h
  · have w : x.1 = b := by simpa using w
    have y : x.2 = up := by simpa using y
    rw [if_neg (by simpa using w), if_pos y] at k
    exact k H h
  · have w : x.1 = b := by simpa using w
    have y : ¬ x.2 = up := by simpa using y
    have u : up = false := by simpa using u
    rw [if_neg (by simpa using w), if_neg y, if_pos u] at k
    exact rfencing_spec h hok hx fun H2 h2 => ⟨rfl, k H2 h2⟩
  have w : x.1 = b := by simpa using w
  have y : ¬ x.2 = up := by simpa using y
  have u : up = true := by simpa using u
  rw [if_neg (by simpa using w), if_neg y, if_neg (by rw [u]; decide)] at k
  refine ⟨c.bs, h1.cell 0 rfl rfl, q, o, e1, by omega, by omega, ?_⟩
  rw [Int.toNat_natCast]
  refine Holds.setCell (h1.pull 1 rfl) e1 (j := j * 3 + 2) (by rw [flat_len eBlen]; omega) fun H1 h2 => ?_
  rw [flat_set (enc := eB) (k := 3) eBlen (l := I.brk) (j := j) (a := (a, x)) (a' := (a, (x.1, true))) (f := 2) hx (by decide) rfl, set_ins hok.sorted hx] at h2
  have h3 : HL.Holds (rimgL m { I with brk := insL ltI I.brk a (x.1, true) } c ++ cs) H1 := h2.down 1
  clear h1 h2 hR e3
  have hRp : ∀ {H' : Heap} {vs : List PV} {ds : List Chunk}, HL.Holds (own 41 9 c.ps (vs.flatMap eP) :: ds) H' → vs.length ≤ 16 → Recs eP H' c.ps vs := fun {H' vs ds} h' hv => Own.recs ePlen (by decide) (h'.own 0 rfl) (by omega)
  have hpn : c.ps.n = I.prt.length := by rw [(hRp (h3.pull 3 rfl) (by rw [hP.1]; exact hpl)).len, hP.1]
  refine ⟨fun n H' => 0 ≤ n ∧ n ≤ c.ps.n ∧ ∃ vs A, HL.Sub c.A A ∧ PsIn Lo A vs ((I.prt.take n.toNat).map (eachG fun p => backP p a) ++ I.prt.drop n.toNat) ∧ HL.Holds (rimgL m { I with brk := insL ltI I.brk a (x.1, true) } { c with vs := vs, A := A } ++ cs) H', fun n _ => (c.ps.n - n).toNat, ⟨Int.le_refl _, by omega, c.vs, c.A, HL.Sub.refl _, by simpa using hP, h3⟩, ?_⟩
  rintro n H2 ⟨n0, n1, vs, A, sA, hV, h4⟩
  have hvl : vs.length = I.prt.length := by rw [hV.1, List.length_append, List.length_map, List.length_take, List.length_drop]; omega
  refine ⟨c.ps, h4.cell 0 rfl rfl, br_intro (fun w => ?_) (fun w => ?_)⟩
  · have w := of_decide_eq_true w
    have hi : n.toNat < I.prt.length := by omega
    obtain ⟨q3, o3, v, f1, f2, f3⟩ := (hRp (vs := vs) (h4.pull 3 rfl) (by omega)).at_ ePlen (by decide) n0 w
    obtain ⟨p, hp⟩ : ∃ p, I.prt[n.toNat]? = some p := ⟨_, List.getElem?_eq_getElem hi⟩
    have hvp := hV.2.1 _ _ _ f2 (each_at hp)
    have hn1 : (n + 1).toNat = n.toNat + 1 := by omega
    rw [wrap64_id (n := n + 1) (by omega) (by omega)]
    have hst := each_step (g := eachG fun p => backP p a) hp
    refine ⟨c.ps, h4.cell 0 rfl rfl, q3, o3, f1, n0, w, v.id, f3 0 _ rfl, v.leader, f3 1 _ rfl, v.epoch, f3 2 _ rfl, v.version, f3 3 _ rfl, v.isr, f3 4 _ rfl, v.replicas, f3 5 _ rfl, v.adding, f3 6 _ rfl, v.removing, f3 7 _ rfl, v.min, f3 8 _ rfl, ?_⟩
    have h9 : HL.Holds (ro A :: (rimgC m { I with brk := insL ltI I.brk a (x.1, true) } { c with vs := vs, A := A } ++ cs)) H2 := h4.pull 5 rfl
    refine in_storeS (Q := fun r B' => ∃ w : PV, r = .tuple #[w.val, .int .i64 (backP p a).2] ∧ PIn B' w (backP p a).1) h9 (fun B K2 s k2 => rback_spec (hvp.sub s) (hok.right p (List.mem_of_getElem? hp)) fun w H' s' hw => k2 _ H' s' ⟨w, rfl, hw⟩) fun r A' H4 sA' q s4 h7 => ?_
    obtain ⟨w', rfl, hw⟩ := q
    refine ⟨w'.id, w'.leader, w'.epoch, w'.version, w'.isr, w'.replicas, w'.adding, w'.removing, w'.min, _, rfl, br_intro (fun z => ?_) (fun z => ?_)⟩
    · have z : (backP p a).2 = 0 := by simpa using z
      have hg : eachG (fun p => backP p a) p = (backP p a).1 := if_pos z
      refine ⟨c.ps, h7.cell 1 rfl rfl, q3, o3, f1, n0, w, ?_⟩
      refine put_part (h7.pull 4 rfl) f1 f2 w' fun H5 h8 => ⟨rfl, ⟨by omega, by omega, vs.set n.toNat w', A', sA.trans sA', ?_, (h8.down 4).down 5⟩, by dsimp only; omega⟩
      rw [hn1, ← hst, hg]
      exact (hV.sub sA').set hw
    · have z : ¬ (backP p a).2 = 0 := by simpa using z
      have hg : eachG (fun p => backP p a) p = p := if_neg z
      refine ⟨rfl, ⟨by omega, by omega, vs, A', sA.trans sA', ?_, h7.down 5⟩, by dsimp only; omega⟩
      rw [hg, set_same (each_at hp)] at hst
      rw [hn1, ← hst]; exact hV.sub sA'
  · have w := of_decide_eq_false w
    rw [List.take_of_length_le (by omega), List.drop_of_length_le (by omega), List.append_nil] at hV
    exact k H2 (rimg_open.2 ⟨{ c with vs := vs, A := A }, hV, h4⟩)
end
end Go.Proofs.YtmofinghoacobaaGreatDoor
namespace Go.Proofs.YtmofinghoacobaaGreatDoor
open Go Go.HL
set_option maxHeartbeats 3200000
set_option maxRecDepth 100000
theorem cut_at (c : UInt8) : tCut.contains c = (decide (97 ≤ c.toNat ∧ c.toNat ≤ 122) || (decide (48 ≤ c.toNat ∧ c.toNat ≤ 57) || decide (c.toNat = 45))) := by
  have h : ∀ n : Fin 256, tCut.contains (UInt8.ofNat n) = (decide (97 ≤ n.val ∧ n.val ≤ 122) || (decide (48 ≤ n.val ∧ n.val ≤ 57) || decide (n.val = 45))) := by decide
  have := h ⟨c.toNat, UInt8.toNat_lt c⟩
  rw [UInt8.ofNat_toNat] at this
  exact this
section
variable {cs : List Chunk} {H Lo : Heap} {K : Value → Heap → Prop}
theorem rname_spec {s : ByteArray} (k : K (.bool (tNamed s)) H) : FnH Tryz.prog 92 #[.string s] H K := by
  apply logboomref12_name_fn
  unfold logboomref12_name_vc
  have hsz : s.size = s.data.toList.length := (Array.length_toList).symm
  refine br_intro (fun w => ?_) (fun w => br_intro (fun w2 => ?_) (fun w2 => ?_))
  · have w := of_decide_eq_true w
    have e : tNamed s = false := by
      unfold tNamed
      rw [decide_eq_false (show ¬ s.size ≠ 0 by omega)]; rfl
    rw [e] at k; exact k
  · have w2 := of_decide_eq_true w2
    have e : tNamed s = false := by
      unfold tNamed
      rw [decide_eq_false (show ¬ s.size ≤ 32 by omega), Bool.and_false]; rfl
    rw [e] at k; exact k
  have w := of_decide_eq_false w
  have w2 := of_decide_eq_false w2
  have hall : tNamed s = s.data.toList.all fun b => tCut.contains b := by
    unfold tNamed
    rw [decide_eq_true (show s.size ≠ 0 by omega), decide_eq_true (show s.size ≤ 32 by omega)]; rfl
  rw [hall] at k
  refine ⟨fun n H1 => H1 = H ∧ 0 ≤ n ∧ n ≤ s.size ∧ ∀ b ∈ s.data.toList.take n.toNat, tCut.contains b = true, fun n _ => (s.size - n).toNat, ⟨rfl, Int.le_refl _, by omega, by simp⟩, ?_⟩
  rintro n H1 ⟨rfl, n0, n1, hb⟩
  refine br_intro (fun z => ?_) (fun z => ?_)
  · have z := of_decide_eq_true z
    obtain ⟨c, hc, -, -⟩ := nb_get (s := s) (i := n.toNat) (by omega)
    have hc2 : s.data.toList[n.toNat]? = some c := by rw [Array.getElem?_toList]; exact hc
    rw [wrap64_id (n := n + 1) (by omega) (by omega)]
    have bad : tCut.contains c = false → K (.bool false) H1 := fun e => by
      have e2 : (s.data.toList.all fun b => tCut.contains b) = false := by
        rw [Bool.eq_false_iff]
        intro q
        have := List.all_eq_true.1 q c (List.mem_of_getElem? hc2)
        rw [e] at this; cases this
      rw [e2] at k; exact k
    have next : tCut.contains c = true → 0 ≤ n + 1 ∧ n + 1 ≤ s.size ∧ ∀ b ∈ s.data.toList.take (n + 1).toNat, tCut.contains b = true := fun e => by
      refine ⟨by omega, by omega, fun b hm => ?_⟩
      rw [take_step n0 hc2] at hm
      rcases List.mem_append.1 hm with q | q
      · exact hb b q
      · rw [List.mem_singleton.1 q]; exact e
    rw [cut_at] at bad next
    have no : ¬ (97 ≤ c.toNat ∧ c.toNat ≤ 122) → ¬ (48 ≤ c.toNat ∧ c.toNat ≤ 57) → ¬ c.toNat = 45 → K (.bool false) H1 := fun q1 q2 q3 => bad (by rw [decide_eq_false q1, decide_eq_false q2, decide_eq_false q3]; rfl)
    have yes : ((97 ≤ c.toNat ∧ c.toNat ≤ 122) ∨ (48 ≤ c.toNat ∧ c.toNat ≤ 57) ∨ c.toNat = 45) → H1 = H1 ∧ 0 ≤ n + 1 ∧ n + 1 ≤ s.size ∧ ∀ b ∈ s.data.toList.take (n + 1).toNat, tCut.contains b = true := fun q => ⟨rfl, next (by
      rcases q with q | q | q
      · rw [decide_eq_true q, Bool.true_or]
      · rw [decide_eq_true q, Bool.true_or, Bool.or_true]
      · rw [decide_eq_true q, Bool.or_true, Bool.or_true])⟩
    have lt : (s.size - (n + 1)).toNat < (s.size - n).toNat := by omega
    refine ⟨n0, c, hc, br_intro (fun a1 => ⟨n0, c, hc, br_intro (fun a2 => ⟨n0, c, hc, br_intro (fun a3 => ?_) (fun a3 => ?_)⟩) (fun a2 => ⟨n0, c, hc, br_intro (fun a3 => ⟨n0, c, hc, br_intro (fun a4 => ?_) (fun a4 => ?_)⟩) (fun a3 => ?_)⟩)⟩)
      (fun a1 => ⟨n0, c, hc, br_intro (fun a2 => ⟨n0, c, hc, br_intro (fun a3 => ⟨n0, c, hc, br_intro (fun a4 => ?_) (fun a4 => ?_)⟩) (fun a3 => ⟨n0, c, hc, br_intro (fun a4 => ⟨n0, c, hc, br_intro (fun a5 => ?_) (fun a5 => ?_)⟩) (fun a4 => ?_)⟩)⟩) (fun a2 => ?_)⟩)⟩
    all_goals simp at *
    · exact no (by omega) (by omega) (by omega)
    · exact ⟨rfl, yes (by omega), lt⟩
    · exact no (by omega) (by omega) (by omega)
    · exact ⟨rfl, yes (by omega), lt⟩
    · exact ⟨rfl, yes (by omega), lt⟩
    · exact no (by omega) (by omega) (by omega)
    · exact ⟨rfl, yes (by omega), lt⟩
    · exact no (by omega) (by omega) (by omega)
    · exact ⟨rfl, yes (by omega), lt⟩
    · exact ⟨rfl, yes (by omega), lt⟩
    · exact ⟨rfl, yes (by omega), lt⟩
  · have z := of_decide_eq_false z
    rw [List.take_of_length_le (by omega)] at hb
    rw [List.all_eq_true.2 hb] at k
    exact k
theorem rpid_spec {m : Nat} {I : Im} {a : Int} (h : HL.Holds (rimg Lo m I :: cs) H) (hok : ImOk I) (k : ∀ H', HL.Holds (rimg Lo m (pidI I a).1 :: cs) H' → K (.tuple #[.int .i64 (pidI I a).2.1, .int .i64 (pidI I a).2.2]) H') :
    FnH Tryz.prog 56 #[.pointer (some ⟨m, 0, none⟩), .int .i64 a] H K := by
  apply logboomref12_Image_pid_fn
  unfold logboomref12_Image_pid_vc
  obtain ⟨p, hP, h1⟩ := rimg_open.1 h
  have hpl := hok.prds
  have hI : Ints H p.rs I.prd := own_ints (h1.own 4 rfl) (by omega)
  have hn := hI.len
  unfold pidI at k
  refine br_intro (fun w => ?_) (fun w => ⟨p.rs, h1.cell 0 rfl rfl, br_intro (fun w2 => ?_) (fun w2 => ?_)⟩)
  · rw [if_pos (of_decide_eq_true w)] at k
    exact k H h
  · rw [if_neg (of_decide_eq_false w), if_pos (by have := of_decide_eq_true w2; omega)] at k
    exact k H h
  have w := of_decide_eq_false w
  have w2 := of_decide_eq_false w2
  rw [if_neg w, if_neg (by omega)] at k
  refine ⟨fun t H' => H' = H ∧ (t = true ↔ a = 0 ∧ I.prd.length ≥ 1000), br_intro (fun x => ⟨p.rs, h1.cell 0 rfl rfl, rfl, rfl, ?_⟩) (fun x => ⟨rfl, rfl, ?_⟩), ?_⟩
  · have x : a = 0 := by simpa using x
    rw [decide_eq_true_iff]
    omega
  · have x : ¬ a = 0 := by simpa using x
    exact ⟨fun z => absurd z (by decide), fun z => absurd z.1 x⟩
  rintro t H1 ⟨rfl, ht⟩
  refine br_intro (fun y => ?_) (fun y => ?_)
  · obtain ⟨y1, y2⟩ := ht.1 y
    rw [if_pos y1, if_pos y2] at k
    exact k H1 h
  refine br_intro (fun x => ?_) (fun x => ?_)
  · have x : a = 0 := by simpa using x
    have y2 : ¬ I.prd.length ≥ 1000 := fun z => by rw [ht.2 ⟨x, z⟩] at y; cases y
    rw [if_pos x, if_neg y2] at k
    refine ⟨p.rs, h1.cell 0 rfl rfl, ?_⟩
    have h2 : HL.Holds (own 3 1 p.rs (iv I.prd) :: blk m (.cells #[.int .i64 I.app, .slice p.bs.p p.bs.n p.bs.c, .slice p.ts.p p.ts.n p.ts.c, .slice p.ps.p p.ps.n p.ps.c, .slice p.rs.p p.rs.n p.rs.c] 56 (0, 0)) :: own 97 3 p.bs (I.brk.flatMap eB) :: own 99 3 p.ts (I.top.flatMap eT) :: own 41 9 p.ps (p.vs.flatMap eP) :: ro p.A :: cs) H1 := h1.pull 4 rfl
    refine Holds.push okInt h2 (xs := [.int .i64 0]) (m := 1) rfl rfl (by omega) fun r H3 h3 n3 => ⟨r, rfl, ?_⟩
    refine h3.store 1 rfl (by simp) fun H4 h4 => ?_
    have hrn : r.n = I.prd.length + 1 := by have : r.n = p.rs.n + 1 := n3; omega
    refine ⟨r, h4.cell 1 rfl rfl, ?_⟩
    have e : ((r.n : Nat) : Int) = (I.prd.length : Int) + 1 := by omega
    rw [e]
    refine k H4 (rimg_open.2 ⟨{ p with rs := r }, hP, ?_⟩)
    have h4 : HL.Holds (own 3 1 r (iv I.prd ++ [.int .i64 0]) :: blk m (.cells #[.int .i64 I.app, .slice p.bs.p p.bs.n p.bs.c, .slice p.ts.p p.ts.n p.ts.c, .slice p.ps.p p.ps.n p.ps.c, .slice r.p r.n r.c] 56 (0, 0)) :: own 97 3 p.bs (I.brk.flatMap eB) :: own 99 3 p.ts (I.top.flatMap eT) :: own 41 9 p.ps (p.vs.flatMap eP) :: ro p.A :: cs) H4 := h4
    have e2 : iv I.prd ++ [.int .i64 0] = iv (I.prd ++ [0]) := by simp [iv]
    rw [e2] at h4
    exact h4.down 4
  · have x : ¬ a = 0 := by simpa using x
    rw [if_neg x] at k
    rw [wrap64_id (n := a - 1) (by omega) (by omega)]
    obtain ⟨q, o, g1, g2, g3, g4⟩ := hI.at_ (j := a - 1) (by omega) (by omega)
    have hmem : I.prd.getD (a - 1).toNat 0 ∈ I.prd := getD_mem (by omega) (by omega)
    have hpr := hok.prd _ hmem
    refine ⟨p.rs, h1.cell 0 rfl rfl, q, o, g1, g2, g3, _, g4, br_intro (fun z => ?_) (fun z => ?_)⟩
    · rw [if_pos (of_decide_eq_true z)] at k
      exact k H1 h
    have z := of_decide_eq_false z
    rw [if_neg z] at k
    refine ⟨p.rs, h1.cell 0 rfl rfl, q, o, g1, g2, g3, _, g4, q, o, g1, g2, g3, ?_⟩
    rw [wrap64_id (n := I.prd.getD (a - 1).toNat 0 + 1) (by omega) (by omega)]
    have h2 : HL.Holds (own 3 1 p.rs (iv I.prd) :: blk m (.cells #[.int .i64 I.app, .slice p.bs.p p.bs.n p.bs.c, .slice p.ts.p p.ts.n p.ts.c, .slice p.ps.p p.ps.n p.ps.c, .slice p.rs.p p.rs.n p.rs.c] 56 (0, 0)) :: own 97 3 p.bs (I.brk.flatMap eB) :: own 99 3 p.ts (I.top.flatMap eT) :: own 41 9 p.ps (p.vs.flatMap eP) :: ro p.A :: cs) H1 := h1.pull 4 rfl
    refine Holds.setCell h2 g1 (j := (a - 1).toNat) (by rw [List.length_map]; omega) fun H5 h5 => ?_
    rw [iv_set] at h5
    have hI5 : Ints H5 p.rs (I.prd.set (a - 1).toNat (I.prd.getD (a - 1).toNat 0 + 1)) := own_ints (h5.own 0 rfl) (by rw [List.length_set]; omega)
    obtain ⟨q2, o2, f1, f2, f3, f4⟩ := hI5.at_ (j := a - 1) (by omega) (by omega)
    have hgd : (I.prd.set (a - 1).toNat (I.prd.getD (a - 1).toNat 0 + 1)).getD (a - 1).toNat 0 = I.prd.getD (a - 1).toNat 0 + 1 := by
      rw [List.getD, List.getElem?_set_self (by omega)]; rfl
    rw [hgd] at f4
    exact ⟨p.rs, h5.cell 1 rfl rfl, q2, o2, f1, f2, f3, _, f4, k H5 (rimg_open.2 ⟨p, hP, h5.down 4⟩)⟩
theorem rpart_tail {m : Nat} {I : Im} {c : Rc} {i : Int} {a : Part × Int} {w : PV} {A' : Heap} (h : HL.Holds (ro A' :: (rimgC m I c ++ cs)) H) (hP : PsIn Lo c.A c.vs I.prt) (sA : HL.Sub c.A A') (hi : 1 ≤ i ∧ i ≤ I.prt.length) (hl : I.prt.length ≤ 16) (hw : PIn A' w a.1)
    (k : ∀ H', HL.Holds (rimg Lo m (if a.2 = 0 then { I with prt := I.prt.set (i - 1).toNat a.1 } else I) :: cs) H' → K (.tuple #[.int .i64 (if a.2 = 0 then a.1.version else 0), .int .i64 a.2]) H') :
    br (a.2 != 0) (K (.tuple #[.int .i64 0, .int .i64 a.2]) H) (∃ l12 : Sl, cellH H ⟨m, 0 + 3, none⟩ = some (.slice l12.p l12.n l12.c) ∧ ∃ q2 : Nat, ∃ o2 : Nat, (l12.p : Option Addr) = some ⟨q2, o2, none⟩ ∧ 0 ≤ ((i - 1 : Int)) ∧ ((i - 1 : Int)) < (l12.n : Nat) ∧
      (∃ x, cellH H ⟨q2, o2 + Int.toNat (i - 1) * 9, none⟩ = some x) ∧ frozenH H ⟨q2, o2 + Int.toNat (i - 1) * 9, none⟩ = false ∧ letH (Heap.set H ⟨q2, o2 + Int.toNat (i - 1) * 9, none⟩ (.int .i64 w.id)) fun H1 =>
      (∃ x, cellH H1 ⟨q2, o2 + Int.toNat (i - 1) * 9 + 1, none⟩ = some x) ∧ frozenH H1 ⟨q2, o2 + Int.toNat (i - 1) * 9 + 1, none⟩ = false ∧ letH (Heap.set H1 ⟨q2, o2 + Int.toNat (i - 1) * 9 + 1, none⟩ (.int .i64 w.leader)) fun H2 =>
      (∃ x, cellH H2 ⟨q2, o2 + Int.toNat (i - 1) * 9 + 2, none⟩ = some x) ∧ frozenH H2 ⟨q2, o2 + Int.toNat (i - 1) * 9 + 2, none⟩ = false ∧ letH (Heap.set H2 ⟨q2, o2 + Int.toNat (i - 1) * 9 + 2, none⟩ (.int .i64 w.epoch)) fun H3 =>
      (∃ x, cellH H3 ⟨q2, o2 + Int.toNat (i - 1) * 9 + 3, none⟩ = some x) ∧ frozenH H3 ⟨q2, o2 + Int.toNat (i - 1) * 9 + 3, none⟩ = false ∧ letH (Heap.set H3 ⟨q2, o2 + Int.toNat (i - 1) * 9 + 3, none⟩ (.int .i64 w.version)) fun H4 =>
      (∃ x, cellH H4 ⟨q2, o2 + Int.toNat (i - 1) * 9 + 4, none⟩ = some x) ∧ frozenH H4 ⟨q2, o2 + Int.toNat (i - 1) * 9 + 4, none⟩ = false ∧ letH (Heap.set H4 ⟨q2, o2 + Int.toNat (i - 1) * 9 + 4, none⟩ (.slice w.isr.p w.isr.n w.isr.c)) fun H5 =>
      (∃ x, cellH H5 ⟨q2, o2 + Int.toNat (i - 1) * 9 + 5, none⟩ = some x) ∧ frozenH H5 ⟨q2, o2 + Int.toNat (i - 1) * 9 + 5, none⟩ = false ∧ letH (Heap.set H5 ⟨q2, o2 + Int.toNat (i - 1) * 9 + 5, none⟩ (.slice w.replicas.p w.replicas.n w.replicas.c)) fun H6 =>
      (∃ x, cellH H6 ⟨q2, o2 + Int.toNat (i - 1) * 9 + 6, none⟩ = some x) ∧ frozenH H6 ⟨q2, o2 + Int.toNat (i - 1) * 9 + 6, none⟩ = false ∧ letH (Heap.set H6 ⟨q2, o2 + Int.toNat (i - 1) * 9 + 6, none⟩ (.slice w.adding.p w.adding.n w.adding.c)) fun H7 =>
      (∃ x, cellH H7 ⟨q2, o2 + Int.toNat (i - 1) * 9 + 7, none⟩ = some x) ∧ frozenH H7 ⟨q2, o2 + Int.toNat (i - 1) * 9 + 7, none⟩ = false ∧ letH (Heap.set H7 ⟨q2, o2 + Int.toNat (i - 1) * 9 + 7, none⟩ (.slice w.removing.p w.removing.n w.removing.c)) fun H8 =>
      (∃ x, cellH H8 ⟨q2, o2 + Int.toNat (i - 1) * 9 + 8, none⟩ = some x) ∧ frozenH H8 ⟨q2, o2 + Int.toNat (i - 1) * 9 + 8, none⟩ = false ∧ letH (Heap.set H8 ⟨q2, o2 + Int.toNat (i - 1) * 9 + 8, none⟩ (.int .i64 w.min)) fun H9 =>
      K (.tuple #[.int .i64 w.version, .int .i64 0]) H9) := by
  have hvl : c.vs.length = I.prt.length := hP.1
  have hback : ∀ {J : Im} {d : Rc} {H2 : Heap}, d.A = A' → HL.Holds (ro A' :: (rimgC m J d ++ cs)) H2 → HL.Holds (rimgL m J d ++ cs) H2 := fun {J d H2} e h2 => by
    subst e
    exact h2.down 5
  refine br_intro (fun z => ?_) (fun z => ?_)
  · have z : ¬ a.2 = 0 := by simpa using z
    rw [if_neg z, if_neg z] at k
    exact k H (rimg_open.2 ⟨{ c with A := A' }, hP.sub sA, hback rfl h⟩)
  · have z : a.2 = 0 := by simpa using z
    rw [if_pos z, if_pos z, z] at k
    have hR : Recs eP H c.ps c.vs := Own.recs ePlen (by decide) (h.own 4 rfl) (by omega)
    have hn := hR.len
    obtain ⟨q, o, v, e1, e2, e3⟩ := hR.at_ ePlen (by decide) (j := i - 1) (by omega) (by omega)
    refine ⟨c.ps, h.cell 1 rfl rfl, q, o, e1, by omega, by omega, ?_⟩
    refine put_part (h.pull 4 rfl) e1 e2 w fun H3 h3 => ?_
    rw [hw.version]
    exact k H3 (rimg_open.2 ⟨{ c with vs := c.vs.set (i - 1).toNat w, A := A' }, (hP.sub sA).set hw, hback (d := { c with vs := c.vs.set (i - 1).toNat w, A := A' }) rfl (h3.down 4)⟩)
theorem rpartk_spec {m : Nat} {I : Im} {r : Mt} {s : Sl} (h : HL.Holds (rimg Lo m I :: cs) H) (hok : ImOk I) (hl : Ints Lo s r.list) (hil : r.list.length ≤ 1000000) (hk : r.kind = 5 ∨ r.kind = 6 ∨ r.kind = 7 ∨ r.kind = 9 ∨ r.kind = 10) (k : ∀ H', HL.Holds (rimg Lo m (partI I r).1 :: cs) H' → K (.tuple #[.int .i64 (partI I r).2.1, .int .i64 (partI I r).2.2]) H') :
    FnH Tryz.prog 55 #[.pointer (some ⟨m, 0, none⟩), .agg #[.int .i64 r.kind, .int .i64 r.a, .int .i64 r.b, .int .i64 r.c, .int .i64 r.d, .string r.name, .string r.text, .slice s.p s.n s.c]] H K := by
  apply logboomref12_Image_part_fn
  unfold logboomref12_Image_part_vc
  obtain ⟨c, hP, h1⟩ := rimg_open.1 h
  have hvl : c.vs.length = I.prt.length := hP.1
  have hpl := hok.parts
  have hR : Recs eP H c.ps c.vs := Own.recs ePlen (by decide) (h1.own 3 rfl) (by omega)
  have hn := hR.len
  have no : (r.a < 1 ∨ r.a > I.prt.length) → K (.tuple #[.int .i64 0, .int .i64 8]) H := fun e => by
    have e2 : partI I r = (I, 0, 8) := by
      unfold partI
      split
      · rfl
      · rename_i p hp
        split at hp
        · cases hp
        · have := (List.getElem?_eq_some_iff.1 hp).1
          omega
    rw [e2] at k
    exact k H h
  refine br_intro (fun w => no (.inl (of_decide_eq_true w))) (fun w => ⟨c.ps, h1.cell 0 rfl rfl, br_intro (fun w2 => no (.inr (by have := of_decide_eq_true w2; omega))) (fun w2 => ?_)⟩)
  clear no
  have hi : 1 ≤ r.a ∧ r.a ≤ I.prt.length := by
    have w := of_decide_eq_false w
    have w2 := of_decide_eq_false w2
    omega
  rw [wrap64_id (n := r.a - 1) (by omega) (by omega)]
  obtain ⟨q, o, v, e1, e2, e3⟩ := hR.at_ ePlen (by decide) (j := r.a - 1) (by omega) (by omega)
  obtain ⟨p, hpt⟩ : ∃ p, I.prt[(r.a - 1).toNat]? = some p := ⟨_, List.getElem?_eq_getElem (by omega)⟩
  have hv : PIn c.A v p := hP.2.1 _ _ _ e2 hpt
  have hr := hok.right p (List.mem_of_getElem? hpt)
  have hbl := brk_len hok
  have epart : partI I r = if (doP p r (upL I.brk)).2 = 0 then ({ I with prt := I.prt.set (r.a - 1).toNat (doP p r (upL I.brk)).1 }, (doP p r (upL I.brk)).1.version, 0) else (I, 0, (doP p r (upL I.brk)).2) := by
    unfold partI
    rw [if_neg (by omega), hpt]
  have kk : ∀ (a : Part × Int), doP p r (upL I.brk) = a → ∀ H', HL.Holds (rimg Lo m (if a.2 = 0 then { I with prt := I.prt.set (r.a - 1).toNat a.1 } else I) :: cs) H' → K (.tuple #[.int .i64 (if a.2 = 0 then a.1.version else 0), .int .i64 a.2]) H' := fun a ea H' h' => by
    subst ea
    rw [epart] at k
    split at h'
    · rename_i z
      rw [if_pos z]
      rw [if_pos z] at k
      rw [z]
      exact k H' h'
    · rename_i z
      rw [if_neg z]
      rw [if_neg z] at k
      exact k H' h'
  clear epart k
  have hpos : 0 < p.replicas.length := by have := hr.fewer; omega
  have hrd : ∀ {H' : Heap}, PIn H' v p → ∃ q6 o6, v.replicas.p = some ⟨q6, o6, none⟩ ∧ 0 ≤ (0 : Int) ∧ (0 : Int) < (v.replicas.n : Nat) ∧ cellH H' ⟨q6, o6 + Int.toNat 0, none⟩ = some (.int .i64 (p.replicas.headD 0)) := fun {H'} hv' => by
    have hrl := hv'.replicas.len
    obtain ⟨q6, o6, g1, g2, g3, g4⟩ := hv'.replicas.at_ (j := 0) (by decide) (by omega)
    refine ⟨q6, o6, g1, g2, g3, ?_⟩
    rw [g4]
    cases p.replicas <;> rfl
  refine ⟨c.ps, h1.cell 0 rfl rfl, q, o, e1, by omega, by omega, v.id, e3 0 _ rfl, v.leader, e3 1 _ rfl, v.epoch, e3 2 _ rfl, v.version, e3 3 _ rfl, v.isr, e3 4 _ rfl, v.replicas, e3 5 _ rfl, v.adding, e3 6 _ rfl, v.removing, e3 7 _ rfl, v.min, e3 8 _ rfl, HL.Sub.refl _, ?_⟩
  · refine rup_spec (i := 0) h rfl hbl fun u H2 s2 h2 => ⟨u, rfl, ?_⟩
    have h5 := ro_open h1 h2
    have h6 : HL.Holds (own 3 1 u (iv (upL I.brk)) :: ro c.A :: (rimgC m I c ++ cs)) H2 := (h5.pull 6 rfl).swap
    obtain ⟨A1, sU, hU, h9⟩ := into_store h6 Own.mono
    have hul := upL_len hok
    have hup : Ints A1 u (upL I.brk) := own_ints hU (by omega)
    have hl1 : Ints A1 s r.list := (hl.sub hP.2.2).sub sU
    have hv1 := hv.sub sU
    refine br_intro (fun k5 => ?_) (fun k5 => br_intro (fun k6 => ?_) (fun k6 => br_intro (fun k7 => ?_) (fun k7 => br_intro (fun k10 => ?_) (fun k10 => ?_))))
    · refine in_storeS (Q := fun x B' => ∃ w : PV, x = .tuple #[w.val, .int .i64 (alterP p r.b r.c r.d r.list (upL I.brk)).2] ∧ PIn B' w (alterP p r.b r.c r.d r.list (upL I.brk)).1) h9 (fun B K' s kk => ralter_spec (hv1.sub s) hr (hl1.sub s) hil (hup.sub s) fun w H' s' hw => kk _ H' s' ⟨w, rfl, hw⟩) fun x A' H3 sA qx s3 h3 => ?_
      obtain ⟨w, rfl, hw⟩ := qx
      exact ⟨w.id, w.leader, w.epoch, w.version, w.isr, w.replicas, w.adding, w.removing, w.min, _, rfl, rpart_tail (w := w) h3 hP (sU.trans sA) hi hok.parts hw (kk _ (by unfold doP; rw [if_pos (by simpa using k5)]))⟩
    · refine in_storeS (Q := fun x B' => ∃ w : PV, x = .tuple #[w.val, .int .i64 (beginP p r.list (upL I.brk)).2] ∧ PIn B' w (beginP p r.list (upL I.brk)).1) h9 (fun B K' s kk => rbegin_spec (hv1.sub s) hr (hl1.sub s) hil (hup.sub s) fun w H' s' hw => kk _ H' s' ⟨w, rfl, hw⟩) fun x A' H3 sA qx s3 h3 => ?_
      obtain ⟨w, rfl, hw⟩ := qx
      exact ⟨w.id, w.leader, w.epoch, w.version, w.isr, w.replicas, w.adding, w.removing, w.min, _, rfl, rpart_tail (w := w) h3 hP (sU.trans sA) hi hok.parts hw (kk _ (by unfold doP; rw [if_neg (by simpa using k5), if_pos (by simpa using k6)]))⟩
    · refine in_storeS (Q := fun x B' => ∃ w : PV, x = .tuple #[w.val, .int .i64 (cancelP p (upL I.brk)).2] ∧ PIn B' w (cancelP p (upL I.brk)).1) h9 (fun B K' s kk => rcancel_spec (hv1.sub s) hr (hup.sub s) fun w H' s' hw => kk _ H' s' ⟨w, rfl, hw⟩) fun x A' H3 sA qx s3 h3 => ?_
      obtain ⟨w, rfl, hw⟩ := qx
      exact ⟨w.id, w.leader, w.epoch, w.version, w.isr, w.replicas, w.adding, w.removing, w.min, _, rfl, rpart_tail (w := w) h3 hP (sU.trans sA) hi hok.parts hw (kk _ (by unfold doP; rw [if_neg (by simpa using k5), if_neg (by simpa using k6), if_pos (by simpa using k7)]))⟩
    · refine in_storeS (Q := fun x B' => ∃ w : PV, x = .tuple #[w.val, .int .i64 (finishP p (upL I.brk)).2] ∧ PIn B' w (finishP p (upL I.brk)).1) h9 (fun B K' s kk => rfinish_spec (hv1.sub s) hr (hup.sub s) fun w H' s' hw => kk _ H' s' ⟨w, rfl, hw⟩) fun x A' H3 sA qx s3 h3 => ?_
      obtain ⟨w, rfl, hw⟩ := qx
      exact ⟨w.id, w.leader, w.epoch, w.version, w.isr, w.replicas, w.adding, w.removing, w.min, _, rfl, rpart_tail (w := w) h3 hP (sU.trans sA) hi hok.parts hw (kk _ (by unfold doP; rw [if_neg (by simpa using k5), if_neg (by simpa using k6), if_neg (by simpa using k7), if_pos (by simpa using k10)]))⟩
    · obtain ⟨q6, o6, f1, f2, f3, f4⟩ := hrd (hv1.sub (h9.sub 0 rfl))
      refine ⟨q6, o6, f1, f2, f3, _, f4, rhas_spec (hup.sub (h9.sub 0 rfl)) ⟨_, rfl, ?_⟩⟩
      have edo : doP p r (upL I.brk) = preferP p (upL I.brk) := by unfold doP; rw [if_neg (by simpa using k5), if_neg (by simpa using k6), if_neg (by simpa using k7), if_neg (by simpa using k10)]
      refine br_intro (fun z => ?_) (fun z => ?_)
      · have z : ¬ p.replicas.headD 0 ∈ upL I.brk := by simpa using z
        have := kk (zeroPart, 19) (by rw [edo]; unfold preferP; rw [if_neg z]) H2
        exact this (rimg_open.2 ⟨{ c with A := A1 }, hP.sub sU, h9.down 5⟩)
      · have z : p.replicas.headD 0 ∈ upL I.brk := by simpa using z
        refine ⟨q6, o6, f1, f2, f3, _, f4, ?_⟩
        refine in_storeS (Q := fun x B' => ∃ w : PV, x = .tuple #[w.val, .int .i64 (electP p (p.replicas.headD 0)).2] ∧ PIn B' w (electP p (p.replicas.headD 0)).1) h9 (fun B K' s kk => relect_spec (hv1.sub s) hr fun w H' s' hw => kk _ H' s' ⟨w, rfl, hw⟩) fun x A' H3 sA qx s3 h3 => ?_
        obtain ⟨w, rfl, hw⟩ := qx
        exact ⟨w.id, w.leader, w.epoch, w.version, w.isr, w.replicas, w.adding, w.removing, w.min, _, rfl, s3, rpart_tail (w := w) h3 hP (sU.trans sA) hi hok.parts hw (kk _ (by rw [edo]; unfold preferP; rw [if_pos z]))⟩
end
end Go.Proofs.YtmofinghoacobaaGreatDoor
namespace Go.Proofs.YtmofinghoacobaaGreatDoor
open Go Go.HL
set_option maxHeartbeats 3200000
set_option maxRecDepth 100000
theorem okTopR : ElemOK Tryz.prog 54 99 3 := ElemOK.of (by kernel_rfl)
theorem bytes_same (a b : ByteArray) : (a.toList == b.toList) = decide (a = b) := by
  rw [Bool.eq_iff_iff, decide_eq_true_iff, beq_iff_eq, ByteArray.toList_eq, ByteArray.toList_eq]
  constructor
  · intro h
    cases a; cases b
    simpa using h
  · intro h; rw [h]
section
variable {cs : List Chunk} {H Lo : Heap} {K : Value → Heap → Prop}
theorem lit0 {e sz q : Nat} (h : HL.Holds (blk q (.cells #[] e (0, 0)) :: cs) H) : HL.Holds (own e sz ⟨some ⟨q, 0, none⟩, 0, 0⟩ [] :: cs) H := h.head fun A hA => ⟨by simp, Nat.le_refl _, .inr ⟨q, #[], rfl, hA, by simp, fun i hi => by simp at hi⟩⟩
theorem rtopic_spec {m : Nat} {I : Im} {r : Mt} {s : Sl} (h : HL.Holds (rimg Lo m I :: cs) H) (hok : ImOk I) (k : ∀ H', HL.Holds (rimg Lo m (topicI I r.name r.a r.b r.c).1 :: cs) H' → K (.tuple #[.int .i64 (topicI I r.name r.a r.b r.c).2.1, .int .i64 (topicI I r.name r.a r.b r.c).2.2]) H') :
    FnH Tryz.prog 54 #[.pointer (some ⟨m, 0, none⟩), .agg #[.int .i64 r.kind, .int .i64 r.a, .int .i64 r.b, .int .i64 r.c, .int .i64 r.d, .string r.name, .string r.text, .slice s.p s.n s.c]] H K := by
  apply logboomref12_Image_topic_fn
  unfold logboomref12_Image_topic_vc
  obtain ⟨c, hP, h1⟩ := rimg_open.1 h
  have hpl := hok.parts
  unfold topicI at k
  have bad : (tNamed r.name = false ∨ r.a < 1 ∨ r.a > 16 ∨ r.b < 1 ∨ r.b > 5 ∨ r.c < 1 ∨ r.c > r.b) → K (.tuple #[.int .i64 0, .int .i64 1]) H := fun q => by
    rw [if_pos q] at k
    exact k H h
  refine rname_spec ⟨_, rfl, ?_⟩
  refine br_intro (fun w => bad (.inl (by simpa using w))) (fun w0 => br_intro (fun w => bad (.inr (.inl (of_decide_eq_true w)))) (fun w1 => br_intro (fun w => bad (.inr (.inr (.inl (of_decide_eq_true w))))) (fun w2 =>
    br_intro (fun w => bad (.inr (.inr (.inr (.inl (of_decide_eq_true w)))))) (fun w3 => br_intro (fun w => bad (.inr (.inr (.inr (.inr (.inl (of_decide_eq_true w))))))) (fun w4 => br_intro (fun w => bad (.inr (.inr (.inr (.inr (.inr (.inl (of_decide_eq_true w)))))))) (fun w5 =>
    br_intro (fun w => bad (.inr (.inr (.inr (.inr (.inr (.inr (of_decide_eq_true w)))))))) (fun w6 => ?_)))))))
  have w0 : tNamed r.name = true := by simpa using w0
  have w1 := of_decide_eq_false w1
  have w2 := of_decide_eq_false w2
  have w3 := of_decide_eq_false w3
  have w4 := of_decide_eq_false w4
  have w5 := of_decide_eq_false w5
  have w6 := of_decide_eq_false w6
  clear bad
  have hg : ¬ (tNamed r.name = false ∨ r.a < 1 ∨ r.a > 16 ∨ r.b < 1 ∨ r.b > 5 ∨ r.c < 1 ∨ r.c > r.b) := fun q => by
    rcases q with q | q
    · rw [w0] at q; cases q
    · omega
  rw [if_neg hg] at k
  have hab : 1 ≤ r.a ∧ r.a ≤ 16 ∧ 1 ≤ r.b ∧ r.b ≤ 5 := by omega
  clear w1 w2 w3 w4 hg
  have htl := hok.tops
  have hRt : Recs eT H c.ts I.top := Own.recs eTlen (by decide) (h1.own 2 rfl) (by omega)
  have htn := hRt.len
  refine ⟨fun n H1 => H1 = H ∧ 0 ≤ n ∧ n ≤ c.ts.n ∧ ∀ t ∈ I.top.take n.toNat, t.1 ≠ r.name, fun n _ => (c.ts.n - n).toNat, ⟨rfl, Int.le_refl _, by omega, by simp⟩, ?_⟩
  rintro n H1 ⟨rfl, n0, n1, hno⟩
  refine ⟨c.ts, h1.cell 0 rfl rfl, br_intro (fun w => ?_) (fun w => ?_)⟩
  · have w := of_decide_eq_true w
    obtain ⟨q, o, v, e1, e2, e3⟩ := hRt.at_ eTlen (by decide) n0 w
    refine ⟨c.ts, h1.cell 0 rfl rfl, q, o, e1, n0, w, _, e3 0 _ rfl, ?_⟩
    rw [bytes_same]
    refine br_intro (fun z => ?_) (fun z => ?_)
    · rw [if_pos (List.any_eq_true.2 ⟨v, List.mem_of_getElem? e2, z⟩)] at k
      exact k H1 h
    · have z : ¬ v.1 = r.name := of_decide_eq_false z
      rw [wrap64_id (n := n + 1) (by omega) (by omega)]
      refine ⟨rfl, ⟨rfl, by omega, by omega, ?_⟩, by dsimp only; omega⟩
      rw [take_step n0 e2]
      intro t ht
      rcases List.mem_append.1 ht with q | q
      · exact hno t q
      · rw [List.mem_singleton.1 q]; exact z
  have w := of_decide_eq_false w
  rw [List.take_of_length_le (by omega)] at hno
  have hany : ¬ (I.top.any fun t => decide (t.1 = r.name)) = true := fun q => by
    obtain ⟨t, ht, e⟩ := List.any_eq_true.1 q
    exact hno t ht (of_decide_eq_true e)
  rw [if_neg hany] at k
  have hbl := brk_len hok
  refine rup_spec (i := 0) h rfl hbl fun u H3 s2 h2 => ⟨u, rfl, ?_⟩
  have h5 : HL.Holds (own 3 1 u (iv (upL I.brk)) :: (rimgL m I c ++ cs)) H3 := ro_open h1 h2
  have hI2 := h.up s2
  have hul := upL_len hok
  have hun := (own_ints (h5.own 0 rfl) (by omega)).len
  clear w
  have hR0 : Recs eP H3 c.ps c.vs := Own.recs ePlen (by decide) (h5.own 4 rfl) (by rw [hP.1]; omega)
  have hn0 : c.ps.n = I.prt.length := by rw [hR0.len, hP.1]
  refine ⟨c.ps, h5.cell 1 rfl rfl, ?_⟩
  rw [hn0, wrap64_id (n := (I.prt.length : Int) + r.a) (by omega) (by omega)]
  refine br_intro (fun w2 => ?_) (fun w2 => br_intro (fun w3 => ?_) (fun w3 => ?_))
  · rw [if_pos (.inl (of_decide_eq_true w2))] at k
    exact k H3 hI2
  · rw [if_pos (.inr (by have := of_decide_eq_true w3; omega))] at k
    exact k H3 hI2
  have w2 := of_decide_eq_false w2
  have w3 := of_decide_eq_false w3
  rw [if_neg (by omega)] at k
  have hub : r.b.toNat ≤ (upL I.brk).length := by omega
  refine ⟨c.ps, h5.cell 1 rfl rfl, ?_⟩
  rw [hn0, wrap64_id (n := (I.prt.length : Int) + 1) (by omega) (by omega)]
  refine ⟨fun n H' => 0 ≤ n ∧ n ≤ r.a ∧ ∃ d : Rc, (PsIn Lo d.A d.vs (I.prt ++ (List.range n.toNat).map (newPart (upL I.brk) ((I.prt.length : Int) + 1) r.b r.c))) ∧ HL.Holds (own 3 1 u (iv (upL I.brk)) :: (rimgL m { I with prt := I.prt ++ (List.range n.toNat).map (newPart (upL I.brk) ((I.prt.length : Int) + 1) r.b r.c) } d ++ cs)) H',
    fun n _ => (r.a - n).toNat, ⟨Int.le_refl _, by omega, c, by simpa using hP, by simpa using h5⟩, ?_⟩
  rintro n H4 ⟨n0, n1, d, hdP, h6⟩
  have hdl : d.vs.length = I.prt.length + n.toNat := by rw [hdP.1]; simp
  refine br_intro (fun y => ?_) (fun y => ?_)
  · have y := of_decide_eq_true y
    refine ⟨fun l j H' => 0 ≤ j ∧ j ≤ r.b ∧ HL.Holds (own 3 1 l (iv (repl (upL I.brk) j.toNat n.toNat)) :: own 3 1 u (iv (upL I.brk)) :: (rimgL m { I with prt := I.prt ++ (List.range n.toNat).map (newPart (upL I.brk) ((I.prt.length : Int) + 1) r.b r.c) } d ++ cs)) H', fun _ j _ => (r.b - j).toNat,
      ⟨Int.le_refl _, by omega, h6.own_nil 3 1⟩, ?_⟩
    rintro l j H5 ⟨j0, j1, h7⟩
    have hli : Ints H5 l (repl (upL I.brk) j.toNat n.toNat) := own_ints (h7.own 0 rfl) (by rw [repl_len]; omega)
    have hln := hli.len
    rw [repl_len] at hln
    refine br_intro (fun z => ?_) (fun z => ?_)
    · have z := of_decide_eq_true z
      have hui : Ints H5 u (upL I.brk) := own_ints (h7.own 1 rfl) (by omega)
      rw [wrap64_id (n := n + j) (by omega) (by omega), wrap64_id (n := j + 1) (by omega) (by omega)]
      have hmod : Int.tmod (n + j) (u.n : Int) = (((n.toNat + j.toNat) % (upL I.brk).length : Nat) : Int) := by
        rw [Int.tmod_eq_emod_of_nonneg (by omega), hun]
        have e : n + j = ((n.toNat + j.toNat : Nat) : Int) := by omega
        rw [e]; rfl
      have hlt : (n.toNat + j.toNat) % (upL I.brk).length < (upL I.brk).length := Nat.mod_lt _ (by omega)
      obtain ⟨q, o, g1, g2, g3, g4⟩ := hui.at_ (j := Int.tmod (n + j) (u.n : Int)) (by rw [hmod]; omega) (by rw [hmod]; omega)
      refine ⟨by omega, q, o, g1, g2, g3, _, g4, ?_⟩
      have eg : (upL I.brk).getD (Int.tmod (n + j) (u.n : Int)).toNat 0 = (upL I.brk).getD ((n.toNat + j.toNat) % (upL I.brk).length) 0 := by rw [hmod, Int.toNat_natCast]
      rw [eg]
      refine Holds.push okInt h7 (xs := [.int .i64 ((upL I.brk).getD ((n.toNat + j.toNat) % (upL I.brk).length) 0)]) (m := 1) rfl rfl (by omega) fun l2 H6 h8 n8 => ⟨l2, rfl, rfl, ⟨by omega, by omega, ?_⟩, by dsimp only; omega⟩
      have ej : (j + 1).toNat = j.toNat + 1 := by omega
      rw [ej, repl_snoc]
      simpa [iv] using h8
    · have z := of_decide_eq_false z
      have ejb : j.toNat = r.b.toNat := by omega
      rw [ejb] at h7 hli
      have hdR : Recs eP H5 d.ps d.vs := Own.recs ePlen (by decide) (h7.own 5 rfl) (by omega)
      have hdn := hdR.len
      obtain ⟨q, o, g1, g2, g3, g4⟩ := hli.at_ (j := 0) (by decide) (by omega)
      refine ⟨d.ps, h7.cell 2 rfl rfl, q, o, g1, g2, g3, _, g4, (Holds.whole H5).newS fun q5 H8 s8 g8 => ⟨s8, Holds.append (s := ⟨some ⟨q5, 0, none⟩, 0, 0⟩) okInt okInt.under (lit0 g8) (hli.cells.sub s8) (by rw [List.length_map, repl_len, hln]; omega) (noTups_ints _ _) (by show 0 + l.n ≤ _; omega) fun l7 H6 h8 n8 => ⟨l7, rfl, h8.sub 1 rfl, ?_⟩⟩⟩
      have h8 : HL.Holds [own 3 1 l7 (iv (repl (upL I.brk) r.b.toNat n.toNat)), ro H5] H6 := h8
      have s6 := h8.sub 1 rfl
      have h9 := ro_open h7 h8
      rw [wrap64_id (n := (I.prt.length : Int) + 1 + n) (by omega) (by omega), wrap64_id (n := n + 1) (by omega) (by omega)]
      have h10 : HL.Holds (own 3 1 l7 (iv (repl (upL I.brk) r.b.toNat n.toNat)) :: ro d.A :: own 3 1 l (iv (repl (upL I.brk) r.b.toNat n.toNat)) :: own 3 1 u (iv (upL I.brk)) :: (rimgC m { I with prt := I.prt ++ (List.range n.toNat).map (newPart (upL I.brk) ((I.prt.length : Int) + 1) r.b r.c) } d ++ cs)) H6 := (h9.pull 8 rfl).swap
      obtain ⟨A1, sA1, o1, h11⟩ := into_store h10 Own.mono
      obtain ⟨A2, sA2, o2, h12⟩ := into_store h11.swap Own.mono
      have i1 : Ints A2 l7 (repl (upL I.brk) r.b.toNat n.toNat) := (own_ints o1 (by rw [repl_len]; omega)).sub sA2
      have i2 : Ints A2 l (repl (upL I.brk) r.b.toNat n.toNat) := own_ints o2 (by rw [repl_len]; omega)
      have e0 : (repl (upL I.brk) r.b.toNat n.toNat).getD (Int.toNat 0) 0 = (repl (upL I.brk) r.b.toNat n.toNat).headD 0 := by cases repl (upL I.brk) r.b.toNat n.toNat <;> rfl
      rw [e0]
      have hw : PIn A2 ⟨(I.prt.length : Int) + 1 + n, (repl (upL I.brk) r.b.toNat n.toNat).headD 0, 1, 1, l7, l, ⟨none, 0, 0⟩, ⟨none, 0, 0⟩, r.c⟩ (newPart (upL I.brk) ((I.prt.length : Int) + 1) r.b r.c n.toNat) :=
        ⟨by show (I.prt.length : Int) + 1 + n = (I.prt.length : Int) + 1 + (n.toNat : Int); omega, rfl, rfl, rfl, rfl, i1, i2, Ints.nil _, Ints.nil _⟩
      have h13 : HL.Holds (own 41 9 d.ps (d.vs.flatMap eP) :: ro A2 :: own 3 1 u (iv (upL I.brk)) :: blk m (.cells #[.int .i64 I.app, .slice d.bs.p d.bs.n d.bs.c, .slice d.ts.p d.ts.n d.ts.c, .slice d.ps.p d.ps.n d.ps.c, .slice d.rs.p d.rs.n d.rs.c] 56 (0, 0)) :: own 97 3 d.bs (I.brk.flatMap eB) :: own 99 3 d.ts (I.top.flatMap eT) :: own 3 1 d.rs (iv I.prd) :: cs) H6 := h12.pull 5 rfl
      refine Holds.pushS okPart s6 h13 (xs := eP ⟨(I.prt.length : Int) + 1 + n, (repl (upL I.brk) r.b.toNat n.toNat).headD 0, 1, 1, l7, l, ⟨none, 0, 0⟩, ⟨none, 0, 0⟩, r.c⟩) (m := 1) rfl rfl (by omega) fun l8 H7 h14 n14 => ⟨l8, rfl, h14.store 3 rfl (by simp) fun H8 h15 => ⟨rfl, ⟨by omega, by omega, { d with ps := l8, A := A2, vs := d.vs ++ [⟨(I.prt.length : Int) + 1 + n, (repl (upL I.brk) r.b.toNat n.toNat).headD 0, 1, 1, l7, l, ⟨none, 0, 0⟩, ⟨none, 0, 0⟩, r.c⟩] }, ?_, ?_⟩, by dsimp only; omega⟩⟩
      · have en : (n + 1).toNat = n.toNat + 1 := by omega
        rw [en, List.range_succ, List.map_append, ← List.append_assoc]
        exact (hdP.sub (sA1.trans sA2)).snoc hw
      · have h15 : HL.Holds (own 41 9 l8 (d.vs.flatMap eP ++ eP ⟨(I.prt.length : Int) + 1 + n, (repl (upL I.brk) r.b.toNat n.toNat).headD 0, 1, 1, l7, l, ⟨none, 0, 0⟩, ⟨none, 0, 0⟩, r.c⟩) :: ro A2 :: own 3 1 u (iv (upL I.brk)) :: blk m (.cells #[.int .i64 I.app, .slice d.bs.p d.bs.n d.bs.c, .slice d.ts.p d.ts.n d.ts.c, .slice l8.p l8.n l8.c, .slice d.rs.p d.rs.n d.rs.c] 56 (0, 0)) :: own 97 3 d.bs (I.brk.flatMap eB) :: own 99 3 d.ts (I.top.flatMap eT) :: own 3 1 d.rs (iv I.prd) :: cs) H8 := h15
        have ef : ∀ w : PV, d.vs.flatMap eP ++ eP w = (d.vs ++ [w]).flatMap eP := fun w => by simp
        rw [ef] at h15
        have h16 := h15.pull 2 rfl
        have h17 := (h16.pull 2 rfl).down 6
        exact ((h17.pull 1 rfl).down 4).pull 0 rfl
  · have y := of_decide_eq_false y
    have ea : n.toNat = r.a.toNat := by omega
    rw [ea] at h6 hdP
    have htl := hok.tops
    have hT : Recs eT H4 d.ts I.top := Own.recs eTlen (by decide) (h6.own 3 rfl) (by omega)
    have htn := hT.len
    refine ⟨d.ts, h6.cell 1 rfl rfl, ?_⟩
    refine Holds.pushS okTopR (HL.Sub.refl _) (h6.pull 3 rfl) (xs := [.string r.name, .int .i64 ((I.prt.length : Int) + 1), .int .i64 r.a]) (m := 1) rfl rfl (by omega) fun l10 H5 h7 n7 => ⟨l10, rfl, h7.store 2 rfl (by simp) fun H6 h8 => k H6 (rimg_open.2 ⟨{ d with ts := l10 }, hdP, ?_⟩)⟩
    have e : I.top.flatMap eT ++ [.string r.name, .int .i64 ((I.prt.length : Int) + 1), .int .i64 r.a] = (I.top ++ [(r.name, (I.prt.length : Int) + 1, r.a)]).flatMap eT := by simp
    rw [e] at h8
    have h9 := (h8.pull 1 rfl).tail
    exact h9.down 2
end
end Go.Proofs.YtmofinghoacobaaGreatDoor
namespace Go.Proofs.YtmofinghoacobaaGreatDoor
open Go Go.HL
set_option maxHeartbeats 3200000
set_option maxRecDepth 100000
section
variable {cs : List Chunk} {H Lo : Heap} {K : Value → Heap → Prop}
theorem back2 {a e : Int} (k : K (.tuple #[.int .i64 (if e = 0 then a else 0), .int .i64 e]) H) : br ((e : Int) != 0) (K (.tuple #[.int .i64 0, .int .i64 e]) H) (K (.tuple #[.int .i64 a, .int .i64 0]) H) := by
  refine br_intro (fun w => ?_) (fun w => ?_)
  · have w : ¬ e = 0 := by simpa using w
    rw [if_neg w] at k
    exact k
  · have w : e = 0 := by simpa using w
    rw [if_pos w, w] at k
    exact k
theorem rapply_spec {m : Nat} {I : Im} {r : Mt} {s : Sl} (h : HL.Holds (rimg Lo m I :: cs) H) (hok : ImOk I) (hl : Ints Lo s r.list) (hil : r.list.length ≤ 1000000) (ha : 0 ≤ I.app ∧ I.app ≤ 9223372036854775806) (k : ∀ H', HL.Holds (rimg Lo m (applyI I r).1 :: cs) H' → K (.tuple #[.int .i64 (applyI I r).2.1, .int .i64 (applyI I r).2.2]) H') :
    FnH Tryz.prog 23 #[.pointer (some ⟨m, 0, none⟩), r.val s] H K := by
  apply logboomref12_Image_Apply_fn
  unfold logboomref12_Image_Apply_vc
  obtain ⟨c, hP, h1⟩ := rimg_open.1 h
  refine ⟨_, h1.cell 0 rfl rfl, h1.store 0 rfl (by simp) fun H1 h2 => ?_⟩
  rw [wrap64_id (n := I.app + 1) (by omega) (by omega)] at h2
  have h3 : HL.Holds (rimg Lo m { I with app := I.app + 1 } :: cs) H1 := rimg_open.2 ⟨c, hP, h2⟩
  have hok2 := hok.setApp (I.app + 1)
  unfold applyI bodyI at k
  have e3b : ((r.kind : Int) == 3) = decide (r.kind = 3) := by rw [Bool.eq_iff_iff]; simp
  by_cases e1 : r.kind = 1
  · rw [if_pos e1] at k
    repeat first | refine br_t (by rw [e1]; rfl) ?_ | refine br_f (by rw [e1]; rfl) ?_
    rw [reg_n] at k
    exact rregister_spec h3 hok2 fun H' h' => ⟨_, rfl, back2 (k H' h')⟩
  rw [if_neg e1] at k
  by_cases e2 : r.kind = 2
  · rw [if_pos (.inl e2)] at k
    repeat first | refine br_t (by rw [e2]; rfl) ?_ | refine br_f (by rw [e2]; rfl) ?_
    rw [e3b]
    rw [turn_n] at k
    exact rturn_spec h3 hok2 fun H' h' => ⟨_, rfl, back2 (k H' h')⟩
  by_cases e3 : r.kind = 3
  · rw [if_pos (.inr e3)] at k
    repeat first | refine br_t (by rw [e3]; rfl) ?_ | refine br_f (by rw [e3]; rfl) ?_
    rw [e3b]
    rw [turn_n] at k
    exact rturn_spec h3 hok2 fun H' h' => ⟨_, rfl, back2 (k H' h')⟩
  rw [if_neg (by omega)] at k
  by_cases e4 : r.kind = 4
  · rw [if_pos e4] at k
    repeat first | refine br_t (by rw [e4]; rfl) ?_ | refine br_f (by rw [e4]; rfl) ?_
    exact rtopic_spec h3 hok2 fun H' h' => ⟨_, _, rfl, k H' h'⟩
  rw [if_neg e4] at k
  by_cases e5 : r.kind = 5 ∨ r.kind = 6 ∨ r.kind = 7 ∨ r.kind = 9 ∨ r.kind = 10
  · rw [if_pos e5] at k
    rcases id e5 with e | e | e | e | e
    all_goals
      repeat first | refine br_t (by rw [e]; rfl) ?_ | refine br_f (by rw [e]; rfl) ?_
      exact rpartk_spec h3 hok2 hl hil e5 fun H' h' => ⟨_, _, rfl, k H' h'⟩
  rw [if_neg e5] at k
  by_cases e8 : r.kind = 8
  · rw [if_pos e8] at k
    repeat first | refine br_t (by rw [e8]; rfl) ?_ | refine br_f (by rw [e8]; rfl) ?_
    exact rpid_spec h3 hok2 fun H' h' => ⟨_, _, rfl, k H' h'⟩
  rw [if_neg e8] at k
  repeat refine br_f (beq_eq_false_iff_ne.2 (by omega)) ?_
  exact br_t rfl (k H1 h3)
end
end Go.Proofs.YtmofinghoacobaaGreatDoor
namespace Go.Proofs.YtmofinghoacobaaGreatDoor
open Go Go.HL
set_option maxHeartbeats 3200000
set_option maxRecDepth 100000
theorem sz2 {a b : List Nat} (h : a.length + b.length ≤ 1000000) : (strN a).size + (strN b).size < 9223372036854775808 := by
  rw [strN_size, strN_size]; omega
section
variable {cs : List Chunk} {H Lo : Heap} {K : Value → Heap → Prop}
theorem rlist58 {s : Sl} {l : List Int} (hl : Ints H s l) (hw : ∀ x ∈ l, i64B x) (hb : l.length ≤ 10000) (k : ∀ H', HL.Sub H H' → K (.string (strN (lstB l))) H') : FnH Tryz.prog 58 #[.slice s.p s.n s.c] H K := by
  apply logboomref12_list_fn
  unfold logboomref12_list_vc
  have hn := hl.len
  refine rint3_spec (n := (s.n : Int)) ⟨by omega, by omega⟩ fun H1 s1 => ⟨_, rfl, ?_⟩
  have en : encN ((s.n : Nat) : Int) = encN (l.length : Int) := by rw [hn]
  rw [en]
  have yL : ∀ n : Nat, ∀ x ∈ encN (l.length : Int) ++ encL (l.take n), x < 256 := fun n => bytes_app (encN_bytes _) (encL_bytes _)
  refine ⟨fun t n H' => HL.Sub H H' ∧ 0 ≤ n ∧ n ≤ s.n ∧ t = strN (encN (l.length : Int) ++ encL (l.take n.toNat)), fun _ n _ => (s.n - n).toNat, ⟨s1, Int.le_refl _, by omega, by simp [encL]⟩, ?_⟩
  rintro t n H2 ⟨s2, n0, n1, rfl⟩
  refine br_intro (fun w => ?_) (fun w => ?_)
  · have w := of_decide_eq_true w
    obtain ⟨q, o, g1, g2, g3, g4⟩ := (hl.sub s2).at_ n0 w
    have hx := hw _ (getD_mem (l := l) n0 (by omega))
    refine ⟨q, o, g1, g2, g3, _, g4, rint3_spec hx fun H3 s3 => ⟨_, rfl, ?_⟩⟩
    rw [wrap64_id (n := n + 1) (by omega) (by omega)]
    have h1 := encL_len (l.take n.toNat)
    have h2 := encN_len (l.getD n.toNat 0)
    have h3 : (l.take n.toNat).length ≤ l.length := by rw [List.length_take]; omega
    have h4 := encN_len (l.length : Int)
    refine ⟨by rw [strN_size, strN_size, List.length_append]; omega, rfl, ⟨s2.trans s3, by omega, by omega, ?_⟩, by dsimp only; omega⟩
    rw [strN_app (yL _) (encN_bytes _), take_next (d := 0) n0 (by omega), encL_app, List.append_assoc]
    simp [encL]
  · have w := of_decide_eq_false w
    have e : l.take n.toNat = l := List.take_of_length_le (by omega)
    rw [e]
    exact k H2 s2
theorem rsummed_spec {b : ByteArray} (hb : b.size ≤ 1000000) (k : ∀ H', HL.Sub H H' → K (.string (strN (fourN (crcN (nb b))) ++ b)) H') : FnH Tryz.prog 59 #[.string b] H K := by
  apply logboomref12_Summed_fn
  unfold logboomref12_Summed_vc
  refine rcrc_spec (by omega) ⟨_, rfl, four_spec (crcN_lt _ (nb_byte b)) fun H1 s1 => ⟨_, rfl, ?_, k H1 s1⟩⟩
  rw [strN_size]
  have : (fourN (crcN (nb b))).length = 4 := rfl
  omega
theorem rkeep_spec {m i : Nat} {I : Im} (h : HL.Holds cs H) (ei : cs[i]? = some (rimg Lo m I)) (hok : ImOk I) (ha : 0 ≤ I.app ∧ I.app ≤ 9223372036854775807) (k : ∀ H', HL.Sub H H' → K (.string (strN (keepB I))) H') : FnH Tryz.prog 25 #[.pointer (some ⟨m, 0, none⟩)] H K := by
  apply logboomref12_Image_Keep_fn
  unfold logboomref12_Image_Keep_vc
  obtain ⟨c, hP, hh⟩ := h.read i ei rimg_mono
  have hbl := brk_len hok
  have htl := hok.tops
  have hpl := hok.parts
  have hdl := hok.prds
  have hvl : c.vs.length = I.prt.length := hP.1
  have hB : Recs eB H c.bs I.brk := Own.recs eBlen (by decide) (hh.own 1 rfl) (by omega)
  have hT : Recs eT H c.ts I.top := Own.recs eTlen (by decide) (hh.own 2 rfl) (by omega)
  have hR : Recs eP H c.ps c.vs := Own.recs ePlen (by decide) (hh.own 3 rfl) (by omega)
  have hD : Ints H c.rs I.prd := own_ints (hh.own 4 rfl) (by omega)
  have hA : HL.Sub c.A H := hh.sub 5 rfl
  have hbn := hB.len
  have htn := hT.len
  have hrn := hR.len
  have bB : ∀ n : Nat, ((I.brk.take n).flatMap brkB).length ≤ 210 := fun n => by
    have := flat_le (f := brkB) (k := 30) (l := I.brk.take n) fun a _ => brkB_len a
    have e : (I.brk.take n).length ≤ 7 := by rw [List.length_take]; omega
    omega
  have bT : ∀ n : Nat, ((I.top.take n).flatMap topB).length ≤ 992 := fun n => by
    have := flat_le (f := topB) (k := 62) (l := I.top.take n) fun a h => topB_len (named_size (hok.topv a (List.mem_of_mem_take h)).1)
    have e : (I.top.take n).length ≤ 16 := by rw [List.length_take]; omega
    omega
  have bP : ∀ n : Nat, ((I.prt.take n).flatMap prtB).length ≤ 5760 := fun n => by
    have := flat_le (f := prtB) (k := 360) (l := I.prt.take n) fun a h => prtB_len (hok.right a (List.mem_of_mem_take h))
    have e : (I.prt.take n).length ≤ 16 := by rw [List.length_take]; omega
    omega
  have yB : ∀ n : Nat, ∀ b ∈ (I.brk.take n).flatMap brkB, b < 256 := fun n => flat_bytes fun a _ => brkB_bytes a
  have yT : ∀ n : Nat, ∀ b ∈ (I.top.take n).flatMap topB, b < 256 := fun n => flat_bytes fun a _ => topB_bytes a
  have yP : ∀ n : Nat, ∀ b ∈ (I.prt.take n).flatMap prtB, b < 256 := fun n => flat_bytes fun a _ => prtB_bytes a
  have e2 : ∀ a b : Int, encL [a, b] = encN a ++ encN b := fun a b => by simp [encL]
  have e3 : ∀ a b c : Int, encL [a, b, c] = encN a ++ encN b ++ encN c := fun a b c => by simp [encL]
  have e4 : ∀ a b c d : Int, encL [a, b, c, d] = encN a ++ encN b ++ encN c ++ encN d := fun a b c d => by simp [encL]
  have e1 : ∀ a : Int, encL [a] = encN a := fun a => by simp [encL]
  refine ⟨_, hh.cell 0 rfl rfl, c.bs, hh.cell 0 rfl rfl, ?_⟩
  rw [hbn]
  refine rint3_spec ⟨by omega, by omega⟩ fun H1 s1 => ⟨_, rfl, s1, rint3_spec (n := (I.brk.length : Int)) ⟨by omega, by omega⟩ fun H2 s2 => ⟨_, rfl, s1.trans s2, ?_⟩⟩
  have s2 := s1.trans s2
  have n0 := encN_len I.app
  have n1 := encN_len (I.brk.length : Int)
  refine ⟨sz2 (by omega), ?_⟩
  rw [strN_app (encN_bytes _) (encN_bytes _), ← e2]
  have b0 : (encL [I.app, (I.brk.length : Int)]).length ≤ 20 := encL_len _
  have y0 : ∀ b ∈ encL [I.app, (I.brk.length : Int)], b < 256 := encL_bytes _
  obtain ⟨A1, eA1⟩ : ∃ A1, A1 = encL [I.app, (I.brk.length : Int)] ++ I.brk.flatMap brkB := ⟨_, rfl⟩
  refine ⟨fun t n H' => HL.Sub H H' ∧ 0 ≤ n ∧ n ≤ I.brk.length ∧ t = strN (encL [I.app, (I.brk.length : Int)] ++ (I.brk.take n.toNat).flatMap brkB), fun _ n _ => (I.brk.length - n).toNat, ⟨s2, Int.le_refl _, by omega, by simp⟩, ?_⟩
  rintro t n H3 ⟨s3, m0, m1, rfl⟩
  refine ⟨c.bs, (hh.up s3).cell 0 rfl rfl, ?_⟩
  rw [hbn]
  refine br_intro (fun w => ?_) (fun w => ?_)
  · have w := of_decide_eq_true w
    obtain ⟨q, o, x, g1, g2, g3⟩ := (Recs.mono _ _ s3 hB).at_ eBlen (by decide) m0 (by omega)
    have hxr := hok.ids x (List.mem_of_getElem? g2)
    have fin : strN (encL [I.app, (I.brk.length : Int)] ++ (I.brk.take n.toNat).flatMap brkB ++ brkB x) = strN (encL [I.app, (I.brk.length : Int)] ++ (I.brk.take (n + 1).toNat).flatMap brkB) := by
      rw [take_flat_step m0 g2, List.append_assoc]
    have y1 := bytes_app y0 (yB n.toNat)
    have l1 := bB n.toNat
    have l2 := encN_len x.1
    have l3 := encN_len x.2.1
    have l4 := encN_len (1 : Int)
    have l5 := encN_len (0 : Int)
    rw [wrap64_id (n := n + 1) (by omega) (by omega)]
    refine ⟨c.bs, (hh.up s3).cell 0 rfl rfl, q, o, g1, m0, by omega, _, g3 0 _ rfl, _, g3 1 _ rfl, _, g3 2 _ rfl, br_intro (fun z => ?_) (fun z => ?_)⟩
    all_goals
      refine rint3_spec ⟨by omega, by omega⟩ fun H4 s4 => ⟨_, rfl, s4, sz2 (by simp only [List.length_append]; omega), ?_⟩
      rw [strN_app y1 (encN_bytes _)]
      refine rint3_spec ⟨by omega, by omega⟩ fun H5 s5 => ⟨_, rfl, s4.trans s5, sz2 (by simp only [List.length_append]; omega), ?_⟩
      rw [strN_app (bytes_app y1 (encN_bytes _)) (encN_bytes _)]
      refine rint3_spec ⟨by omega, by omega⟩ fun H6 s6 => ⟨_, rfl, s4.trans (s5.trans s6), sz2 (by simp only [List.length_append]; omega), ?_⟩
      rw [strN_app (bytes_app (bytes_app y1 (encN_bytes _)) (encN_bytes _)) (encN_bytes _)]
    · have ez : brkB x = encN x.1 ++ encN x.2.1 ++ encN 1 := by unfold brkB; rw [if_pos z, e3]
      rw [ez, ← List.append_assoc, ← List.append_assoc] at fin
      exact ⟨rfl, ⟨s3.trans (s4.trans (s5.trans s6)), by omega, by omega, fin⟩, by dsimp only; omega⟩
    · have ez : brkB x = encN x.1 ++ encN x.2.1 ++ encN 0 := by unfold brkB; rw [if_neg (by rw [z]; decide), e3]
      rw [ez, ← List.append_assoc, ← List.append_assoc] at fin
      exact ⟨rfl, ⟨s3.trans (s4.trans (s5.trans s6)), by omega, by omega, fin⟩, by dsimp only; omega⟩
  have w := of_decide_eq_false w
  have et : I.brk.take n.toNat = I.brk := List.take_of_length_le (by omega)
  rw [et, ← eA1]
  have bA1 : A1.length ≤ 230 := by
    have := bB I.brk.length
    rw [List.take_length] at this
    rw [eA1, List.length_append]; omega
  have yA1 : ∀ b ∈ A1, b < 256 := by
    have := yB I.brk.length
    rw [List.take_length] at this
    rw [eA1]; exact bytes_app y0 this
  clear w et m0 m1
  refine ⟨c.ts, (hh.up s3).cell 0 rfl rfl, ?_⟩
  rw [htn]
  have b1 : (encL [(I.top.length : Int)]).length ≤ 10 := encL_len _
  rw [e1] at b1
  refine rint3_spec (n := (I.top.length : Int)) ⟨by omega, by omega⟩ fun H4 s4 => ⟨_, rfl, sz2 (by omega), ?_⟩
  rw [strN_app yA1 (encN_bytes _), ← e1]
  obtain ⟨A3, eA3⟩ : ∃ A3, A3 = A1 ++ encL [(I.top.length : Int)] ++ I.top.flatMap topB := ⟨_, rfl⟩
  rw [← e1] at b1
  refine ⟨fun t n H' => HL.Sub H H' ∧ 0 ≤ n ∧ n ≤ I.top.length ∧ t = strN (A1 ++ encL [(I.top.length : Int)] ++ (I.top.take n.toNat).flatMap topB), fun _ n _ => (I.top.length - n).toNat, ⟨s3.trans s4, Int.le_refl _, by omega, by simp⟩, ?_⟩
  clear s4 s3
  rintro t n H7 ⟨s7, m0, m1, rfl⟩
  refine ⟨c.ts, (hh.up s7).cell 0 rfl rfl, ?_⟩
  rw [htn]
  refine br_intro (fun w => ?_) (fun w => ?_)
  · have w := of_decide_eq_true w
    obtain ⟨q, o, x, g1, g2, g3⟩ := (Recs.mono _ _ s7 hT).at_ eTlen (by decide) m0 (by omega)
    obtain ⟨x1, x2, x3, x4, x5⟩ := hok.topv x (List.mem_of_getElem? g2)
    have xs := named_size x1
    have l1 := encN_len (x.1.size : Int)
    have l2 := nb_len x.1
    have l3 := encN_len x.2.1
    have l4 := encN_len x.2.2
    have l5 := bT n.toNat
    have y1 := bytes_app (bytes_app yA1 (encL_bytes [(I.top.length : Int)])) (yT n.toNat)
    rw [wrap64_id (n := n + 1) (by omega) (by omega)]
    refine ⟨c.ts, (hh.up s7).cell 0 rfl rfl, q, o, g1, m0, by omega, _, g3 0 _ rfl, _, g3 1 _ rfl, _, g3 2 _ rfl, ?_⟩
    refine rint3_spec (n := (x.1.size : Int)) ⟨by omega, by omega⟩ fun H8 s8 => ⟨_, rfl, s8, sz2 (by simp only [List.length_append]; omega), ?_⟩
    rw [strN_app y1 (encN_bytes _)]
    have y2 := bytes_app y1 (encN_bytes (x.1.size : Int))
    have ex : x.1 = strN (nb x.1) := (strN_nb _).symm
    refine ⟨by rw [strN_size]; simp only [List.length_append]; omega, ?_⟩
    have ej : ∀ l : List Nat, (∀ b ∈ l, b < 256) → strN l ++ x.1 = strN (l ++ nb x.1) := fun l hl => by
      rw [← strN_app hl (nb_byte _), strN_nb]
    rw [ej _ y2]
    have y3 := bytes_app y2 (nb_byte x.1)
    refine rint3_spec ⟨by omega, by omega⟩ fun H9 s9 => ⟨_, rfl, s8.trans s9, sz2 (by simp only [List.length_append]; omega), ?_⟩
    rw [strN_app y3 (encN_bytes _)]
    refine rint3_spec ⟨by omega, by omega⟩ fun H10 s10 => ⟨_, rfl, s8.trans (s9.trans s10), sz2 (by simp only [List.length_append]; omega), ?_⟩
    rw [strN_app (bytes_app y3 (encN_bytes _)) (encN_bytes _)]
    refine ⟨rfl, ⟨s7.trans (s8.trans (s9.trans s10)), by omega, by omega, ?_⟩, by dsimp only; omega⟩
    rw [take_flat_step m0 g2]
    unfold topB
    rw [e2]
    simp only [List.append_assoc]
  have w := of_decide_eq_false w
  have et2 : I.top.take n.toNat = I.top := List.take_of_length_le (by omega)
  rw [et2, ← eA3]
  have bA3 : A3.length ≤ 1300 := by
    have := bT I.top.length
    rw [List.take_length] at this
    rw [eA3, List.length_append, List.length_append]; omega
  have yA3 : ∀ b ∈ A3, b < 256 := by
    have := yT I.top.length
    rw [List.take_length] at this
    rw [eA3]; exact bytes_app (bytes_app yA1 (encL_bytes _)) this
  clear w et2 m0 m1
  refine ⟨c.ps, (hh.up s7).cell 0 rfl rfl, ?_⟩
  rw [hrn, hvl]
  have b3 : (encL [(I.prt.length : Int)]).length ≤ 10 := encL_len _
  rw [e1] at b3
  refine rint3_spec (n := (I.prt.length : Int)) ⟨by omega, by omega⟩ fun H8 s8 => ⟨_, rfl, sz2 (by omega), ?_⟩
  rw [strN_app yA3 (encN_bytes _), ← e1]
  rw [← e1] at b3
  refine ⟨fun t n H' => HL.Sub H H' ∧ 0 ≤ n ∧ n ≤ I.prt.length ∧ t = strN (A3 ++ encL [(I.prt.length : Int)] ++ (I.prt.take n.toNat).flatMap prtB), fun _ n _ => (I.prt.length - n).toNat, ⟨s7.trans s8, Int.le_refl _, by omega, by simp⟩, ?_⟩
  clear s7 s8
  rintro t n H10 ⟨s10, m0, m1, rfl⟩
  refine ⟨c.ps, (hh.up s10).cell 0 rfl rfl, ?_⟩
  rw [hrn, hvl]
  refine br_intro (fun w => ?_) (fun w => ?_)
  · have w := of_decide_eq_true w
    obtain ⟨q, o, v, g1, g2, g3⟩ := (Recs.mono _ _ s10 hR).at_ ePlen (by decide) m0 (by omega)
    obtain ⟨p, hpt⟩ : ∃ p, I.prt[n.toNat]? = some p := ⟨_, List.getElem?_eq_getElem (by omega)⟩
    have hv : PIn H10 v p := ((hP.2.1 _ _ _ g2 hpt).sub hA).sub s10
    have hr := hok.right p (List.mem_of_getElem? hpt)
    have r1 := lead_range hr
    have r2 := hr.epoch; have r3 := hr.version; have r4 := hr.min
    obtain ⟨i1, i2⟩ := ids_bound hr.isr; obtain ⟨k1, k2⟩ := ids_bound hr.replicas; obtain ⟨a1, a2⟩ := ids_bound hr.adding; obtain ⟨m1', m2⟩ := ids_bound hr.removing
    have w7 : ∀ {l : List Int}, (∀ x ∈ l, 1 ≤ x ∧ x ≤ 7) → ∀ x ∈ l, i64B x := fun {l} h x hx => by have := h x hx; exact ⟨by omega, by omega⟩
    have c1 := encN_len p.leader; have c1b := encN_len p.epoch; have c1c := encN_len p.version; have c1d := encN_len p.min
    have c2 := lstB_len p.isr; have c3 := lstB_len p.replicas; have c4 := lstB_len p.adding; have c5 := lstB_len p.removing
    have c6 := bP n.toNat
    rw [wrap64_id (n := n + 1) (by omega) (by omega)]
    refine ⟨c.ps, (hh.up s10).cell 0 rfl rfl, q, o, g1, m0, by omega, _, g3 0 _ rfl, _, g3 1 _ rfl, _, g3 2 _ rfl, _, g3 3 _ rfl, v.isr, g3 4 _ rfl, v.replicas, g3 5 _ rfl, v.adding, g3 6 _ rfl, v.removing, g3 7 _ rfl, _, g3 8 _ rfl, ?_⟩
    rw [hv.leader, hv.epoch, hv.version, hv.min]
    have y1 := bytes_app (bytes_app yA3 (encL_bytes [(I.prt.length : Int)])) (yP n.toNat)
    refine rint3_spec ⟨by omega, by omega⟩ fun H11 s11 => ⟨_, rfl, s11, sz2 (by simp only [List.length_append]; omega), ?_⟩
    rw [strN_app y1 (encN_bytes _)]
    have y2 := bytes_app y1 (encN_bytes p.leader)
    refine rint3_spec ⟨by omega, by omega⟩ fun H12 s12 => ⟨_, rfl, s11.trans s12, sz2 (by simp only [List.length_append]; omega), ?_⟩
    have t12 := s11.trans s12
    rw [strN_app y2 (encN_bytes _)]
    have y3 := bytes_app y2 (encN_bytes p.epoch)
    refine rint3_spec ⟨by omega, by omega⟩ fun H13 s13 => ⟨_, rfl, t12.trans s13, sz2 (by simp only [List.length_append]; omega), ?_⟩
    have t13 := t12.trans s13
    rw [strN_app y3 (encN_bytes _)]
    have y4 := bytes_app y3 (encN_bytes p.version)
    refine rint3_spec ⟨by omega, by omega⟩ fun H14 s14 => ⟨_, rfl, t13.trans s14, sz2 (by simp only [List.length_append]; omega), ?_⟩
    have t14 := t13.trans s14
    rw [strN_app y4 (encN_bytes _)]
    have y5 := bytes_app y4 (encN_bytes p.min)
    refine rlist58 (hv.isr.sub t14) (w7 i2) (by omega) fun H15 s15 => ⟨_, rfl, t14.trans s15, sz2 (by simp only [List.length_append]; omega), ?_⟩
    have t15 := t14.trans s15
    rw [strN_app y5 (lstB_bytes _)]
    have y6 := bytes_app y5 (lstB_bytes p.isr)
    refine rlist58 (hv.replicas.sub t15) (w7 k2) (by omega) fun H16 s16 => ⟨_, rfl, t15.trans s16, sz2 (by simp only [List.length_append]; omega), ?_⟩
    have t16 := t15.trans s16
    rw [strN_app y6 (lstB_bytes _)]
    have y7 := bytes_app y6 (lstB_bytes p.replicas)
    refine rlist58 (hv.adding.sub t16) (w7 a2) (by omega) fun H17 s17 => ⟨_, rfl, t16.trans s17, sz2 (by simp only [List.length_append]; omega), ?_⟩
    have t17 := t16.trans s17
    rw [strN_app y7 (lstB_bytes _)]
    have y8 := bytes_app y7 (lstB_bytes p.adding)
    refine rlist58 (hv.removing.sub t17) (w7 m2) (by omega) fun H18 s18 => ⟨_, rfl, t17.trans s18, sz2 (by simp only [List.length_append]; omega), ?_⟩
    have t18 := t17.trans s18
    rw [strN_app y8 (lstB_bytes _)]
    refine ⟨rfl, ⟨s10.trans t18, by omega, by omega, ?_⟩, by dsimp only; omega⟩
    rw [take_flat_step m0 hpt]
    unfold prtB
    rw [e4]
    simp only [List.append_assoc]
  have w := of_decide_eq_false w
  have et3 : I.prt.take n.toNat = I.prt := List.take_of_length_le (by omega)
  rw [et3]
  have bP2 := bP I.prt.length
  have yP2 := yP I.prt.length
  rw [List.take_length] at bP2 yP2
  have yA5 : ∀ b ∈ A3 ++ encL [(I.prt.length : Int)] ++ I.prt.flatMap prtB, b < 256 := bytes_app (bytes_app yA3 (encL_bytes _)) yP2
  have ebody : bodyB I = A3 ++ encL [(I.prt.length : Int)] ++ I.prt.flatMap prtB ++ lstB I.prd := by rw [eA3, eA1]; rfl
  have b5 := lstB_len I.prd
  have ybody : ∀ b ∈ bodyB I, b < 256 := by rw [ebody]; exact bytes_app yA5 (lstB_bytes _)
  have bbody : (bodyB I).length ≤ 20000 := by rw [ebody]; simp only [List.length_append]; omega
  refine ⟨c.rs, (hh.up s10).cell 0 rfl rfl, rlist58 (hD.sub s10) (fun x hx => by have := hok.prd x hx; exact ⟨by omega, by omega⟩) (by omega) fun H11 s11 => ⟨_, rfl, sz2 (by simp only [List.length_append]; omega), ?_⟩⟩
  rw [strN_app yA5 (lstB_bytes _), ← ebody]
  refine rsummed_spec (by rw [strN_size]; omega) fun H12 s12 => ⟨_, rfl, ?_⟩
  rw [nb_str ybody, strN_app (fourN_bytes _) ybody]
  exact k H12 (s10.trans (s11.trans s12))
end
end Go.Proofs.YtmofinghoacobaaGreatDoor
namespace Go.Proofs.YtmofinghoacobaaGreatDoor
open Go Go.HL
set_option maxHeartbeats 3200000
set_option maxRecDepth 100000
section
variable {cs : List Chunk} {H Lo : Heap} {K : Value → Heap → Prop}
end
end Go.Proofs.YtmofinghoacobaaGreatDoor
namespace Go.Proofs.YtmofinghoacobaaGreatDoor
open Go Go.HL
set_option maxHeartbeats 6400000
set_option maxRecDepth 100000
section
variable {cs : List Chunk} {H Lo : Heap} {K : Value → Heap → Prop}
end
end Go.Proofs.YtmofinghoacobaaGreatDoor
namespace Go.Proofs.YtmofinghoacobaaGreatDoor
open Go Go.HL
set_option maxHeartbeats 6400000
set_option maxRecDepth 100000
def rimgp (A : Heap) (m : Nat) (I : Im) : Chunk := fun H => ∃ c : Rc, PsIn A A c.vs I.prt ∧ HL.Holds (rimgC m I c) H
theorem rimgp_mono {A : Heap} {m : Nat} {I : Im} : Mono (rimgp A m I) := fun _ _ hs ⟨c, e, h⟩ => ⟨c, e, h.up hs⟩
theorem rimgp_sub {A A' : Heap} {m : Nat} {I : Im} (s : HL.Sub A A') : ∀ H, rimgp A m I H → rimgp A' m I H := fun _ ⟨c, e, h⟩ => ⟨c, ⟨e.1, (e.sub s).2.1, HL.Sub.refl _⟩, h⟩
theorem sameB_refl (p : Part) : sameB p p = true := by simp [sameB]
theorem nodup_first {T : List Tp} (h : (T.map Prod.fst).Nodup) {i j : Nat} {t u : Tp} (hi : T[i]? = some t) (hj : T[j]? = some u) (e : u.1 = t.1) : u = t := by
  have h1 : (T.map Prod.fst)[i]? = some t.1 := by rw [List.getElem?_map, hi]; rfl
  have h2 : (T.map Prod.fst)[j]? = some t.1 := by rw [List.getElem?_map, hj, ← e]; rfl
  have := nodup_at h h2 h1
  rw [this, hi] at hj
  cases hj; rfl
section
variable {cs : List Chunk} {H Lo : Heap} {K : Value → Heap → Prop}
theorem rimg_pack {A : Heap} {m : Nat} {I : Im} (h : HL.Holds (rimgp A m I :: ro A :: cs) H) : HL.Holds (rimg A m I :: cs) H := by
  obtain ⟨c, h⟩ := Holds.ex.1 h
  obtain ⟨e, h⟩ := Holds.pure.1 h
  have h := Holds.flat.1 h
  exact rimg_open.2 ⟨{ c with A := A }, e, h⟩
theorem rimg_apart {m : Nat} {I : Im} (h : HL.Holds (rimg Lo m I :: cs) H) : ∃ A, HL.Sub Lo A ∧ HL.Holds (rimgp A m I :: ro A :: cs) H := by
  obtain ⟨c, hP, h⟩ := rimg_open.1 h
  refine ⟨c.A, hP.2.2, ?_⟩
  have h2 : HL.Holds (rimgC m I c ++ (ro c.A :: cs)) H := h
  exact Holds.ex.2 ⟨c, Holds.pure.2 ⟨⟨hP.1, hP.2.1, HL.Sub.refl _⟩, Holds.flat.2 h2⟩⟩
theorem beside_r {A : Heap} {m r : Nat} {I J : Im} (h : HL.Holds (img A m I :: rimgp A r J :: cs) H) : ∃ A', HL.Sub A A' ∧ HL.Holds (rimg A' r J :: imgp A' m I :: cs) H := by
  obtain ⟨A', s, h2⟩ := img_unpack h
  exact ⟨A', s, rimg_pack ((((h2.pull 2 rfl).head (rimgp_sub s)).pull 2 rfl).swap)⟩
theorem alike_spec {A : Heap} {m r : Nat} {I : Im} (h : HL.Holds (imgp A m I :: rimgp A r I :: ro A :: cs) H) (hI : ImR I) (ha : 0 ≤ I.app ∧ I.app ≤ 9223372036854775807)
    (k : ∀ A' H', HL.Sub A A' → HL.Holds (imgp A' m I :: rimgp A' r I :: ro A' :: cs) H' → K (.bool true) H') : FnH Tryz.prog 28 #[.pointer (some ⟨m, 0, none⟩), .pointer (some ⟨r, 0, none⟩)] H K := by
  apply logboomlaw12_alike_fn
  unfold logboomlaw12_alike_vc
  have hok := hI.ok
  have hbl := brk_len hok
  have htl := hok.tops
  have hpl := hok.parts
  have h0 : HL.Holds (img A m I :: rimgp A r I :: cs) H := img_pack ((h.pull 2 rfl).swap)
  have hul := upL_len hok
  refine parts12_spec h0 hok fun s L1 H1 sL hps h1 => ⟨s, rfl, ?_⟩
  have h1 : HL.Holds (img L1 m I :: rimgp L1 r I :: cs) H1 := (h1.swap.head (rimgp_sub sL)).swap
  have hsn := hps.len
  refine up_spec (i := 0) h1 rfl hok fun u H2 s2 hu => ⟨u, rfl, ?_⟩
  have h2 := h1.up s2
  obtain ⟨A2, sA2, h2r⟩ := beside_r h2
  refine rup_spec (i := 0) h2r rfl hbl fun v H3 s3 hv => ⟨v, rfl, ?_⟩
  have h3 := h2.up s3
  refine sameList_spec ((own_ints (hu.own 0 rfl) (by omega)).sub s3) (own_ints (hv.own 0 rfl) (by omega)) ⟨_, rfl, ?_⟩
  have look : ∀ {L : Heap} {H' : Heap}, HL.Holds (img L m I :: rimgp L r I :: cs) H' → ∃ c : Rc, PsIn L L c.vs I.prt ∧ HL.Sub L H' ∧ HL.Holds (rimgC r I c) H' ∧ Recs eB H' c.bs I.brk ∧ Recs eT H' c.ts I.top ∧ Recs eP H' c.ps c.vs ∧ c.bs.n = I.brk.length ∧ c.ts.n = I.top.length ∧ c.ps.n = I.prt.length := fun {L H'} h' => by
    obtain ⟨c, hP, hh⟩ := h'.read 1 rfl rimgp_mono
    have hvl : c.vs.length = I.prt.length := hP.1
    have r1 : Recs eB H' c.bs I.brk := Own.recs eBlen (by decide) (hh.own 1 rfl) (by omega)
    have r2 : Recs eT H' c.ts I.top := Own.recs eTlen (by decide) (hh.own 2 rfl) (by omega)
    have r3 : Recs eP H' c.ps c.vs := Own.recs ePlen (by decide) (hh.own 3 rfl) (by omega)
    exact ⟨c, hP, img_low (h'.read 0 rfl img_mono), hh, r1, r2, r3, r1.len, r2.len, by rw [r3.len, hvl]⟩
  obtain ⟨c, hP, sL3, hh, r1, r2, r3, n1, n2, n3⟩ := look h3
  refine ⟨c.ps, hh.cell 0 rfl rfl, br_f (by rw [hsn, n3]; simp) (br_f (by simp) ⟨_, hh.cell 0 rfl rfl, applied_spec (i := 0) h3 rfl ⟨_, rfl, HL.Sub.refl _, br_f (by simp) ⟨c.ts, hh.cell 0 rfl rfl, ?_⟩⟩⟩)⟩
  refine topics12_spec (i := 0) h3 rfl hok fun x H4 s4 h4 => ⟨x, rfl, s4, ?_⟩
  have hxn : x.n = I.top.length := by
    have := (h4.own 0 rfl).1
    simp [strsV, sortB_len] at this
    omega
  refine br_f (by rw [hxn, n2]; simp) (keep_spec (i := 0) (h3.up s4) rfl hok ha fun H5 s5 => ⟨_, rfl, s4.trans s5, ?_⟩)
  have s5' := s4.trans s5
  obtain ⟨A5, sA5, h5r⟩ := beside_r (h3.up s5')
  refine rkeep_spec (i := 0) h5r rfl hok ha fun H6 s6 => ⟨_, rfl, s5'.trans s6, br_f (by simp) ?_⟩
  have h6 := h3.up (s5'.trans s6)
  clear h1 h2 h3 h2r h5r h4 hu hv hh r1 r2 r3 hP sL3
  refine ⟨fun n H' => 0 ≤ n ∧ n ≤ I.prt.length ∧ ∃ L, HL.Sub L1 L ∧ HL.Holds (img L m I :: rimgp L r I :: cs) H', fun n _ => (I.prt.length - n).toNat, ⟨Int.le_refl _, by omega, L1, HL.Sub.refl _, h6⟩, ?_⟩
  clear h6 s5' s4 s5 s6
  rintro n H7 ⟨m0, m1, L, sL7, h7⟩
  rw [hsn]
  refine br_intro (fun w => ?_) (fun w => ?_)
  · have w := of_decide_eq_true w
    rw [wrap64_id (n := n + 1) (by omega) (by omega)]
    refine part12_spec h7 hok (fun e => by omega) fun p hid hpt u L8 H8 sL8 hu h8 => ⟨u.id, u.leader, u.epoch, u.version, u.isr, u.replicas, u.adding, u.removing, u.min, true, rfl, ?_⟩
    rw [show n + 1 - 1 = n by omega] at hpt
    have h8 : HL.Holds (img L8 m I :: rimgp L8 r I :: cs) H8 := (h8.swap.head (rimgp_sub sL8)).swap
    obtain ⟨c, hP, sL', hh, r1, r2, r3, n1, n2, n3⟩ := look h8
    have sL1 := (sL7.trans sL8).trans sL'
    obtain ⟨q, o, v, p2, g1, g2, g3, g4⟩ := hps.at_ m0 w
    rw [hpt] at g2
    cases g2
    have g5 := fun f x hx => sL1.cell (g4 f x hx)
    obtain ⟨q2, o2, v2, f1, f2, f3⟩ := r3.at_ ePlen (by decide) (j := n) m0 (by omega)
    have hv2 := hP.2.1 _ _ _ f2 hpt
    refine ⟨q, o, g1, m0, w, v.id, g5 0 _ rfl, v.leader, g5 1 _ rfl, v.epoch, g5 2 _ rfl, v.version, g5 3 _ rfl, v.isr, g5 4 _ rfl, v.replicas, g5 5 _ rfl, v.adding, g5 6 _ rfl, v.removing, g5 7 _ rfl, v.min, g5 8 _ rfl, ?_⟩
    refine ⟨c.ps, hh.cell 0 rfl rfl, q2, o2, f1, m0, by omega, v2.id, f3 0 _ rfl, v2.leader, f3 1 _ rfl, v2.epoch, f3 2 _ rfl, v2.version, f3 3 _ rfl, v2.isr, f3 4 _ rfl, v2.replicas, f3 5 _ rfl, v2.adding, f3 6 _ rfl, v2.removing, f3 7 _ rfl, v2.min, f3 8 _ rfl, ?_⟩
    refine rSame_spec (v := v) (u := v2) (p := p) (q := p) (g3.sub sL1) (hv2.sub sL') ⟨_, rfl, HL.Sub.refl _, ?_⟩
    refine ⟨c.ps, hh.cell 0 rfl rfl, q2, o2, f1, m0, by omega, v2.id, f3 0 _ rfl, v2.leader, f3 1 _ rfl, v2.epoch, f3 2 _ rfl, v2.version, f3 3 _ rfl, v2.isr, f3 4 _ rfl, v2.replicas, f3 5 _ rfl, v2.adding, f3 6 _ rfl, v2.removing, f3 7 _ rfl, v2.min, f3 8 _ rfl, ?_⟩
    refine rSame_spec (v := u) (u := v2) (p := p) (q := p) (hu.sub sL') (hv2.sub sL') ⟨_, rfl, HL.Sub.refl _, br_f rfl (br_f (by rw [sameB_refl]; rfl) (br_f (by rw [sameB_refl]; rfl) ⟨rfl, ⟨by omega, by omega, L8, sL7.trans sL8, h8⟩, by dsimp only; omega⟩))⟩
  have w := of_decide_eq_false w
  refine part12_spec h7 hok (fun _ => ⟨_, _, _, _, ⟨none, 0, 0⟩, ⟨none, 0, 0⟩, ⟨none, 0, 0⟩, ⟨none, 0, 0⟩, _, _, rfl, ?_⟩) fun p hid => by omega
  rw [wrap64_id (n := (I.prt.length : Int) + 1) (by omega) (by omega)]
  refine part12_spec h7 hok (fun _ => ⟨_, _, _, _, ⟨none, 0, 0⟩, ⟨none, 0, 0⟩, ⟨none, 0, 0⟩, ⟨none, 0, 0⟩, _, _, rfl, ?_⟩) fun p hid => by omega
  refine ⟨fun n H' => 0 ≤ n ∧ n ≤ I.top.length ∧ HL.Holds (img L m I :: rimgp L r I :: cs) H', fun n _ => (I.top.length - n).toNat, ⟨Int.le_refl _, by omega, h7⟩, ?_⟩
  clear h7
  rintro n2 H8 ⟨m2, m3, h8⟩
  obtain ⟨c, hP, sL', hh, r1, r2, r3, n1, n2', n3⟩ := look h8
  refine ⟨c.ts, hh.cell 0 rfl rfl, ?_⟩
  rw [n2']
  refine br_intro (fun w => ?_) (fun w => ?_)
  · have w := of_decide_eq_true w
    obtain ⟨q, o, t, g1, g2, g3⟩ := r2.at_ eTlen (by decide) (j := n2) m2 (by omega)
    obtain ⟨-, t1, t2, t3, t4⟩ := hok.topv t (List.mem_of_getElem? g2)
    refine ⟨c.ts, hh.cell 0 rfl rfl, q, o, g1, m2, by omega, _, g3 0 _ rfl, _, g3 1 _ rfl, _, g3 2 _ rfl, ?_⟩
    refine find_spec (i := 0) h8 rfl hok (fun hno => absurd rfl (hno t (List.mem_of_getElem? g2))) fun j t' ht1 ht2 ht3 fl H9 s9 h9 => ⟨fl, rfl, ?_⟩
    have et : t' = t := nodup_first hI.names g2 ht1 ht2
    subst et
    have hfi := own_ints (h9.own 0 rfl) (by rw [List.length_map, List.length_range]; omega)
    have hfl := hfi.len
    rw [List.length_map, List.length_range] at hfl
    obtain ⟨q5, o5, f1, f2, f3, f4⟩ := hfi.at_ (j := 0) (by decide) (by omega)
    refine br_f (by rw [bne_eq_false_iff_eq]; omega) ⟨q5, o5, f1, f2, f3, _, f4, br_f ?_ ?_⟩
    · have e : (idsOf t' t'.2.2.toNat).getD (Int.toNat 0) 0 = t'.2.1 := by
        have : t'.2.2.toNat = (t'.2.2.toNat - 1) + 1 := by omega
        rw [this, idsOf, List.range_succ_eq_map]
        show t'.2.1 + ((0 : Nat) : Int) = _
        omega
      rw [e]; simp
    · rw [wrap64_id (n := n2 + 1) (by omega) (by omega)]
      exact ⟨rfl, ⟨by omega, by omega, h8.up s9⟩, by dsimp only; omega⟩
  clear hh r1 r2 r3 hP sL' c n1 n2' n3
  have w := of_decide_eq_false w
  refine ⟨fun n H' => 0 ≤ n ∧ n ≤ I.brk.length ∧ HL.Holds (img L m I :: rimgp L r I :: cs) H', fun n _ => (I.brk.length - n).toNat, ⟨Int.le_refl _, by omega, h8⟩, ?_⟩
  clear h8
  rintro n3 H9 ⟨m4, m5, h9⟩
  obtain ⟨c, hP, sL', hh, r1, r2, r3, e1, e2, e3⟩ := look h9
  refine ⟨c.bs, hh.cell 0 rfl rfl, ?_⟩
  rw [e1]
  refine br_intro (fun w => ?_) (fun w => ?_)
  · have w := of_decide_eq_true w
    obtain ⟨q, o, b, g1, g2, g3⟩ := r1.at_ eBlen (by decide) (j := n3) m4 (by omega)
    have hl := look_at hok (id := b.1) (x := b.2) g2
    refine ⟨c.bs, hh.cell 0 rfl rfl, q, o, g1, m4, by omega, _, g3 0 _ rfl, life_spec (i := 0) h9 rfl hok ⟨_, _, rfl, ?_⟩⟩
    have hbo : brkOf I.brk b.1 = b.2 := by unfold brkOf; rw [hl]; rfl
    rw [hl, hbo]
    refine br_f rfl ⟨c.bs, hh.cell 0 rfl rfl, q, o, g1, m4, by omega, _, g3 1 _ rfl, br_f (by simp) ?_⟩
    rw [wrap64_id (n := n3 + 1) (by omega) (by omega)]
    exact ⟨rfl, ⟨by omega, by omega, h9⟩, by dsimp only; omega⟩
  · obtain ⟨A', sA', h10⟩ := img_unpack h9
    have h11 := (((h10.pull 2 rfl).head (rimgp_sub sA')).pull 1 rfl)
    exact br_t rfl (k A' H9 (sL.trans (sL7.trans sA')) h11)
end
end Go.Proofs.YtmofinghoacobaaGreatDoor
namespace Go.Proofs.YtmofinghoacobaaGreatDoor
open Go Go.HL
set_option maxHeartbeats 6400000
set_option maxRecDepth 100000
section
variable {cs : List Chunk} {H Lo : Heap} {K : Value → Heap → Prop}
theorem pick12_spec {c n : Int} (hn : n ≠ 0) (k : K (.int .i64 (HL.pickI c n)) H) : FnH Tryz.prog 11 #[.int .i64 c, .int .i64 n] H K := by
  apply logboomlaw12_pick_fn
  exact pick_formula hn k
def rlo (A : Heap) (I : Im) (n : Int) (l1 l2 l3 l4 : Sl) : Chunk := fun H => ∃ vs : List PV, (n = I.app ∧ PsIn A A vs I.prt) ∧ HL.Holds [own 97 3 l1 (I.brk.flatMap eB), own 99 3 l2 (I.top.flatMap eT), own 41 9 l3 (vs.flatMap eP), own 3 1 l4 (iv I.prd)] H
theorem rlend {A : Heap} {I : Im} {n : Int} {l1 l2 l3 l4 : Sl} {q : Nat} (h : HL.Holds (rlo A I n l1 l2 l3 l4 :: cs) H) (hq : H q = none) : HL.Holds (rimgp A q I :: cs) (Heap.upd H q (.cells #[.int .i64 n, .slice l1.p l1.n l1.c, .slice l2.p l2.n l2.c, .slice l3.p l3.n l3.c, .slice l4.p l4.n l4.c] 56 (0, 0))) := by
  have h2 := h.add hq (.cells #[.int .i64 n, .slice l1.p l1.n l1.c, .slice l2.p l2.n l2.c, .slice l3.p l3.n l3.c, .slice l4.p l4.n l4.c] 56 (0, 0))
  obtain ⟨vs, h3⟩ := Holds.ex.1 h2.swap
  obtain ⟨⟨e, hP⟩, h3⟩ := Holds.pure.1 h3
  subst e
  have h4 := Holds.flat.1 h3
  exact Holds.ex.2 ⟨⟨l1, l2, l3, l4, vs, A⟩, Holds.pure.2 ⟨hP, Holds.flat.2 (h4.pull 4 rfl)⟩⟩
theorem rgive {A : Heap} {I : Im} {q : Nat} {X : Int → Sl → Sl → Sl → Sl → Heap → Prop} (h : HL.Holds (rimgp A q I :: cs) H) (k : ∀ n l1 l2 l3 l4 H', HL.Holds (rlo A I n l1 l2 l3 l4 :: cs) H' → X n l1 l2 l3 l4 H') :
    ∃ n : Int, ∃ l1 : Sl, ∃ l2 : Sl, ∃ l3 : Sl, ∃ l4 : Sl, H q = some (.cells #[.int .i64 n, .slice l1.p l1.n l1.c, .slice l2.p l2.n l2.c, .slice l3.p l3.n l3.c, .slice l4.p l4.n l4.c] 56 (0, 0)) ∧ letH (Heap.del H q) fun H' => X n l1 l2 l3 l4 H' := by
  obtain ⟨c, h⟩ := Holds.ex.1 h
  obtain ⟨hP, h⟩ := Holds.pure.1 h
  have h := Holds.flat.1 h
  obtain ⟨g1, g2⟩ := held_undo h
  refine ⟨I.app, c.bs, c.ts, c.ps, c.rs, g1, letH_intro fun H' g => k _ _ _ _ _ H' ?_⟩
  rw [g]
  exact Holds.ex.2 ⟨c.vs, Holds.pure.2 ⟨⟨rfl, hP⟩, Holds.flat.2 g2⟩⟩
theorem fits_spec {m i : Nat} {I : Im} {x0 x1 x2 x3 x4 : Int} {x5 x6 : ByteArray} {x7 : Sl} (h : HL.Holds cs H) (ei : cs[i]? = some (rimg Lo m I)) (hok : ImOk I) (k : ∀ b c d : Int, K (.agg #[.int .i64 x0, .int .i64 x1, .int .i64 b, .int .i64 c, .int .i64 d, .string x5, .string x6, .slice x7.p x7.n x7.c]) H) :
    FnH Tryz.prog 24 #[.pointer (some ⟨m, 0, none⟩), .agg #[.int .i64 x0, .int .i64 x1, .int .i64 x2, .int .i64 x3, .int .i64 x4, .string x5, .string x6, .slice x7.p x7.n x7.c]] H K := by
  apply logboomlaw12_fits_fn
  unfold logboomlaw12_fits_vc
  have hbl := brk_len hok
  have hpl := hok.parts
  obtain ⟨c, hP, hh⟩ := h.read i ei rimg_mono
  have hvl : c.vs.length = I.prt.length := hP.1
  have hR : Recs eB H c.bs I.brk := Own.recs eBlen (by decide) (hh.own 1 rfl) (by omega)
  have hRp : Recs eP H c.ps c.vs := Own.recs ePlen (by decide) (hh.own 3 rfl) (by omega)
  have hn := hR.len
  have hpn := hRp.len
  refine ⟨fun i n1 n2 n3 n4 n5 s1 s2 l1 H' => H' = H ∧ 0 ≤ i ∧ i ≤ c.bs.n ∧ n1 = x0 ∧ n2 = x1 ∧ s1 = x5 ∧ s2 = x6 ∧ l1 = x7, fun i _ _ _ _ _ _ _ _ _ => (c.bs.n - i).toNat, ⟨rfl, Int.le_refl _, by omega, rfl, rfl, rfl, rfl, rfl⟩, ?_⟩
  rintro n n1 n2 n3 n4 n5 s1 s2 l1 H1 ⟨rfl, n0, m1, rfl, rfl, rfl, rfl, rfl⟩
  refine ⟨c.bs, hh.cell 0 rfl rfl, br_intro (fun w => ?_) (fun w => ?_)⟩
  · have w := of_decide_eq_true w
    obtain ⟨q, o, v, e1, e2, e3⟩ := hR.at_ eBlen (by decide) n0 w
    rw [wrap64_id (n := n + 1) (by omega) (by omega)]
    refine ⟨fun _ H' => H' = H1, ⟨c.bs, hh.cell 0 rfl rfl, q, o, e1, n0, w, _, e3 0 _ rfl, br_intro (fun _ => br_intro (fun _ => ⟨rfl, rfl⟩) (fun _ => ⟨rfl, rfl⟩)) (fun _ => ⟨rfl, rfl⟩)⟩, ?_⟩
    rintro b H2 rfl
    refine br_intro (fun _ => ⟨c.bs, hh.cell 0 rfl rfl, q, o, e1, n0, w, _, e3 1 _ rfl, ?_⟩) (fun _ => ?_)
    all_goals
      refine ⟨fun _ H' => H' = H2, ⟨c.bs, hh.cell 0 rfl rfl, q, o, e1, n0, w, _, e3 0 _ rfl, br_intro (fun _ => ⟨rfl, rfl⟩) (fun _ => ⟨rfl, rfl⟩)⟩, ?_⟩
      rintro b H3 rfl
      exact br_intro (fun _ => ⟨c.bs, hh.cell 0 rfl rfl, q, o, e1, n0, w, _, e3 1 _ rfl, rfl, ⟨rfl, by omega, by omega, rfl, rfl, rfl, rfl, rfl⟩, by dsimp only; omega⟩) (fun _ => ⟨rfl, ⟨rfl, by omega, by omega, rfl, rfl, rfl, rfl, rfl⟩, by dsimp only; omega⟩)
  · refine ⟨fun b H' => H' = H1 ∧ (b = true → 1 ≤ n2 ∧ n2 ≤ c.ps.n), br_intro (fun _ => br_intro (fun y => ⟨c.ps, hh.cell 0 rfl rfl, rfl, rfl, fun z => ⟨of_decide_eq_true y, of_decide_eq_true z⟩⟩) (fun _ => ⟨rfl, rfl, fun z => by cases z⟩)) (fun _ => ⟨rfl, rfl, fun z => by cases z⟩), ?_⟩
    rintro b H2 ⟨rfl, hb⟩
    refine br_intro (fun y => ?_) (fun _ => k _ _ _)
    obtain ⟨b1, b2⟩ := hb y
    rw [wrap64_id (n := n2 - 1) (by omega) (by omega)]
    obtain ⟨q, o, v, e1, e2, e3⟩ := hRp.at_ ePlen (by decide) (j := n2 - 1) (by omega) (by omega)
    exact ⟨c.ps, hh.cell 0 rfl rfl, q, o, e1, by omega, by omega, v.id, e3 0 _ rfl, v.leader, e3 1 _ rfl, v.epoch, e3 2 _ rfl, v.version, e3 3 _ rfl, v.isr, e3 4 _ rfl, v.replicas, e3 5 _ rfl, v.adding, e3 6 _ rfl, v.removing, e3 7 _ rfl, v.min, e3 8 _ rfl, HL.Sub.refl _, k _ _ _⟩
end
end Go.Proofs.YtmofinghoacobaaGreatDoor
namespace Go.Proofs.YtmofinghoacobaaGreatDoor
open Go Go.HL
set_option maxHeartbeats 3200000
set_option maxRecDepth 100000
theorem noTups_top (l : List Tp) : noTups (l.flatMap eT) = true := noTups_all fun v hv => by
  obtain ⟨a, -, hv⟩ := List.mem_flatMap.1 hv
  simp only [eT, List.mem_cons, List.not_mem_nil, or_false] at hv
  rcases hv with rfl | rfl | rfl <;> rfl
theorem join_sub {X Y G : Heap} (h1 : HL.Sub X G) (h2 : HL.Sub Y G) : HL.Sub (X.join Y) G := fun b o h => by
  unfold Heap.join at h
  cases e : X b with
  | none => rw [e] at h; exact h2 b o h
  | some x => rw [e] at h; cases h; exact h1 b _ e
section
variable {cs : List Chunk} {H Lo : Heap} {K : Value → Heap → Prop}
theorem mclone_spec {b : Nat} {l : List (Int × Value)} (hm : MapR H b encI l) (h : HL.Holds cs H) (k : ∀ q H', HL.Holds (mp q encI l :: cs) H' → K (.map (some q)) H') : FnH Tryz.prog 64 #[.map (some b)] H K := by
  obtain ⟨_, hb, es, clock, rfl, h2, h3⟩ := hm
  exact FnH.of_alloc (v := fun q => .map (some q)) h (fun R w hf => AnyW.maps_Clone Tryz.cloneA b es clock w (hf.own _ _ hb)) fun q H' hs h' => k q H' (h'.head fun A hA => ⟨_, hA, es, clock, rfl, h2, h3⟩)
theorem tclone_spec {s : Sl} {l : List Tp} (h : HL.Holds cs H) (hl : Recs eT H s l) (hp : s.p = none → l = []) (hb : l.length ≤ 1000) (k : ∀ (r : Sl) H', HL.Holds (own 74 3 r (l.flatMap eT) :: cs) H' → K (.slice r.p r.n r.c) H') : FnH Tryz.prog 65 #[.slice s.p s.n s.c] H K := by
  apply slices_Clone_Lmeta_topic_meta_topic_fn
  unfold slices_Clone_Lmeta_topic_meta_topic_vc
  have hn := hl.len
  refine br_intro (fun q => ?_) (fun q => ?_)
  · have : s.p = none := Option.isNone_iff_eq_none.1 q
    rw [hp this] at k
    exact k ⟨none, 0, 0⟩ H (h.own_nil 74 3)
  · refine h.newS fun q1 H1 s1 h1 => ?_
    have h2 : HL.Holds (own 74 3 ⟨some ⟨q1, 0, none⟩, 0, 0⟩ [] :: cs) H1 := h1.head fun A hA => ⟨rfl, Nat.le_refl _, .inr ⟨q1, #[], rfl, hA, rfl, fun i hi => by simp at hi⟩⟩
    exact Holds.append (s := ⟨some ⟨q1, 0, none⟩, 0, 0⟩) okTop okTop.under h2 (hl.cells.sub s1) (by rw [flat_len eTlen, hn]) (noTups_top _) (by show 0 + s.n ≤ _; omega) fun r H' h' n' => ⟨r, rfl, k r H' h'⟩
theorem pclone_spec {m : Nat} {I : Im} {c : Pc} {X Y : Heap} {cs : List Chunk} (hX : HL.Holds (imgC m I c) X) (hP : PsIn Y Y c.vs I.prt) (hok : ImOk I) (h : HL.Holds (ro Y :: ro X :: cs) H)
    (k : ∀ (s : Sl) ws Y' H', HL.Sub Y Y' → PsIn Y' Y' ws I.prt → HL.Holds (own 41 9 s (ws.flatMap eP) :: ro Y' :: ro X :: cs) H' → K (.slice s.p s.n s.c) H') : FnH Tryz.prog 14 #[.pointer (some ⟨m, 0, none⟩)] H K := by
  apply meta_Image_Parts_fn
  unfold meta_Image_Parts_vc
  have hpl := hok.parts
  have hvl : c.vs.length = I.prt.length := hP.1
  have hR : ∀ {H' : Heap}, HL.Sub X H' → Recs eP H' c.ps c.vs := fun {H'} s => Own.recs ePlen (by decide) ((hX.up s).own 3 rfl) (by omega)
  have sX := h.sub 1 rfl
  have hn : c.ps.n = I.prt.length := by rw [(hR sX).len, hvl]
  refine ⟨c.ps, (hX.up sX).cell 0 rfl rfl, fun l n H' => 0 ≤ n ∧ n ≤ c.ps.n ∧ ∃ (ws : List PV) (A : Heap), HL.Sub Y A ∧ ws.length = n.toNat ∧ (∀ (i : Nat) (v : PV) (p : Part), ws[i]? = some v → I.prt[i]? = some p → PIn A v p) ∧ HL.Holds (own 41 9 l (ws.flatMap eP) :: ro A :: ro X :: cs) H', fun _ n _ => (c.ps.n - n).toNat,
    ⟨Int.le_refl _, by omega, [], Y, HL.Sub.refl _, rfl, fun i v p h => by simp at h, h.own_nil 41 9⟩, ?_⟩
  rintro l n H1 ⟨n0, n1, ws, A, sA, hwl, hw, h2⟩
  have hlR : Recs eP H1 l ws := Own.recs ePlen (by decide) (h2.own 0 rfl) (by omega)
  have hln := hlR.len
  refine br_intro (fun y => ?_) (fun y => ?_)
  · have y := of_decide_eq_true y
    obtain ⟨q, o, v, e1, e2, e3⟩ := (hR (h2.sub 2 rfl)).at_ ePlen (by decide) n0 y
    obtain ⟨p, hpt⟩ : ∃ p, I.prt[n.toNat]? = some p := ⟨_, List.getElem?_eq_getElem (by omega)⟩
    have hv : PIn A v p := (hP.2.1 _ _ _ e2 hpt).sub sA
    have hsm := (hok.right p (List.mem_of_getElem? hpt)).small
    refine ⟨q, o, e1, n0, y, v.id, e3 0 _ rfl, v.leader, e3 1 _ rfl, v.epoch, e3 2 _ rfl, v.version, e3 3 _ rfl, v.isr, e3 4 _ rfl, v.replicas, e3 5 _ rfl, v.adding, e3 6 _ rfl, v.removing, e3 7 _ rfl, v.min, e3 8 _ rfl, ?_⟩
    refine in_store (Q := fun x B' => ∃ w : PV, x = w.val ∧ PIn B' w p) h2.swap (fun B K' s kk => clone_part_spec (hv.sub s) hsm fun w H' s' hw => kk _ H' s' ⟨w, rfl, hw⟩) fun x A' H3 sA' qx h3 => ?_
    obtain ⟨w, rfl, hw'⟩ := qx
    refine ⟨w.id, w.leader, w.epoch, w.version, w.isr, w.replicas, w.adding, w.removing, w.min, rfl, ?_⟩
    rw [wrap64_id (n := n + 1) (by omega) (by omega)]
    refine Holds.push okPart h3.swap (xs := eP w) (m := 1) rfl rfl (by omega) fun l2 H4 h4 n4 => ⟨l2, rfl, rfl, ⟨by omega, by omega, ws ++ [w], A', sA.trans sA', by rw [List.length_append]; show ws.length + 1 = _; omega, fun i v p g1 g2 => ?_, ?_⟩, by dsimp only; omega⟩
    · by_cases e : i < ws.length
      · rw [List.getElem?_append_left e] at g1
        exact (hw i v p g1 g2).sub sA'
      · have hi : i = n.toNat := by
          have := (List.getElem?_eq_some_iff.1 g1).1
          rw [List.length_append] at this
          have h1' : ([w] : List PV).length = 1 := rfl
          omega
        rw [List.getElem?_append_right (by omega), hi, hwl, Nat.sub_self] at g1
        have g1 : w = v := by simpa using g1
        rw [hi, hpt] at g2
        cases g2
        rw [← g1]; exact hw'
    · have ef : ∀ w : PV, ws.flatMap eP ++ eP w = (ws ++ [w]).flatMap eP := fun w => by simp
      rw [ef] at h4
      exact h4
  · have y := of_decide_eq_false y
    exact k l ws A H1 sA ⟨by omega, hw, HL.Sub.refl _⟩ h2
theorem clone_local {A : Heap} {m : Nat} {I : Im} (hok : ImOk I) (h : HL.Holds [imgp A m I, ro A] H)
    (k : ∀ q A' H', HL.Sub A A' → HL.Holds [imgp A' m I, imgp A' q I, ro A'] H' → K (.pointer (some ⟨q, 0, none⟩)) H') : FnH Tryz.prog 29 #[.pointer (some ⟨m, 0, none⟩)] H K := by
  apply meta_Image_Clone_fn
  unfold meta_Image_Clone_vc
  obtain ⟨X, Y, eH, dXY, hX, hY⟩ := h
  obtain ⟨c, ⟨hp, hP⟩, hC⟩ := hX
  have sAY : HL.Sub A Y := HL.Holds.sub (cs := [ro A]) hY 0 rfl
  have h0 : HL.Holds [ro Y, ro X] H := by
    have : HL.Holds [ro X, ro Y] H := ⟨X, Y, eH, dXY, HL.Sub.refl _, HL.Holds.whole Y⟩
    exact this.swap
  have sH : ∀ {G : Heap} {ds : List Chunk} {Y' : Heap}, HL.Sub Y Y' → HL.Sub Y' G → HL.Sub X G → HL.Sub H G := fun s1 s2 s3 => by
    rw [eH]; exact join_sub s3 (s1.trans s2)
  have hh : HL.Holds (imgC m I c) H := hC.up (h0.sub 1 rfl)
  have hpl := hok.parts
  have htl := hok.tops
  have hdl := hok.prds
  refine ⟨_, hh.cell 0 rfl rfl, _, hh.cell 0 rfl rfl, c.ts, hh.cell 0 rfl rfl, c.rs, hh.cell 0 rfl rfl, ?_⟩
  refine mclone_spec (hh.map 1 rfl) h0 fun q1 H1 h1 => ⟨_, rfl, sH (ds := []) (HL.Sub.refl _) (h1.sub 1 rfl) (h1.sub 2 rfl), ?_⟩
  have s1 := sH (ds := []) (HL.Sub.refl _) (h1.sub 1 rfl) (h1.sub 2 rfl)
  have hT : Recs eT H1 c.ts I.top := Own.recs eTlen (by decide) ((hh.up s1).own 2 rfl) (by omega)
  have pnil : ∀ {e sz : Nat} {s : Sl} {vs : List Value} {G : Heap}, Own G e sz s vs → s.p = none → vs = [] := fun {e sz s vs G} ho hn => by
    rcases ho.2.2 with ⟨_, r⟩ | ⟨b, arr, r, _⟩
    · have h1 := ho.1
      have h2 := ho.2.1
      have h3 : s.n = 0 := by omega
      rw [h3, Nat.zero_mul] at h1
      exact List.eq_nil_of_length_eq_zero h1
    · rw [hn] at r; cases r
  refine tclone_spec h1 hT (fun e => ?_) (by omega) fun t2 H2 h2 => ⟨t2, rfl, sH (ds := []) (HL.Sub.refl _) (h2.sub 2 rfl) (h2.sub 3 rfl), ?_⟩
  · have := pnil ((hh.up s1).own 2 rfl) e
    cases hl : I.top with
    | nil => rfl
    | cons a l => rw [hl] at this; simp [eT] at this
  have h2' : HL.Holds [ro Y, ro X, own 74 3 t2 (I.top.flatMap eT), mp q1 encI (bmap c.fs)] H2 := (h2.pull 3 rfl).pull 3 rfl
  refine pclone_spec hC ⟨hP.1, fun i v p a b => (hP.2.1 i v p a b).sub sAY, HL.Sub.refl _⟩ hok h2' fun t3 ws Y' H3 sY hws h3 => ⟨t3, rfl, sH (ds := []) sY (h3.sub 1 rfl) (h3.sub 2 rfl), ?_⟩
  have s3 := sH (ds := []) sY (h3.sub 1 rfl) (h3.sub 2 rfl)
  refine clone_hold (l := I.prd) h3 (own_ints ((hh.up s3).own 4 rfl) (by omega)) (by omega) fun t4 H4 h4 n4 => ⟨t4, rfl, sH (ds := []) sY (h4.sub 2 rfl) (h4.sub 3 rfl), ?_⟩
  refine h4.newS fun q5 H5 s5 h5 => ⟨(sH (ds := []) sY (h4.sub 2 rfl) (h4.sub 3 rfl)).trans s5, k q5 Y' H5 (sAY.trans sY) ?_⟩
  have h6 : HL.Holds ([blk q5 (.cells #[.int .i64 I.app, .map (some q1), .slice t2.p t2.n t2.c, .slice t3.p t3.n t3.c, .slice t4.p t4.n t4.c] 70 (0, 0)), mp q1 encI (bmap c.fs), own 74 3 t2 (I.top.flatMap eT), own 41 9 t3 (ws.flatMap eP), own 3 1 t4 (iv I.prd)] ++ [ro Y', ro X]) H5 := by
    exact ((((((h5.pull 4 rfl).pull 4 rfl).pull 3 rfl).pull 4 rfl).pull 5 rfl).pull 6 rfl).pull 6 rfl
  have h7 : HL.Holds [imgp Y' q5 I, ro Y', ro X] H5 := Holds.ex.2 ⟨⟨q1, c.fs, t2, t3, t4, ws, Y'⟩, Holds.pure.2 ⟨⟨hp, hws⟩, Holds.flat.2 h6⟩⟩
  have h8 : HL.Holds [imgp Y' m I, imgp Y' q5 I, ro Y'] H5 := (h7.pull 2 rfl).head fun G hG => ⟨c, ⟨hp, hws.1 ▸ hP.1, fun i v p a b => ((hP.2.1 i v p a b).sub sAY).sub sY, HL.Sub.refl _⟩, hC.up hG⟩
  exact h8
theorem clone12_spec {A : Heap} {m : Nat} {I : Im} (h : HL.Holds (imgp A m I :: ro A :: cs) H) (hok : ImOk I)
    (k : ∀ q A' H', HL.Sub A A' → HL.Holds (imgp A' m I :: imgp A' q I :: ro A' :: cs) H' → K (.pointer (some ⟨q, 0, none⟩)) H') : FnH Tryz.prog 29 #[.pointer (some ⟨m, 0, none⟩)] H K := by
  have h1 : HL.Holds (HL.Holds [imgp A m I, ro A] :: cs) H := Holds.flat.2 h
  refine FnH.holds (c' := fun v G => ∃ q A', v = .pointer (some ⟨q, 0, none⟩) ∧ HL.Sub A A' ∧ HL.Holds [imgp A' m I, imgp A' q I, ro A'] G) h1 (fun B hB => clone_local hok hB fun q A' H' s h' => ⟨q, A', rfl, s, h'⟩) fun v H' h' => ?_
  obtain ⟨q, h'⟩ := Holds.ex.1 h'
  obtain ⟨A', h'⟩ := Holds.ex.1 h'
  obtain ⟨e, h'⟩ := Holds.pure.1 h'
  obtain ⟨s, h'⟩ := Holds.pure.1 h'
  rw [e]
  exact k q A' H' s (Holds.flat.1 h')
end
end Go.Proofs.YtmofinghoacobaaGreatDoor
