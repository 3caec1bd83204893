/- What the parts of a decision do: a copy, a leader, a change. -/
import Derived.Test.YtahempkggcbegaaS2
namespace Go.Proofs.Ytahempkggcbegaa
open Go.HL

theorem eqb {a b : Int} : ((a : Int) == b) = decide (a = b) := by rw [Bool.eq_iff_iff]; simp
theorem neb {a b : Int} : ((a : Int) != b) = !decide (a = b) := by rw [Bool.eq_iff_iff]; simp

def sameB (p q : Part) : Bool := decide (p.id = q.id) && decide (p.leader = q.leader) && decide (p.epoch = q.epoch) && decide (p.version = q.version) && decide (p.min = q.min) && decide (p.isr = q.isr) && decide (p.replicas = q.replicas) && decide (p.adding = q.adding) && decide (p.removing = q.removing)
theorem same_spec {H : Heap} {v u : PV} {p q : Part} {K : Value → Heap → Prop} (h : PIn H v p) (g : PIn H u q) (k : K (.bool (sameB p q)) H) : FnH Try.prog 17 #[v.val, u.val] H K := by
  apply reassign_Same_fn
  have no : sameB p q = false → K (.bool false) H := fun e => e ▸ k
  obtain ⟨e1, e2, e3, e4, e5, hi, hr, ha, hm⟩ := h
  obtain ⟨f1, f2, f3, f4, f5, gi, gr, ga, gm⟩ := g
  unfold reassign_Same_vc
  rw [e1, e2, e3, e4, e5, f1, f2, f3, f4, f5, eqb, eqb, eqb, eqb, eqb]
  refine br_intro (fun h1 => ?_) (fun h1 => no (by simp only [sameB, h1, Bool.and_false, Bool.false_and]))
  refine br_intro (fun h2 => ?_) (fun h2 => no (by simp only [sameB, h2, Bool.and_false, Bool.false_and]))
  refine br_intro (fun h3 => ?_) (fun h3 => no (by simp only [sameB, h3, Bool.and_false, Bool.false_and]))
  refine br_intro (fun h4 => ?_) (fun h4 => no (by simp only [sameB, h4, Bool.and_false, Bool.false_and]))
  refine br_intro (fun h5 => ?_) (fun h5 => no (by simp only [sameB, h5, Bool.and_false, Bool.false_and]))
  refine equal_spec hi gi ⟨_, rfl, br_intro (fun h6 => ?_) (fun h6 => no (by simp only [sameB, h6, Bool.and_false, Bool.false_and]))⟩
  refine equal_spec hr gr ⟨_, rfl, br_intro (fun h7 => ?_) (fun h7 => no (by simp only [sameB, h7, Bool.and_false, Bool.false_and]))⟩
  refine equal_spec ha ga ⟨_, rfl, br_intro (fun h8 => ?_) (fun h8 => no (by simp only [sameB, h8, Bool.and_false, Bool.false_and]))⟩
  refine equal_spec hm gm ⟨_, rfl, ?_⟩
  simp only [sameB, h1, h2, h3, h4, h5, h6, h7, h8, Bool.true_and] at k
  exact k

def openB (p : Part) : Bool := decide (0 < p.adding.length + p.removing.length)
theorem open_spec {H : Heap} {v : PV} {p : Part} {K : Value → Heap → Prop} (h : PIn H v p) (hb : p.adding.length ≤ 7 ∧ p.removing.length ≤ 7) (k : K (.bool (openB p)) H) : FnH Try.prog 28 #[v.val] H K := by
  apply reassign_open_fn
  unfold reassign_open_vc
  have n1 := h.adding.len
  have n2 := h.removing.len
  rw [wrap64_id (by omega) (by omega)]
  have : decide (((v.adding.n : Int) + v.removing.n) > 0) = openB p := decide_eq_decide.2 (by omega)
  rw [this]; exact k

def zeroPart : Part := ⟨0, 0, 0, 0, [], [], [], [], 0⟩
def changedP (p : Part) : Part × Int := if p.version + 1 > 1000000000 ∨ p.epoch > 1000000000 then (zeroPart, 20) else ({ p with version := p.version + 1 }, 0)
theorem zero_in (H : Heap) : PIn H ⟨0, 0, 0, 0, ⟨none, 0, 0⟩, ⟨none, 0, 0⟩, ⟨none, 0, 0⟩, ⟨none, 0, 0⟩, 0⟩ zeroPart := ⟨rfl, rfl, rfl, rfl, rfl, Ints.nil _, Ints.nil _, Ints.nil _, Ints.nil _⟩
theorem changed_spec {H : Heap} {v : PV} {p : Part} {K : Value → Heap → Prop} (h : PIn H v p) (hb : 0 ≤ p.version ∧ p.version ≤ 1000000000) (k : ∀ u, PIn H u (changedP p).1 → K (.tuple #[u.val, .int .i64 (changedP p).2]) H) : FnH Try.prog 33 #[v.val] H K := by
  apply reassign_changed_fn
  unfold reassign_changed_vc
  obtain ⟨e1, e2, e3, e4, e5, hi, hr, ha, hm⟩ := h
  rw [e4, wrap64_id (by omega) (by omega)]
  refine br_intro (fun h1 => ?_) (fun h1 => ?_)
  · have h1 := of_decide_eq_true h1
    have hc : p.version + 1 > 1000000000 ∨ p.epoch > 1000000000 := by
      rw [e3] at h1; split at h1 <;> omega
    have := k ⟨0, 0, 0, 0, ⟨none, 0, 0⟩, ⟨none, 0, 0⟩, ⟨none, 0, 0⟩, ⟨none, 0, 0⟩, 0⟩ (by rw [changedP, if_pos hc]; exact zero_in H)
    rw [changedP, if_pos hc] at this
    exact this
  · have h1 := of_decide_eq_false h1
    have hc : ¬ (p.version + 1 > 1000000000 ∨ p.epoch > 1000000000) := by
      rw [e3] at h1; split at h1 <;> omega
    have := k ⟨v.id, v.leader, v.epoch, p.version + 1, v.isr, v.replicas, v.adding, v.removing, v.min⟩ (by rw [changedP, if_neg hc]; exact ⟨e1, e2, e3, rfl, e5, hi, hr, ha, hm⟩)
    rw [changedP, if_neg hc] at this
    exact this

abbrev PV.cells (v : PV) : Array Value := #[.int .i64 v.id, .int .i64 v.leader, .int .i64 v.epoch, .int .i64 v.version, .slice v.isr.p v.isr.n v.isr.c, .slice v.replicas.p v.replicas.n v.replicas.c, .slice v.adding.p v.adding.n v.adding.c, .slice v.removing.p v.removing.n v.removing.c, .int .i64 v.min]
def ledV (v : PV) (n : Int) : PV := if v.leader = n then v else { v with leader := n, epoch := v.epoch + 1 }
def ledP (p : Part) (n : Int) : Part := if p.leader = n then p else { p with leader := n, epoch := p.epoch + 1 }
theorem led_in {H : Heap} {v : PV} {p : Part} (h : PIn H v p) (n : Int) : PIn H (ledV v n) (ledP p n) := by
  obtain ⟨e1, e2, e3, e4, e5, hi, hr, ha, hm⟩ := h
  unfold ledV ledP
  rw [e2]
  split
  · exact ⟨e1, e2, e3, e4, e5, hi, hr, ha, hm⟩
  · exact ⟨e1, rfl, by simp [e3], e4, e5, hi, hr, ha, hm⟩
theorem led_spec {H : Heap} {q T : Nat} {v : PV} {n : Int} {K : Value → Heap → Prop} (hb : 0 ≤ v.epoch ∧ v.epoch ≤ 1000000000) (k : K (.tuple #[]) (H.upd q (.cells (ledV v n).cells T (0, 0)))) :
    FnH Try.prog 34 #[.pointer (some ⟨q, 0, none⟩), .int .i64 n] (H.upd q (.cells v.cells T (0, 0))) K := by
  apply reassign_led_fn
  unfold reassign_led_vc
  have hc := fun o => cellH_eq (o := o) (Heap.upd_same H q (.cells v.cells T (0, 0)))
  refine ⟨v.leader, by rw [hc]; rfl, br_intro (fun h1 => ?_) (fun h1 => ?_)⟩
  · have h1 : ¬ v.leader = n := by simpa using h1
    unfold ledV at k
    rw [if_neg h1] at k
    refine ⟨⟨_, by rw [hc]; rfl⟩, frozenH_eq (Heap.upd_same _ _ _), ?_⟩
    rw [Heap.set_block (Heap.upd_same _ _ _), Heap.upd_upd]
    have hc2 := fun o => cellH_eq (o := o) (Heap.upd_same H q (.cells (v.cells.setIfInBounds (0 + 1) (.int .i64 n)) T (0, 0)))
    refine ⟨v.epoch, by rw [hc2]; rfl, ⟨_, by rw [hc2]; rfl⟩, frozenH_eq (Heap.upd_same _ _ _), ?_⟩
    rw [Heap.set_block (Heap.upd_same _ _ _), Heap.upd_upd, wrap64_id (by omega) (by omega)]
    exact k
  · have h1 : v.leader = n := by simpa using h1
    unfold ledV at k
    rw [if_pos h1] at k
    exact k

/-- The first of some that are in sync and up, but for one; 0: none. -/
def wayL (l isr up : List Int) (but : Int) : Int := ((withL (withL l isr) up).find? fun x => decide (x ≠ but)).getD 0
theorem find_take_next {l : List Int} {but n : Int} (h0 : 0 ≤ n) (h1 : n < l.length) (h : ∀ x ∈ l.take n.toNat, x = but) : ∀ (hx : l.getD n.toNat 0 ≠ but), l.find? (fun x => decide (x ≠ but)) = some (l.getD n.toNat 0) := by
  intro hx
  have hl : n.toNat < l.length := by omega
  have e : l = l.take n.toNat ++ l.getD n.toNat 0 :: l.drop (n.toNat + 1) := by
    have := List.take_append_drop n.toNat l
    rw [List.drop_eq_getElem_cons hl] at this
    simp [List.getD, hl]
  rw [e, List.find?_append]
  have h2 : (l.take n.toNat).find? (fun x => decide (x ≠ but)) = none := by
    rw [List.find?_eq_none]
    intro x hxx; simp [h x hxx]
  rw [h2]
  have hl2 : (l.take n.toNat).length = n.toNat := by simp; omega
  simp only [Option.none_or, List.find?_cons]
  rw [← e]
  simp only [decide_eq_true hx]
theorem way_spec {H : Heap} {s t u : Sl} {l isr up : List Int} {but : Int} {K : Value → Heap → Prop} (hl : Ints H s l) (hi : Ints H t isr) (hu : Ints H u up) (hb : s.n ≤ 1000000)
    (k : ∀ H', HL.Sub H H' → K (.int .i64 (wayL l isr up but)) H') : FnH Try.prog 35 #[.slice s.p s.n s.c, .slice t.p t.n t.c, .slice u.p u.n u.c, .int .i64 but] H K := by
  apply reassign_way_fn
  have n0 := hl.len
  refine with_spec hl hi hb fun r1 H1 s1 g1 => ⟨r1, rfl, ?_⟩
  have n1 := g1.len
  have m1 : (withL l isr).length ≤ l.length := List.length_filter_le _ _
  refine with_spec g1 (hu.sub s1) (by omega) fun r2 H2 s2 g2 => ⟨r2, rfl, ?_⟩
  have n2 := g2.len
  have m2 : (withL (withL l isr) up).length ≤ (withL l isr).length := List.length_filter_le _ _
  have k := k H2 (s1.trans s2)
  unfold wayL at k
  revert k n2 m2 g2
  generalize withL (withL l isr) up = m
  intro g2 n2 m2 k
  refine ⟨fun n H3 => H3 = H2 ∧ 0 ≤ n ∧ n ≤ r2.n ∧ ∀ x ∈ m.take n.toNat, x = but, fun n _ => (r2.n - n).toNat, ⟨rfl, by omega, by omega, by simp⟩, ?_⟩
  rintro n H3 ⟨rfl, h0, h1, h2⟩
  refine br_intro (fun hlt => ?_) (fun hge => ?_)
  · have hlt := of_decide_eq_true hlt
    obtain ⟨b, o, f1, f2, f3, f4⟩ := g2.at_ h0 hlt
    refine ⟨b, o, f1, f2, f3, _, f4, br_intro (fun he => ?_) (fun he => ?_)⟩
    · have he : ¬ m.getD n.toNat 0 = but := by simpa using he
      rw [find_take_next h0 (by omega) h2 he] at k
      exact k
    · have he : m.getD n.toNat 0 = but := by simpa using he
      rw [wrap64_id (by omega) (by omega)]
      refine ⟨rfl, ⟨rfl, by omega, by omega, ?_⟩, by dsimp only; omega⟩
      rw [take_next (d := 0) h0 (by omega)]
      intro x hx
      rcases List.mem_append.1 hx with hx | hx
      · exact h2 x hx
      · simp only [List.mem_singleton] at hx; rw [hx, he]
  · have hge : ¬ n < r2.n := by simpa using hge
    rw [take_all (by omega)] at h2
    have : m.find? (fun x => decide (x ≠ but)) = none := by
      rw [List.find?_eq_none]
      intro x hx; simp [h2 x hx]
    rw [this] at k
    exact k
end Go.Proofs.Ytahempkggcbegaa
