/- The law MetaTopics: partitions are numbered without gaps, each in one topic, with replicas that are up, all different. -/
import Derived.Test.YtmofinghoacobaaGreatDoorBM
namespace Go.Proofs.YtmofinghoacobaaGreatDoor
open Go Go.HL
set_option maxHeartbeats 3200000
set_option maxRecDepth 100000

/-! ### plain laws -/
theorem regI_keys {I : Im} {a N : Int} (h : ∀ x ∈ I.brk, x.1 ≤ N) (ha : a ≤ N) (e : I.prt = []) : (∀ x ∈ (regI I a).brk, x.1 ≤ N) ∧ (regI I a).prt = [] := by
  unfold regI
  split
  · refine ⟨fun x hx => ?_, by show eachP _ I.prt = []; rw [e]; rfl⟩
    rcases insL_keys hx with q | q
    · rw [q]; exact ha
    · exact h x q
  · exact ⟨h, e⟩
theorem registerI_keys {I : Im} {a b N : Int} (h : ∀ x ∈ I.brk, x.1 ≤ N) (ha : a ≤ N) (e : I.prt = []) : (∀ x ∈ (registerI I a b).1.brk, x.1 ≤ N) ∧ (registerI I a b).1.prt = [] := by
  unfold registerI
  split
  · exact ⟨h, e⟩
  split
  · exact ⟨h, e⟩
  · obtain ⟨g1, g2⟩ := regI_keys h ha e
    refine ⟨fun x hx => ?_, g2⟩
    rcases insL_keys hx with q | q
    · rw [q]; exact ha
    · exact g1 x q
theorem turnI_keys {I : Im} {a b N : Int} {up : Bool} (h : ∀ x ∈ I.brk, x.1 ≤ N) (ha : a ≤ N) (e : I.prt = []) : (∀ x ∈ (turnI I a b up).1.brk, x.1 ≤ N) ∧ (turnI I a b up).1.prt = [] := by
  have ins : ∀ v : Int × Bool, ∀ x ∈ insL ltI I.brk a v, x.1 ≤ N := fun v x hx => by
    rcases insL_keys hx with q | q
    · rw [q]; exact ha
    · exact h x q
  unfold turnI
  split
  · exact ⟨h, e⟩
  split
  · exact ⟨h, e⟩
  split
  · exact ⟨h, e⟩
  split
  · exact ⟨h, e⟩
  split
  · exact ⟨ins _, by show eachP _ I.prt = []; rw [e]; rfl⟩
  · exact ⟨ins _, by show eachP _ I.prt = []; rw [e]; rfl⟩
/-- Topics alone: what is so. -/
structure TopS (N : Int) (I : Im) : Prop where
  r : ImR I
  keys : ∀ x ∈ I.brk, x.1 ≤ N
  parts : ∀ p ∈ I.prt, p.leader = p.replicas.headD 0 ∧ ∀ x ∈ p.replicas, x ≤ N
theorem TopS.topic {N : Int} {I : Im} (h : TopS N I) (name : ByteArray) (a b c : Int) : TopS N (topicI I name a b c).1 := by
  refine ⟨(topic_r (kind := 4) h.r name a b c).1, ?_, ?_⟩
  · unfold topicI
    split
    · exact h.keys
    split
    · exact h.keys
    split <;> exact h.keys
  · unfold topicI
    split
    · exact h.parts
    split
    · exact h.parts
    split
    · exact h.parts
    · rename_i h1 h2 h3
      intro p hp
      rcases List.mem_append.1 hp with q | q
      · exact h.parts p q
      · obtain ⟨i, hi, rfl⟩ := List.mem_map.1 q
        refine ⟨rfl, fun x hx => ?_⟩
        have hm := repl_mem (by omega) hx
        obtain ⟨bb, hb⟩ := up_mem.1 hm
        exact h.keys _ hb
theorem len_le {l : List Int} {N : Int} (h0 : 0 ≤ N) (hn : l.Nodup) (h : ∀ x ∈ l, 1 ≤ x ∧ x ≤ N) : (l.length : Int) ≤ N := by
  have := length_le_of_nodup ((List.range N.toNat).map fun i : Nat => (i : Int) + 1) hn fun x hx => by
    have := h x hx
    exact List.mem_map.2 ⟨(x - 1).toNat, List.mem_range.2 (by omega), by omega⟩
  rw [List.length_map, List.length_range] at this
  omega
theorem perm_sum {l m : List Int} (h : l.Perm m) : l.sum = m.sum := by
  induction h with
  | nil => rfl
  | cons x _ ih => simp [ih]
  | swap x y l => simp; omega
  | trans _ _ h1 h2 => exact h1.trans h2
theorem sum_snoc (l : List Int) (x : Int) : (l ++ [x]).sum = l.sum + x := by simp
theorem chain_sum : ∀ {T : List Tp} {a b : Int}, chainT a T b → b = a + (T.map fun t => t.2.2).sum
  | [], a, b, h => by have h : a = b := h; simp [h]
  | t :: T, a, b, h => by
    have := chain_sum h.2
    simp only [List.map_cons, List.sum_cons]
    omega
theorem apply_reg {I : Im} {r : Mt} (h : r.kind = 1) : applyI I r = registerI { I with app := I.app + 1 } r.a r.b := by
  unfold applyI bodyI
  rw [if_pos h]
theorem apply_unf {I : Im} {r : Mt} (h : r.kind = 3) : applyI I r = turnI { I with app := I.app + 1 } r.a r.b true := by
  unfold applyI bodyI
  rw [if_neg (by omega), if_pos (.inr h), decide_eq_true h]
theorem apply_top {I : Im} {r : Mt} (h : r.kind = 4) : applyI I r = topicI { I with app := I.app + 1 } r.name r.a r.b r.c := by
  unfold applyI bodyI
  rw [if_neg (by omega), if_neg (by omega), if_pos h]
def manyOf (T : List Tp) (name : ByteArray) : Int := ((T.find? fun t => decide (t.1 = name)).map fun t => t.2.2).getD 0
theorem manyOf_mem {T : List Tp} (hn : (T.map Prod.fst).Nodup) {t : Tp} (ht : t ∈ T) : manyOf T t.1 = t.2.2 := by
  induction T with
  | nil => cases ht
  | cons a T ih =>
    rw [List.map_cons, List.nodup_cons] at hn
    unfold manyOf
    rw [List.find?_cons]
    rcases List.mem_cons.1 ht with e | e
    · rw [e]; simp
    · have hne : ¬ a.1 = t.1 := fun q => hn.1 (by rw [q]; exact List.mem_map_of_mem e)
      rw [decide_eq_false hne]
      exact ih hn.2 e
theorem sortB_perm (l : List ByteArray) : (sortB l).Perm l := by
  have h := (List.mergeSort_perm (l.map fun x => x.data.toList) (fun x y => decide (x ≤ y))).map fun x : List UInt8 => (⟨x.toArray⟩ : ByteArray)
  rw [List.map_map] at h
  have e : l.map ((fun x : List UInt8 => (⟨x.toArray⟩ : ByteArray)) ∘ fun x => x.data.toList) = l := by
    conv => rhs; rw [← List.map_id l]
    exact List.map_congr_left fun x _ => by simp
  rw [e] at h
  exact h
theorem sortB_lt {l : List ByteArray} (hn : l.Nodup) {i : Nat} {a b : ByteArray} (ha : (sortB l)[i]? = some a) (hb : (sortB l)[i + 1]? = some b) : a.data.toList < b.data.toList := by
  have hp : (sortB l).Pairwise fun x y => x.data.toList ≤ y.data.toList := by
    unfold sortB
    rw [List.pairwise_map]
    refine (List.pairwise_mergeSort (le := fun x y => decide (x ≤ y)) (fun a b c h1 h2 => decide_eq_true (List.le_trans (of_decide_eq_true h1) (of_decide_eq_true h2))) (fun a b => by
      rcases List.le_total a b with q | q
      · simp [q]
      · simp [q]) _).imp fun h => of_decide_eq_true h
  have hnd : (sortB l).Nodup := (sortB_perm l).nodup_iff.2 hn
  obtain ⟨h1, e1⟩ := List.getElem?_eq_some_iff.1 ha
  obtain ⟨h2, e2⟩ := List.getElem?_eq_some_iff.1 hb
  have hle := List.pairwise_iff_getElem.1 hp i (i + 1) h1 h2 (Nat.lt_succ_self i)
  have hne := List.pairwise_iff_getElem.1 (List.nodup_iff_pairwise_ne.1 hnd) i (i + 1) h1 h2 (Nat.lt_succ_self i)
  rw [e1, e2] at hle hne
  rcases List.le_iff_lt_or_eq.1 hle with q | q
  · exact q
  · exact absurd (Go.WideShapes.bytes_inj q) hne
theorem not_leB {a b : ByteArray} (h : a.data.toList < b.data.toList) : (Op.bytesLess b.toList a.toList || b.toList == a.toList) = false := by
  rw [str_eq, Go.Proofs.bytesLess_eq, ByteArray.toList_eq, ByteArray.toList_eq, Bool.or_eq_false_iff]
  exact ⟨decide_eq_false (List.lt_asymm h), decide_eq_false fun e => by rw [e] at h; exact List.lt_irrefl _ h⟩
section
variable {H : Heap} {K : Value → Heap → Prop}
theorem metaTopics_walk {n0 : Int} {s : Sl} {l : List Mr} (hn0 : -9223372036854775808 ≤ n0 ∧ n0 ≤ 9223372036854775807) (hl : Script H s l) (k : ∀ H', HL.Sub H H' → K (.bool true) H') : FnH Tryz.prog 4 #[.int .i64 n0, .slice s.p s.n s.c] H K := by
  apply logboomlaw12_MetaTopics_fn
  unfold logboomlaw12_MetaTopics_vc
  refine shown12 fun H1 s1 => ⟨_, rfl, new12_spec (Holds.whole H1) fun m H2 h2 => ⟨_, rfl, br_f rfl (br_f rfl ?_)⟩⟩
  refine pick_spec (by decide) ⟨_, rfl, ?_⟩
  obtain ⟨d0, d1⟩ := pick_range (c := n0) (n := 7) hn0 (by decide)
  generalize pickI n0 7 = n1 at d0 d1 ⊢
  rw [wrap64_id (n := 1 + n1) (by omega) (by omega)]
  refine ⟨fun id H' => ∃ I : Im, ImR I ∧ (∀ x ∈ I.brk, x.1 ≤ 1 + n1) ∧ I.prt = [] ∧ 1 ≤ id ∧ id ≤ 2 + n1 ∧ I.app = 2 * (id - 1) ∧ HL.Holds [img H1 m I] H', fun id _ => (2 + n1 - id).toNat, ⟨newI, newI_r, by simp [newI], rfl, Int.le_refl _, by omega, rfl, h2⟩, ?_⟩
  rintro id H3 ⟨I, hr, hk, he, i1, i2, happ, h3⟩
  refine br_intro (fun w => ?_) (fun w => ?_)
  · have w := of_decide_eq_true w
    have a1 : applyI I (rM 1 id 1 0) = registerI { I with app := I.app + 1 } id 1 := apply_reg rfl
    refine rec_spec ⟨_, _, _, _, _, _, _, _, rfl, apply_spec (r := rM 1 id 1 0) (s := ⟨none, 0, 0⟩) h3 hr.ok (Ints.nil _) (by omega) fun H4 h4 => ⟨_, _, rfl, ?_⟩⟩
    have r4 := (apply_r hr (rM 1 id 1 0)).1
    have p4 := apply_app I (rM 1 id 1 0)
    rw [a1] at h4 r4 p4
    obtain ⟨k4, e4⟩ := registerI_keys (I := { I with app := I.app + 1 }) (a := id) (b := 1) (N := 1 + n1) hk w he
    revert h4 r4 p4 k4 e4
    generalize (registerI { I with app := I.app + 1 } id 1).1 = J
    intro h4 r4 p4 k4 e4
    have a2 : applyI J (rM 3 id 1 0) = turnI { J with app := J.app + 1 } id 1 true := apply_unf rfl
    refine rec_spec ⟨_, _, _, _, _, _, _, _, rfl, apply_spec (r := rM 3 id 1 0) (s := ⟨none, 0, 0⟩) h4 r4.ok (Ints.nil _) (by omega) fun H5 h5 => ⟨_, _, rfl, ?_⟩⟩
    have r5 := (apply_r r4 (rM 3 id 1 0)).1
    have p5 := apply_app J (rM 3 id 1 0)
    rw [a2] at h5 r5 p5
    obtain ⟨k5, e5⟩ := turnI_keys (I := { J with app := J.app + 1 }) (a := id) (b := 1) (N := 1 + n1) (up := true) k4 w e4
    rw [wrap64_id (n := id + 1) (by omega) (by omega)]
    exact ⟨rfl, ⟨_, r5, k5, e5, by omega, by omega, by omega, h5⟩, by dsimp only; omega⟩
  have w := of_decide_eq_false w
  refine ⟨fun i H' => ∃ I : Im, TopS (1 + n1) I ∧ 0 ≤ i ∧ i ≤ 30 ∧ 0 ≤ I.app ∧ I.app ≤ 20 + i ∧ HL.Holds [img H1 m I] H', fun i _ => (30 - i).toNat, ⟨I, ⟨hr, hk, by simp [he]⟩, Int.le_refl _, by decide, by omega, by omega, h3⟩, ?_⟩
  clear w happ he hk hr h3 h2
  rintro i H4 ⟨J, hJ, i0, i1, a0, a1, h4⟩
  have hlow := img_low (h4.read 0 rfl img_mono)
  refine br_intro (fun w => br_intro (fun w2 => ?_) (fun _ => ?_)) (fun _ => ?_)
  · have w := of_decide_eq_true w
    have w2 := of_decide_eq_true w2
    have t1 : HL.Sub H H4 := s1.trans hlow
    obtain ⟨q, o, r, e1, e2, e3, e4, e5, e6⟩ := hl.at_ i0 w
    have f5 := fun f x hx => t1.cell (e6 f x hx)
    refine ⟨q, o, e1, e4, e5, _, f5 0 _ rfl, _, f5 1 _ rfl, _, f5 2 _ rfl, _, f5 3 _ rfl, _, f5 4 _ rfl, _, f5 5 _ rfl, _, f5 6 _ rfl, r.2, f5 7 _ rfl, ?_⟩
    refine apply_spec (r := { r.1 with kind := 4 }) (s := r.2) h4 hJ.r.ok (e3.list.sub s1) (by omega) fun H5 h5 => ⟨_, _, rfl, ?_⟩
    have p5 := apply_app J { r.1 with kind := 4 }
    have ea : applyI J { r.1 with kind := 4 } = topicI { J with app := J.app + 1 } r.1.name r.1.a r.1.b r.1.c := apply_top rfl
    have hS : TopS (1 + n1) { J with app := J.app + 1 } := ⟨hJ.r.setApp _, hJ.keys, hJ.parts⟩
    have hT := hS.topic r.1.name r.1.a r.1.b r.1.c
    rw [ea] at h5 p5
    rw [wrap64_id (n := i + 1) (by omega) (by omega)]
    exact ⟨rfl, ⟨_, hT, by omega, by omega, by omega, by omega, h5⟩, by dsimp only; omega⟩
  all_goals
    refine parts12_spec h4 hJ.r.ok fun ls Lo1 H5 sL hls h5 => ⟨ls, rfl, ?_⟩
    refine topics12_spec (i := 0) h5 rfl hJ.r.ok fun ns H6 s6 h6 => ⟨ns, rfl, ?_⟩
    have htl := hJ.r.ok.tops
    have hpl := hJ.r.ok.parts
    have hnl : ns.n = J.top.length := by
      have := (h6.own 0 rfl).1
      simp [strsV, sortB_len] at this
      omega
    have hN : ∀ (H' : Heap), HL.Sub H6 H' → ∀ j : Int, 0 ≤ j → j < ns.n → ∃ (q o : Nat) (x : ByteArray), ns.p = some ⟨q, o, none⟩ ∧ (sortB (J.top.map Prod.fst))[j.toNat]? = some x ∧ cellH H' ⟨q, o + j.toNat, none⟩ = some (.string x) := fun H' s' j j0 j1 => by
      obtain ⟨x, hx⟩ : ∃ x, (sortB (J.top.map Prod.fst))[j.toNat]? = some x := ⟨_, List.getElem?_eq_getElem (by rw [sortB_len, List.length_map]; omega)⟩
      obtain ⟨q, o, g1, g2⟩ := (h6.own 0 rfl).cells j.toNat (by simp [strsV, sortB_len]; omega)
      refine ⟨q, o, x, g1, hx, s'.cell ?_⟩
      rw [g2]
      have e : (strsV (sortB (J.top.map Prod.fst)))[j.toNat]? = some (.string x) := by simp [strsV, hx]
      rw [← e, List.getElem?_eq_getElem]
    have hnd : (J.top.map Prod.fst).Nodup := hJ.r.names
    have hbound : ∀ j : Nat, 0 ≤ (((sortB (J.top.map Prod.fst)).take j).map (manyOf J.top)).sum ∧ (((sortB (J.top.map Prod.fst)).take j).map (manyOf J.top)).sum ≤ 16 * j := fun j => by
      have key : ∀ L : List ByteArray, (∀ x ∈ L, 0 ≤ manyOf J.top x ∧ manyOf J.top x ≤ 16) → 0 ≤ (L.map (manyOf J.top)).sum ∧ (L.map (manyOf J.top)).sum ≤ 16 * L.length := fun L => by
        induction L with
        | nil => intro _; simp
        | cons a L ih =>
          intro h
          have h1 := h a (List.mem_cons_self ..)
          have h2 := ih fun x hx => h x (List.mem_cons_of_mem _ hx)
          simp only [List.map_cons, List.sum_cons, List.length_cons]
          omega
      have := key ((sortB (J.top.map Prod.fst)).take j) fun x hx => by
        obtain ⟨t, ht, rfl⟩ := List.mem_map.1 ((sortB_perm _).mem_iff.1 (List.mem_of_mem_take hx))
        rw [manyOf_mem hnd ht]
        have := hJ.r.ok.topv t ht
        omega
      have hlt : ((sortB (J.top.map Prod.fst)).take j).length ≤ j := by rw [List.length_take]; omega
      omega
    refine ⟨fun sum j H' => HL.Sub H6 H' ∧ 0 ≤ j ∧ j ≤ ns.n ∧ sum = (((sortB (J.top.map Prod.fst)).take j.toNat).map (manyOf J.top)).sum, fun _ j _ => (ns.n - j).toNat, ⟨HL.Sub.refl _, Int.le_refl _, by omega, rfl⟩, ?_⟩
    rintro sum j H7 ⟨s7, j0, j1, hsum⟩
    refine br_intro (fun y => ?_) (fun y => ?_)
    · have y := of_decide_eq_true y
      obtain ⟨q, o, x, g1, g2, g3⟩ := hN H7 s7 j j0 y
      obtain ⟨t, ht, hte⟩ := List.mem_map.1 ((sortB_perm _).mem_iff.1 (List.mem_of_getElem? g2))
      obtain ⟨-, -, -, t3, t4⟩ := hJ.r.ok.topv t ht
      refine ⟨q, o, g1, j0, y, x, g3, ?_⟩
      refine find_spec (i := 0) ((h5.up s6).up s7) rfl hJ.r.ok (fun hno => absurd hte (hno t ht)) fun jj t' e1 e2 _ fl H8 s8 h8 => ⟨fl, rfl, ?_⟩
      have hm : manyOf J.top x = t'.2.2 := by rw [← e2]; exact manyOf_mem hnd (List.mem_of_getElem? e1)
      obtain ⟨-, -, -, t3', t4'⟩ := hJ.r.ok.topv t' (List.mem_of_getElem? e1)
      have hfl : ((fl.n : Nat) : Int) = manyOf J.top x := by
        have := (own_ints (h8.own 0 rfl) (by rw [List.length_map, List.length_range]; omega)).len
        rw [List.length_map, List.length_range] at this
        rw [hm]; omega
      have hb := hbound j.toNat
      have hnext : sum + manyOf J.top x = (((sortB (J.top.map Prod.fst)).take (j + 1).toNat).map (manyOf J.top)).sum := by
        rw [take_step j0 g2, List.map_append, List.map_singleton, sum_snoc, hsum]
      rw [hfl, wrap64_id (n := sum + manyOf J.top x) (by omega) (by omega), wrap64_id (n := j + 1) (by omega) (by omega)]
      have s8' := s7.trans s8
      refine br_intro (fun z => ?_) (fun z => ⟨rfl, ⟨s8', by omega, by omega, hnext⟩, by dsimp only; omega⟩)
      have z := of_decide_eq_true z
      rw [wrap64_id (n := j - 1) (by omega) (by omega)]
      obtain ⟨q2, o2, x2, k1, k2, k3⟩ := hN H8 s8' j j0 y
      obtain ⟨q3, o3, x3, m1, m2, m3⟩ := hN H8 s8' (j - 1) (by omega) (by omega)
      refine ⟨q2, o2, k1, j0, y, x2, k3, q3, o3, m1, by omega, by omega, x3, m3, br_f ?_ ⟨rfl, ⟨s8', by omega, by omega, hnext⟩, by dsimp only; omega⟩⟩
      have ej : (j - 1).toNat + 1 = j.toNat := by omega
      exact not_leB (sortB_lt hnd m2 (by rw [ej]; exact k2))
    have y := of_decide_eq_false y
    have hfull : sum = J.prt.length := by
      rw [hsum, List.take_of_length_le (by rw [sortB_len, List.length_map]; omega)]
      have p1 := perm_sum ((sortB_perm (J.top.map Prod.fst)).map (manyOf J.top))
      have p2 : (J.top.map Prod.fst).map (manyOf J.top) = J.top.map fun t => t.2.2 := by
        rw [List.map_map]
        exact List.map_congr_left fun t ht => manyOf_mem hnd ht
      have hcs : (J.prt.length : Int) + 1 = 1 + (J.top.map fun t : Tp => t.2.2).sum := chain_sum hJ.r.chain
      have hcs2 : (J.top.map fun t : Tp => t.2.2).sum = (J.prt.length : Int) := by omega
      rw [p1, p2]
      exact hcs2
    have hlsn := hls.len
    have hls' : PsL H7 ls J.prt := hls.sub (((img_low (h5.read 0 rfl img_mono)).trans s6).trans s7)
    refine ⟨fun next c H' => H' = H7 ∧ 0 ≤ c ∧ c ≤ ls.n ∧ next = c + 1, fun _ c _ => (ls.n - c).toNat, ⟨rfl, Int.le_refl _, by omega, rfl⟩, ?_⟩
    rintro next c H8 ⟨rfl, c0, c1, rfl⟩
    refine br_intro (fun z => ?_) (fun z => ?_)
    · have z := of_decide_eq_true z
      obtain ⟨b, o', v, p, g1, g2, g3, g4⟩ := hls'.at_ c0 (by omega)
      have hpm := List.mem_of_getElem? g2
      have hrp := hJ.r.ok.right p hpm
      obtain ⟨pl, px⟩ := hJ.parts p hpm
      obtain ⟨pn, pr⟩ := ids_iff.1 hrp.replicas
      have hrl := g3.replicas.len
      have hl7 := ids_len hrp.replicas
      have hpos : 0 < p.replicas.length := by have := hrp.fewer; omega
      have hid := hJ.r.idp _ _ g2
      have hlen : (p.replicas.length : Int) ≤ 1 + n1 := len_le (by omega) pn fun x hx => ⟨(pr x hx).1, px x hx⟩
      obtain ⟨q6, o6, f1, f2, f3, f4⟩ := g3.replicas.at_ (j := 0) (by decide) (by omega)
      have eh : p.replicas.getD (Int.toNat 0) 0 = p.replicas.headD 0 := by cases p.replicas <;> rfl
      rw [eh] at f4
      refine ⟨b, o', g1, c0, z, _, g4 0 _ rfl, _, g4 1 _ rfl, _, g4 2 _ rfl, _, g4 3 _ rfl, v.isr, g4 4 _ rfl, v.replicas, g4 5 _ rfl, v.adding, g4 6 _ rfl, v.removing, g4 7 _ rfl, _, g4 8 _ rfl, ?_⟩
      rw [g3.id, g3.leader, wrap64_id (n := c + 1 + 1) (by omega) (by omega), wrap64_id (n := c + 1) (by omega) (by omega)]
      refine br_f (by rw [hid]; have : ((c.toNat : Nat) : Int) + 1 = c + 1 := by omega
                      rw [this]; simp) ⟨q6, o6, f1, f2, f3, _, f4, br_f (by rw [pl]; simp) (br_f (decide_eq_false (by omega)) ?_)⟩
      refine ⟨fun d H' => H' = H8 ∧ 0 ≤ d ∧ d ≤ v.replicas.n, fun d _ => (v.replicas.n - d).toNat, ⟨rfl, Int.le_refl _, by omega⟩, ?_⟩
      rintro d H9 ⟨rfl, y0, y1⟩
      refine br_intro (fun x1 => ?_) (fun _ => ⟨rfl, ⟨rfl, by omega, by omega, rfl⟩, by dsimp only; omega⟩)
      have x1 := of_decide_eq_true x1
      have hcap := g3.replicas.cap
      obtain ⟨q7, o7, a1', a2', a3', a4'⟩ := g3.replicas.at_ y0 x1
      have hm := pr _ (getD_mem (l := p.replicas) y0 (by omega))
      have hm2 := px _ (getD_mem (l := p.replicas) y0 (by omega))
      have hno : decide (p.replicas.getD d.toNat 0 ∈ p.replicas.take d.toNat) = false := decide_eq_false fun q => by
        have hd : d.toNat < p.replicas.length := by omega
        have := List.take_append_drop d.toNat p.replicas
        rw [List.drop_eq_getElem_cons hd] at this
        rw [← this, List.nodup_append] at pn
        refine pn.2.2 _ q _ (List.mem_cons_self ..) ?_
        rw [List.getD_eq_getElem?_getD, List.getElem?_eq_getElem hd]; rfl
      refine ⟨y0, by omega, q7, o7, a1', a2', a3', _, a4', ?_⟩
      rw [wrap64_id (n := d + 1) (by omega) (by omega)]
      refine in_spec (s := v.replicas.upto d 1) (g3.replicas.upto y0 y1) ⟨_, rfl, HL.Sub.refl _, br_f hno ⟨q7, o7, a1', a2', a3', _, a4', br_f (decide_eq_false (by omega)) ⟨q7, o7, a1', a2', a3', _, a4', br_f (decide_eq_false (by omega)) ⟨rfl, ⟨rfl, by omega, by omega⟩, by dsimp only; omega⟩⟩⟩⟩
    · rw [hfull, hlsn]
      refine br_t (by simp) ?_
      rw [decide_eq_true (by omega)]
      exact k H8 ((s1.trans (sL.trans (img_low (h5.read 0 rfl img_mono)))).trans (s6.trans s7))
end
end Go.Proofs.YtmofinghoacobaaGreatDoor
