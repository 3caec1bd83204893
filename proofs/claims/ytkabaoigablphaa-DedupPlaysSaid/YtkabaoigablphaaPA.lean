/- Texts of this seat, one behind the other: P4 LDel LLoads P5 P6 P7 P8 P9 LPlays. -/
import Derived.Test.YtkabaoigablphaaP3
import Derived.Test.YtkabaoigablphaaWA
import Derived.Test.YtkabaoigablphaaLOnce
import Derived.Test.YtkabaoigablphaaRA
import Derived.Test.YtkabaoigablphaaSb

/- Chapter 8: the plain law of DedupDeletes: what is kept, and how long it is. -/
namespace Go.Proofs.Ytkabaoigablphaa
open Go Go.HL
set_option maxRecDepth 10000

/-- No list of the table is empty. -/
def NE (T : Tb) : Prop := ∀ k w, lookL T k = some w → w ≠ []
theorem NE.nil : NE [] := fun k w h => by cases h
theorem NE.put {T : Tb} (h : NE T) {k : Int} {v : List Nt} (hv : v ≠ []) : NE (putL T k v) := fun k' w e => by
  rw [lookL_put] at e
  split at e
  · obtain rfl := Option.some.inj e; exact hv
  · exact h k' w e
theorem NE.note {T : Tb} (h : NE T) (base pid epoch seq n : Int) : NE (noteM T base pid epoch seq n) := by
  unfold noteM
  split
  · exact h
  · exact h.put (by simp)
theorem NE.cut {T : Tb} (h : NE T) (hn : (T.map Prod.fst).Nodup) (c : Int) : NE (cutM T c) := fun k w e => by
  unfold cutM at e
  rw [look_fm hn] at e
  obtain ⟨v, h1, h2⟩ := Option.bind_eq_some_iff.1 e
  unfold cutF at h2
  split at h2
  · rename_i q
    obtain rfl := Option.some.inj h2
    intro z
    have z := congrArg List.length z
    have := aheadM_le v c
    simp only [List.length_take, List.length_nil] at z
    omega
  · cases h2
theorem NE.del {T : Tb} (h : NE T) (hn : (T.map Prod.fst).Nodup) (c : Int) : NE (delM T c) := fun k w e => by
  unfold delM at e
  rw [look_fm hn] at e
  obtain ⟨v, h1, h2⟩ := Option.bind_eq_some_iff.1 e
  have hv := h k v h1
  unfold delF at h2
  obtain rfl := Option.some.inj h2
  intro z
  obtain ⟨z1, z2⟩ := List.append_eq_nil_iff.1 z
  by_cases q : v.take (aheadM v c) = []
  · have := List.take_append_drop (aheadM v c) v
    rw [q, z2] at this
    exact hv this.symm
  · exact lat_ne (by decide) q z1
section
variable {l : List Bt} {T Ta Tb' : Tb} {start next i : Int}
theorem DI.cutAt (h : DI l T start next i) {c : Int} (hs : start ≤ c) (hc : c ≤ next) : DI (l.filter fun x => decide (x.base < c)) (cutM T c) start c (i + 1) := by
  have hin : ∀ x ∈ l.filter fun x => decide (x.base < c), x ∈ l := fun x hx => (List.mem_filter.1 hx).1
  refine ⟨by have := h.i0; omega, by have := h.len; have := List.length_filter_le (fun x : Bt => decide (x.base < c)) l; omega, h.st0, hs, by have := h.nx; omega, fun x hx => h.ok x (hin x hx), fun x hx => by simpa using (List.mem_filter.1 hx).2, h.chain.filter _, fm_keys h.keys, fun p => ?_⟩
  obtain ⟨D, S1, S2, e1, e2, hsf, hl⟩ := h.tab p
  have np := h.np p
  rw [e1] at np
  have npS := (List.pairwise_append.1 np).2.1
  refine ⟨D, S1, S2.filter fun x => decide (x.2.2.2 < c), ?_, ?_, hsf, hl⟩
  · rw [← logN_filter, e1, List.filter_append, List.filter_append, List.filter_eq_self.2 (fun x hx => decide_eq_true (by have := hl x (List.mem_append_left _ hx); omega)),
      (List.filter_eq_self (l := S1)).2 (fun x hx => decide_eq_true (by have := hl x (List.mem_append_right _ hx); omega))]
  · have e3 : (lookL (cutM T c) p).getD [] = ((lookL T p).getD []).takeWhile fun x => decide (x.2.2.2 < c) := by
      unfold cutM
      rw [look_fm h.keys]
      cases q : lookL T p with
      | none => rfl
      | some w =>
        show ((if aheadM w c > 0 then some (w.take (aheadM w c)) else none : Option (List Nt))).getD [] = w.takeWhile _
        rw [← take_ahead]
        split
        · rfl
        · rename_i z
          have : aheadM w c = 0 := by omega
          rw [this]; rfl
    rw [e3, e2, takeWhile_filter npS, List.filter_append, (List.filter_eq_self (l := S1)).2 (fun x hx => decide_eq_true (by have := hl x (List.mem_append_right _ hx); omega))]
/-! ### what is kept may be read -/
def Good (x : Nt) : Prop := 1 ≤ x.2.2.1 ∧ x.2.2.1 ≤ 3 ∧ 0 ≤ x.1 ∧ x.1 ≤ 2 ∧ 0 ≤ x.2.1 ∧ x.2.1 ≤ 11 ∧ 0 ≤ x.2.2.2 ∧ x.2.2.2 ≤ 100000
theorem chain_of : ∀ {w : List Nt} {was : Nt}, (∀ x ∈ w, Good x) → w.Pairwise NP → (∀ x ∈ w, was.2.2.2 < x.2.2.2 ∧ was.1 ≤ x.1 ∧ (x.1 = was.1 → was.2.1 + was.2.2.1 ≤ x.2.1)) → Chain was w := by
  intro w
  induction w with
  | nil => intro was _ _ _; trivial
  | cons a w ih =>
    intro was h1 h2 h3
    obtain ⟨p1, p2⟩ := List.pairwise_cons.1 h2
    have g := h1 a List.mem_cons_self
    have b := h3 a List.mem_cons_self
    unfold Good at g
    refine ⟨⟨by omega, by omega, by omega, by omega, by omega, b.1, b.2.1, b.2.2⟩, ih (fun x hx => h1 x (List.mem_cons_of_mem _ hx)) p2 fun x hx => ?_⟩
    have := p1 x hx
    unfold NP at this
    omega
theorem keysOk_of : ∀ {S : Tb} {last : Int}, S.Pairwise (fun p q => p.1 < q.1) → (∀ p ∈ S, last < p.1) → (∀ p ∈ S, p.1 ≤ 3 ∧ p.2 ≠ [] ∧ Chain was0 p.2) → KeysOk last S := by
  intro S
  induction S with
  | nil => intro last _ _ _; trivial
  | cons a S ih =>
    intro last h1 h2 h3
    obtain ⟨p1, p2⟩ := List.pairwise_cons.1 h1
    obtain ⟨c1, c2, c3⟩ := h3 a List.mem_cons_self
    exact ⟨⟨h2 a List.mem_cons_self, by omega, c2, c3⟩, ih p2 p1 fun p hp => h3 p (List.mem_cons_of_mem _ hp)⟩
theorem few_keys : ∀ {S : Tb} {last : Int}, S.Pairwise (fun p q => p.1 < q.1) → (∀ p ∈ S, last < p.1) → (∀ p ∈ S, p.1 ≤ 3) → (S.length : Int) ≤ 3 - last ∨ S = [] := by
  intro S
  induction S with
  | nil => intro last _ _ _; exact .inr rfl
  | cons a S ih =>
    intro last h1 h2 h3
    obtain ⟨p1, p2⟩ := List.pairwise_cons.1 h1
    have a1 := h2 a List.mem_cons_self
    have a2 := h3 a List.mem_cons_self
    refine .inl ?_
    rw [List.length_cons]
    rcases ih p2 p1 fun p hp => h3 p (List.mem_cons_of_mem _ hp) with z | z
    · omega
    · rw [z]; simp; omega
theorem keysS_lt {T : Tb} (hn : (T.map Prod.fst).Nodup) : (keysS T).Pairwise fun a b => a < b := by
  have h1 : (keysS T).Pairwise fun a b => decide (a ≤ b) = true := List.pairwise_mergeSort (fun a b c h1 h2 => decide_eq_true (by have := of_decide_eq_true h1; have := of_decide_eq_true h2; omega)) (fun a b => by rw [Bool.or_eq_true, decide_eq_true_iff, decide_eq_true_iff]; omega) _
  have h2 : (keysS T).Nodup := (keysS_perm T).nodup_iff.2 hn
  have h3 := List.Pairwise.and h1 h2
  exact h3.imp fun ⟨x, y⟩ => by have := of_decide_eq_true x; have : ¬ _ = _ := y; omega
theorem sortT_lt {T : Tb} (hn : (T.map Prod.fst).Nodup) : (sortT T).Pairwise fun p q => p.1 < q.1 := List.pairwise_map.2 (keysS_lt hn)
theorem sortT_mem {T : Tb} {p : Int × List Nt} (h : p ∈ sortT T) : lookL T p.1 = some p.2 := by
  obtain ⟨k, hk, rfl⟩ := List.mem_map.1 h
  obtain ⟨q, hq⟩ := idxL_mem ((keysS_perm T).mem_iff.1 hk)
  show lookL T k = some ((lookL T k).getD [])
  unfold lookL
  rw [hq]; rfl
theorem DI.kept (h : DI l T start next i) (hi : i ≤ 200) (hne : NE T) {p : Int × List Nt} (hp : p ∈ sortT T) : 1 ≤ p.1 ∧ p.1 ≤ 3 ∧ p.2 ≠ [] ∧ Chain was0 p.2 ∧ p.2.length ≤ 200 := by
  have e := sortT_mem hp
  have hn := hne _ _ e
  have hsub : ∀ x ∈ p.2, x ∈ logN p.1 l := fun x hx => h.sub (by rw [e]; exact hx)
  have hg : ∀ x ∈ p.2, Good x := fun x hx => by
    obtain ⟨b, hb, -, rfl⟩ := mem_logN (hsub x hx)
    have o := h.ok b hb
    have := h.lt b hb
    have := h.nx
    have h1 := o.ep0; have h2 := o.ep1; have h3 := o.seq0; have h4 := o.seq1; have h5 := o.n0; have h6 := o.n1; have h7 := o.base0
    unfold Good
    dsimp only [ntOf]
    omega
  obtain ⟨D, S1, S2, e1, e2, -, -⟩ := h.tab p.1
  rw [e] at e2
  have e2 : p.2 = S1 ++ S2 := e2
  have np := h.np p.1
  rw [e1, ← e2] at np
  have hlen : p.2.length ≤ 200 := by
    have h1 : (logN p.1 l).length ≤ l.length := by
      unfold logN; rw [List.length_map]; exact List.length_filter_le _ _
    have h2 := congrArg List.length e1
    rw [← e2, List.length_append] at h2
    have := h.len
    omega
  obtain ⟨x, hx⟩ := List.exists_mem_of_ne_nil _ hn
  obtain ⟨b, hb, hbp, -⟩ := mem_logN (hsub x hx)
  have o := h.ok b hb
  refine ⟨by have := o.pid0; omega, by have := o.pid1; omega, hn, chain_of hg (List.pairwise_append.1 np).2.1 fun x hx => ?_, hlen⟩
  have g := hg x hx
  unfold Good at g
  unfold was0
  dsimp only
  omega
theorem DI.keysOk (h : DI l T start next i) (hi : i ≤ 200) (hne : NE T) : KeysOk 0 (sortT T) :=
  keysOk_of (sortT_lt h.keys) (fun p hp => by have := (h.kept hi hne hp).1; omega) fun p hp => by
    obtain ⟨h1, h2, h3, h4, -⟩ := h.kept hi hne hp
    exact ⟨h2, h3, h4⟩
theorem encL_le (L : List Int) : (encL L).length ≤ 10 * L.length := by
  induction L with
  | nil => exact Nat.le_refl _
  | cons a L ih =>
    rw [encL_cons, List.length_append, List.length_cons]
    have := encN_len a; omega
theorem ntI_len (w : List Nt) : (w.flatMap ntI).length = 4 * w.length := by
  induction w with
  | nil => rfl
  | cons a w ih => rw [List.flatMap_cons, List.length_append, ih, List.length_cons]; show 4 + _ = _; omega
theorem rows_len : ∀ {S : Tb} {n : Nat}, (∀ p ∈ S, p.2.length ≤ n) → (S.flatMap rowI).length ≤ S.length * (2 + 4 * n) := by
  intro S n
  induction S with
  | nil => intro _; simp
  | cons a S ih =>
    intro h
    have h1 := h a List.mem_cons_self
    have h2 := ih fun p hp => h p (List.mem_cons_of_mem _ hp)
    rw [List.flatMap_cons, List.length_append, List.length_cons, Nat.succ_mul]
    have : (rowI a).length = 2 + 4 * a.2.length := by unfold rowI; rw [List.length_append, ntI_len]; rfl
    omega
theorem DI.body (h : DI l T start next i) (hi : i ≤ 200) (hne : NE T) : (encL (bodyI (sortT T))).length ≤ 100000 ∧ (sortT T).length ≤ 3 ∧ ∀ p ∈ sortT T, p.2.length ≤ 200 := by
  have h3 : ∀ p ∈ sortT T, p.2.length ≤ 200 := fun p hp => (h.kept hi hne hp).2.2.2.2
  have h2 : (sortT T).length ≤ 3 := by
    rcases few_keys (last := 0) (sortT_lt h.keys) (fun p hp => by have := (h.kept hi hne hp).1; omega) (fun p hp => (h.kept hi hne hp).2.1) with z | z
    · omega
    · rw [z]; simp
  refine ⟨?_, h2, h3⟩
  have h4 := rows_len h3
  have h5 := encL_le (bodyI (sortT T))
  have h6 : (bodyI (sortT T)).length = ((sortT T).flatMap rowI).length + 1 := rfl
  have h7 : (sortT T).length * (2 + 4 * 200) ≤ 3 * 802 := Nat.mul_le_mul_right _ h2
  omega
theorem DI.wf (h : DI l T start next i) (hi : i ≤ 200) (hne : NE T) : WfT T := fun p hp => by
  have e := look_mem h.keys hp
  have hm : p ∈ sortT T := List.mem_map.2 ⟨p.1, (keysS_perm T).mem_iff.2 (List.mem_map.2 ⟨p, hp, rfl⟩), by rw [e]; rfl⟩
  exact KeysOk.wf (Int.le_refl _) (h.keysOk hi hne) p hm
/-! ### what is kept of the other is no shorter -/
theorem encD_mono : ∀ (f : Nat) {z z' : Nat}, z ≤ z' → (encD f z).length ≤ (encD f z').length := by
  intro f
  induction f with
  | zero => intro z z' _; exact Nat.le_refl _
  | succ f ih =>
    intro z z' h
    have := ih (z := z / 128) (z' := z' / 128) (by omega)
    unfold encD
    split <;> split <;> simp <;> omega
theorem encN_mono {a b : Nat} (h : a ≤ b) : (encN (a : Int)).length ≤ (encN (b : Int)).length := encD_mono 10 (by unfold zigN; rw [if_neg (by omega), if_neg (by omega)]; omega)
theorem rows_mono : ∀ (L : List Int) {f g : Int → List Nt}, (∀ k ∈ L, ∃ D, g k = D ++ f k) → (encL ((L.map fun k => (k, f k)).flatMap rowI)).length ≤ (encL ((L.map fun k => (k, g k)).flatMap rowI)).length := by
  intro L f g
  induction L with
  | nil => intro _; exact Nat.le_refl _
  | cons k L ih =>
    intro h
    have h1 := ih fun k hk => h k (List.mem_cons_of_mem _ hk)
    obtain ⟨D, hD⟩ := h k List.mem_cons_self
    rw [List.map_cons, List.map_cons, List.flatMap_cons, List.flatMap_cons, encL_app, encL_app, List.length_append, List.length_append]
    have e : ∀ w : List Nt, (encL (rowI (k, w))).length = (encN k).length + ((encN (w.length : Int)).length + (encL (w.flatMap ntI)).length) := fun w => by
      have := congrArg List.length (rowI_enc (k, w) [])
      simp only [List.append_nil, List.length_append] at this
      exact this
    rw [e, e, hD, List.flatMap_append, encL_app]
    have := encN_mono (a := (f k).length) (b := (D ++ f k).length) (by rw [List.length_append]; omega)
    have e9 : (encL (D.flatMap ntI) ++ encL ((f k).flatMap ntI)).length = (encL (D.flatMap ntI)).length + (encL ((f k).flatMap ntI)).length := List.length_append
    omega
theorem DI.keyIff (h : DI l T start next i) (hne : NE T) (k : Int) : k ∈ T.map Prod.fst ↔ logN k l ≠ [] := by
  obtain ⟨D, S1, S2, e1, e2, hs, -⟩ := h.tab k
  constructor
  · intro hk
    obtain ⟨q, hq⟩ := idxL_mem hk
    have e : lookL T k = some q.2 := by unfold lookL; rw [hq]; rfl
    have := hne _ _ e
    rw [e] at e2
    have e2 : q.2 = S1 ++ S2 := e2
    rw [e1, ← e2]
    intro z
    exact this (List.append_eq_nil_iff.1 z).2
  · intro hk
    refine Decidable.byContradiction fun hno => ?_
    rw [lookL_none hno] at e2
    have e2 : [] = S1 ++ S2 := e2
    obtain ⟨z1, z2⟩ := List.append_eq_nil_iff.1 e2.symm
    rw [e1, z1, z2] at hk
    subst z1
    rcases hs with z | z | ⟨x, hx, -⟩
    · rw [z] at hk; exact hk rfl
    · simp at z
    · simp at hx
theorem DI.shorter (ha : DI l Ta start next i) (hb : DI l Tb' 0 next i) (na : NE Ta) (nb' : NE Tb') : (keepN (sortT Ta)).length ≤ (keepN (sortT Tb')).length := by
  have hk : keysS Ta = keysS Tb' := by
    refine List.Perm.eq_of_pairwise (le := fun a b : Int => a < b) (fun a b _ _ h1 h2 => by omega) (keysS_lt ha.keys) (keysS_lt hb.keys) ?_
    refine (keysS_perm Ta).trans (List.Perm.trans ?_ (keysS_perm Tb').symm)
    exact (List.perm_ext_iff_of_nodup ha.keys hb.keys).2 fun k => (ha.keyIff na k).trans (hb.keyIff nb' k).symm
  have e : ∀ S : Tb, (keepN S).length = 4 + ((encN (S.length : Int)).length + (encL (S.flatMap rowI)).length) := fun S => by
    unfold keepN
    rw [List.length_append]
    have : bodyI S = (S.length : Int) :: S.flatMap rowI := rfl
    rw [this, encL_cons, List.length_append]; rfl
  rw [e, e]
  have hl : (sortT Ta).length = (sortT Tb').length := by unfold sortT; rw [List.length_map, List.length_map, hk]
  have := rows_mono (keysS Ta) (f := fun k => (lookL Ta k).getD []) (g := fun k => (lookL Tb' k).getD []) fun k _ => by
    obtain ⟨D, S1, S2, e1, e2, -, -⟩ := ha.tab k
    obtain ⟨D', S1', S2', f1, f2, -, f3⟩ := hb.tab k
    have hz : D' ++ S1' = [] := by
      refine List.eq_nil_iff_forall_not_mem.2 fun x hx => ?_
      have h1 := f3 x hx
      have h2 := hb.nb (p := k) (x := x) (by rw [f1, ← List.append_assoc]; exact List.mem_append_left _ hx)
      omega
    obtain ⟨z1, z2⟩ := List.append_eq_nil_iff.1 hz
    refine ⟨D, ?_⟩
    rw [f2, e2, z2, List.nil_append, ← e1, f1, z1, z2]; rfl
  rw [hl]
  unfold sortT
  rw [← hk]
  omega
end
end Go.Proofs.Ytkabaoigablphaa

/- Chapter 8: the law DedupDeletes, walked. -/
namespace Go.Proofs.Ytkabaoigablphaa
open Go Go.HL
set_option maxHeartbeats 1600000
set_option maxRecDepth 10000

/-- A table that is kept may be loaded, and is the same. -/
theorem keepN_nb (S : Tb) : nb (strN (keepN S)) = keepN S := nb_str (keepN_bytes S)
theorem keepN_size (S : Tb) : (strN (keepN S)).size = 4 + (encL (bodyI S)).length := by
  rw [← nb_len, keepN_nb]; unfold keepN; rw [List.length_append]; rfl
theorem keepN_drop (S : Tb) : (keepN S).drop 4 = encL (bodyI S) := rfl
theorem keepN_take (S : Tb) : (keepN S).take 4 = sumN (encL (bodyI S)) := rfl
section
variable {cs : List Chunk} {H : Heap} {K : Value → Heap → Prop}
theorem load_kept {S : Tb} (h : Holds cs H) (hk : KeysOk 0 S) (h1 : (encL (bodyI S)).length ≤ 10000000) (h2 : S.length ≤ 100000000) (h3 : ∀ p ∈ S, p.2.length ≤ 100000000)
    (k : ∀ t H', Holds (tab t S :: cs) H' → K (.tuple #[.pointer (some ⟨t, 0, none⟩), .int .i64 0]) H') : FnH Try.prog 19 #[.string (strN (keepN S))] H K := by
  have hsz := keepN_size S
  have hM : loadM ((nb (strN (keepN S))).drop 4) = some S := by rw [keepN_nb, keepN_drop]; exact loadM_enc hk h3 h2
  refine load_spec h (by omega) (fun q => by omega) (fun _ q => absurd ?_ q) (fun _ _ q => by rw [hM] at q; cases q) fun T _ _ q t H' h' => k t H' ?_
  · rw [keepN_nb, keepN_drop, keepN_take]
  · rw [hM] at q
    obtain rfl := Option.some.inj q
    exact h'
end
theorem deletes_spec {H0 : Heap} {s : Sl} {ops : List Op} {K : Value → Heap → Prop} (hr : Recs eOp H0 s ops) (hb : ∀ o ∈ ops, OpB o) (k : ∀ H', HL.Sub H0 H' → K (.bool true) H') : FnH Try.prog 6 #[.slice s.p s.n s.c] H0 K := by
  apply logboomlaw8_DedupDeletes_fn
  unfold logboomlaw8_DedupDeletes_vc
  have hbig := hr.big
  refine shown_spec (Holds.whole H0) fun H1 h1 => ⟨true, rfl, new_spec h1 fun t H2 h2 => ⟨_, rfl, new_spec h2 fun u H3 h3 => ⟨_, rfl, br_f rfl (br_f rfl (br_f rfl ?_))⟩⟩⟩
  refine ⟨fun start next i H => ∃ (l : List Bt) (Ta Tb' : Tb), Holds [tab t Ta, tab u Tb', ro H0] H ∧ DI l Ta start next i ∧ DI l Tb' 0 next i ∧ NE Ta ∧ NE Tb' ∧ i ≤ 200, fun _ _ i _ => (200 - i).toNat, ⟨[], [], [], h3.swap, DI.init, DI.init, NE.nil, NE.nil, by decide⟩, ?_⟩
  rintro start next i H4 ⟨l, Ta, Tb', h4, hA, hB, na, nb', hi⟩
  have hi0 := hA.i0
  have hst0 := hA.st0
  have hst1 := hA.st1
  have hnx := hA.nx
  have stop : FnH Try.prog 21 #[.pointer (some ⟨t, 0, none⟩)] H4 fun v H18 => ∃ s1 : ByteArray, v = .string s1 ∧ FnH Try.prog 19 #[.string s1] H18 fun v H19 => ∃ p3 : Option Addr, ∃ n29 : Int, v = .tuple #[.pointer p3, .int .i64 n29] ∧ br (!(Option.isNone p3)) (br (n29 == 0) (FnH Try.prog 21 #[.pointer p3] H19 fun v H20 => ∃ s2 : ByteArray, v = .string s2 ∧ FnH Try.prog 21 #[.pointer (some ⟨t, 0, none⟩)] H20 fun v H21 => ∃ s3 : ByteArray, v = .string s3 ∧
      br (s2.toList == s3.toList) (FnH Try.prog 21 #[.pointer (some ⟨t, 0, none⟩)] H21 fun v H22 => ∃ s4 : ByteArray, v = .string s4 ∧ FnH Try.prog 21 #[.pointer (some ⟨u, 0, none⟩)] H22 fun v H23 => ∃ s5 : ByteArray, v = .string s5 ∧ K (.bool (decide ((s4.size : Int) ≤ (s5.size : Int)))) H23) (K (.bool false) H21)) (K (.bool false) H19)) (K (.bool false) H19) := by
    obtain ⟨a1, a2, a3⟩ := hA.body hi na
    obtain ⟨b1, b2, b3⟩ := hB.body hi nb'
    have ka := hA.keysOk hi na
    have wa := hA.wf hi na
    have wb := hB.wf hi nb'
    have hsh := hA.shorter hB na nb'
    have eS := sortT_id ka
    refine keep_spec h4 wa (by omega) fun H5 h5 => ⟨_, rfl, load_kept h5 ka (by omega) (by omega) (fun p hp => by have := a3 p hp; omega) fun v H6 h6 => ⟨_, _, rfl, br_t rfl (br_t rfl ?_)⟩⟩
    refine keep_spec h6 (KeysOk.wf (Int.le_refl _) ka) (by rw [eS]; omega) fun H7 h7 => ⟨_, rfl, keep_spec h7.tail wa (by omega) fun H8 h8 => ⟨_, rfl, br_t (by rw [eS]; simp) ?_⟩⟩
    refine keep_spec h8 wa (by omega) fun H9 h9 => ⟨_, rfl, keep_spec h9.swap wb (by omega) fun H10 h10 => ⟨_, rfl, ?_⟩⟩
    rw [decide_eq_true (by rw [← nb_len, ← nb_len, keepN_nb, keepN_nb]; omega)]
    exact k H10 (h10.sub 2 rfl)
  refine br_intro (fun q1 => br_intro (fun q2 => ?_) (fun q2 => stop)) (fun q1 => stop)
  clear stop
  have q1 := of_decide_eq_true q1
  have q2 := of_decide_eq_true q2
  obtain ⟨b, o, a, e1, e2, e3⟩ := (Recs.mono _ _ (h4.sub 2 rfl) hr).at_ eOplen (by decide) hi0 q1
  have ha := hb a (List.mem_of_getElem? e2)
  rw [wrap64_id (n := i + 1) (by omega) (by omega)]
  refine ⟨b, o, e1, hi0, q1, _, e3 0 _ rfl, _, e3 1 _ rfl, _, e3 2 _ rfl, _, e3 3 _ rfl, _, e3 4 _ rfl, _, e3 5 _ rfl, small_spec ha ⟨_, _, _, _, _, _, rfl, ?_⟩⟩
  have hTa := hA.low (by omega)
  have hTb := hB.low (by omega)
  have eoff : (smallM a).off = a.off := rfl
  refine br_intro (fun w => ?_) (fun w => br_intro (fun w2 => ?_) (fun w2 => ?_))
  · rw [wrap64_id (n := next - start) (by omega) (by omega), wrap64_id (n := next - start + 1) (by omega) (by omega)]
    obtain ⟨k0, k1⟩ := pickI_in (c := a.off) (n := next - start + 1) (by omega) ha.off.1 ha.off.2
    refine pick_spec (by omega) ⟨_, rfl, ?_⟩
    rw [eoff]
    rw [wrap64_id (n := start + pickI a.off (next - start + 1)) (by omega) (by omega)]
    generalize pickI a.off (next - start + 1) = kk at *
    refine cut_spec h4 hTa fun H5 h5 => ⟨rfl, cut_spec h5.swap hTb fun H6 h6 => ⟨rfl, rfl, ⟨_, _, _, h6.swap, hA.cutAt (by omega) (by omega), hB.cutAt (by omega) (by omega), na.cut hA.keys _, nb'.cut hB.keys _, by omega⟩, by dsimp only; omega⟩⟩
  · rw [wrap64_id (n := next - start) (by omega) (by omega), wrap64_id (n := next - start + 1) (by omega) (by omega)]
    obtain ⟨k0, k1⟩ := pickI_in (c := a.off) (n := next - start + 1) (by omega) ha.off.1 ha.off.2
    refine pick_spec (by omega) ⟨_, rfl, ?_⟩
    rw [eoff]
    rw [wrap64_id (n := start + pickI a.off (next - start + 1)) (by omega) (by omega)]
    generalize pickI a.off (next - start + 1) = kk at *
    exact delete_spec h4 hTa fun H5 h5 => ⟨rfl, rfl, ⟨l, _, Tb', h5, hA.del (by omega) (by omega), hB.step, na.del hA.keys _, nb', by omega⟩, by dsimp only; omega⟩
  · obtain ⟨hO, hnI⟩ := small_ok ha next (by omega)
    generalize eB : (⟨next, (smallM a).pid, (smallM a).epoch, (smallM a).seq, (smallM a).n.toNat⟩ : Bt) = B at *
    have b1 : (smallM a).pid = B.pid := by rw [← eB]
    have b2 : (smallM a).epoch = B.epoch := by rw [← eB]
    have b3 : (smallM a).seq = B.seq := by rw [← eB]
    have b4 : (smallM a).n = (B.n : Int) := by rw [← hnI, ← eB]
    have b5 : next = B.base := by rw [← eB]
    rw [b1, b2, b3, b4]
    have hn1 := hO.n1
    refine ask_spec (h4.read 0 rfl tab_mono) hTa ?_
    rw [hA.ask hO]
    refine ⟨_, _, rfl, ask_spec (h4.read 1 rfl tab_mono) hTb ?_⟩
    rw [hB.ask hO]
    refine ⟨_, _, rfl, br_f (by simp) (br_f (by simp) ?_)⟩
    have hbefore := hA.after hO
    generalize (askN (logN B.pid l) B.epoch B.seq B.n).1 = av at *
    generalize (askN (logN B.pid l) B.epoch B.seq B.n).2 = ev at *
    refine ⟨fun b1 H => H = H4 ∧ b1 = (decide (ev = 0) && decide (av < 0)), br_intro (fun z => ⟨rfl, rfl, by rw [decide_eq_true (eq_of_beq z)]; rfl⟩) (fun z => ⟨rfl, rfl, by rw [decide_eq_false (p := ev = 0) (by simpa using z)]; rfl⟩), ?_⟩
    rintro b1 H5 ⟨rfl, eb1⟩
    refine br_intro (fun z => ?_) (fun z => ?_)
    · rw [z] at eb1
      have eb1 := eb1.symm
      simp only [Bool.and_eq_true, decide_eq_true_eq] at eb1
      have hpa := hA.push (by omega) hO b5.symm (hbefore eb1.1 eb1.2)
      have hpb := hB.push (by omega) hO b5.symm (hbefore eb1.1 eb1.2)
      rw [wrap64_id (n := next + (B.n : Int)) (by omega) (by omega), b5]
      have b0 := hO.base0
      have hb2 : B.base ≤ 100000 := by omega
      have p0 := hO.pid0; have p1 := hO.pid1; have p2 := hO.ep0; have p3 := hO.ep1; have p4 := hO.seq0; have p5 := hO.seq1; have p6 := hO.n0
      refine batch_spec h4 (by omega) fun q H6 h6 => ⟨_, _, _, _, _, ⟨some ⟨q, 0, none⟩, B.n, B.n⟩, rfl, ?_⟩
      refine note_zero (b := B) h6.swap hTa b0 hb2 (by omega) (by omega) (by omega) (by omega) (by omega) (by omega) (by omega) (by omega) fun H7 h7 => ⟨rfl, ?_⟩
      refine batch_spec h7 (by omega) fun q2 H8 h8 => ⟨_, _, _, _, _, ⟨some ⟨q2, 0, none⟩, B.n, B.n⟩, rfl, ?_⟩
      refine note_zero (b := B) (h8.pull 2 rfl) hTb b0 hb2 (by omega) (by omega) (by omega) (by omega) (by omega) (by omega) (by omega) (by omega) fun H9 h9 => ⟨rfl, rfl, ⟨l ++ [B], _, _, h9.swap, ?_, ?_, na.note _ _ _ _ _, nb'.note _ _ _ _ _, by omega⟩, by dsimp only; omega⟩
      · rw [← b5] at hpa ⊢; exact hpa
      · rw [← b5] at hpb ⊢; exact hpb
    · exact ⟨rfl, ⟨l, Ta, Tb', h4, hA.step, hB.step, na, nb', by omega⟩, by dsimp only; omega⟩
end Go.Proofs.Ytkabaoigablphaa

/- Chapter 8: the law DedupLoads, walked. -/
namespace Go.Proofs.Ytkabaoigablphaa
open Go Go.HL
set_option maxRecDepth 10000
set_option maxHeartbeats 1600000

theorem keepN_nb2 (S : Tb) : nb (strN (keepN S)) = keepN S := nb_str (keepN_bytes S)
theorem ntI_len2 (w : List Nt) : (w.flatMap ntI).length = 4 * w.length := by
  induction w with
  | nil => rfl
  | cons a w ih => rw [List.flatMap_cons, List.length_append, ih, List.length_cons]; show 4 + _ = _; omega
/-! ### the document's bytes of a table in rows -/
theorem ofP_flat : ∀ {S : Tb} {k : Int}, (S.map Prod.fst).Nodup → ofP (flatT S) k = ((lookL S k).getD []).map fun x => (k, x) := by
  intro S k
  induction S with
  | nil => intro _; rfl
  | cons p S ih =>
    intro hn
    obtain ⟨n1, n2⟩ := List.nodup_cons.1 hn
    have e0 : flatT (p :: S) = p.2.map (fun x => (p.1, x)) ++ flatT S := by simp [flatT]
    unfold ofP at ih ⊢
    rw [e0, List.filter_append, ih n2]
    by_cases c : p.1 = k
    · subst c
      have hno : lookL S p.1 = none := lookL_none n1
      have hl : lookL (p :: S) p.1 = some p.2 := by unfold lookL idxL; rw [if_pos rfl]; rfl
      rw [hno, hl]
      rw [List.filter_eq_self.2 (fun m hm => by obtain ⟨x, _, rfl⟩ := List.mem_map.1 hm; simp)]
      simp
    · have hl : lookL (p :: S) k = lookL S k := by
        unfold lookL
        have : idxL (p :: S) k = (idxL S k).map fun q => (q.1 + 1, q.2) := by
          show (if k = p.1 then _ else _) = _
          rw [if_neg (fun e => c e.symm)]
        rw [this]
        cases idxL S k <;> rfl
      rw [hl, List.filter_eq_nil_iff.2 (fun m hm => by obtain ⟨x, _, rfl⟩ := List.mem_map.1 hm; simpa using c)]
      rfl
theorem keepS_same (L0 : List Mk) (k : Int) : ∀ (w : List Nt) (R : List Mk), keepS L0 (some k) (w.map (fun x => (k, x)) ++ R) = w.flatMap ntI ++ keepS L0 (some k) R ∧ startS (some k) (w.map (fun x => (k, x)) ++ R) = startS (some k) R := by
  intro w R
  induction w with
  | nil => exact ⟨rfl, rfl⟩
  | cons x w ih =>
    constructor
    · show (if some k = some k then _ else _) ++ (ntI x ++ keepS L0 (some k) (w.map (fun x => (k, x)) ++ R)) = _
      rw [if_pos rfl, ih.1]; simp
    · show (if some k = some k then 0 else 1) + startS (some k) (w.map (fun x => (k, x)) ++ R) = _
      rw [if_pos rfl, ih.2]; omega
theorem keepS_flat (L0 : List Mk) : ∀ (S : Tb) (prev : Option Int), (∀ k, prev = some k → ∀ p ∈ S, p.1 ≠ k) → (S.map Prod.fst).Nodup → (∀ p ∈ S, p.2 ≠ []) → (∀ p ∈ S, (ofP L0 p.1).length = p.2.length) → keepS L0 prev (flatT S) = S.flatMap rowI ∧ startS prev (flatT S) = S.length := by
  intro S
  induction S with
  | nil => intro prev _ _ _ _; exact ⟨rfl, rfl⟩
  | cons p S ih =>
    intro prev h1 h2 h3 h4
    obtain ⟨n1, n2⟩ := List.nodup_cons.1 h2
    obtain ⟨i1, i2⟩ := ih (some p.1) (fun k e q hq z => n1 (by obtain rfl := Option.some.inj e; rw [← z]; exact List.mem_map.2 ⟨q, hq, rfl⟩)) n2 (fun q hq => h3 q (List.mem_cons_of_mem _ hq)) (fun q hq => h4 q (List.mem_cons_of_mem _ hq))
    have hp := h3 p List.mem_cons_self
    have hc := h4 p List.mem_cons_self
    have hprev : ¬ prev = some p.1 := fun e => h1 p.1 e p List.mem_cons_self rfl
    obtain ⟨k, w⟩ := p
    cases w with
    | nil => exact absurd rfl hp
    | cons x w =>
      have e0 : flatT ((k, x :: w) :: S) = (k, x) :: (w.map (fun x => (k, x)) ++ flatT S) := by simp [flatT]
      obtain ⟨j1, j2⟩ := keepS_same L0 k w (flatT S)
      rw [e0]
      constructor
      · show (if prev = some k then _ else _) ++ (ntI x ++ keepS L0 (some k) (w.map (fun x => (k, x)) ++ flatT S)) = _
        rw [if_neg hprev, j1, i1, hc]
        simp [rowI]
      · show (if prev = some k then 0 else 1) + startS (some k) (w.map (fun x => (k, x)) ++ flatT S) = _
        rw [if_neg hprev, j2, i2, List.length_cons]; omega
theorem keep_flat {S : Tb} (hn : (S.map Prod.fst).Nodup) (hne : ∀ p ∈ S, p.2 ≠ []) : keepS (flatT S) none (flatT S) = S.flatMap rowI ∧ startS none (flatT S) = S.length := by
  refine keepS_flat (flatT S) S none (fun k e => by cases e) hn hne fun p hp => ?_
  rw [ofP_flat hn, List.length_map, (lookL_iff hn (k := p.1) (v := p.2)).2 hp]; rfl
theorem flatT_len (S : Tb) : (flatT S).length ≤ (S.flatMap rowI).length := by
  induction S with
  | nil => exact Nat.le_refl _
  | cons p S ih =>
    have e0 : flatT (p :: S) = p.2.map (fun x => (p.1, x)) ++ flatT S := by simp [flatT]
    rw [e0, List.flatMap_cons, List.length_append, List.length_append, List.length_map]
    have : (rowI p).length = 2 + 4 * p.2.length := by unfold rowI; rw [List.length_append, ntI_len2]; rfl
    omega
section
variable {cs : List Chunk} {H : Heap} {K : Value → Heap → Prop}
theorem rkeep_flat {t : Nat} {S : Tb} {i : Nat} (h : Holds cs H) (ei : cs[i]? = some (rtab t (flatT S))) (hn : (S.map Prod.fst).Nodup) (hne : ∀ p ∈ S, p.2 ≠ []) (wf : WfT S) (hb : (encL (bodyI S)).length ≤ 100000000) (k : ∀ H', HL.Sub H H' → K (.string (strN (keepN S))) H') :
    FnH Try.prog 22 #[.pointer (some ⟨t, 0, none⟩)] H K := by
  obtain ⟨k1, k2⟩ := keep_flat hn hne
  have h1 := encL_len (bodyI S)
  have h2 := flatT_len S
  have h3 : (bodyI S).length = (S.flatMap rowI).length + 1 := rfl
  have eb : encL ((startS none (flatT S) : Int) :: keepS (flatT S) none (flatT S)) = encL (bodyI S) := by rw [k1, k2]; rfl
  refine rkeep_spec h ei (by omega) (fun m hm => ?_) (by rw [eb]; exact hb) fun H' s => ?_
  · obtain ⟨p, hp, hm2⟩ := List.mem_flatMap.1 hm
    obtain ⟨x, hx, rfl⟩ := List.mem_map.1 hm2
    exact ⟨(wf p hp).1, (wf p hp).2 x hx⟩
  · rw [eb]; exact k H' s
end
/-- What was read as a table is that table's bytes. -/
theorem load_bytes {s : ByteArray} {T : Tb} (h1 : ¬ s.size < 4) (h2 : sumN ((nb s).drop 4) = (nb s).take 4) (h3 : loadM ((nb s).drop 4) = some T) : strN (keepN T) = s ∧ KeysOk 0 T ∧ (encL (bodyI T)).length + 4 = s.size := by
  obtain ⟨e1, e2⟩ := loadM_ok (fun b hb => nb_byte s b (List.mem_of_mem_drop hb)) h3
  have e3 : keepN T = nb s := by
    unfold keepN
    rw [← e1, h2, List.take_append_drop]
  refine ⟨nb_inj (by rw [keepN_nb2, e3]), e2, ?_⟩
  rw [← e1, List.length_drop, nb_len]; omega
theorem KeysOk.ne : ∀ {T : Tb} {last : Int}, KeysOk last T → ∀ p ∈ T, p.2 ≠ [] := by
  intro T
  induction T with
  | nil => intro last _ p hp; simp at hp
  | cons a T ih =>
    intro last h p hp
    rcases List.mem_cons.1 hp with rfl | hp
    · exact h.1.2.2.1
    · exact ih h.2 p hp
theorem loads_spec {H0 : Heap} {s : ByteArray} {K : Value → Heap → Prop} (k : ∀ H', HL.Sub H0 H' → K (.bool true) H') : FnH Try.prog 4 #[.string s] H0 K := by
  apply logboomlaw8_DedupLoads_fn
  unfold logboomlaw8_DedupLoads_vc
  refine shown_spec (Holds.whole H0) fun H1 h1 => ⟨true, rfl, br_intro (fun q => k H1 (h1.sub 0 rfl)) (fun q => ?_)⟩
  have q := of_decide_eq_false q
  have hc : crcN (nb s) < 4294967296 := crcN_lt _ (nb_byte s)
  refine rcrc_spec (by omega) ⟨_, rfl, four_spec hc fun H3 s3 => ⟨_, rfl, ?_, ?_⟩⟩
  · have : (strN (fourN (crcN (nb s)))).size = 4 := by rw [← nb_len, nb_str (fourN_bytes _)]; rfl
    omega
  have h3 : Holds [ro H0] H3 := h1.up s3
  have hsz2 : (strN (fourN (crcN (nb s))) ++ s).size ≤ 20004 := by
    rw [ByteArray.size_append]
    have : (strN (fourN (crcN (nb s)))).size = 4 := by rw [← nb_len, nb_str (fourN_bytes _)]; rfl
    omega
  generalize strN (fourN (crcN (nb s))) ++ s = s' at *
  refine h3.new fun w H4 h4 => ?_
  refine ⟨fun i H => 0 ≤ i ∧ i ≤ 2 ∧ Holds [blk w (.cells #[.string s, .string s'] 9 (0, 0)), ro H0] H, fun i _ => (2 - i).toNat, ⟨Int.le_refl _, by decide, h4⟩, ?_⟩
  rintro i H5 ⟨i0, i1, h5⟩
  refine br_intro (fun c => ?_) (fun c => k H5 (h5.sub 1 rfl))
  have c := of_decide_eq_true c
  rw [wrap64_id (n := i + 1) (by omega) (by omega)]
  obtain ⟨x, hx, hcell⟩ : ∃ x : ByteArray, x.size ≤ 20004 ∧ ∀ H, Holds [blk w (.cells #[.string s, .string s'] 9 (0, 0)), ro H0] H → cellH H ⟨w, 0 + Int.toNat i, none⟩ = some (.string x) := by
    have z : i = 0 ∨ i = 1 := by omega
    rcases z with rfl | rfl
    · exact ⟨s, by omega, fun H h => h.cell 0 rfl rfl⟩
    · exact ⟨s', hsz2, fun H h => h.cell 0 rfl rfl⟩
  refine ⟨w, 0, rfl, i0, by omega, x, hcell H5 h5, ?_⟩
  have same : ∀ (e : Int), e ≠ 0 → ∀ H7, Holds [blk w (.cells #[.string s, .string s'] 9 (0, 0)), ro H0] H7 → ∀ {X : Prop} {Y : Prop} {Z : Prop} {U : Prop}, Z → br (e != e) X (br (!((Option.isNone (none : Option Addr)) == (e != 0))) Y (br (e == 0) U Z)) := fun e he H7 h7 X Y Z U hz => by
    refine br_f (by simp) (br_f ?_ (br_f (by simpa using he) hz))
    have : (e != 0) = true := by simpa using he
    rw [this]; rfl
  refine load_spec h5 (by omega) (fun z1 => ?_) (fun z1 z2 H6 h6 => ?_) (fun z1 z2 z3 H6 h6 => ?_) (fun T z1 z2 z3 t H6 h6 => ?_)
  · refine ⟨none, _, rfl, w, 0, rfl, i0, by omega, x, hcell H5 h5, ?_⟩
    refine rload_spec h5 (by omega) (fun _ => ⟨none, _, rfl, same 5 (by decide) H5 h5 ⟨rfl, ⟨by omega, by omega, h5⟩, by dsimp only; omega⟩⟩) (fun y1 => absurd z1 y1) (fun y1 => absurd z1 y1) (fun _ y1 => absurd z1 y1)
  · refine ⟨none, _, rfl, w, 0, rfl, i0, by omega, x, hcell H6 h6, ?_⟩
    refine rload_spec h6 (by omega) (fun y1 => absurd y1 z1) (fun _ _ H7 h7 => ⟨none, _, rfl, same 6 (by decide) H7 h7 ⟨rfl, ⟨by omega, by omega, h7⟩, by dsimp only; omega⟩⟩) (fun _ y2 => absurd y2 z2) (fun _ _ y2 => absurd y2 z2)
  · refine ⟨none, _, rfl, w, 0, rfl, i0, by omega, x, hcell H6 h6, ?_⟩
    refine rload_spec h6 (by omega) (fun y1 => absurd y1 z1) (fun _ y2 => absurd z2 y2) (fun _ _ _ H7 h7 => ⟨none, _, rfl, same 4 (by decide) H7 h7 ⟨rfl, ⟨by omega, by omega, h7⟩, by dsimp only; omega⟩⟩) (fun _ _ _ y3 => by rw [z3] at y3; cases y3)
  · refine ⟨some ⟨t, 0, none⟩, _, rfl, w, 0, rfl, i0, by omega, x, hcell H6 h6.tail, ?_⟩
    refine rload_spec h6 (by omega) (fun y1 => absurd y1 z1) (fun _ y2 => absurd z2 y2) (fun _ _ y3 => by rw [z3] at y3; cases y3) (fun T2 _ _ y3 u H7 h7 => ?_)
    rw [z3] at y3
    obtain rfl := Option.some.inj y3
    obtain ⟨b1, b2, b3⟩ := load_bytes z1 z2 z3
    have wf := KeysOk.wf (Int.le_refl _) b2
    refine ⟨some ⟨u, 0, none⟩, _, rfl, br_f (by simp) (br_f rfl (br_t rfl ⟨w, 0, rfl, i0, by omega, x, hcell H7 h7.tail.tail, ?_⟩))⟩
    have eS := sortT_id b2
    refine keepR_spec (h7.read 1 rfl tab_mono) wf (by rw [eS]; omega) fun H8 s8 => ⟨_, rfl, s8, ?_⟩
    rw [eS, str_eq, b1]
    refine br_f (by simp) ⟨w, 0, rfl, i0, by omega, x, hcell H7 h7.tail.tail, ?_⟩
    refine rkeep_flat (Holds.up s8 h7) (i := 0) rfl b2.keys b2.ne wf (by omega) fun H9 s9 => ⟨_, rfl, s8.trans s9, ?_⟩
    rw [str_eq, b1]
    refine br_f (by simp) ⟨rfl, ⟨by omega, by omega, Holds.up (s8.trans s9) h7.tail.tail⟩, by dsimp only; omega⟩
end Go.Proofs.Ytkabaoigablphaa

/- Chapter 8: the plain law of DedupPlays: a table in rows, and the document's. -/
namespace Go.Proofs.Ytkabaoigablphaa
open Go Go.HL
set_option maxRecDepth 10000

theorem look_in {T : Tb} {k : Int} {w : List Nt} (h : lookL T k = some w) : (k, w) ∈ T := by
  obtain ⟨q, hq⟩ := lookL_idx h
  exact List.mem_of_getElem? (idxL_get hq)
theorem sortT_perm {T : Tb} (hn : (T.map Prod.fst).Nodup) : (sortT T).Perm T := by
  have h1 : (sortT T).Perm ((T.map Prod.fst).map fun k => (k, (lookL T k).getD [])) := (keysS_perm T).map _
  refine h1.trans ?_
  rw [List.map_map]
  have : T.map ((fun k => (k, (lookL T k).getD [])) ∘ Prod.fst) = T := by
    refine (List.map_congr_left fun p hp => ?_).trans (List.map_id _)
    show (p.1, (lookL T p.1).getD []) = p
    rw [look_mem hn hp]; rfl
  rw [this]
theorem sortT_eq {T S : Tb} (hn : (T.map Prod.fst).Nodup) (hp : S.Perm T) (hs : S.Pairwise fun p q => p.1 < q.1) : sortT T = S := by
  refine List.Perm.eq_of_pairwise (le := fun p q : Int × List Nt => p.1 < q.1) (fun a b _ _ h1 h2 => by omega) (sortT_lt hn) hs ?_
  exact (sortT_perm hn).trans hp.symm
theorem fm_sorted {f : Int → List Nt → Option (List Nt)} {S : Tb} (h : S.Pairwise fun p q => p.1 < q.1) : (S.filterMap fun p => (f p.1 p.2).map fun v => (p.1, v)).Pairwise fun p q => p.1 < q.1 := by
  refine List.Pairwise.filterMap _ (fun a a' hlt b hb b' hb' => ?_) h
  obtain ⟨v, _, rfl⟩ := Option.map_eq_some_iff.1 hb
  obtain ⟨v', _, rfl⟩ := Option.map_eq_some_iff.1 hb'
  exact hlt
theorem sortT_fm {f : Int → List Nt → Option (List Nt)} {T : Tb} (hn : (T.map Prod.fst).Nodup) : sortT (T.filterMap fun p => (f p.1 p.2).map fun v => (p.1, v)) = (sortT T).filterMap fun p => (f p.1 p.2).map fun v => (p.1, v) :=
  sortT_eq (fm_keys hn) ((sortT_perm hn).filterMap _) (fm_sorted (sortT_lt hn))
theorem flatT_cons (p : Int × List Nt) (S : Tb) : flatT (p :: S) = p.2.map (fun x => (p.1, x)) ++ flatT S := by simp [flatT]
/-! ### Cut -/
def OffUp (w : List Nt) : Prop := w.Pairwise fun x y => x.2.2.2 < y.2.2.2
theorem tw_filter {c : Int} : ∀ {w : List Nt}, OffUp w → (w.takeWhile fun x => decide (x.2.2.2 < c)) = w.filter fun x => decide (x.2.2.2 < c) := by
  intro w
  induction w with
  | nil => intro _; rfl
  | cons a w ih =>
    intro h
    obtain ⟨h1, h2⟩ := List.pairwise_cons.1 h
    rw [List.takeWhile_cons, List.filter_cons]
    split
    · rw [ih h2]
    · rename_i c'
      have c' : ¬ a.2.2.2 < c := by simpa using c'
      rw [List.filter_eq_nil_iff.2 (fun x hx => by have := h1 x hx; simp; omega)]
theorem cutM_flat {c : Int} : ∀ {S : Tb}, (∀ p ∈ S, OffUp p.2) → flatT (cutM S c) = (flatT S).filter fun m => decide (m.2.2.2.2 < c) := by
  intro S
  induction S with
  | nil => intro _; rfl
  | cons p S ih =>
    intro h
    have ih := ih fun q hq => h q (List.mem_cons_of_mem _ hq)
    have hp := h p List.mem_cons_self
    rw [flatT_cons, List.filter_append, ← ih, List.filter_map]
    have e : (p.2.filter ((fun m : Mk => decide (m.2.2.2.2 < c)) ∘ fun x => (p.1, x))) = p.2.take (aheadM p.2 c) := by
      rw [take_ahead, tw_filter hp]; rfl
    rw [e]
    unfold cutM
    rw [List.filterMap_cons]
    unfold cutF
    split
    · rename_i e2
      have e2 : aheadM p.2 c = 0 := by
        have := Option.map_eq_none_iff.1 e2
        split at this
        · cases this
        · omega
      rw [e2]; rfl
    · rename_i b e2
      obtain ⟨v, e3, rfl⟩ := Option.map_eq_some_iff.1 e2
      split at e3
      · obtain rfl := Option.some.inj e3
        rw [flatT_cons]
      · cases e3
/-! ### Delete -/
def delG (c : Int) : List Nt → List Nt
  | [] => []
  | x :: w => if (decide (x.2.2.2 ≥ c) || ((w.filter fun y => decide (y.2.2.2 < c)).all (fun y => decide (y.1 = x.1)) && decide ((w.filter fun y => decide (y.2.2.2 < c)).length < 5))) = true then x :: delG c w else delG c w
theorem delG_cons (c : Int) (x : Nt) (w : List Nt) : delG c (x :: w) = if (decide (x.2.2.2 ≥ c) || ((w.filter fun y => decide (y.2.2.2 < c)).all (fun y => decide (y.1 = x.1)) && decide ((w.filter fun y => decide (y.2.2.2 < c)).length < 5))) = true then x :: delG c w else delG c w := rfl
theorem delG_hi {c : Int} : ∀ {w : List Nt}, (∀ x ∈ w, ¬ x.2.2.2 < c) → delG c w = w := by
  intro w
  induction w with
  | nil => intro _; rfl
  | cons x w ih =>
    intro h
    unfold delG
    rw [if_pos (by rw [decide_eq_true (p := x.2.2.2 ≥ c) (by have := h x List.mem_cons_self; omega)]; rfl), ih fun y hy => h y (List.mem_cons_of_mem _ hy)]
theorem delG_eq {c : Int} {B : List Nt} (hB : ∀ x ∈ B, ¬ x.2.2.2 < c) : ∀ {A : List Nt}, (∀ x ∈ A, x.2.2.2 < c) → delG c (A ++ B) = latestM A 5 ++ B := by
  intro A
  induction A with
  | nil => intro _; rw [List.nil_append, delG_hi hB]; rfl
  | cons x A ih =>
    intro h
    have hx := h x List.mem_cons_self
    have ih := ih fun y hy => h y (List.mem_cons_of_mem _ hy)
    have hf : ((A ++ B).filter fun y => decide (y.2.2.2 < c)) = A := by
      rw [List.filter_append, List.filter_eq_self.2 (fun y hy => decide_eq_true (h y (List.mem_cons_of_mem _ hy))), List.filter_eq_nil_iff.2 (fun y hy => by simpa using hB y hy), List.append_nil]
    show (if (decide (x.2.2.2 ≥ c) || ((((A ++ B).filter fun y => decide (y.2.2.2 < c)).all fun y => decide (y.1 = x.1)) && decide (((A ++ B).filter fun y => decide (y.2.2.2 < c)).length < 5))) = true then x :: delG c (A ++ B) else delG c (A ++ B)) = _
    rw [hf, ih, decide_eq_false (p := x.2.2.2 ≥ c) (by omega), Bool.false_or]
    by_cases hA : A = []
    · subst hA
      rw [if_pos (by simp), lat_one (by decide)]; rfl
    rw [lat_cons hA]
    by_cases z : (A.all (fun y => decide (y.1 = x.1)) && decide (A.length < 5)) = true
    · rw [if_pos z]
      simp only [Bool.and_eq_true, List.all_eq_true, decide_eq_true_eq] at z
      obtain ⟨z1, z2⟩ := z
      have hl := z1 _ (lastN_mem hA)
      have e : latestM A 5 = A := lat_all (by decide) (by omega) fun y hy => by rw [z1 y hy, hl]
      rw [e, if_pos ⟨rfl, z2, hl.symm⟩]; rfl
    · rw [if_neg z, if_neg]
      rintro ⟨y1, y2, y3⟩
      refine z ?_
      simp only [Bool.and_eq_true, List.all_eq_true, decide_eq_true_eq]
      refine ⟨fun y hy => ?_, y2⟩
      rw [y3]
      exact lat_epoch (l := A) (m := 5) (by decide) y (by rw [y1]; exact hy)
theorem relL_other {c : Int} {k : Int} {x : Nt} {w : List Nt} {R : List Mk} (hR : ∀ m ∈ R, m.1 ≠ k) : relL c (k, x) (w.map (fun x => (k, x)) ++ R) = (w.filter fun y => decide (y.2.2.2 < c)).map fun x => (k, x) := by
  unfold relL
  rw [List.filter_append, (List.filter_eq_nil_iff (l := R)).2 (fun m hm => by simp [hR m hm]), List.append_nil, List.filter_map]
  congr 1
  refine List.filter_congr fun y _ => ?_
  simp
theorem rdelM_group {c : Int} {k : Int} {R : List Mk} (hR : ∀ m ∈ R, m.1 ≠ k) : ∀ w : List Nt, rdelM c (w.map (fun x => (k, x)) ++ R) = (delG c w).map (fun x => (k, x)) ++ rdelM c R := by
  intro w
  induction w with
  | nil => rfl
  | cons x w ih =>
    show (if keepX c (k, x) (w.map (fun x => (k, x)) ++ R) = true then (k, x) :: rdelM c (w.map (fun x => (k, x)) ++ R) else rdelM c (w.map (fun x => (k, x)) ++ R)) = _
    unfold keepX
    rw [relL_other hR, ih, List.length_map, List.all_map, delG_cons]
    have e : ((fun y : Mk => decide (y.2.1 = x.1)) ∘ fun x => (k, x)) = fun y : Nt => decide (y.1 = x.1) := rfl
    rw [e]
    split <;> rfl
theorem delM_flat {c : Int} : ∀ {S : Tb}, (∀ p ∈ S, OffUp p.2) → (S.map Prod.fst).Nodup → flatT (delM S c) = rdelM c (flatT S) := by
  intro S
  induction S with
  | nil => intro _ _; rfl
  | cons p S ih =>
    intro h hn
    obtain ⟨n1, n2⟩ := List.nodup_cons.1 hn
    have ih := ih (fun q hq => h q (List.mem_cons_of_mem _ hq)) n2
    have hp := h p List.mem_cons_self
    rw [flatT_cons, rdelM_group (fun m hm e => n1 (by
      obtain ⟨q, hq, hm2⟩ := List.mem_flatMap.1 hm
      obtain ⟨x, _, rfl⟩ := List.mem_map.1 hm2
      exact List.mem_map.2 ⟨q, hq, e⟩)), ← ih]
    have e1 : delM (p :: S) c = (p.1, latestM (p.2.take (aheadM p.2 c)) 5 ++ p.2.drop (aheadM p.2 c)) :: delM S c := rfl
    rw [e1, flatT_cons]
    congr 2
    rw [take_ahead, drop_ahead]
    conv => rhs; rw [← List.takeWhile_append_dropWhile (p := fun x : Nt => decide (x.2.2.2 < c)) (l := p.2)]
    refine (delG_eq (fun x hx => ?_) (fun x hx => ?_)).symm
    · have hd : ∀ {w : List Nt}, OffUp w → ∀ x ∈ w.dropWhile (fun x => decide (x.2.2.2 < c)), ¬ x.2.2.2 < c := by
        intro w
        induction w with
        | nil => intro _ x hx; simp at hx
        | cons a w ih2 =>
          intro hw x hx
          obtain ⟨w1, w2⟩ := List.pairwise_cons.1 hw
          rw [List.dropWhile_cons] at hx
          split at hx
          · exact ih2 w2 x hx
          · rename_i q
            have q : ¬ a.2.2.2 < c := by simpa using q
            rcases List.mem_cons.1 hx with rfl | hx
            · exact q
            · have := w1 x hx; omega
      exact hd hp x hx
    · have := List.all_takeWhile (p := fun x : Nt => decide (x.2.2.2 < c)) (l := p.2)
      exact of_decide_eq_true (List.all_eq_true.1 this x hx)
end Go.Proofs.Ytkabaoigablphaa

/- Chapter 8: the plain law of DedupPlays: a note put in, a question asked. -/
namespace Go.Proofs.Ytkabaoigablphaa
open Go Go.HL
set_option maxRecDepth 10000

/-! ### a note put in -/
def putS (k : Int) (x : Nt) : Tb → Tb
  | [] => [(k, [x])]
  | p :: S => if p.1 < k then p :: putS k x S else if p.1 = k then (p.1, p.2 ++ [x]) :: S else (k, [x]) :: p :: S
theorem look_cons (p : Int × List Nt) (S : Tb) (k : Int) : lookL (p :: S) k = if k = p.1 then some p.2 else lookL S k := by
  unfold lookL
  have : idxL (p :: S) k = if k = p.1 then some (0, p.2) else (idxL S k).map fun q => (q.1 + 1, q.2) := rfl
  rw [this]
  split
  · rfl
  · cases idxL S k <;> rfl
theorem putS_keys {k : Int} {x : Nt} {last : Int} : ∀ {S : Tb}, (∀ p ∈ S, last < p.1) → last < k → ∀ p ∈ putS k x S, last < p.1 := by
  intro S
  induction S with
  | nil => intro _ hk p hp; simp only [putS, List.mem_singleton] at hp; rw [hp]; exact hk
  | cons a S ih =>
    intro h hk p hp
    have ha := h a List.mem_cons_self
    have hS : ∀ p ∈ S, last < p.1 := fun p hp => h p (List.mem_cons_of_mem _ hp)
    unfold putS at hp
    split at hp
    · rcases List.mem_cons.1 hp with e | e
      · rw [e]; exact ha
      · exact ih hS hk p e
    · split at hp
      · rcases List.mem_cons.1 hp with e | e
        · rw [e]; exact ha
        · exact hS p e
      · rcases List.mem_cons.1 hp with e | e
        · rw [e]; exact hk
        · exact h p e
theorem putS_sorted {k : Int} {x : Nt} : ∀ {S : Tb}, S.Pairwise (fun p q => p.1 < q.1) → (putS k x S).Pairwise fun p q => p.1 < q.1 := by
  intro S
  induction S with
  | nil => intro _; exact List.pairwise_singleton _ _
  | cons a S ih =>
    intro h
    obtain ⟨h1, h2⟩ := List.pairwise_cons.1 h
    unfold putS
    split
    · rename_i c
      exact List.pairwise_cons.2 ⟨putS_keys h1 c, ih h2⟩
    · split
      · exact List.pairwise_cons.2 ⟨h1, h2⟩
      · rename_i c1 c2
        refine List.pairwise_cons.2 ⟨fun p hp => ?_, h⟩
        rcases List.mem_cons.1 hp with e | e
        · rw [e]; show k < a.1; omega
        · have := h1 p e; show k < p.1; omega
theorem look_gt {S : Tb} {k : Int} (h : ∀ p ∈ S, k < p.1) : lookL S k = none := lookL_none fun hm => by
  obtain ⟨p, hp, e⟩ := List.mem_map.1 hm
  have := h p hp; omega
theorem look_putS {k : Int} {x : Nt} {j : Int} : ∀ {S : Tb}, S.Pairwise (fun p q => p.1 < q.1) → lookL (putS k x S) j = if j = k then some ((lookL S k).getD [] ++ [x]) else lookL S j := by
  intro S
  induction S with
  | nil =>
    intro _
    show lookL [(k, [x])] j = _
    rw [look_cons]; rfl
  | cons a S ih =>
    intro h
    obtain ⟨h1, h2⟩ := List.pairwise_cons.1 h
    unfold putS
    split
    · rename_i c
      rw [look_cons, ih h2, look_cons, look_cons, if_neg (by omega : ¬ k = a.1)]
      by_cases e : j = a.1
      · rw [if_pos e, if_neg (by omega), if_pos e]
      · rw [if_neg e, if_neg e]
    · split
      · rename_i c1 c2
        rw [look_cons, look_cons, look_cons, if_pos c2.symm]
        by_cases e : j = k
        · rw [if_pos (by show j = a.1; omega), if_pos e]; rfl
        · rw [if_neg (by show ¬ j = a.1; omega), if_neg e, if_neg (by omega)]
      · rename_i c1 c2
        have hk : lookL (a :: S) k = none := look_gt fun p hp => by
          rcases List.mem_cons.1 hp with e | e
          · rw [e]; omega
          · have := h1 p e; omega
        rw [look_cons, hk]
        rfl
theorem perm_of_look {T S : Tb} (hT : (T.map Prod.fst).Nodup) (hS : (S.map Prod.fst).Nodup) (h : ∀ k, lookL S k = lookL T k) : S.Perm T := by
  have nd : ∀ {T : Tb}, (T.map Prod.fst).Nodup → T.Nodup := fun {T} hn => (List.pairwise_map.1 hn).imp fun h e => h (by rw [e])
  refine (List.perm_ext_iff_of_nodup (nd hS) (nd hT)).2 fun p => ?_
  rw [← lookL_iff hS (k := p.1) (v := p.2), ← lookL_iff hT (k := p.1) (v := p.2), h]
theorem sorted_nodup {S : Tb} (h : S.Pairwise fun p q => p.1 < q.1) : (S.map Prod.fst).Nodup := List.pairwise_map.2 (h.imp fun h e => by omega)
theorem look_sort {T : Tb} (hn : (T.map Prod.fst).Nodup) (k : Int) : lookL (sortT T) k = lookL T k := look_perm (sortT_perm hn) (sorted_nodup (sortT_lt hn)) k
theorem sortT_put {T : Tb} (hn : (T.map Prod.fst).Nodup) (k : Int) (x : Nt) : sortT (putL T k ((lookL T k).getD [] ++ [x])) = putS k x (sortT T) := by
  have hs := putS_sorted (k := k) (x := x) (sortT_lt hn)
  refine sortT_eq (putL_nodup hn) (perm_of_look (putL_nodup hn) (sorted_nodup hs) fun j => ?_) hs
  rw [look_putS (sortT_lt hn), lookL_put, look_sort hn, look_sort hn]
theorem insR_skip {m : Mk} {k : Int} (hk : k ≤ m.1) : ∀ (w : List Nt) (R : List Mk), insR m (w.map (fun x => (k, x)) ++ R) = w.map (fun x => (k, x)) ++ insR m R := by
  intro w R
  induction w with
  | nil => rfl
  | cons x w ih =>
    show (if k > m.1 then _ else (k, x) :: insR m (w.map (fun x => (k, x)) ++ R)) = _
    rw [if_neg (by omega), ih]; rfl
theorem insR_front {m : Mk} {R : List Mk} (h : ∀ y ∈ R, y.1 > m.1) : insR m R = m :: R := by
  cases R with
  | nil => rfl
  | cons y R =>
    show (if y.1 > m.1 then _ else _) = _
    rw [if_pos (h y List.mem_cons_self)]
theorem flat_keys {S : Tb} {m : Mk} (h : m ∈ flatT S) : ∃ p ∈ S, p.1 = m.1 := by
  obtain ⟨p, hp, h2⟩ := List.mem_flatMap.1 h
  obtain ⟨x, _, rfl⟩ := List.mem_map.1 h2
  exact ⟨p, hp, rfl⟩
theorem flatT_putS {k : Int} {x : Nt} : ∀ {S : Tb}, S.Pairwise (fun p q => p.1 < q.1) → flatT (putS k x S) = insR (k, x) (flatT S) := by
  intro S
  induction S with
  | nil => intro _; rfl
  | cons a S ih =>
    intro h
    obtain ⟨h1, h2⟩ := List.pairwise_cons.1 h
    have hS : ∀ y ∈ flatT S, y.1 > a.1 := fun y hy => by
      obtain ⟨p, hp, e⟩ := flat_keys hy
      have := h1 p hp; omega
    unfold putS
    split
    · rename_i c
      rw [flatT_cons, flatT_cons, insR_skip (by show a.1 ≤ k; omega), ih h2]
    · split
      · rename_i c1 c2
        rw [flatT_cons, flatT_cons, insR_skip (by show a.1 ≤ k; omega), insR_front (fun y hy => by have := hS y hy; show y.1 > k; omega), List.map_append, ← c2]
        simp
      · rename_i c1 c2
        rw [insR_front (fun y hy => ?_)]
        · rw [flatT_cons]; rfl
        · show y.1 > k
          obtain ⟨p, hp, e⟩ := flat_keys hy
          rcases List.mem_cons.1 hp with e2 | e2
          · subst e2; omega
          · have := h1 p e2; omega
/-! ### a question asked -/
theorem lat_filter {w : List Nt} (hm : Mon w) : latestM w 5 = (w.filter fun y => decide (y.1 = (lastN w).1)).drop ((w.filter fun y => decide (y.1 = (lastN w).1)).length - 5) := by
  induction w with
  | nil => rfl
  | cons x q ih =>
    obtain ⟨m1, m2⟩ := List.pairwise_cons.1 hm
    have ih := ih m2
    by_cases hq : q = []
    · subst hq
      rw [lat_one (by decide)]
      have : ([x].filter fun y => decide (y.1 = (lastN [x]).1)) = [x] := by
        refine List.filter_eq_self.2 fun y hy => ?_
        simp only [List.mem_singleton] at hy
        rw [hy]; exact decide_eq_true rfl
      rw [this]; rfl
    rw [lat_cons hq, lastN_cons hq]
    by_cases c : x.1 = (lastN q).1
    · have hall : ∀ y ∈ q, y.1 = (lastN q).1 := fun y hy => by
        have := m1 y hy
        have := Mon.last m2 hy
        omega
      have hf : (q.filter fun y => decide (y.1 = (lastN q).1)) = q := List.filter_eq_self.2 fun y hy => decide_eq_true (hall y hy)
      rw [hf] at ih
      rw [List.filter_cons, if_pos (decide_eq_true c), hf, List.length_cons]
      by_cases h5 : q.length < 5
      · have e : q.length - 5 = 0 := by omega
        rw [e] at ih
        have ih : latestM q 5 = q := ih
        rw [if_pos ⟨ih, h5, c⟩]
        have : q.length + 1 - 5 = 0 := by omega
        rw [this]; rfl
      · rw [if_neg (fun z => h5 z.2.1), ih]
        have : q.length + 1 - 5 = (q.length - 5) + 1 := by omega
        rw [this]; rfl
    · rw [if_neg (fun z => c z.2.2), ih, List.filter_cons, if_neg (by simpa using c)]
theorem maxE_map {k : Int} {w : List Nt} (hm : Mon w) (hw : ∀ y ∈ w, 0 ≤ y.1) (hne : w ≠ []) : maxE (w.map fun x => (k, x)) = (lastN w).1 := by
  have key : ∀ (w : List Nt) (e : Int), Mon w → (∀ y ∈ w, e ≤ y.1) → w ≠ [] → (w.map fun x => (k, x)).foldl (fun e (m : Mk) => if m.2.1 > e then m.2.1 else e) e = (lastN w).1 := by
    intro w
    induction w with
    | nil => intro e _ _ h; exact absurd rfl h
    | cons x q ih =>
      intro e hm he _
      obtain ⟨m1, m2⟩ := List.pairwise_cons.1 hm
      have hx := he x List.mem_cons_self
      have hs : (if x.1 > e then x.1 else e) = x.1 := by split <;> omega
      show (q.map fun x => (k, x)).foldl _ (if x.1 > e then x.1 else e) = _
      rw [hs]
      by_cases hq : q = []
      · subst hq; rfl
      · rw [lastN_cons hq]
        exact ih x.1 m2 m1 hq
  exact key w (-1) hm (fun y hy => by have := hw y hy; omega) hne
end Go.Proofs.Ytkabaoigablphaa

/- Chapter 8: the plain law of DedupPlays: both answer the same. -/
namespace Go.Proofs.Ytkabaoigablphaa
open Go Go.HL
set_option maxRecDepth 10000

theorem Chain.pairs : ∀ {w : List Nt} {was : Nt}, Chain was w → (∀ x ∈ w, was.2.2.2 < x.2.2.2 ∧ was.1 ≤ x.1 ∧ (1 ≤ x.2.2.1 ∧ x.2.2.1 ≤ 64) ∧ (0 ≤ x.1 ∧ x.1 ≤ 1000000000) ∧ (0 ≤ x.2.1 ∧ x.2.1 ≤ 1000000 - x.2.2.1 + 1) ∧ (0 ≤ x.2.2.2 ∧ x.2.2.2 ≤ 1000000000 - x.2.2.1 + 1)) ∧ w.Pairwise fun x y => x.2.2.2 < y.2.2.2 ∧ x.1 ≤ y.1 := by
  intro w
  induction w with
  | nil => intro was _; exact ⟨by simp, List.Pairwise.nil⟩
  | cons a w ih =>
    intro was h
    obtain ⟨i1, i2⟩ := ih h.2
    obtain ⟨a1, a2, a3, a4, a5, a6, a7, -⟩ := h.1
    refine ⟨fun x hx => ?_, List.pairwise_cons.2 ⟨fun y hy => ⟨(i1 y hy).1, (i1 y hy).2.1⟩, i2⟩⟩
    rcases List.mem_cons.1 hx with rfl | e
    · exact ⟨a6, a7, ⟨a1, a2⟩, a3, a4, a5⟩
    · have := i1 x e
      exact ⟨by omega, by omega, this.2.2⟩
theorem Chain.up {w : List Nt} {was : Nt} (h : Chain was w) : OffUp w := h.pairs.2.imp fun h => h.1
theorem Chain.mon {w : List Nt} {was : Nt} (h : Chain was w) : Mon w := h.pairs.2.imp fun h => h.2
theorem Chain.weak {w : List Nt} {was : Nt} (h : Chain was w) : Chain was0 w := by
  cases w with
  | nil => trivial
  | cons a w =>
    obtain ⟨a1, a2, a3, a4, a5, a6, a7, a8⟩ := h.1
    exact ⟨⟨a1, a2, a3, a4, a5, by unfold was0; dsimp only; omega, by unfold was0; dsimp only; omega, fun _ => by unfold was0; dsimp only; omega⟩, h.2⟩
theorem Chain.drop : ∀ {w : List Nt} {was : Nt} (n : Nat), Chain was w → Chain was0 (w.drop n) := by
  intro w
  induction w with
  | nil => intro was n _; rw [List.drop_nil]; trivial
  | cons a w ih =>
    intro was n h
    cases n with
    | zero => exact h.weak
    | succ n => exact ih n h.2
theorem Chain.take : ∀ {w : List Nt} {was : Nt} (n : Nat), Chain was w → Chain was (w.take n) := by
  intro w
  induction w with
  | nil => intro was n _; rw [List.take_nil]; trivial
  | cons a w ih =>
    intro was n h
    cases n with
    | zero => trivial
    | succ n => exact ⟨h.1, ih n h.2⟩
theorem Chain.snoc : ∀ {w : List Nt} {was x : Nt}, Chain was w → NtOk (if w = [] then was else lastN w) x → Chain was (w ++ [x]) := by
  intro w
  induction w with
  | nil => intro was x _ hx; exact ⟨by simpa using hx, trivial⟩
  | cons a w ih =>
    intro was x h hx
    refine ⟨h.1, ih h.2 ?_⟩
    rw [if_neg (by simp)] at hx
    by_cases e : w = []
    · subst e; rw [if_pos rfl]; exact hx
    · rw [if_neg e]; rw [lastN_cons e] at hx; exact hx
/-! ### the same answer -/
theorem topF_map {k : Int} {w : List Nt} (hm : Mon w) (hw : ∀ y ∈ w, 0 ≤ y.1) (hne : w ≠ []) : topF (w.map fun x => (k, x)) = (w.filter fun y => decide (y.1 = (lastN w).1)).map fun x => (k, x) := by
  unfold topF
  rw [maxE_map hm hw hne, List.filter_map]; rfl
theorem last5_map {k : Int} (F : List Nt) : last5 (F.map fun x => (k, x)) = (F.drop (F.length - 5)).map fun x => (k, x) := by
  unfold last5
  rw [List.length_map, List.map_drop]
theorem nextF_map {k : Int} {F : List Nt} (h : F ≠ []) : nextF (F.map fun x => (k, x)) = IntKind.wrap .i64 ((lastN F).2.1 + (lastN F).2.2.1) := by
  have key : ∀ (F : List Nt) (z : Int), F ≠ [] → (F.map fun x => (k, x)).foldl (fun _ (m : Mk) => IntKind.wrap .i64 (m.2.2.1 + m.2.2.2.1)) z = IntKind.wrap .i64 ((lastN F).2.1 + (lastN F).2.2.1) := by
    intro F
    induction F with
    | nil => intro z h; exact absurd rfl h
    | cons a F ih =>
      intro z _
      by_cases e : F = []
      · subst e; rfl
      · rw [lastN_cons e]; exact ih _ e
  exact key F 0 h
theorem filter_last {w : List Nt} (h : w ≠ []) : (w.filter fun y => decide (y.1 = (lastN w).1)) ≠ [] ∧ lastN (w.filter fun y => decide (y.1 = (lastN w).1)) = lastN w := by
  have key : ∀ (w : List Nt) (e : Int), w ≠ [] → (lastN w).1 = e → (w.filter fun y => decide (y.1 = e)) ≠ [] ∧ lastN (w.filter fun y => decide (y.1 = e)) = lastN w := by
    intro w
    induction w with
    | nil => intro e h; exact absurd rfl h
    | cons a w ih =>
      intro e _ he
      by_cases q : w = []
      · subst q
        have ha : a.1 = e := he
        have : ([a].filter fun y => decide (y.1 = e)) = [a] := List.filter_eq_self.2 fun y hy => by
          simp only [List.mem_singleton] at hy
          rw [hy]; exact decide_eq_true ha
        rw [this]; exact ⟨by simp, rfl⟩
      · rw [lastN_cons q] at he ⊢
        obtain ⟨i1, i2⟩ := ih e q he
        rw [List.filter_cons]
        split
        · exact ⟨by simp, by rw [lastN_cons i1]; exact i2⟩
        · exact ⟨i1, i2⟩
  exact key w _ h rfl
theorem ask_eq {k : Int} {w : List Nt} (hc : Chain was0 w) {epoch seq n : Int} (he : 0 ≤ epoch) (hs : 0 ≤ seq) : askL (latestM w 5) epoch seq n = askT (maxE (w.map fun x => (k, x))) (last5 (topF (w.map fun x => (k, x)))) (nextF (topF (w.map fun x => (k, x)))) epoch seq n := by
  by_cases hne : w = []
  · subst hne
    have e1 : askL (latestM [] 5) epoch seq n = if seq > 0 then (-1, 11) else (-1, 0) := rfl
    have e2 : maxE (([] : List Nt).map fun x => (k, x)) = -1 := rfl
    rw [e1, e2]
    unfold askT
    rw [if_pos (show epoch > -1 by omega)]
    by_cases q : seq = 0
    · rw [if_neg (by omega), if_pos q]
    · rw [if_pos (by omega), if_neg q]
  have hw : ∀ y ∈ w, 0 ≤ y.1 := fun y hy => (hc.pairs.1 y hy).2.2.2.1.1
  obtain ⟨f1, f2⟩ := filter_last hne
  rw [maxE_map hc.mon hw hne, topF_map hc.mon hw hne, last5_map, nextF_map f1, f2, ← lat_filter hc.mon]
  have hl := lat_ne (m := 5) (by decide) hne
  have hll := lat_last (l := w) (m := 5) (by decide)
  have hle := lat_epoch (l := w) (m := 5) (by decide)
  have hnx : nextS (latestM w 5) = IntKind.wrap .i64 ((lastN w).2.1 + (lastN w).2.2.1) := by
    unfold nextS
    show IntKind.wrap .i64 ((lastN (latestM w 5)).2.1 + (lastN (latestM w 5)).2.2.1) = _
    rw [hll]
  generalize latestM w 5 = y at *
  have h0 : (y.getD 0 nt0).1 = (lastN w).1 := hle _ (getD0 hl)
  unfold askL askT
  rw [if_neg (by have := List.length_pos_iff.2 hl; omega), h0, hnx]
  by_cases c1 : epoch > (lastN w).1
  · rw [if_pos c1, if_pos c1]
    by_cases q : seq = 0
    · rw [if_neg (by omega), if_pos q]
    · rw [if_pos (by omega), if_neg q]
  rw [if_neg c1, if_neg c1]
  by_cases c2 : epoch < (lastN w).1
  · rw [if_pos c2, if_pos c2]
  rw [if_neg c2, if_neg c2]
  have hfind : ∀ y : List Nt, (∀ z ∈ y, z.1 = (lastN w).1) → (y.map fun x => (k, x)).find? (fun x : Mk => decide (x.2.2.1 = seq) && decide (x.2.2.2.1 = n)) = (y.find? (isN epoch seq n)).map fun x => (k, x) := by
    intro y
    induction y with
    | nil => intro _; rfl
    | cons a y ih =>
      intro h
      have ha := h a List.mem_cons_self
      rw [List.map_cons, List.find?_cons, List.find?_cons, ih fun z hz => h z (List.mem_cons_of_mem _ hz)]
      have e : isN epoch seq n a = (decide (a.2.1 = seq) && decide (a.2.2.1 = n)) := by
        unfold isN
        rw [Bool.eq_iff_iff]
        simp only [decide_eq_true_eq, Bool.and_eq_true]
        constructor
        · exact fun z => z.2
        · exact fun z => ⟨by omega, z⟩
      rw [e]
      cases decide (a.2.1 = seq) && decide (a.2.2.1 = n) <;> rfl
  rw [hfind y hle]
  cases y.find? (isN epoch seq n) <;> rfl
end Go.Proofs.Ytkabaoigablphaa

/- Chapter 8: the plain law of DedupPlays: late notes, batches that may be, what every call keeps. -/
namespace Go.Proofs.Ytkabaoigablphaa
open Go Go.HL
set_option maxRecDepth 10000

theorem late_eq {k : Int} {w : List Nt} (hc : Chain was0 w) {base epoch seq : Int} (he : 0 ≤ epoch) : lateB w base epoch seq = lateR (w.map fun x => (k, x)) base epoch seq := by
  by_cases hne : w = []
  · subst hne
    have e1 : lateB [] base epoch seq = false := rfl
    have e2 : maxE (([] : List Nt).map fun x => (k, x)) = -1 := rfl
    have e3 : lastLate (([] : List Nt).map fun x => (k, x)) base = false := rfl
    unfold lateR
    rw [e1, e2, e3, decide_eq_false (show ¬ epoch < -1 by omega), decide_eq_false (show ¬ epoch = -1 by omega)]; rfl
  have hw : ∀ y ∈ w, 0 ≤ y.1 := fun y hy => (hc.pairs.1 y hy).2.2.2.1.1
  obtain ⟨f1, f2⟩ := filter_last hne
  have hl := List.length_pos_iff.2 hne
  unfold lateB lateR lastLate
  rw [if_neg (by omega), maxE_map hc.mon hw hne, topF_map hc.mon hw hne, nextF_map f1, f2, List.length_map, List.getElem?_map, List.getElem?_eq_getElem (show w.length - 1 < w.length by omega)]
  have e : w.getD (w.length - 1) nt0 = w[w.length - 1] := by rw [List.getD_eq_getElem?_getD, List.getElem?_eq_getElem (by omega)]; rfl
  have e2 : lastN w = w[w.length - 1] := e
  unfold nextS
  rw [e, e2]
  show (decide _ || decide _ || (decide _ && decide _)) = (decide _ || decide _ || (decide _ && decide _))
  have e3 : decide (w[w.length - 1].1 = epoch) = decide (epoch = w[w.length - 1].1) := by
    by_cases z : w[w.length - 1].1 = epoch
    · rw [decide_eq_true z, decide_eq_true z.symm]
    · rw [decide_eq_false z, decide_eq_false (fun y => z y.symm)]
  rw [e3]
theorem or_zero {a b : Int} (ha : 0 ≤ a ∧ a ≤ 1000000000) (hb : 0 ≤ b ∧ b ≤ 1000000000) : orI .i64 a b = 0 ↔ a = 0 ∧ b = 0 := by
  obtain ⟨x, rfl⟩ := Int.eq_ofNat_of_zero_le ha.1
  obtain ⟨y, rfl⟩ := Int.eq_ofNat_of_zero_le hb.1
  have e1 : orI .i64 (x : Int) (y : Int) = ((x ||| y : Nat) : Int) := by
    unfold orI
    have e : IntKind.bits .i64 = 64 := rfl
    rw [e, BitVec.toNat_or, ofInt_nat, ofInt_nat, Nat.mod_eq_of_lt (show x < 2 ^ 64 by omega), Nat.mod_eq_of_lt (show y < 2 ^ 64 by omega), wrap_i64]
    have : x ||| y < 2 ^ 32 := Nat.or_lt_two_pow (by omega) (by omega)
    split <;> omega
  rw [e1]
  constructor
  · intro h
    have h : x ||| y = 0 := by omega
    have h1 : x ≤ x ||| y := Nat.left_le_or
    have h2 : y ≤ x ||| y := Nat.right_le_or
    exact ⟨by omega, by omega⟩
  · rintro ⟨h1, h2⟩
    have h1 : x = 0 := by omega
    have h2 : y = 0 := by omega
    subst h1; subst h2; rfl
theorem inB_iff {u v : Int} : inB u v = true ↔ 0 ≤ u ∧ u ≤ v := by unfold inB; simp
theorem right_iff {base pid epoch seq : Int} {n : Nat} : rightM base 0 pid epoch seq (List.replicate n zr) = 0 ↔ ZOk base pid epoch seq n := by
  unfold rightM
  rw [List.length_replicate]
  have hA : argBad base 0 pid epoch seq (n : Int) = true ↔ (base < 0 ∨ ¬ (0 ≤ pid ∧ pid ≤ 1000000000) ∨ ¬ (0 ≤ epoch ∧ epoch ≤ 1000000000) ∨ ¬ (0 ≤ seq ∧ seq ≤ 1000000000) ∨ (pid = 0 ∧ orI .i64 epoch seq ≠ 0) ∨ (n : Int) = 0) := by
    unfold argBad
    have h0 : inB 0 1000000000 = true := inB_iff.2 ⟨by decide, by decide⟩
    rw [h0]
    simp only [Bool.or_eq_true, Bool.and_eq_true, decide_eq_true_eq, Bool.not_true, Bool.false_eq_true, or_false, Bool.not_eq_true', ← inB_iff, Bool.not_eq_true, or_assoc]
  have hany : ((List.replicate n zr).any fun r => !inB r.2.2 1000000000) = false := by simp [zr, inB]
  have hlong : (List.replicate n zr).any longB = false := by
    have : longB zr = false := by kernel_rfl
    simp [this]
  rw [hany, hlong]
  by_cases a : argBad base 0 pid epoch seq (n : Int) = true
  · rw [if_pos a]
    refine ⟨fun h => by simp at h, fun z => ?_⟩
    obtain ⟨z1, z2, z3, z4, z5, z6, -⟩ := z
    rcases hA.1 a with y | y | y | y | y | y
    · omega
    · exact absurd z1 y
    · exact absurd z2 y
    · exact absurd z3 y
    · have := y.2
      rw [ne_eq, or_zero z2 z3] at this
      exact absurd ⟨y.1, by by_cases e : epoch = 0; exact .inr fun s => this ⟨e, s⟩; exact .inl e⟩ z5
    · omega
  rw [if_neg a, if_neg (by simp)]
  have a := fun y => a (hA.2 y)
  have g1 : 0 ≤ base := by
    by_cases h : base < 0
    · exact absurd (.inl h) a
    · omega
  have g2 : 0 ≤ pid ∧ pid ≤ 1000000000 := Decidable.byContradiction fun h => a (.inr (.inl h))
  have g3 : 0 ≤ epoch ∧ epoch ≤ 1000000000 := Decidable.byContradiction fun h => a (.inr (.inr (.inl h)))
  have g4 : 0 ≤ seq ∧ seq ≤ 1000000000 := Decidable.byContradiction fun h => a (.inr (.inr (.inr (.inl h))))
  have g5 : ¬ (pid = 0 ∧ (epoch ≠ 0 ∨ seq ≠ 0)) := fun h => a (.inr (.inr (.inr (.inr (.inl ⟨h.1, fun z => by
    have := (or_zero g3 g4).1 z
    exact h.2.elim (fun y => y this.1) (fun y => y this.2)⟩)))))
  have g6 : ¬ (n : Int) = 0 := fun h => a (.inr (.inr (.inr (.inr (.inr h)))))
  by_cases c1 : n > 64
  · rw [if_pos c1]
    exact ⟨fun h => by simp at h, fun z => by have := z.2.2.2.2.2.2.1; omega⟩
  rw [if_neg c1, if_neg (by simp)]
  by_cases c2 : base > 1000000000 - (n : Int) + 1 ∨ seq > 1000000 - (n : Int) + 1
  · rw [if_pos c2]
    exact ⟨fun h => by simp at h, fun z => by have := z.2.2.2.2.2.2.2; omega⟩
  rw [if_neg c2]
  have hlen : (bodyM [base, 0, pid, epoch, seq, (n : Int)] (List.replicate n zr)).length ≤ 60 + n * 3 := by
    unfold bodyM
    rw [List.length_append]
    have h1 := flat_le (f := encInt) (m := 10) (l := [base, 0, pid, epoch, seq, (n : Int)]) fun a _ => encInt_len a
    have h2 := flat_le (f := recM) (m := 3) (l := List.replicate n zr) fun r hr => by
      rw [List.eq_of_mem_replicate hr]
      exact Nat.le_of_eq (by kernel_rfl)
    rw [List.length_replicate] at h2
    simp only [List.length_cons, List.length_nil] at h1
    omega
  rw [if_neg (by omega)]
  exact ⟨fun _ => ⟨g2, g3, g4, g1, g5, by omega, by omega, by omega, by omega⟩, fun _ => rfl⟩
end Go.Proofs.Ytkabaoigablphaa

/- Chapter 8: the plain law of DedupPlays: what every call keeps. -/
namespace Go.Proofs.Ytkabaoigablphaa
open Go Go.HL
set_option maxRecDepth 10000

structure PI (T : Tb) (c : Nat) : Prop where
  keys : (T.map Prod.fst).Nodup
  ok : ∀ k w, lookL T k = some w → (1 ≤ k ∧ k ≤ 1000000000) ∧ w ≠ [] ∧ Chain was0 w
  size : (flatT (sortT T)).length ≤ c
theorem PI.nil : PI [] 0 := ⟨List.nodup_nil, fun k w h => (by cases h), by simp [sortT, keysS, flatT]⟩
section
variable {T : Tb} {c : Nat}
theorem PI.more (h : PI T c) {c' : Nat} (hc : c ≤ c') : PI T c' := ⟨h.keys, h.ok, Nat.le_trans h.size hc⟩
theorem PI.row (h : PI T c) {p : Int × List Nt} (hp : p ∈ sortT T) : (1 ≤ p.1 ∧ p.1 ≤ 1000000000) ∧ p.2 ≠ [] ∧ Chain was0 p.2 := h.ok p.1 p.2 (sortT_mem hp)
theorem PI.ne (h : PI T c) : NE T := fun k w e => (h.ok k w e).2.1
theorem keysOk_gen : ∀ {S : Tb} {last : Int}, S.Pairwise (fun p q => p.1 < q.1) → (∀ p ∈ S, last < p.1) → (∀ p ∈ S, p.1 ≤ 1000000000 ∧ p.2 ≠ [] ∧ Chain was0 p.2) → KeysOk last S := by
  intro S
  induction S with
  | nil => intro last _ _ _; trivial
  | cons a S ih =>
    intro last h1 h2 h3
    obtain ⟨p1, p2⟩ := List.pairwise_cons.1 h1
    obtain ⟨c1, c2, c3⟩ := h3 a List.mem_cons_self
    exact ⟨⟨h2 a List.mem_cons_self, c1, c2, c3⟩, ih p2 p1 fun p hp => h3 p (List.mem_cons_of_mem _ hp)⟩
theorem PI.keysOk (h : PI T c) : KeysOk 0 (sortT T) := keysOk_gen (sortT_lt h.keys) (fun p hp => by have := (h.row hp).1; omega) fun p hp => ⟨(h.row hp).1.2, (h.row hp).2⟩
theorem rows_flat : ∀ (S : Tb), (S.flatMap rowI).length = 2 * S.length + 4 * (flatT S).length := by
  intro S
  induction S with
  | nil => rfl
  | cons p S ih =>
    rw [List.flatMap_cons, List.length_append, ih, flatT_cons, List.length_append, List.length_map, List.length_cons]
    have : (rowI p).length = 2 + 4 * p.2.length := by unfold rowI; rw [List.length_append, ntI_len]; rfl
    omega
theorem flat_ge : ∀ {S : Tb}, (∀ p ∈ S, p.2 ≠ []) → S.length ≤ (flatT S).length := by
  intro S
  induction S with
  | nil => intro _; exact Nat.le_refl _
  | cons p S ih =>
    intro h
    have := ih fun q hq => h q (List.mem_cons_of_mem _ hq)
    have h1 := List.length_pos_iff.2 (h p List.mem_cons_self)
    rw [flatT_cons, List.length_append, List.length_map, List.length_cons]; omega
theorem flat_row : ∀ {S : Tb} {p : Int × List Nt}, p ∈ S → p.2.length ≤ (flatT S).length := by
  intro S
  induction S with
  | nil => intro p h; simp at h
  | cons a S ih =>
    intro p h
    rw [flatT_cons, List.length_append, List.length_map]
    rcases List.mem_cons.1 h with rfl | h
    · omega
    · have := ih h; omega
theorem PI.len (h : PI T c) (hc : c ≤ 1000) : (sortT T).length ≤ c ∧ (encL (bodyI (sortT T))).length ≤ 100000 ∧ (∀ p ∈ sortT T, p.2.length ≤ c) ∧ Low T 100000 := by
  have h1 := flat_ge fun p hp => (h.row hp).2.1
  have h2 := h.size
  have h3 := rows_flat (sortT T)
  have h4 := encL_le (bodyI (sortT T))
  have h5 : (bodyI (sortT T)).length = ((sortT T).flatMap rowI).length + 1 := rfl
  refine ⟨by omega, by omega, fun p hp => Nat.le_trans (flat_row hp) h2, fun p hp => ?_⟩
  have := flat_row ((sortT_perm h.keys).mem_iff.2 hp)
  omega
theorem PI.wf (h : PI T c) : WfT T := fun p hp => KeysOk.wf (Int.le_refl _) h.keysOk p ((sortT_perm h.keys).mem_iff.2 hp)
theorem PI.sort (h : PI T c) : PI (sortT T) c := by
  have hs := sorted_nodup (sortT_lt h.keys)
  refine ⟨hs, fun k w e => h.ok k w (by rw [← look_sort h.keys]; exact e), ?_⟩
  rw [sortT_id h.keysOk]; exact h.size
theorem PI.cut_flat (h : PI T c) (e : Int) : flatT (sortT (cutM T e)) = (flatT (sortT T)).filter fun m => decide (m.2.2.2.2 < e) := by
  have : sortT (cutM T e) = cutM (sortT T) e := sortT_fm (f := cutF e) h.keys
  rw [this]
  exact cutM_flat fun p hp => (h.row hp).2.2.up
theorem PI.del_flat (h : PI T c) (e : Int) : flatT (sortT (delM T e)) = rdelM e (flatT (sortT T)) := by
  have : sortT (delM T e) = delM (sortT T) e := sortT_fm (f := delF e) h.keys
  rw [this]
  exact delM_flat (fun p hp => (h.row hp).2.2.up) (sorted_nodup (sortT_lt h.keys))
theorem PI.cut (h : PI T c) (e : Int) : PI (cutM T e) c := by
  refine ⟨fm_keys h.keys, fun k w hw => ?_, ?_⟩
  · have hne := h.ne.cut h.keys e k w hw
    unfold cutM at hw
    rw [look_fm h.keys] at hw
    obtain ⟨v, h1, h2⟩ := Option.bind_eq_some_iff.1 hw
    obtain ⟨g1, g2, g3⟩ := h.ok k v h1
    unfold cutF at h2
    split at h2
    · obtain rfl := Option.some.inj h2
      exact ⟨g1, hne, g3.take _⟩
    · cases h2
  · rw [h.cut_flat]
    exact Nat.le_trans (List.length_filter_le _ _) h.size
theorem PI.del (h : PI T c) (e : Int) : PI (delM T e) c := by
  refine ⟨fm_keys h.keys, fun k w hw => ?_, ?_⟩
  · have hne := h.ne.del h.keys e k w hw
    unfold delM at hw
    rw [look_fm h.keys] at hw
    obtain ⟨v, h1, h2⟩ := Option.bind_eq_some_iff.1 hw
    obtain ⟨g1, g2, g3⟩ := h.ok k v h1
    unfold delF at h2
    obtain rfl := Option.some.inj h2
    refine ⟨g1, hne, ?_⟩
    have e1 : latestM (v.take (aheadM v e)) 5 ++ v.drop (aheadM v e) = v.drop (latK (v.take (aheadM v e)) 5 (v.take (aheadM v e)).length) := by
      unfold latestM
      rw [← List.drop_append_of_le_length (latK_le _ _ _), List.take_append_drop]
    rw [e1]
    exact g3.drop _
  · rw [h.del_flat]
    exact Nat.le_trans (rdelM_len _ _) h.size
theorem PI.look (h : PI T c) (k : Int) : ofP (flatT (sortT T)) k = ((lookL T k).getD []).map (fun x => (k, x)) ∧ Chain was0 ((lookL T k).getD []) := by
  rw [ofP_flat (sorted_nodup (sortT_lt h.keys)), look_sort h.keys]
  refine ⟨rfl, ?_⟩
  cases e : lookL T k with
  | none => trivial
  | some w => exact (h.ok k w e).2.2
theorem PI.put (h : PI T c) {base pid epoch seq n : Int} (hp : pid ≠ 0) (hz : ZOk base pid epoch seq n) (hl : lateB ((lookL T pid).getD []) base epoch seq = false) :
    PI (putL T pid ((lookL T pid).getD [] ++ [(epoch, seq, n, base)])) (c + 1) ∧ flatT (sortT (putL T pid ((lookL T pid).getD [] ++ [(epoch, seq, n, base)]))) = insR (pid, (epoch, seq, n, base)) (flatT (sortT T)) := by
  have hf : flatT (sortT (putL T pid ((lookL T pid).getD [] ++ [(epoch, seq, n, base)]))) = insR (pid, (epoch, seq, n, base)) (flatT (sortT T)) := by
    rw [sortT_put h.keys, flatT_putS (sortT_lt h.keys)]
  refine ⟨⟨putL_nodup h.keys, fun k w e => ?_, ?_⟩, hf⟩
  · rw [lookL_put] at e
    split at e
    · rename_i ek
      obtain rfl := Option.some.inj e
      obtain ⟨z1, z2, z3, z4, z5, z6, z7, z8, z9⟩ := hz
      refine ⟨by omega, by simp, (h.look pid).2.snoc ?_⟩
      have hc := (h.look pid).2
      generalize (lookL T pid).getD [] = v at *
      split
      · unfold was0
        exact ⟨z6, z7, z2, by dsimp only; omega, by dsimp only; omega, by dsimp only; omega, by dsimp only; omega, fun _ => by dsimp only; omega⟩
      · rename_i hv
        have hlen := List.length_pos_iff.2 hv
        unfold lateB at hl
        rw [if_neg (by omega)] at hl
        simp only [Bool.or_eq_false_iff, Bool.and_eq_false_iff, decide_eq_false_iff_not] at hl
        obtain ⟨⟨l1, l2⟩, l3⟩ := hl
        have hb := hc.pairs.1 _ (lastN_mem hv)
        have hnx : nextS v = (lastN v).2.1 + (lastN v).2.2.1 := by
          unfold nextS
          exact wrap64_id (by show _ ≤ (lastN v).2.1 + (lastN v).2.2.1; omega) (by show (lastN v).2.1 + (lastN v).2.2.1 ≤ _; omega)
        rw [hnx] at l3
        have l1 : ¬ (lastN v).2.2.2 ≥ base := l1
        have l2 : ¬ (lastN v).1 > epoch := l2
        have l3 : ¬ (lastN v).1 = epoch ∨ ¬ seq < (lastN v).2.1 + (lastN v).2.2.1 := l3
        exact ⟨z6, z7, z2, by dsimp only; omega, by dsimp only; omega, by dsimp only; omega, by dsimp only; omega, fun he => by dsimp only at he ⊢; omega⟩
    · exact h.ok k w e
  · rw [hf, insR_len]
    have := h.size; omega
end
end Go.Proofs.Ytkabaoigablphaa

/- Chapter 8: the law DedupPlays, walked. -/
namespace Go.Proofs.Ytkabaoigablphaa
open Go Go.HL
set_option maxRecDepth 10000
set_option maxHeartbeats 3200000

theorem askM_eq {T : Tb} {c : Nat} (h : PI T c) (pid epoch seq n : Int) : askM T pid epoch seq n = askR (flatT (sortT T)) pid epoch seq n := by
  obtain ⟨l1, l2⟩ := h.look pid
  have hb : askBad pid epoch seq n = true ↔ (inB pid 1000000000 = false ∨ inB epoch 1000000000 = false ∨ inB seq 1000000000 = false ∨ n < 1 ∨ n > 64 ∨ (pid = 0 ∧ orI .i64 epoch seq ≠ 0)) := by
    unfold askBad
    simp only [Bool.or_eq_true, Bool.and_eq_true, decide_eq_true_eq, Bool.not_eq_true', or_assoc]
  unfold askM askR
  by_cases p1 : inB epoch 1000000000 = true ∧ inB seq 1000000000 = true
  · have e1 := inB_iff.1 p1.1
    have e2 := inB_iff.1 p1.2
    have hz := or_zero e1 e2
    have hc : askBad pid epoch seq n = true ↔ (inB pid 1000000000 = false ∨ inB epoch 1000000000 = false ∨ inB seq 1000000000 = false ∨ n < 1 ∨ n > 64 ∨ (pid = 0 ∧ (epoch ≠ 0 ∨ seq ≠ 0))) := by
      rw [hb]
      have : orI .i64 epoch seq ≠ 0 ↔ (epoch ≠ 0 ∨ seq ≠ 0) := by
        constructor
        · intro h
          by_cases e : epoch = 0
          · exact .inr fun s => h (hz.2 ⟨e, s⟩)
          · exact .inl e
        · intro h z
          have := hz.1 z
          exact h.elim (fun y => y this.1) (fun y => y this.2)
      rw [this]
    by_cases z : askBad pid epoch seq n = true
    · rw [if_pos z, if_pos (hc.1 z)]
    rw [if_neg z, if_neg (fun y => z (hc.2 y))]
    by_cases p0 : pid = 0
    · rw [if_pos p0, if_pos p0]
    rw [if_neg p0, if_neg p0]
    by_cases p2 : seq > 1000000 - n + 1
    · rw [if_pos p2, if_pos (by omega)]
    rw [if_neg p2, if_neg (by omega), l1]
    exact ask_eq l2 e1.1 e2.1
  · have hx : inB epoch 1000000000 = false ∨ inB seq 1000000000 = false := by
      cases a : inB epoch 1000000000
      · exact .inl rfl
      · cases b : inB seq 1000000000
        · exact .inr rfl
        · exact absurd ⟨a, b⟩ p1
    have hx2 : ∀ {P Q R : Prop}, (inB pid 1000000000 = false ∨ inB epoch 1000000000 = false ∨ inB seq 1000000000 = false ∨ P ∨ Q ∨ R) := fun {P Q R} => .inr (hx.elim .inl fun y => .inr (.inl y))
    rw [if_pos (hb.2 hx2), if_pos hx2]
theorem plays_spec {H0 : Heap} {s : Sl} {ops : List Op} {K : Value → Heap → Prop} (hr : Recs eOp H0 s ops) (hb : ∀ o ∈ ops, OpB o) (k : ∀ H', HL.Sub H0 H' → K (.bool true) H') : FnH Try.prog 5 #[.slice s.p s.n s.c] H0 K := by
  apply logboomlaw8_DedupPlays_fn
  unfold logboomlaw8_DedupPlays_vc
  have hbig := hr.big
  refine shown_spec (Holds.whole H0) fun H1 h1 => ⟨true, rfl, new_spec h1 fun t0 H2 h2 => ⟨_, rfl, br_f rfl (br_f rfl (rnew_spec h2 fun r H3 h3 => ⟨_, rfl, ?_⟩))⟩⟩
  refine ⟨fun tp i H => ∃ t T, tp = some ⟨t, 0, none⟩ ∧ Holds [tab t T, rtab r (flatT (sortT T)), ro H0] H ∧ PI T i.toNat ∧ 0 ≤ i ∧ i ≤ 300, fun _ i _ => (300 - i).toNat, ⟨t0, [], rfl, ?_, PI.nil, Int.le_refl _, by decide⟩, ?_⟩
  · have : flatT (sortT []) = [] := by simp [sortT, keysS, flatT]
    rw [this]; exact h3.swap
  rintro _ i H4 ⟨t, T, rfl, h4, hP, i0, i1⟩
  have stop : K (.bool true) H4 := k H4 (h4.sub 2 rfl)
  refine br_intro (fun q1 => br_intro (fun q2 => ?_) (fun _ => stop)) (fun _ => stop)
  clear stop
  have q1 := of_decide_eq_true q1
  have q2 := of_decide_eq_true q2
  obtain ⟨b, o, a, e1, e2, e3⟩ := (Recs.mono _ _ (h4.sub 2 rfl) hr).at_ eOplen (by decide) i0 q1
  have ha := hb a (List.mem_of_getElem? e2)
  rw [wrap64_id (n := i + 1) (by omega) (by omega)]
  have ei : (i + 1).toNat = i.toNat + 1 := by omega
  have fin : ∀ (X : Heap → Prop) (t : Nat) (T : Tb) (H5 : Heap), Holds [tab t T, rtab r (flatT (sortT T)), ro H0] H5 → PI T (i.toNat + 1) → (∀ H7, Holds [tab t T, rtab r (flatT (sortT T)), ro H0] H7 → X H7) →
      FnH Try.prog 21 #[.pointer (some ⟨t, 0, none⟩)] H5 fun v H6 => ∃ s1 : ByteArray, v = .string s1 ∧ FnH Try.prog 22 #[.pointer (some ⟨r, 0, none⟩)] H6 fun v H7 => ∃ s2 : ByteArray, v = .string s2 ∧ br (!(s1.toList == s2.toList)) (K (.bool false) H7) (X H7) := fun X t T H5 h5 hP kX => by
    obtain ⟨l1, l2, l3, l4⟩ := hP.len (by omega)
    refine keep_spec h5 hP.wf (by omega) fun H6 h6 => ⟨_, rfl, rkeep_flat h6 (i := 1) rfl hP.keysOk.keys hP.keysOk.ne (KeysOk.wf (Int.le_refl _) hP.keysOk) (by omega) fun H7 s7 => ⟨_, rfl, br_f (by simp) (kX H7 (Holds.up s7 h6))⟩⟩
  have hP1 := hP.more (Nat.le_succ _)
  obtain ⟨l1, l2, l3, l4⟩ := hP.len (by omega)
  have lf := hP.size
  have go : ∀ (t : Nat) (T : Tb) (H7 : Heap), PI T (i.toNat + 1) → Holds [tab t T, rtab r (flatT (sortT T)), ro H0] H7 → (∃ t' T', (some ⟨t, 0, none⟩ : Option Addr) = some ⟨t', 0, none⟩ ∧ Holds [tab t' T', rtab r (flatT (sortT T')), ro H0] H7 ∧ PI T' (i + 1).toNat ∧ 0 ≤ i + 1 ∧ i + 1 ≤ 300) := fun t T H7 hP h7 => ⟨t, T, rfl, h7, by rw [ei]; exact hP, by omega, by omega⟩
  have me : (300 - (i + 1)).toNat < (300 - i).toNat := by omega
  obtain ⟨n0, n1⟩ := pickI_in (c := a.n) (n := 70) (by decide) ha.n.1 ha.n.2
  obtain ⟨c0, c1⟩ := pickI_in (c := a.kind) (n := 9) (by decide) ha.kind.1 ha.kind.2
  have note : ∀ (X : Heap → Prop), (∀ T' H, PI T' (i.toNat + 1) → Holds [tab t T', rtab r (flatT (sortT T')), ro H0] H → X H) → ∀ (n q : Nat) (H7 : Heap), n ≤ 100 → Holds [zrs q n, tab t T, rtab r (flatT (sortT T)), ro H0] H7 →
      FnH Try.prog 16 #[.pointer (some ⟨t, 0, none⟩), .agg #[.int .i64 a.off, .int .i64 0, .int .i64 a.pid, .int .i64 a.epoch, .int .i64 a.seq, .slice (some ⟨q, 0, none⟩) n n]] H7 fun v H8 => v = .tuple #[] ∧
      FnH Try.prog 24 #[.pointer (some ⟨r, 0, none⟩), .agg #[.int .i64 a.off, .int .i64 0, .int .i64 a.pid, .int .i64 a.epoch, .int .i64 a.seq, .slice (some ⟨q, 0, none⟩) n n]] H8 fun v H9 => v = .tuple #[] ∧
      FnH Try.prog 21 #[.pointer (some ⟨t, 0, none⟩)] H9 fun v H6 => ∃ s1 : ByteArray, v = .string s1 ∧ FnH Try.prog 22 #[.pointer (some ⟨r, 0, none⟩)] H6 fun v H7 => ∃ s2 : ByteArray, v = .string s2 ∧ br (!(s1.toList == s2.toList)) (K (.bool false) H7) (X H7) := fun X kX n q H7 hn h7 => by
    have g := zrs_gives (q := q) (n := n) (by omega)
    refine note_spec (s := ⟨some ⟨q, 0, none⟩, n, n⟩) h7.swap l4 g (i := 0) rfl fun H8 h8 => ⟨rfl, ?_⟩
    have hl := hP.look a.pid
    have same : (a.pid = 0 ∨ ¬ ZOk a.off a.pid a.epoch a.seq n ∨ lateR (ofP (flatT (sortT T)) a.pid) a.off a.epoch a.seq = true) → (if a.pid = 0 ∨ rightM a.off 0 a.pid a.epoch a.seq (List.replicate n zr) ≠ 0 then T else noteM T a.off a.pid a.epoch a.seq (n : Int)) = T := fun z => by
      split
      · rfl
      · rename_i c
        have c1 : ¬ a.pid = 0 := fun z => c (.inl z)
        have c2 : ZOk a.off a.pid a.epoch a.seq n := right_iff.1 (Decidable.byContradiction fun z => c (.inr z))
        have c3 := (z.resolve_left c1).resolve_left (fun y => y c2)
        unfold noteM
        rw [late_eq (k := a.pid) hl.2 c2.2.1.1, ← hl.1, if_pos c3]
    refine rnote_spec (s := ⟨some ⟨q, 0, none⟩, n, n⟩) (h8.pull 2 rfl) (by omega) (g.at_ h8 1 rfl) hn ⟨ha.off.1, ha.off.2⟩ ⟨ha.pid.1, ha.pid.2⟩ ⟨ha.epoch.1, ha.epoch.2⟩ ⟨ha.seq.1, ha.seq.2⟩ (fun z H9 h9 => ⟨rfl, ?_⟩) (fun z1 z2 z3 H9 h9 => ⟨rfl, ?_⟩)
    · rw [same z] at h9
      exact fin X t T H9 ((h9.pull 2 rfl).tail.swap) hP1 fun H h => kX T H hP1 h
    · have z4 : lateB ((lookL T a.pid).getD []) a.off a.epoch a.seq = false := by rw [late_eq (k := a.pid) hl.2 z2.2.1.1, ← hl.1]; exact z3
      obtain ⟨p1, p2⟩ := hP.put z1 z2 z4
      have e : (if a.pid = 0 ∨ rightM a.off 0 a.pid a.epoch a.seq (List.replicate n zr) ≠ 0 then T else noteM T a.off a.pid a.epoch a.seq (n : Int)) = putL T a.pid ((lookL T a.pid).getD [] ++ [(a.epoch, a.seq, (n : Int), a.off)]) := by
        rw [if_neg (fun z => z.elim z1 fun y => y (right_iff.2 z2))]
        unfold noteM
        rw [if_neg (by rw [z4]; simp)]
      rw [e, ← p2] at h9
      exact fin X t _ H9 ((h9.pull 2 rfl).tail.swap) p1 fun H h => kX _ H p1 h
  refine ⟨b, o, e1, i0, q1, _, e3 0 _ rfl, _, e3 1 _ rfl, _, e3 2 _ rfl, _, e3 3 _ rfl, _, e3 4 _ rfl, _, e3 5 _ rfl, pick_spec (by decide) ⟨_, rfl, ?_⟩⟩
  generalize pickI a.kind 9 = c at *
  have z : c = 0 ∨ c = 1 ∨ c = 2 ∨ c = 3 ∨ c = 4 ∨ c = 5 ∨ c = 6 ∨ c = 7 ∨ c = 8 := by omega
  rcases z with rfl | rfl | rfl | rfl | rfl | rfl | rfl | rfl | rfl
  iterate 3 focus
    repeat (first | refine br_t rfl ?_ | refine br_f rfl ?_)
    obtain ⟨n, hn⟩ := Int.eq_ofNat_of_zero_le n0
    have bt : ∀ (X : Value → Heap → Prop), (∀ q H7, HL.Sub H4 H7 → Holds [zrs q n, tab t T, rtab r (flatT (sortT T)), ro H0] H7 → X (.agg #[.int .i64 a.off, .int .i64 0, .int .i64 a.pid, .int .i64 a.epoch, .int .i64 a.seq, .slice (some ⟨q, 0, none⟩) n n]) H7) → FnH Try.prog 13 #[.int .i64 a.pid, .int .i64 a.epoch, .int .i64 a.seq, .int .i64 (pickI a.n 70), .int .i64 a.off] H4 X := fun X kX => by
      rw [hn]
      exact batch_spec (Holds.whole H4) (by omega) fun q H7 h7 => kX q H7 (h7.sub 1 rfl) (Holds.onto h7 h4)
    refine ⟨pick_spec (by decide) ⟨_, rfl, HL.Sub.refl _, bt _ fun q H7 s7 h7 => ⟨_, _, _, _, _, ⟨some ⟨q, 0, none⟩, n, n⟩, rfl, s7, s7, note _ (fun T' H hp hh => ⟨rfl, go t T' H hp hh, me⟩) n q H7 (by omega) h7⟩, HL.Sub.refl _, bt _ fun q H7 s7 h7 => ⟨_, _, _, _, _, ⟨some ⟨q, 0, none⟩, n, n⟩, rfl, s7, note _ (fun T' H hp hh => ⟨rfl, go t T' H hp hh, me⟩) n q H7 (by omega) h7⟩⟩, HL.Sub.refl _, pick_spec (by decide) ⟨_, rfl, HL.Sub.refl _, bt _ fun q H7 s7 h7 => ⟨_, _, _, _, _, ⟨some ⟨q, 0, none⟩, n, n⟩, rfl, s7, note _ (fun T' H hp hh => ⟨rfl, go t T' H hp hh, me⟩) n q H7 (by omega) h7⟩⟩⟩
  iterate 3 focus
    repeat (first | refine br_t rfl ?_ | refine br_f rfl ?_)
    refine ask_spec (h4.read 0 rfl tab_mono) l4 ?_
    rw [askM_eq hP]
    refine ⟨_, _, rfl, rask_spec h4 (i := 1) rfl (by omega) fun H5 s5 => ⟨_, _, rfl, br_f (by simp) (br_f (by simp) ?_)⟩⟩
    exact fin _ t T H5 (Holds.up s5 h4) hP1 fun H h => ⟨rfl, go t T H hP1 h, me⟩
  · repeat (first | refine br_t rfl ?_ | refine br_f rfl ?_)
    refine cut_spec h4 l4 fun H5 h5 => ⟨rfl, rcut8_spec h5.swap (by omega) fun H6 h6 => ⟨rfl, ?_⟩⟩
    rw [← hP.cut_flat] at h6
    have hp := hP1.cut a.off
    exact fin _ t _ H6 h6.swap hp fun H h => ⟨rfl, go t _ H hp h, me⟩
  · repeat (first | refine br_t rfl ?_ | refine br_f rfl ?_)
    refine delete_spec h4 l4 fun H5 h5 => ⟨rfl, rdelete8_spec h5.swap (by omega) fun H6 h6 => ⟨rfl, ?_⟩⟩
    rw [← hP.del_flat] at h6
    have hp := hP1.del a.off
    exact fin _ t _ H6 h6.swap hp fun H h => ⟨rfl, go t _ H hp h, me⟩
  · repeat (first | refine br_t rfl ?_ | refine br_f rfl ?_)
    refine keep_spec h4 hP.wf (by omega) fun H5 h5 => ⟨_, rfl, load_kept h5 hP.keysOk (by omega) (by omega) (fun p hp => by have := l3 p hp; omega) fun t2 H6 h6 => ⟨_, _, rfl, br_f rfl (br_f rfl ?_)⟩⟩
    have hp := hP1.sort
    refine fin _ t2 (sortT T) H6 ?_ hp fun H h => ⟨rfl, go t2 _ H hp h, me⟩
    rw [sortT_id hP.keysOk]
    exact (h6.pull 1 rfl).tail
end Go.Proofs.Ytkabaoigablphaa
