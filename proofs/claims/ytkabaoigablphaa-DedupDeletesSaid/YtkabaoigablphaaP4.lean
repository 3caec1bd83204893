/- Chapter 8: the plain law of DedupDeletes: what is kept, and how long it is. -/
import Derived.Test.YtkabaoigablphaaP3
import Derived.Test.YtkabaoigablphaaW6
namespace Go.Proofs.Ytkabaoigablphaa
open Go Go.HL
set_option maxRecDepth 10000

/-- No list of the table is empty. -/
def NE (T : Tb) : Prop := ∀ k w, lookL T k = some w → w ≠ []
theorem NE.nil : NE [] := fun k w h => by cases h
theorem NE.put {T : Tb} (h : NE T) {k : Int} {v : List Nt} (hv : v ≠ []) : NE (putL T k v) := fun k' w e => by
  rw [lookL_put] at e
  split at e
  · obtain rfl := Option.some.inj e; exact hv
  · exact h k' w e
theorem NE.note {T : Tb} (h : NE T) (base pid epoch seq n : Int) : NE (noteM T base pid epoch seq n) := by
  unfold noteM
  split
  · exact h
  · exact h.put (by simp)
theorem NE.cut {T : Tb} (h : NE T) (hn : (T.map Prod.fst).Nodup) (c : Int) : NE (cutM T c) := fun k w e => by
  unfold cutM at e
  rw [look_fm hn] at e
  obtain ⟨v, h1, h2⟩ := Option.bind_eq_some_iff.1 e
  unfold cutF at h2
  split at h2
  · rename_i q
    obtain rfl := Option.some.inj h2
    intro z
    have z := congrArg List.length z
    have := aheadM_le v c
    simp only [List.length_take, List.length_nil] at z
    omega
  · cases h2
theorem NE.del {T : Tb} (h : NE T) (hn : (T.map Prod.fst).Nodup) (c : Int) : NE (delM T c) := fun k w e => by
  unfold delM at e
  rw [look_fm hn] at e
  obtain ⟨v, h1, h2⟩ := Option.bind_eq_some_iff.1 e
  have hv := h k v h1
  unfold delF at h2
  obtain rfl := Option.some.inj h2
  intro z
  obtain ⟨z1, z2⟩ := List.append_eq_nil_iff.1 z
  by_cases q : v.take (aheadM v c) = []
  · have := List.take_append_drop (aheadM v c) v
    rw [q, z2] at this
    exact hv this.symm
  · exact lat_ne (by decide) q z1
section
variable {l : List Bt} {T Ta Tb' : Tb} {start next i : Int}
theorem DI.cutAt (h : DI l T start next i) {c : Int} (hs : start ≤ c) (hc : c ≤ next) : DI (l.filter fun x => decide (x.base < c)) (cutM T c) start c (i + 1) := by
  have hin : ∀ x ∈ l.filter fun x => decide (x.base < c), x ∈ l := fun x hx => (List.mem_filter.1 hx).1
  refine ⟨by have := h.i0; omega, by have := h.len; have := List.length_filter_le (fun x : Bt => decide (x.base < c)) l; omega, h.st0, hs, by have := h.nx; omega, fun x hx => h.ok x (hin x hx), fun x hx => by simpa using (List.mem_filter.1 hx).2, h.chain.filter _, fm_keys h.keys, fun p => ?_⟩
  obtain ⟨D, S1, S2, e1, e2, hsf, hl⟩ := h.tab p
  have np := h.np p
  rw [e1] at np
  have npS := (List.pairwise_append.1 np).2.1
  refine ⟨D, S1, S2.filter fun x => decide (x.2.2.2 < c), ?_, ?_, hsf, hl⟩
  · rw [← logN_filter, e1, List.filter_append, List.filter_append, List.filter_eq_self.2 (fun x hx => decide_eq_true (by have := hl x (List.mem_append_left _ hx); omega)),
      (List.filter_eq_self (l := S1)).2 (fun x hx => decide_eq_true (by have := hl x (List.mem_append_right _ hx); omega))]
  · have e3 : (lookL (cutM T c) p).getD [] = ((lookL T p).getD []).takeWhile fun x => decide (x.2.2.2 < c) := by
      unfold cutM
      rw [look_fm h.keys]
      cases q : lookL T p with
      | none => rfl
      | some w =>
        show ((if aheadM w c > 0 then some (w.take (aheadM w c)) else none : Option (List Nt))).getD [] = w.takeWhile _
        rw [← take_ahead]
        split
        · rfl
        · rename_i z
          have : aheadM w c = 0 := by omega
          rw [this]; rfl
    rw [e3, e2, takeWhile_filter npS, List.filter_append, (List.filter_eq_self (l := S1)).2 (fun x hx => decide_eq_true (by have := hl x (List.mem_append_right _ hx); omega))]
/-! ### what is kept may be read -/
def Good (x : Nt) : Prop := 1 ≤ x.2.2.1 ∧ x.2.2.1 ≤ 3 ∧ 0 ≤ x.1 ∧ x.1 ≤ 2 ∧ 0 ≤ x.2.1 ∧ x.2.1 ≤ 11 ∧ 0 ≤ x.2.2.2 ∧ x.2.2.2 ≤ 100000
theorem chain_of : ∀ {w : List Nt} {was : Nt}, (∀ x ∈ w, Good x) → w.Pairwise NP → (∀ x ∈ w, was.2.2.2 < x.2.2.2 ∧ was.1 ≤ x.1 ∧ (x.1 = was.1 → was.2.1 + was.2.2.1 ≤ x.2.1)) → Chain was w := by
  intro w
  induction w with
  | nil => intro was _ _ _; trivial
  | cons a w ih =>
    intro was h1 h2 h3
    obtain ⟨p1, p2⟩ := List.pairwise_cons.1 h2
    have g := h1 a List.mem_cons_self
    have b := h3 a List.mem_cons_self
    unfold Good at g
    refine ⟨⟨by omega, by omega, by omega, by omega, by omega, b.1, b.2.1, b.2.2⟩, ih (fun x hx => h1 x (List.mem_cons_of_mem _ hx)) p2 fun x hx => ?_⟩
    have := p1 x hx
    unfold NP at this
    omega
theorem keysOk_of : ∀ {S : Tb} {last : Int}, S.Pairwise (fun p q => p.1 < q.1) → (∀ p ∈ S, last < p.1) → (∀ p ∈ S, p.1 ≤ 3 ∧ p.2 ≠ [] ∧ Chain was0 p.2) → KeysOk last S := by
  intro S
  induction S with
  | nil => intro last _ _ _; trivial
  | cons a S ih =>
    intro last h1 h2 h3
    obtain ⟨p1, p2⟩ := List.pairwise_cons.1 h1
    obtain ⟨c1, c2, c3⟩ := h3 a List.mem_cons_self
    exact ⟨⟨h2 a List.mem_cons_self, by omega, c2, c3⟩, ih p2 p1 fun p hp => h3 p (List.mem_cons_of_mem _ hp)⟩
theorem few_keys : ∀ {S : Tb} {last : Int}, S.Pairwise (fun p q => p.1 < q.1) → (∀ p ∈ S, last < p.1) → (∀ p ∈ S, p.1 ≤ 3) → (S.length : Int) ≤ 3 - last ∨ S = [] := by
  intro S
  induction S with
  | nil => intro last _ _ _; exact .inr rfl
  | cons a S ih =>
    intro last h1 h2 h3
    obtain ⟨p1, p2⟩ := List.pairwise_cons.1 h1
    have a1 := h2 a List.mem_cons_self
    have a2 := h3 a List.mem_cons_self
    refine .inl ?_
    rw [List.length_cons]
    rcases ih p2 p1 fun p hp => h3 p (List.mem_cons_of_mem _ hp) with z | z
    · omega
    · rw [z]; simp; omega
theorem keysS_lt {T : Tb} (hn : (T.map Prod.fst).Nodup) : (keysS T).Pairwise fun a b => a < b := by
  have h1 : (keysS T).Pairwise fun a b => decide (a ≤ b) = true := List.pairwise_mergeSort (fun a b c h1 h2 => decide_eq_true (by have := of_decide_eq_true h1; have := of_decide_eq_true h2; omega)) (fun a b => by rw [Bool.or_eq_true, decide_eq_true_iff, decide_eq_true_iff]; omega) _
  have h2 : (keysS T).Nodup := (keysS_perm T).nodup_iff.2 hn
  have h3 := List.Pairwise.and h1 h2
  exact h3.imp fun ⟨x, y⟩ => by have := of_decide_eq_true x; have : ¬ _ = _ := y; omega
theorem sortT_lt {T : Tb} (hn : (T.map Prod.fst).Nodup) : (sortT T).Pairwise fun p q => p.1 < q.1 := List.pairwise_map.2 (keysS_lt hn)
theorem sortT_mem {T : Tb} {p : Int × List Nt} (h : p ∈ sortT T) : lookL T p.1 = some p.2 := by
  obtain ⟨k, hk, rfl⟩ := List.mem_map.1 h
  obtain ⟨q, hq⟩ := idxL_mem ((keysS_perm T).mem_iff.1 hk)
  show lookL T k = some ((lookL T k).getD [])
  unfold lookL
  rw [hq]; rfl
theorem DI.kept (h : DI l T start next i) (hi : i ≤ 200) (hne : NE T) {p : Int × List Nt} (hp : p ∈ sortT T) : 1 ≤ p.1 ∧ p.1 ≤ 3 ∧ p.2 ≠ [] ∧ Chain was0 p.2 ∧ p.2.length ≤ 200 := by
  have e := sortT_mem hp
  have hn := hne _ _ e
  have hsub : ∀ x ∈ p.2, x ∈ logN p.1 l := fun x hx => h.sub (by rw [e]; exact hx)
  have hg : ∀ x ∈ p.2, Good x := fun x hx => by
    obtain ⟨b, hb, -, rfl⟩ := mem_logN (hsub x hx)
    have o := h.ok b hb
    have := h.lt b hb
    have := h.nx
    have h1 := o.ep0; have h2 := o.ep1; have h3 := o.seq0; have h4 := o.seq1; have h5 := o.n0; have h6 := o.n1; have h7 := o.base0
    unfold Good
    dsimp only [ntOf]
    omega
  obtain ⟨D, S1, S2, e1, e2, -, -⟩ := h.tab p.1
  rw [e] at e2
  have e2 : p.2 = S1 ++ S2 := e2
  have np := h.np p.1
  rw [e1, ← e2] at np
  have hlen : p.2.length ≤ 200 := by
    have h1 : (logN p.1 l).length ≤ l.length := by
      unfold logN; rw [List.length_map]; exact List.length_filter_le _ _
    have h2 := congrArg List.length e1
    rw [← e2, List.length_append] at h2
    have := h.len
    omega
  obtain ⟨x, hx⟩ := List.exists_mem_of_ne_nil _ hn
  obtain ⟨b, hb, hbp, -⟩ := mem_logN (hsub x hx)
  have o := h.ok b hb
  refine ⟨by have := o.pid0; omega, by have := o.pid1; omega, hn, chain_of hg (List.pairwise_append.1 np).2.1 fun x hx => ?_, hlen⟩
  have g := hg x hx
  unfold Good at g
  unfold was0
  dsimp only
  omega
theorem DI.keysOk (h : DI l T start next i) (hi : i ≤ 200) (hne : NE T) : KeysOk 0 (sortT T) :=
  keysOk_of (sortT_lt h.keys) (fun p hp => by have := (h.kept hi hne hp).1; omega) fun p hp => by
    obtain ⟨h1, h2, h3, h4, -⟩ := h.kept hi hne hp
    exact ⟨h2, h3, h4⟩
theorem encL_le (L : List Int) : (encL L).length ≤ 10 * L.length := by
  induction L with
  | nil => exact Nat.le_refl _
  | cons a L ih =>
    rw [encL_cons, List.length_append, List.length_cons]
    have := encN_len a; omega
theorem ntI_len (w : List Nt) : (w.flatMap ntI).length = 4 * w.length := by
  induction w with
  | nil => rfl
  | cons a w ih => rw [List.flatMap_cons, List.length_append, ih, List.length_cons]; show 4 + _ = _; omega
theorem rows_len : ∀ {S : Tb} {n : Nat}, (∀ p ∈ S, p.2.length ≤ n) → (S.flatMap rowI).length ≤ S.length * (2 + 4 * n) := by
  intro S n
  induction S with
  | nil => intro _; simp
  | cons a S ih =>
    intro h
    have h1 := h a List.mem_cons_self
    have h2 := ih fun p hp => h p (List.mem_cons_of_mem _ hp)
    rw [List.flatMap_cons, List.length_append, List.length_cons, Nat.succ_mul]
    have : (rowI a).length = 2 + 4 * a.2.length := by unfold rowI; rw [List.length_append, ntI_len]; rfl
    omega
theorem DI.body (h : DI l T start next i) (hi : i ≤ 200) (hne : NE T) : (encL (bodyI (sortT T))).length ≤ 100000 ∧ (sortT T).length ≤ 3 ∧ ∀ p ∈ sortT T, p.2.length ≤ 200 := by
  have h3 : ∀ p ∈ sortT T, p.2.length ≤ 200 := fun p hp => (h.kept hi hne hp).2.2.2.2
  have h2 : (sortT T).length ≤ 3 := by
    rcases few_keys (last := 0) (sortT_lt h.keys) (fun p hp => by have := (h.kept hi hne hp).1; omega) (fun p hp => (h.kept hi hne hp).2.1) with z | z
    · omega
    · rw [z]; simp
  refine ⟨?_, h2, h3⟩
  have h4 := rows_len h3
  have h5 := encL_le (bodyI (sortT T))
  have h6 : (bodyI (sortT T)).length = ((sortT T).flatMap rowI).length + 1 := rfl
  have h7 : (sortT T).length * (2 + 4 * 200) ≤ 3 * 802 := Nat.mul_le_mul_right _ h2
  omega
theorem DI.wf (h : DI l T start next i) (hi : i ≤ 200) (hne : NE T) : WfT T := fun p hp => by
  have e := look_mem h.keys hp
  have hm : p ∈ sortT T := List.mem_map.2 ⟨p.1, (keysS_perm T).mem_iff.2 (List.mem_map.2 ⟨p, hp, rfl⟩), by rw [e]; rfl⟩
  exact KeysOk.wf (Int.le_refl _) (h.keysOk hi hne) p hm
/-! ### what is kept of the other is no shorter -/
theorem encD_mono : ∀ (f : Nat) {z z' : Nat}, z ≤ z' → (encD f z).length ≤ (encD f z').length := by
  intro f
  induction f with
  | zero => intro z z' _; exact Nat.le_refl _
  | succ f ih =>
    intro z z' h
    have := ih (z := z / 128) (z' := z' / 128) (by omega)
    unfold encD
    split <;> split <;> simp <;> omega
theorem encN_mono {a b : Nat} (h : a ≤ b) : (encN (a : Int)).length ≤ (encN (b : Int)).length := encD_mono 10 (by unfold zigN; rw [if_neg (by omega), if_neg (by omega)]; omega)
theorem rows_mono : ∀ (L : List Int) {f g : Int → List Nt}, (∀ k ∈ L, ∃ D, g k = D ++ f k) → (encL ((L.map fun k => (k, f k)).flatMap rowI)).length ≤ (encL ((L.map fun k => (k, g k)).flatMap rowI)).length := by
  intro L f g
  induction L with
  | nil => intro _; exact Nat.le_refl _
  | cons k L ih =>
    intro h
    have h1 := ih fun k hk => h k (List.mem_cons_of_mem _ hk)
    obtain ⟨D, hD⟩ := h k List.mem_cons_self
    rw [List.map_cons, List.map_cons, List.flatMap_cons, List.flatMap_cons, encL_app, encL_app, List.length_append, List.length_append]
    have e : ∀ w : List Nt, (encL (rowI (k, w))).length = (encN k).length + ((encN (w.length : Int)).length + (encL (w.flatMap ntI)).length) := fun w => by
      have := congrArg List.length (rowI_enc (k, w) [])
      simp only [List.append_nil, List.length_append] at this
      exact this
    rw [e, e, hD, List.flatMap_append, encL_app]
    have := encN_mono (a := (f k).length) (b := (D ++ f k).length) (by rw [List.length_append]; omega)
    have e9 : (encL (D.flatMap ntI) ++ encL ((f k).flatMap ntI)).length = (encL (D.flatMap ntI)).length + (encL ((f k).flatMap ntI)).length := List.length_append
    omega
theorem DI.keyIff (h : DI l T start next i) (hne : NE T) (k : Int) : k ∈ T.map Prod.fst ↔ logN k l ≠ [] := by
  obtain ⟨D, S1, S2, e1, e2, hs, -⟩ := h.tab k
  constructor
  · intro hk
    obtain ⟨q, hq⟩ := idxL_mem hk
    have e : lookL T k = some q.2 := by unfold lookL; rw [hq]; rfl
    have := hne _ _ e
    rw [e] at e2
    have e2 : q.2 = S1 ++ S2 := e2
    rw [e1, ← e2]
    intro z
    exact this (List.append_eq_nil_iff.1 z).2
  · intro hk
    refine Decidable.byContradiction fun hno => ?_
    rw [lookL_none hno] at e2
    have e2 : [] = S1 ++ S2 := e2
    obtain ⟨z1, z2⟩ := List.append_eq_nil_iff.1 e2.symm
    rw [e1, z1, z2] at hk
    subst z1
    rcases hs with z | z | ⟨x, hx, -⟩
    · rw [z] at hk; exact hk rfl
    · simp at z
    · simp at hx
theorem DI.shorter (ha : DI l Ta start next i) (hb : DI l Tb' 0 next i) (na : NE Ta) (nb' : NE Tb') : (keepN (sortT Ta)).length ≤ (keepN (sortT Tb')).length := by
  have hk : keysS Ta = keysS Tb' := by
    refine List.Perm.eq_of_pairwise (le := fun a b : Int => a < b) (fun a b _ _ h1 h2 => by omega) (keysS_lt ha.keys) (keysS_lt hb.keys) ?_
    refine (keysS_perm Ta).trans (List.Perm.trans ?_ (keysS_perm Tb').symm)
    exact (List.perm_ext_iff_of_nodup ha.keys hb.keys).2 fun k => (ha.keyIff na k).trans (hb.keyIff nb' k).symm
  have e : ∀ S : Tb, (keepN S).length = 4 + ((encN (S.length : Int)).length + (encL (S.flatMap rowI)).length) := fun S => by
    unfold keepN
    rw [List.length_append]
    have : bodyI S = (S.length : Int) :: S.flatMap rowI := rfl
    rw [this, encL_cons, List.length_append]; rfl
  rw [e, e]
  have hl : (sortT Ta).length = (sortT Tb').length := by unfold sortT; rw [List.length_map, List.length_map, hk]
  have := rows_mono (keysS Ta) (f := fun k => (lookL Ta k).getD []) (g := fun k => (lookL Tb' k).getD []) fun k _ => by
    obtain ⟨D, S1, S2, e1, e2, -, -⟩ := ha.tab k
    obtain ⟨D', S1', S2', f1, f2, -, f3⟩ := hb.tab k
    have hz : D' ++ S1' = [] := by
      refine List.eq_nil_iff_forall_not_mem.2 fun x hx => ?_
      have h1 := f3 x hx
      have h2 := hb.nb (p := k) (x := x) (by rw [f1, ← List.append_assoc]; exact List.mem_append_left _ hx)
      omega
    obtain ⟨z1, z2⟩ := List.append_eq_nil_iff.1 hz
    refine ⟨D, ?_⟩
    rw [f2, e2, z2, List.nil_append, ← e1, f1, z1, z2]; rfl
  rw [hl]
  unfold sortT
  rw [← hk]
  omega
end
end Go.Proofs.Ytkabaoigablphaa
