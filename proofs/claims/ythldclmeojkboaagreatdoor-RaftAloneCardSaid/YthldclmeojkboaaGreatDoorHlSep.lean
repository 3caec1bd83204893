import Derived.Test.YthldclmeojkboaaGreatDoorHlMap
namespace Go.HL
set_option linter.unusedVariables false
set_option linter.unusedSimpArgs false
abbrev Chunk := Heap → Prop
def Star (P Q : Chunk) : Chunk := fun H => ∃ H1 H2, H = H1.join H2 ∧ H1.disj H2 ∧ P H1 ∧ Q H2
def Holds : List Chunk → Heap → Prop
  | [], _ => True
  | c :: cs, H => Star c (Holds cs) H
def Mono (c : Chunk) : Prop := ∀ H H', Sub H H' → c H → c H'
theorem disj_symm {A B : Heap} (h : A.disj B) : B.disj A := fun b o ha => by
  cases e : B b with
  | none => rfl
  | some x => rw [h b x e] at ha; cases ha
theorem join_comm {A B : Heap} (h : A.disj B) : A.join B = B.join A := by
  funext b
  unfold Heap.join
  cases ea : A b with
  | none => cases B b <;> rfl
  | some x => rw [disj_symm h b x ea]; rfl
theorem join_assoc (A B C : Heap) : (A.join B).join C = A.join (B.join C) := by
  funext b
  unfold Heap.join
  cases A b <;> cases B b <;> rfl
theorem disj_join_left {A B C : Heap} : (A.join B).disj C ↔ A.disj C ∧ B.disj C := by
  refine ⟨fun h => ⟨fun b o hc => ?_, fun b o hc => ?_⟩, fun h b o hc => ?_⟩
  · have := h b o hc
    unfold Heap.join at this
    cases e : A b with
    | none => rfl
    | some x => rw [e] at this; cases this
  · have := h b o hc
    unfold Heap.join at this
    cases e : A b with
    | none => rw [e] at this; simpa using this
    | some x => rw [e] at this; cases this
  · unfold Heap.join; rw [h.1 b o hc, h.2 b o hc]; rfl
theorem disj_join_right {A B C : Heap} : A.disj (B.join C) ↔ A.disj B ∧ A.disj C :=
  ⟨fun h => by have := disj_join_left.1 (disj_symm h); exact ⟨disj_symm this.1, disj_symm this.2⟩, fun h => disj_symm (disj_join_left.2 ⟨disj_symm h.1, disj_symm h.2⟩)⟩
theorem Sub.left {A B : Heap} : Sub A (A.join B) := fun b o h => Heap.join_left h
theorem Sub.right {A B : Heap} (h : A.disj B) : Sub B (A.join B) := fun b o hb => Heap.join_right h hb
def Heap.less (H A : Heap) : Heap := fun b => match A b with | some _ => none | none => H b
theorem less_disj (H A : Heap) : A.disj (H.less A) := fun b o h => by
  unfold Heap.less at h
  cases e : A b with
  | none => rfl
  | some x => rw [e] at h; cases h
theorem less_join {H A : Heap} (h : Sub A H) : H = A.join (H.less A) := by
  funext b
  unfold Heap.join Heap.less
  cases e : A b with
  | none => simp
  | some x => rw [h b x e]; simp
theorem Sub.of_disj {H A B : Heap} (h : Sub B H) (hd : A.disj B) : Sub B (H.less A) := fun b o hb => by
  unfold Heap.less
  rw [hd b o hb]; exact h b o hb
theorem Star.comm {P Q : Chunk} {H : Heap} : Star P Q H → Star Q P H := fun ⟨A, B, e, d, p, q⟩ => ⟨B, A, by rw [e, join_comm d], disj_symm d, q, p⟩
theorem Star.assoc {P Q R : Chunk} {H : Heap} : Star (Star P Q) R H → Star P (Star Q R) H := fun ⟨_, C, e, d, ⟨A, B, e2, d2, p, q⟩, r⟩ => by
  subst e2; subst e
  have := disj_join_left.1 d
  exact ⟨A, B.join C, join_assoc _ _ _, disj_join_right.2 ⟨d2, this.1⟩, p, B, C, rfl, this.2, q, r⟩
theorem Star.mono {P P' Q Q' : Chunk} {H : Heap} (h : ∀ H, P H → P' H) (k : ∀ H, Q H → Q' H) : Star P Q H → Star P' Q' H := fun ⟨A, B, e, d, p, q⟩ => ⟨A, B, e, d, h _ p, k _ q⟩
theorem Star.assoc' {P Q R : Chunk} {H : Heap} (h : Star P (Star Q R) H) : Star (Star P Q) R H :=
  (Star.comm (Star.assoc (Star.comm (Star.assoc (Star.comm (Star.mono (fun _ => id) (fun _ h => Star.comm h) h |> Star.mono (fun _ => id) (fun _ => Star.comm)))))))
theorem Holds.up : ∀ {cs : List Chunk} {H H' : Heap}, Sub H H' → Holds cs H → Holds cs H' := by
  intro cs
  induction cs with
  | nil => intro H H' _ _; exact True.intro
  | cons c cs ih =>
    rintro H H' hs ⟨A, B, e, d, p, q⟩
    subst e
    exact ⟨A, H'.less A, less_join (Sub.left.trans hs), less_disj _ _, p, ih (((Sub.right d).trans hs).of_disj d) q⟩
theorem Holds.mono (cs : List Chunk) : Mono (Holds cs) := fun _ _ hs h => h.up hs
theorem Holds.nil (H : Heap) : Holds [] H := True.intro
theorem Holds.perm {cs ds : List Chunk} (hp : cs.Perm ds) : ∀ {H : Heap}, Holds cs H → Holds ds H := by
  induction hp with
  | nil => intro H h; exact h
  | cons c _ ih => intro H h; exact Star.mono (fun _ => id) (fun _ => ih) h
  | swap a b cs =>
    intro H h
    have h : Star b (Star a (Holds cs)) H := h
    exact Star.assoc (Star.mono (fun _ => Star.comm) (fun _ => id) (Star.assoc' h))
  | trans _ _ ih1 ih2 => intro H h; exact ih2 (ih1 h)
theorem Holds.head {c d : Chunk} {cs : List Chunk} {H : Heap} (hcd : ∀ H, c H → d H) (h : Holds (c :: cs) H) : Holds (d :: cs) H := Star.mono hcd (fun _ => id) h
theorem Holds.tail {c : Chunk} {cs : List Chunk} {H : Heap} (h : Holds (c :: cs) H) : Holds cs H := by
  obtain ⟨A, B, e, d, p, q⟩ := h
  subst e; exact q.up (Sub.right d)
theorem Holds.app {cs ds : List Chunk} : ∀ {H : Heap}, Holds (cs ++ ds) H ↔ Star (Holds cs) (Holds ds) H := by
  induction cs with
  | nil =>
    intro H
    refine ⟨fun h => ⟨Heap.emp, H, by funext b; simp [Heap.join, Heap.emp], fun b o _ => rfl, True.intro, h⟩, fun ⟨A, B, e, d, _, q⟩ => ?_⟩
    subst e; exact Holds.up (Sub.right d) q
  | cons c cs ih =>
    intro H
    refine ⟨fun h => ?_, fun h => ?_⟩
    · have h : Star c (Holds (cs ++ ds)) H := h
      exact Star.assoc' (Star.mono (fun _ => id) (fun _ h => ih.1 h) h)
    · exact Star.mono (fun _ => id) (fun _ h => ih.2 h) (Star.assoc h)
theorem Holds.flat {cs ds : List Chunk} {H : Heap} : Holds (Holds cs :: ds) H ↔ Holds (cs ++ ds) H := Holds.app.symm
theorem Holds.ex {α : Sort _} {P : α → Chunk} {cs : List Chunk} {H : Heap} : Holds ((fun H => ∃ x, P x H) :: cs) H ↔ ∃ x, Holds (P x :: cs) H :=
  ⟨fun ⟨A, B, e, d, ⟨x, p⟩, q⟩ => ⟨x, A, B, e, d, p, q⟩, fun ⟨x, A, B, e, d, p, q⟩ => ⟨A, B, e, d, ⟨x, p⟩, q⟩⟩
theorem Holds.pure {p : Prop} {P : Chunk} {cs : List Chunk} {H : Heap} : Holds ((fun H => p ∧ P H) :: cs) H ↔ p ∧ Holds (P :: cs) H :=
  ⟨fun ⟨A, B, e, d, ⟨x, p⟩, q⟩ => ⟨x, A, B, e, d, p, q⟩, fun ⟨x, A, B, e, d, p, q⟩ => ⟨A, B, e, d, ⟨x, p⟩, q⟩⟩
theorem pull_perm : ∀ {cs : List Chunk} {i : Nat} {c : Chunk}, cs[i]? = some c → cs.Perm (c :: cs.eraseIdx i) := by
  intro cs
  induction cs with
  | nil => intro i c h; simp at h
  | cons d cs ih =>
    intro i c h
    cases i with
    | zero => simp at h; subst h; exact List.Perm.refl _
    | succ i => exact ((ih (by simpa using h)).cons d).trans (List.Perm.swap _ _ _)
theorem Holds.pull {cs : List Chunk} {H : Heap} (h : Holds cs H) (i : Nat) {c : Chunk} (e : cs[i]? = some c) : Holds (c :: cs.eraseIdx i) H := h.perm (pull_perm e)
theorem put_perm : ∀ {cs : List Chunk} {i : Nat} {c d : Chunk}, cs[i]? = some c → (d :: cs.eraseIdx i).Perm (cs.set i d) := by
  intro cs i c d h
  have h' : (cs.set i d)[i]? = some d := by rw [List.getElem?_set_self' ]; simp [h]
  have := pull_perm h'
  rw [List.eraseIdx_set_eq] at this
  exact this.symm
theorem Holds.turn {cs : List Chunk} {H : Heap} (h : Holds cs H) (i : Nat) {c d : Chunk} (e : cs[i]? = some c) (hcd : ∀ H, c H → d H) : Holds (cs.set i d) H :=
  ((h.pull i e).head hcd).perm (put_perm e)
theorem Holds.part {cs : List Chunk} {H : Heap} (h : Holds cs H) (i : Nat) {c : Chunk} (e : cs[i]? = some c) : ∃ A, Sub A H ∧ c A := by
  obtain ⟨A, B, e, d, p, q⟩ := h.pull i e
  subst e; exact ⟨A, Sub.left, p⟩
theorem Holds.read {cs : List Chunk} {H : Heap} (h : Holds cs H) (i : Nat) {c : Chunk} (e : cs[i]? = some c) (hm : Mono c) : c H := by
  obtain ⟨A, s, p⟩ := h.part i e
  exact hm _ _ s p
def blk (b : Nat) (o : Obj) : Chunk := fun H => H b = some o
def ro (H0 : Heap) : Chunk := fun H => Sub H0 H
theorem blk_mono (b : Nat) (o : Obj) : Mono (blk b o) := fun _ _ hs h => hs _ _ h
theorem ro_mono (H0 : Heap) : Mono (ro H0) := fun _ _ hs h => h.trans hs
theorem Holds.get {cs : List Chunk} {H : Heap} (h : Holds cs H) (i : Nat) {b : Nat} {o : Obj} (e : cs[i]? = some (blk b o)) : H b = some o := h.read i e (blk_mono _ _)
theorem Holds.sub {cs : List Chunk} {H : Heap} (h : Holds cs H) (i : Nat) {H0 : Heap} (e : cs[i]? = some (ro H0)) : Sub H0 H := h.read i e (ro_mono _)
theorem Holds.cell {cs : List Chunk} {H : Heap} (h : Holds cs H) (i : Nat) {b : Nat} {arr : Array Value} {T : Nat} {fz : Nat × Nat} (e : cs[i]? = some (blk b (.cells arr T fz))) {o : Nat} {v : Value} (ev : arr[o]? = some v) : cellH H ⟨b, o, none⟩ = some v := by
  rw [cellH_eq (h.get i e)]; exact ev
theorem Holds.ne {cs : List Chunk} {H : Heap} {b b' : Nat} {o o' : Obj} (h : Holds (blk b o :: blk b' o' :: cs) H) : b ≠ b' := by
  obtain ⟨A, B, e, d, p, q⟩ := h
  rintro rfl
  have := d _ _ (q.get 0 rfl)
  rw [show A b = some o from p] at this; cases this
theorem Holds.upd {cs : List Chunk} {H : Heap} {b : Nat} {o : Obj} (h : Holds (blk b o :: cs) H) (o' : Obj) : Holds (blk b o' :: cs) (H.upd b o') := by
  obtain ⟨A, B, e, d, p, q⟩ := h
  subst e
  have p : A b = some o := p
  have hB : B b = none := disj_symm d _ _ p
  refine ⟨A.upd b o', B, ?_, fun x y hx => ?_, Heap.upd_same _ _ _, q⟩
  · funext x
    unfold Heap.upd Heap.join
    split <;> simp_all
  · have : x ≠ b := fun e => by subst e; rw [hB] at hx; cases hx
    rw [Heap.upd_ne _ _ this]; exact d _ _ hx
theorem Holds.updAt {cs : List Chunk} {H : Heap} (h : Holds cs H) (i : Nat) {b : Nat} {o : Obj} (e : cs[i]? = some (blk b o)) (o' : Obj) : Holds (cs.set i (blk b o')) (H.upd b o') :=
  ((h.pull i e).upd o').perm (put_perm e)
theorem Holds.add {cs : List Chunk} {H : Heap} (h : Holds cs H) {b : Nat} (hb : H b = none) (o : Obj) : Holds (blk b o :: cs) (H.upd b o) := by
  refine ⟨Heap.one b o, H, ?_, fun x y hx => ?_, by simp [blk, Heap.one], h⟩
  · funext x
    unfold Heap.upd Heap.join Heap.one
    split <;> simp
  · have : x ≠ b := fun e => by subst e; rw [hb] at hx; cases hx
    simp [Heap.one, this]
theorem Holds.store {cs : List Chunk} {H : Heap} (h : Holds cs H) (i : Nat) {b : Nat} {arr : Array Value} {T : Nat} (e : cs[i]? = some (blk b (.cells arr T (0, 0)))) {o : Nat} {v : Value} (lt : o < arr.size) {f : Heap → Prop}
    (k : ∀ H1, Holds (cs.set i (blk b (.cells (arr.setIfInBounds o v) T (0, 0)))) H1 → f H1) : (∃ u, cellH H ⟨b, o, none⟩ = some u) ∧ frozenH H ⟨b, o, none⟩ = false ∧ letH (H.set ⟨b, o, none⟩ v) f := by
  have hb := h.get i e
  refine ⟨⟨arr[o], by rw [cellH_eq hb]; exact Array.getElem?_eq_getElem lt⟩, frozenH_eq hb, letH_intro fun H1 g => k H1 ?_⟩
  rw [g, Heap.set_block hb]
  exact h.updAt i e _
theorem Holds.new {cs : List Chunk} {H : Heap} (h : Holds cs H) {o : Obj} {f : Nat → Heap → Prop} (k : ∀ b H1, Holds (blk b o :: cs) H1 → f b H1) : ∀ b, H b = none → letH (H.upd b o) (f b) :=
  fun b hb => letH_intro fun H1 g => k b H1 (by rw [g]; exact h.add hb o)
theorem Holds.freeze {cs : List Chunk} {H H0 : Heap} {c : Chunk} (h : Holds (ro H0 :: c :: cs) H) (hm : Mono c) : ∃ H0', Sub H0 H0' ∧ c H0' ∧ Holds (ro H0' :: cs) H := by
  obtain ⟨AB, C, e, d, ⟨A, B, e2, d2, p, q⟩, r⟩ := Star.assoc' (show Star (ro H0) (Star c (Holds cs)) H from h)
  subst e2
  exact ⟨A.join B, Sub.trans p Sub.left, hm _ _ (Sub.right d2) q, A.join B, C, e, d, Sub.refl _, r⟩
theorem Holds.whole (H : Heap) : Holds [ro H] H := ⟨H, Heap.emp, by funext b; simp [Heap.join, Heap.emp], fun _ _ h => (nomatch (show Heap.emp _ = some _ from h)), Sub.refl H, True.intro⟩
theorem Own.mono {e sz : Nat} {s : Sl} {vs : List Value} : Mono (fun H => Own H e sz s vs) := fun H H' hs ⟨h1, h2, h3⟩ => ⟨h1, h2, h3.imp_right fun ⟨b, arr, q, hb, r⟩ => ⟨b, arr, q, hs _ _ hb, r⟩⟩
abbrev own (e sz : Nat) (s : Sl) (vs : List Value) : Chunk := fun H => Own H e sz s vs
theorem Holds.own {cs : List Chunk} {H : Heap} (h : Holds cs H) (i : Nat) {e sz : Nat} {s : Sl} {vs : List Value} (ei : cs[i]? = some (HL.own e sz s vs)) : Own H e sz s vs := h.read i ei Own.mono
theorem Holds.append {P : Program} {t e sz : Nat} (hE : ElemOK P t e sz) {t2 e2 ty : Nat} (ht2 : P.underlying t2 = some (.slice e2)) {cs : List Chunk} {H : Heap} {s : Sl} {vs : List Value} (h : Holds (HL.own e sz s vs :: cs) H)
    {q : Option Addr} {m c2 : Nat} {xs : List Value} (hx : CellsAt H q xs) (hxl : xs.length = m * sz) (hnt : noTups xs = true) (hb : s.n + m ≤ 268435456) {K : Value → Heap → Prop}
    (k : ∀ (r : Sl) H', Holds (HL.own e sz r (vs ++ xs) :: cs) H' → r.n = s.n + m → K (.slice r.p r.n r.c) H') : runH P (Builtin.append_ #[t, t2] ty #[.slice s.p s.n s.c, .slice q m c2]) H K := by
  obtain ⟨A, B, e, d, p, hcs⟩ := h
  subst e
  have hf : Fresh B s := fun b o sp hp => by
    rcases p.2.2 with ⟨x, -⟩ | ⟨b', arr, x, hb', -⟩
    · rw [x] at hp; cases hp
    · rw [x] at hp
      simp only [Option.some.injEq, Addr.mk.injEq] at hp
      rw [← hp.1]; exact disj_symm d _ _ hb'
  refine append_own hE ht2 (Own.mono _ _ Sub.left p) hf (Sub.right d) hx hxl hnt hb fun r H' o' f' s' n' => k r H' ?_ n'
  have hd2 : (H'.less B).disj B := disj_symm (less_disj _ _)
  refine ⟨H'.less B, B, by rw [join_comm hd2]; exact less_join s', hd2, ?_, hcs⟩
  obtain ⟨o1, o2, o3⟩ := o'
  refine ⟨o1, o2, o3.imp_right fun ⟨b, arr, q, hb, r⟩ => ⟨b, arr, q, ?_, r⟩⟩
  unfold Heap.less
  rw [f' _ _ _ q]; exact hb
abbrev mp {κ : Type} [DecidableEq κ] (b : Nat) (enc : κ → Value) (l : List (κ × Value)) : Chunk := fun H => MapR H b enc l
theorem MapR.mono {κ : Type} [DecidableEq κ] {b : Nat} {enc : κ → Value} {l : List (κ × Value)} : Mono (mp b enc l) := fun _ _ hs ⟨o, h, r⟩ => ⟨o, hs _ _ h, r⟩
theorem Holds.mapPut {κ : Type} [DecidableEq κ] {cs : List Chunk} {H : Heap} (h : Holds cs H) (i : Nat) {b : Nat} {enc : κ → Value} {l l' : List (κ × Value)} (ei : cs[i]? = some (mp b enc l)) {o : Obj} (ho : MapO o enc l') :
    Holds (cs.set i (mp b enc l')) (H.upd b o) := by
  obtain ⟨A, B, e1, d, ⟨o0, p, -⟩, q⟩ := h.pull i ei
  have h2 : Holds (blk b o0 :: cs.eraseIdx i) H := ⟨A, B, e1, d, p, q⟩
  exact Holds.perm (put_perm ei) ((h2.upd o).head fun H hb => ⟨o, hb, ho⟩)
section
variable {κ : Type} [DecidableEq κ] {P : Program} {t kt et : TypeId} {enc : κ → Value} {cs : List Chunk} {H : Heap} {b : Nat} {l : List (κ × Value)} {k : κ}
theorem Holds.map (h : Holds cs H) (i : Nat) (ei : cs[i]? = some (mp b enc l)) : MapR H b enc l := h.read i ei MapR.mono
theorem Holds.newMap (h : Holds cs H) (enc : κ → Value) {f : Nat → Heap → Prop} (k : ∀ b H1, Holds (mp b enc [] :: cs) H1 → f b H1) : ∀ b, H b = none → letH (H.upd b (.map #[] 0)) (f b) :=
  h.new fun b H1 h1 => k b H1 (h1.head fun H hb => ⟨_, hb, MapO.nil enc⟩)
theorem Holds.update (h : Holds cs H) (i : Nat) (ei : cs[i]? = some (mp b enc l)) (ht : P.underlying t = some (.map kt et)) (hk : KeyOK P kt enc) {v : Value} {K : Unit → Heap → Prop} (c : ∀ H', Holds (cs.set i (mp b enc (putL l k v))) H' → K () H') :
    runH P (Instr.mapUpdate t (.map (some b)) (enc k) v) H K := runH_update ht hk (h.map i ei) fun o ho => c _ (h.mapPut i ei ho)
theorem Holds.delete {kt' ty : TypeId} (h : Holds cs H) (i : Nat) (ei : cs[i]? = some (mp b enc l)) (ht : P.underlying t = some (.map kt et)) (hk : KeyOK P kt enc) {K : Value → Heap → Prop} (c : ∀ H', Holds (cs.set i (mp b enc (delL l k))) H' → K (.tuple #[]) H') :
    runH P (Builtin.delete_ #[t, kt'] ty #[.map (some b), enc k]) H K := runH_delete ht hk (h.map i ei) fun o ho => c _ (h.mapPut i ei ho)
theorem Holds.lenM {K : Nat → Prop} (h : Holds cs H) (i : Nat) (ei : cs[i]? = some (mp b enc l)) (c : K l.length) : HL.lenM H (some b) K := by
  obtain ⟨_, h1, es, clock, rfl, h2, -⟩ := h.map i ei
  have : es.size = l.length := by
    have := congrArg List.length h2
    simpa [kvs, encs] using this
  exact ⟨es, clock, h1, by rw [this]; exact c⟩
def mpS (b : Nat) (enc : κ → Value) (l : List (κ × Value)) (k : κ) (n : Int) : Chunk := fun H => ∃ o, H b = some o ∧ StampO o enc l k n
theorem mpS.mono {n : Int} : Mono (mpS b enc l k n) := fun _ _ hs ⟨o, h, r⟩ => ⟨o, hs _ _ h, r⟩
theorem Holds.mapEntry (h : Holds cs H) (i : Nat) (ei : cs[i]? = some (mp b enc l)) (ht : P.underlying t = some (.map kt et)) (hk : KeyOK P kt enc) {z : Value} (hz : zeroT P et = some z) {K : Value → Heap → Prop}
    (c : ∀ n H', Holds (cs.set i (mpS b enc (if idxL l k = none then l ++ [(k, z)] else l) k n)) H' → K (.tuple #[(lookL l k).getD z, .int .i64 n]) H') : runH P (Instr.mapEntry t (.map (some b)) (enc k)) H K := by
  refine runH_mapEntry ht hk hz (h.map i ei) fun o n ho => c n _ ?_
  obtain ⟨A, B, e1, d, ⟨o0, p, -⟩, q⟩ := h.pull i ei
  have h2 : Holds (blk b o0 :: cs.eraseIdx i) H := ⟨A, B, e1, d, p, q⟩
  exact Holds.perm (put_perm ei) ((h2.upd o).head fun H hb => ⟨o, hb, ho⟩)
theorem Holds.entryStore {n : Int} {v : Value} (h : Holds cs H) (i : Nat) (ei : cs[i]? = some (mpS b enc l k n)) {K : Unit → Heap → Prop} (c : ∀ H', Holds (cs.set i (mp b enc (putL l k v))) H' → K () H') :
    runH P (Instr.entryStore t (.map (some b)) (.int .i64 n) v) H K := by
  obtain ⟨o, h1, ho⟩ := h.read i ei mpS.mono
  refine runH_entryStore h1 ho fun o' ho' => c _ ?_
  obtain ⟨A, B, e1, d, ⟨o0, p, -⟩, q⟩ := h.pull i ei
  have h2 : Holds (blk b o0 :: cs.eraseIdx i) H := ⟨A, B, e1, d, p, q⟩
  exact Holds.perm (put_perm ei) ((h2.upd o').head fun H hb => ⟨o', hb, ho'⟩)
end
theorem Holds.cons_emp {c : Chunk} {cs : List Chunk} {H : Heap} (hc : c Heap.emp) (h : Holds cs H) : Holds (c :: cs) H :=
  ⟨Heap.emp, H, by funext b; simp [Heap.join, Heap.emp], fun _ _ _ => rfl, hc, h⟩
theorem Holds.own_nil {cs : List Chunk} {H : Heap} (h : Holds cs H) (e sz : Nat) : Holds (HL.own e sz ⟨none, 0, 0⟩ [] :: cs) H := h.cons_emp (Own.nil _ _ _)
theorem Holds.push {P : Program} {t e sz : Nat} (hE : ElemOK P t e sz) {ty : Nat} {cs : List Chunk} {H : Heap} {s : Sl} {vs : List Value} (h : Holds (HL.own e sz s vs :: cs) H) {xs : List Value} {T m : Nat} (hxl : xs.length = m * sz) (hnt : noTups xs = true)
    (hb : s.n + m ≤ 268435456) {K : Value → Heap → Prop} (k : ∀ (r : Sl) H', Holds (HL.own e sz r (vs ++ xs) :: cs) H' → r.n = s.n + m → K (.slice r.p r.n r.c) H') :
    ∀ q, H q = none → letH (H.upd q (.cells xs.toArray T (0, 0))) fun H1 => runH P (Builtin.append_ #[t, t] ty #[.slice s.p s.n s.c, .slice (some ⟨q, 0, none⟩) m m]) H1 K := by
  refine h.new fun q H1 h1 => ?_
  have hx : CellsAt H1 (some ⟨q, 0, none⟩) xs := CellsAt.block (h1.get 0 rfl) fun i hi => by simp [hi]
  have h2 : Holds (HL.own e sz s vs :: blk q (.cells xs.toArray T (0, 0)) :: cs) H1 := h1.perm (List.Perm.swap _ _ _)
  exact Holds.append hE hE.under h2 hx hxl hnt hb fun r H' h3 n3 => k r H' (h3.perm (List.Perm.swap _ _ _)).tail n3
theorem sub_self (H : Heap) : Sub H H ↔ True := ⟨fun _ => trivial, fun _ => Sub.refl H⟩
theorem Holds.newS {cs : List Chunk} {H : Heap} (h : Holds cs H) {o : Obj} {f : Nat → Heap → Prop} (k : ∀ b H1, Sub H H1 → Holds (blk b o :: cs) H1 → f b H1) : ∀ b, H b = none → letH (H.upd b o) (f b) :=
  fun b hb => letH_intro fun H1 g => k b H1 (by rw [g]; exact Sub.new hb _) (by rw [g]; exact h.add hb o)
structure Recs {α : Type} (enc : α → List Value) (H : Heap) (s : Sl) (l : List α) : Prop where
  len : s.n = l.length
  cap : s.n ≤ s.c
  big : s.n ≤ 9223372036854775807
  cells : CellsAt H s.p (l.flatMap enc)
section
variable {α : Type} {enc : α → List Value} {k : Nat}
theorem Recs.mono {s : Sl} {l : List α} : Mono (fun H => Recs enc H s l) := fun _ _ hs h => ⟨h.len, h.cap, h.big, h.cells.sub hs⟩
theorem flat_len (hk : ∀ a, (enc a).length = k) : ∀ l : List α, (l.flatMap enc).length = l.length * k := by
  intro l
  induction l with
  | nil => simp
  | cons a l ih => simp [List.flatMap_cons, hk, ih, Nat.add_mul, Nat.add_comm]
theorem flat_get (hk : ∀ a, (enc a).length = k) : ∀ {l : List α} {j : Nat} {a : α}, l[j]? = some a → ∀ {f : Nat} {v : Value}, (enc a)[f]? = some v → (l.flatMap enc)[j * k + f]? = some v := by
  intro l
  induction l with
  | nil => intro j a h; simp at h
  | cons b l ih =>
    intro j a h f v hv
    rw [List.flatMap_cons]
    cases j with
    | zero =>
      simp at h; subst h
      have hf := (List.getElem?_eq_some_iff.1 hv).1
      rw [Nat.zero_mul, Nat.zero_add, List.getElem?_append_left hf]; exact hv
    | succ j =>
      have h2 := ih (j := j) (by simpa using h) hv
      rw [List.getElem?_append_right (by rw [hk, Nat.succ_mul]; omega), hk]
      have : (j + 1) * k + f - k = j * k + f := by rw [Nat.succ_mul]; omega
      rw [this]; exact h2
theorem Recs.at_ (hk : ∀ a, (enc a).length = k) (hpos : 0 < k) {H : Heap} {s : Sl} {l : List α} (h : Recs enc H s l) {j : Int} (h0 : 0 ≤ j) (h1 : j < s.n) :
    ∃ q o a, s.p = some ⟨q, o, none⟩ ∧ l[j.toNat]? = some a ∧ ∀ f v, (enc a)[f]? = some v → cellH H ⟨q, o + j.toNat * k + f, none⟩ = some v := by
  have hl := h.len
  have hj : j.toNat < l.length := by omega
  have hfl := flat_len hk l
  have hlt : ∀ f, f < k → j.toNat * k + f < (l.flatMap enc).length := fun f hf => by
    rw [hfl]
    have := Nat.mul_le_mul_right k (show j.toNat + 1 ≤ l.length by omega)
    rw [Nat.succ_mul] at this; omega
  obtain ⟨q, o, e1, -⟩ := h.cells _ (hlt 0 hpos)
  refine ⟨q, o, l[j.toNat], e1, List.getElem?_eq_getElem hj, fun f v hv => ?_⟩
  have hf : f < k := by have := (List.getElem?_eq_some_iff.1 hv).1; rwa [hk] at this
  obtain ⟨q', o', e2, e3⟩ := h.cells _ (hlt f hf)
  rw [e1] at e2
  simp only [Option.some.injEq, Addr.mk.injEq, and_true] at e2
  obtain ⟨rfl, rfl⟩ := e2
  rw [Nat.add_assoc, e3]
  have := flat_get hk (List.getElem?_eq_getElem hj) hv
  rw [List.getElem?_eq_getElem (hlt f hf)] at this
  exact this
theorem Recs.nil (H : Heap) : Recs enc H ⟨none, 0, 0⟩ [] := ⟨rfl, Nat.le_refl _, Nat.zero_le _, CellsAt.nil _ _⟩
theorem Own.recs (hk : ∀ a, (enc a).length = k) (hpos : 0 < k) {H : Heap} {e : Nat} {s : Sl} {l : List α} (h : Own H e k s (l.flatMap enc)) (hb : l.length ≤ 9223372036854775807) : Recs enc H s l := by
  have h1 := h.1
  rw [flat_len hk] at h1
  have h2 := Nat.eq_of_mul_eq_mul_right hpos h1
  exact ⟨h2.symm, h.2.1, by omega, h.cells⟩
theorem flat_drop (hk : ∀ a, (enc a).length = k) : ∀ (l : List α) (n : Nat), (l.drop n).flatMap enc = (l.flatMap enc).drop (n * k) := by
  intro l
  induction l with
  | nil => simp
  | cons a l ih =>
    intro n
    cases n with
    | zero => simp
    | succ n =>
      have e1 : (enc a).drop ((n + 1) * k) = [] := List.drop_eq_nil_of_le (by rw [hk, Nat.succ_mul]; omega)
      have e2 : (n + 1) * k - (enc a).length = n * k := by rw [hk, Nat.succ_mul]; omega
      rw [List.drop_succ_cons, ih, List.flatMap_cons, List.drop_append, e1, e2, List.nil_append]
theorem flat_take (hk : ∀ a, (enc a).length = k) : ∀ (l : List α) (n : Nat), (l.take n).flatMap enc = (l.flatMap enc).take (n * k) := by
  intro l
  induction l with
  | nil => simp
  | cons a l ih =>
    intro n
    cases n with
    | zero => simp
    | succ n =>
      have e1 : (enc a).take ((n + 1) * k) = enc a := List.take_of_length_le (by rw [hk, Nat.succ_mul]; omega)
      have e2 : (n + 1) * k - (enc a).length = n * k := by rw [hk, Nat.succ_mul]; omega
      rw [List.take_succ_cons, List.flatMap_cons, ih, List.flatMap_cons, List.take_append, e1, e2]
theorem Recs.upto (hk : ∀ a, (enc a).length = k) {H : Heap} {s : Sl} {l : List α} (h : Recs enc H s l) {j : Int} (h0 : 0 ≤ j) (h1 : j ≤ s.n) : Recs enc H (s.upto j k) (l.take j.toNat) := by
  have hl := h.len
  have hc := h.cap
  have hbig := h.big
  refine ⟨by simp; omega, by show _ ≤ _; simp; omega, by show Int.toNat (j - 0) ≤ _; omega, ?_⟩
  have e : slP s.p s.c 0 k = s.p := by
    unfold slP
    split
    · rfl
    · cases s.p with
      | none => rfl
      | some a => simp [Addr.add]
  show CellsAt H (slP s.p s.c 0 k) _
  rw [e, flat_take hk]
  exact h.cells.take _
theorem Recs.from_ (hk : ∀ a, (enc a).length = k) {H : Heap} {s : Sl} {l : List α} (h : Recs enc H s l) {j : Int} (h0 : 0 ≤ j) (h1 : j ≤ s.n) : Recs enc H (s.from_ j k) (l.drop j.toNat) := by
  have hl := h.len
  have hc := h.cap
  have hbig := h.big
  refine ⟨by simp; omega, by show Int.toNat ((s.n : Int) - j) ≤ Int.toNat ((s.c : Int) - j); omega, by show Int.toNat ((s.n : Int) - j) ≤ _; omega, ?_⟩
  show CellsAt H (slP s.p s.c j k) _
  rw [flat_drop hk]
  unfold slP
  split
  · rename_i e
    have : (l.flatMap enc).drop (j.toNat * k) = [] := by
      apply List.drop_eq_nil_of_le
      rw [flat_len hk]
      exact Nat.mul_le_mul_right _ (by omega)
    rw [this]; exact CellsAt.nil _ _
  · exact h.cells.drop _
end
abbrev recs {α : Type} (enc : α → List Value) (s : Sl) (l : List α) : Chunk := fun H => Recs enc H s l
theorem Holds.recs {α : Type} {enc : α → List Value} {cs : List Chunk} {H : Heap} (h : Holds cs H) (i : Nat) {s : Sl} {l : List α} (ei : cs[i]? = some (HL.recs enc s l)) : Recs enc H s l := h.read i ei Recs.mono
theorem Holds.open {β : Sort _} {ds : β → List Chunk} {cs : List Chunk} {H : Heap} : Holds ((fun H => ∃ x, Holds (ds x) H) :: cs) H ↔ ∃ x, Holds (ds x ++ cs) H :=
  Holds.ex.trans ⟨fun ⟨x, h⟩ => ⟨x, Holds.flat.1 h⟩, fun ⟨x, h⟩ => ⟨x, Holds.flat.2 h⟩⟩
theorem Holds.swap {a b : Chunk} {cs : List Chunk} {H : Heap} (h : Holds (a :: b :: cs) H) : Holds (b :: a :: cs) H := h.perm (List.Perm.swap _ _ _)
theorem erase_map {α β : Type _} (f : α → β) : ∀ (l : List α) (i : Nat), (l.map f).eraseIdx i = (l.eraseIdx i).map f := by
  intro l
  induction l with
  | nil => intro i; simp
  | cons a l ih =>
    intro i
    cases i with
    | zero => simp
    | succ i => simp [ih]
theorem Holds.pick {α : Type} {f : α → Chunk} {ps : List α} {i : Nat} {a : α} {cs : List Chunk} {H : Heap} (h : Holds (Holds (ps.map f) :: cs) H) (e : ps[i]? = some a) : Holds (f a :: Holds ((ps.eraseIdx i).map f) :: cs) H := by
  have h1 := Holds.flat.1 h
  have hp : (ps.map f).Perm (f a :: (ps.eraseIdx i).map f) := by
    have := pull_perm (cs := ps.map f) (i := i) (c := f a) (by rw [List.getElem?_map, e]; rfl)
    rw [erase_map] at this; exact this
  have h2 : Holds (f a :: ((ps.eraseIdx i).map f ++ cs)) H := h1.perm (hp.append_right cs)
  exact Star.mono (fun _ => id) (fun _ h => Holds.flat.2 h) h2
theorem Holds.back {α : Type} {f : α → Chunk} {ps : List α} {i : Nat} {a : α} {cs : List Chunk} {H : Heap} (h : Holds (f a :: Holds ((ps.eraseIdx i).map f) :: cs) H) (hi : i < ps.length) : Holds (Holds ((ps.set i a).map f) :: cs) H := by
  have h2 : Holds (f a :: ((ps.eraseIdx i).map f ++ cs)) H := Star.mono (fun _ => id) (fun _ h => Holds.flat.1 h) h
  have hp : ((ps.set i a).map f).Perm (f a :: (ps.eraseIdx i).map f) := by
    have := pull_perm (cs := (ps.set i a).map f) (i := i) (c := f a) (by rw [List.getElem?_map, List.getElem?_set_self hi]; rfl)
    rw [erase_map, List.eraseIdx_set_eq] at this; exact this
  exact Holds.flat.2 (h2.perm (hp.symm.append_right cs))
theorem Holds.more {α : Type} {f : α → Chunk} {ps : List α} {a : α} {cs : List Chunk} {H : Heap} (h : Holds (f a :: Holds (ps.map f) :: cs) H) : Holds (Holds ((ps ++ [a]).map f) :: cs) H := by
  have h2 : Holds (f a :: (ps.map f ++ cs)) H := Star.mono (fun _ => id) (fun _ h => Holds.flat.1 h) h
  have hp : ((ps ++ [a]).map f).Perm (f a :: ps.map f) := by rw [List.map_append]; exact List.perm_append_comm
  exact Holds.flat.2 (h2.perm (hp.symm.append_right cs))
structure Gives (c P : Chunk) : Prop where
  mono : Mono c
  give : ∀ H, c H → P H
theorem Gives.at_ {c P : Chunk} (g : Gives c P) {cs : List Chunk} {H : Heap} (h : Holds cs H) (i : Nat) (e : cs[i]? = some c) : P H := g.give _ (h.read i e g.mono)
theorem Own.some_ {H : Heap} {e sz : Nat} {s : Sl} {vs : List Value} (h : Own H e sz s vs) (hpos : 0 < s.n) : ∃ b arr, s.p = some ⟨b, 0, none⟩ ∧ H b = some (.cells arr e (0, 0)) ∧ arr.size = s.c * sz ∧ ∀ i (h : i < vs.length), arr[i]? = some vs[i] := by
  obtain ⟨h1, h2, h3⟩ := h
  rcases h3 with ⟨-, hc⟩ | h3
  · omega
  · exact h3
theorem Holds.ownUpd {e sz : Nat} {s : Sl} {vs ws : List Value} {cs : List Chunk} {H : Heap} (h : Holds (HL.own e sz s vs :: cs) H) {b : Nat} {arr arr' : Array Value} (hp : s.p = some ⟨b, 0, none⟩) (hb : H b = some (.cells arr e (0, 0)))
    (hw : ws.length = s.n * sz) (hs : arr'.size = s.c * sz) (ha : ∀ i (h : i < ws.length), arr'[i]? = some ws[i]) : Holds (HL.own e sz s ws :: cs) (H.upd b (.cells arr' e (0, 0))) := by
  obtain ⟨A, B, e1, d, p, q⟩ := h
  obtain ⟨p1, p2, p3⟩ := p
  rcases p3 with ⟨x, -⟩ | ⟨b2, arr2, x, hb2, -⟩
  · rw [x] at hp; cases hp
  · rw [x] at hp
    simp only [Option.some.injEq, Addr.mk.injEq, and_true] at hp
    subst hp
    have h2 : Holds (blk b2 (.cells arr2 e (0, 0)) :: cs) H := ⟨A, B, e1, d, hb2, q⟩
    exact (h2.upd (.cells arr' e (0, 0))).head fun A hA => ⟨hw, p2, .inr ⟨b2, arr', x, hA, hs, ha⟩⟩
theorem Holds.clear {P : Program} {t e sz ty : Nat} {z : Value} (ht : P.underlying t = some (.slice e)) (hz : zeroT P e = some z) (hzs : z.cells.size = sz) (hnt : ∀ n, noTups (Builtin.zeroCells z.cells n).toList = true) {s : Sl} {vs : List Value} {cs : List Chunk} {H : Heap}
    (h : Holds (HL.own e sz s vs :: cs) H) {i : Int} (h0 : 0 ≤ i) (h1 : i ≤ s.n) {K : Value → Heap → Prop} (k : ∀ (ws : List Value) H', ws.length = (s.n - i.toNat) * sz → Holds (HL.own e sz s (vs.take (i.toNat * sz) ++ ws) :: cs) H' → K (.tuple #[]) H') :
    runH P (Builtin.clear_ #[t] ty #[.slice (slP s.p s.c i sz) (Int.toNat ((s.n : Nat) - i)) (Int.toNat ((s.c : Nat) - i))]) H K := by
  have ho := h.own 0 rfl
  have hl := ho.1
  have hc := ho.2.1
  unfold Builtin.clear_
  refine runH_bind (runH_underlying ht ?_)
  by_cases hn : Int.toNat ((s.n : Nat) - i) = 0
  · rw [hn]
    have e1 : i.toNat = s.n := by omega
    have k := k [] H (by rw [e1]; simp) (by rw [List.take_of_length_le (by rw [hl, e1]; exact Nat.le_refl _), List.append_nil]; exact h)
    cases slP s.p s.c i sz <;> exact k
  · obtain ⟨b, arr, hp, hb, hs, ha⟩ := ho.some_ (by omega)
    have e1 : slP s.p s.c i sz = some ⟨b, i.toNat * sz, none⟩ := by
      unfold slP
      rw [if_neg (by omega), hp]
      simp [addr_add]
    rw [e1]
    obtain ⟨m, hm⟩ : ∃ m, Int.toNat ((s.n : Nat) - i) = m + 1 := ⟨Int.toNat ((s.n : Nat) - i) - 1, by omega⟩
    rw [hm]
    show runH P (zeroValue e >>= fun v => storeCells ⟨b, i.toNat * sz, none⟩ (Builtin.zeroCells v.cells (m + 1)).toList >>= fun _ => Pure.pure (Value.tuple #[])) H K
    refine runH_bind (runH_zeroValue hz ?_)
    refine runH_bind ?_
    have hb' : H b = some (.cells arr.toList.toArray e (0, 0)) := by simpa using hb
    have hzl : (Builtin.zeroCells z.cells (m + 1)).toList.length = (m + 1) * sz := by rw [Array.length_toList, zeroCells_size, hzs]
    have hfit : i.toNat * sz + (m + 1) * sz ≤ s.c * sz := by rw [← Nat.add_mul]; exact Nat.mul_le_mul_right _ (by omega)
    have hnn : i.toNat + (m + 1) = s.n := by omega
    refine runH_storeCells' _ 0 hb' (hnt _) (by rw [hzl, Array.length_toList, hs]; omega) ?_
    refine k (Builtin.zeroCells z.cells (m + 1)).toList _ (by rw [hzl]; congr 1; omega) ?_
    have hlen : i.toNat * sz + 0 + (Builtin.zeroCells z.cells (m + 1)).toList.length ≤ arr.toList.length := by rw [hzl, Array.length_toList, hs]; omega
    have htl : (vs.take (i.toNat * sz)).length = i.toNat * sz := by rw [List.length_take, hl]; exact Nat.min_eq_left (Nat.mul_le_mul_right _ (by omega))
    refine h.ownUpd hp hb (by rw [List.length_append, htl, hzl, ← Nat.add_mul, hnn]) (by rw [List.size_toArray, overL_length, Array.length_toList]; exact hs) fun j hj => ?_
    rw [List.getElem?_toArray, overL_get _ _ _ _ hlen, Nat.add_zero]
    rw [List.length_append, htl, hzl] at hj
    by_cases q : i.toNat * sz ≤ j
    · rw [if_pos ⟨q, by rw [hzl]; omega⟩, List.getElem_append_right (by rw [htl]; exact q)]
      simp only [htl]
      exact List.getElem?_eq_getElem _
    · rw [if_neg (fun x => q x.1), List.getElem_append_left (by rw [htl]; omega)]
      simp only [List.getElem_take]
      have := ha j (by rw [hl, ← hnn, Nat.add_mul]; omega)
      rw [← this, Array.getElem?_toList]
theorem Holds.down {a : Chunk} {cs : List Chunk} {H : Heap} (h : Holds (a :: cs) H) (n : Nat) : Holds (cs.take n ++ a :: cs.drop n) H :=
  h.perm (by have := (List.perm_middle (a := a) (l₁ := cs.take n) (l₂ := cs.drop n)).symm; rw [List.take_append_drop] at this; exact this)
theorem take_step {α : Type} {l : List α} {i : Int} {a : α} (h0 : 0 ≤ i) (h : l[i.toNat]? = some a) : l.take (i + 1).toNat = l.take i.toNat ++ [a] := by
  have e : (i + 1).toNat = i.toNat + 1 := by omega
  obtain ⟨h1, h2⟩ := List.getElem?_eq_some_iff.1 h
  rw [e, List.take_succ_eq_append_getElem h1, h2]
end Go.HL
