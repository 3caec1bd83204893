/- What Cancel and Set of the timers do. -/
import Derived.Test.YtcipmipadjenaaaS7
namespace Go.Proofs.Ytcipmipadjenaaa
open Go.HL
set_option maxHeartbeats 400000

abbrev kd (es : List E) : List (Int × Int) := es.map fun e => (e.key, e.due)
def but (es : List E) (key : Int) : List E := es.filter fun e => decide (e.key ≠ key)
theorem QT.updMap {H : Heap} {t : Nat} {m : Value} {s : Sl} {es : List E} {mb : Nat} {a a' : Array MapEntry} {c c' : Nat} (h : QT H t m s es) (hm : H mb = some (.map a c)) : QT (H.upd mb (.map a' c')) t m s es := by
  have n1 : t ≠ mb := fun x => by have := h.top; rw [x, hm] at this; cases this
  refine ⟨by rw [Heap.upd_ne _ _ n1]; exact h.top, ⟨?_, fun i e he => ?_⟩, h.small⟩
  · obtain ⟨o1, o2, o3⟩ := h.q.own
    refine ⟨o1, o2, o3.imp_right fun ⟨b, arr, q, hq, r⟩ => ⟨b, arr, q, ?_, r⟩⟩
    have : b ≠ mb := fun x => by rw [x, hm] at hq; cases hq
    rw [Heap.upd_ne _ _ this]; exact hq
  · have hh := h.q.ones i e he
    have : e.b ≠ mb := fun x => by rw [x, hm] at hh; cases hh
    rw [Heap.upd_ne _ _ this]; exact hh
theorem KeepT.map {t : Nat} {H H' : Heap} (h : KeepT t H H') {mb : Nat} {a : Array MapEntry} {c : Nat} (hm : H mb = some (.map a c)) (ht : ∃ cs T z, H t = some (.cells cs T z)) : H' mb = some (.map a c) :=
  h mb _ hm (by show (0 : Nat) ≠ 51; decide) (by show (0 : Nat) ≠ 54; decide) (fun x => by obtain ⟨cs, T, z, q⟩ := ht; rw [← x, hm] at q; cases q)
theorem del_perm {κ α : Type} [DecidableEq κ] : ∀ {l : List (κ × α)} {k : κ} {v : α}, lookL l k = some v → l.Perm ((k, v) :: delL l k) := by
  intro l
  induction l with
  | nil => intro k v h; cases h
  | cons p l ih =>
    intro k v h
    unfold lookL idxL at h
    unfold delL
    split at h
    · rename_i e
      rw [if_pos e]
      simp at h
      have : p = (k, v) := by cases p; simp at e h ⊢; exact ⟨e.symm, h⟩
      rw [this]
    · rename_i e
      rw [if_neg e]
      have : lookL l k = some v := by
        simp only [Option.map_map] at h
        unfold lookL; rw [← h]; congr 1
      exact ((ih this).cons p).trans (List.Perm.swap _ _ _)
theorem keys_perm {a b : List E} (h : a.Perm b) (hb : (b.map E.key).Nodup) : (a.map E.key).Nodup := (h.map E.key).nodup_iff.2 hb
theorem but_of {es rest : List E} {e : E} (h : (rest ++ [e]).Perm es) (hk : (es.map E.key).Nodup) : rest.Perm (but es e.key) := by
  have hk' := keys_perm h hk
  rw [List.map_append, List.nodup_append] at hk'
  have h1 := h.filter fun d => decide (d.key ≠ e.key)
  rw [List.filter_append] at h1
  have h2 : rest.filter (fun d => decide (d.key ≠ e.key)) = rest := List.filter_eq_self.2 fun d hd => by
    have := hk'.2.2 d.key (List.mem_map.2 ⟨d, hd, rfl⟩) e.key (by simp)
    simpa using this
  have h3 : [e].filter (fun d => decide (d.key ≠ e.key)) = [] := by simp
  rw [h2, h3, List.append_nil] at h1
  exact h1
theorem but_self {es : List E} {key : Int} (h : ∀ e ∈ es, e.key ≠ key) : but es key = es := List.filter_eq_self.2 fun e he => by simpa using h e he

theorem cancel_spec {H : Heap} {t : Nat} {es : List E} {key : Int} {K : Value → Heap → Prop} (h : TIn H t es) (k1 : (∀ e ∈ es, e.key ≠ key) → K (.int .i64 8) H)
    (k2 : ∀ H' es', TIn H' t es' → es'.Perm (but es key) → (∃ e ∈ es, e.key = key) → K (.int .i64 0) H') : FnH Try.prog 11 #[.pointer (some ⟨t, 0, none⟩), .int .i64 key] H K := by
  obtain ⟨⟨s, mb, ml, hq, hm, hp⟩, hh, hk, hf⟩ := h
  apply timer_Timers_Cancel_fn
  refine ⟨some mb, hq.mapc, runH_lookup u46 kint z51 hm (k := key) ?_⟩
  rcases look_cases hp key with ⟨e, hn⟩ | ⟨i, e, hi, rfl, hl⟩
  · rw [e]
    exact ⟨none, false, rfl, br_t rfl (k1 hn)⟩
  · rw [hl]
    have hli := (List.getElem?_eq_some_iff.1 hi).1
    have he : es[i]! = e := by rw [List.getElem!_eq_getElem?_getD, hi]; rfl
    have ho := hq.q.ones i e hi
    refine ⟨some ⟨e.b, 0, none⟩, true, rfl, br_f rfl (ptrm_intro rfl ⟨(i : Int), by rw [cellH_eq ho]; rfl, ?_⟩)⟩
    refine remove_spec (i := (i : Int)) hq ⟨by omega, by omega⟩ hh fun H2 s2 es2 h2 p2 hh2 kt => ⟨_, rfl, ?_⟩
    have ei : ((i : Int)).toNat = i := by omega
    rw [ei, he] at p2
    obtain ⟨me, mc, m1, m2⟩ := hm
    have hm2 := kt.map m1 ⟨_, _, _, hq.top⟩
    refine ⟨some mb, h2.mapc, runH_delete u46 kint ⟨me, mc, hm2, m2⟩ (k := e.key) fun me' mc' hm' => ⟨rfl, ?_⟩⟩
    have l2 := p2.length_eq
    simp only [List.length_append, List.length_cons, List.length_nil] at l2
    have hk2 := keys_perm p2 hk
    rw [List.map_append, List.nodup_append] at hk2
    refine k2 _ es2 ⟨⟨s2, mb, delL ml e.key, h2.updMap hm2, ⟨me', mc', Heap.upd_same _ _ _, hm'⟩, ?_⟩, hh2, hk2.1, by omega⟩ (but_of p2 hk) ⟨e, List.mem_of_getElem? hi, rfl⟩
    have q1 := (del_perm hl).symm.trans (hp.trans (p2.symm.map fun e => (e.key, ptrV e.b)))
    rw [List.map_append] at q1
    have q2 : (pairs es2 ++ [(e.key, ptrV e.b)]).Perm ((e.key, ptrV e.b) :: pairs es2) := List.perm_append_comm
    exact (q1.trans q2).cons_inv
end Go.Proofs.Ytcipmipadjenaaa
