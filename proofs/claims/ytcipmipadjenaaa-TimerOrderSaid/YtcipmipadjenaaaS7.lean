/- What Len, Next, At, Cancel and Set of the timers do. -/
import Derived.Test.YtcipmipadjenaaaS6
namespace Go.Proofs.Ytcipmipadjenaaa
open Go.HL
set_option maxHeartbeats 400000

theorem look_cases {es : List E} {ml : List (Int × Value)} (hp : ml.Perm (pairs es)) (key : Int) : (lookL ml key = none ∧ ∀ e ∈ es, e.key ≠ key) ∨ ∃ (i : Nat) (e : E), es[i]? = some e ∧ e.key = key ∧ lookL ml key = some (ptrV e.b) := by
  cases h : lookL ml key with
  | none =>
    refine .inl ⟨rfl, fun e he hk => lookL_none h (ptrV e.b) (hp.mem_iff.2 ?_)⟩
    rw [← hk]
    exact List.mem_map.2 ⟨e, he, rfl⟩
  | some v =>
    obtain ⟨e, he, heq⟩ := List.mem_map.1 (hp.mem_iff.1 (lookL_mem h))
    simp only [Prod.mk.injEq] at heq
    obtain ⟨i, hi⟩ := List.getElem?_of_mem he
    exact .inr ⟨i, e, hi, heq.1, by rw [heq.2]⟩
theorem QT.mapc {H : Heap} {t : Nat} {m : Value} {s : Sl} {es : List E} (h : QT H t m s es) : cellH H ⟨t, 0 + 1, none⟩ = some m := by rw [cellH_eq h.top]; rfl
def atL (es : List E) (key : Int) : Int := ((es.find? fun e => decide (e.key = key)).map E.due).getD (-1)
theorem atL_none {es : List E} {key : Int} (h : ∀ e ∈ es, e.key ≠ key) : atL es key = -1 := by
  unfold atL
  rw [List.find?_eq_none.2 (fun e he => by simpa using h e he)]; rfl
theorem atL_some {es : List E} {e : E} (hk : (es.map E.key).Nodup) (he : e ∈ es) : atL es e.key = e.due := by
  unfold atL
  induction es with
  | nil => simp at he
  | cons a es ih =>
    simp only [List.map_cons, List.nodup_cons] at hk
    rcases List.mem_cons.1 he with q | q
    · subst q; simp
    · have : a.key ≠ e.key := fun x => hk.1 (x ▸ List.mem_map.2 ⟨e, q, rfl⟩)
      rw [List.find?_cons, decide_eq_false this]
      exact ih hk.2 q
theorem tlen_spec {H : Heap} {t : Nat} {es : List E} {K : Value → Heap → Prop} (h : TIn H t es) (k : K (.int .i64 es.length) H) : FnH Try.prog 18 #[.pointer (some ⟨t, 0, none⟩)] H K := by
  obtain ⟨⟨s, mb, ml, hq, -, -⟩, -, -, -⟩ := h
  apply timer_Timers_Len_fn
  refine ⟨s, hq.slice, ?_⟩
  rw [hq.q.len]; exact k
theorem at_spec {H : Heap} {t : Nat} {es : List E} {key : Int} {K : Value → Heap → Prop} (h : TIn H t es) (k : K (.int .i64 (atL es key)) H) : FnH Try.prog 16 #[.pointer (some ⟨t, 0, none⟩), .int .i64 key] H K := by
  obtain ⟨⟨s, mb, ml, hq, hm, hp⟩, hh, hk, -⟩ := h
  apply timer_Timers_At_fn
  refine ⟨some mb, hq.mapc, runH_lookup u46 kint z51 hm (k := key) ?_⟩
  rcases look_cases hp key with ⟨e, hn⟩ | ⟨i, e, hi, rfl, hl⟩
  · rw [e]
    rw [atL_none hn] at k
    exact ⟨none, false, rfl, br_f rfl k⟩
  · rw [hl]
    rw [atL_some hk (List.mem_of_getElem? hi)] at k
    exact ⟨some ⟨e.b, 0, none⟩, true, rfl, br_t rfl (ptrm_intro rfl ⟨e.due, one_due (hq.q.ones i e hi), k⟩)⟩
def nextL (es : List E) : Int := if es.length = 0 then -1 else es[0]!.due
theorem next_spec {H : Heap} {t : Nat} {es : List E} {K : Value → Heap → Prop} (h : TIn H t es) (k : K (.int .i64 (nextL es)) H) : FnH Try.prog 19 #[.pointer (some ⟨t, 0, none⟩)] H K := by
  obtain ⟨⟨s, mb, ml, hq, -, -⟩, -, -, -⟩ := h
  apply timer_Timers_Next_fn
  have sl := hq.q.len
  unfold nextL at k
  refine ⟨s, hq.slice, br_intro (fun h0 => ?_) (fun h0 => ?_)⟩
  · have h0 : (s.n : Int) = 0 := by simpa using h0
    rw [if_pos (by omega)] at k; exact k
  · have h0 : ¬ (s.n : Int) = 0 := by simpa using h0
    rw [if_neg (by omega)] at k
    obtain ⟨b, e, a1, a2, a3, a4, a5⟩ := hq.q.at_ (j := 0) (Int.le_refl _) (by omega)
    have a3 : es[0]! = e := a3
    rw [a3] at k
    exact ⟨s, hq.slice, b, 0, a1, Int.le_refl _, by omega, _, a4, ptrm_intro rfl ⟨e.due, one_due a5, k⟩⟩
end Go.Proofs.Ytcipmipadjenaaa
