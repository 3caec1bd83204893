import Derived.Test.YtmofinghoacobaaGreatDoorHlSep
import Derived.Laws.Strings
import Derived.WideShapes
namespace Go.HL
set_option linter.unusedVariables false
theorem br_t {c : Bool} {A B : Prop} (h : c = true) (k : A) : br c A B := br_intro (fun _ => k) (fun e => by rw [h] at e; cases e)
theorem br_f {c : Bool} {A B : Prop} (h : c = false) (k : B) : br c A B := br_intro (fun e => by rw [h] at e; cases e) (fun _ => k)
def pickI (c n : Int) : Int := Int.tmod (if c < 0 then IntKind.wrap .i64 (0 - IntKind.wrap .i64 (c + 1)) else c) n
theorem pick_formula {c n : Int} {H : Heap} {K : Value → Heap → Prop} (hn : n ≠ 0) (k : K (.int .i64 (pickI c n)) H) :
    br (decide (c < 0)) (n ≠ 0 ∧ K (.int .i64 (Int.tmod (IntKind.wrap .i64 (0 - (IntKind.wrap .i64 (c + 1)))) n)) H) (n ≠ 0 ∧ K (.int .i64 (Int.tmod c n)) H) := by
  unfold pickI at k
  refine br_intro (fun h => ⟨hn, ?_⟩) (fun h => ⟨hn, ?_⟩)
  · rw [if_pos (of_decide_eq_true h)] at k; exact k
  · rw [if_neg (of_decide_eq_false h)] at k; exact k
theorem ints_formula {H : Heap} {a b : Sl} {l m : List Int} {K : Value → Heap → Prop} (hl : Ints H a l) (hm : Ints H b m) (k : K (.bool (decide (l = m))) H) :
    br (((a.n : Nat) : Int) != (b.n : Nat)) (K (.bool false) H)
     (∃ I1 : Int → Heap → Prop, ∃ M1 : Int → Heap → Nat, I1 0 H ∧ ∀ i_1 : Int, ∀ H1 : Heap, I1 i_1 H1 →
        br (decide ((i_1 : Int) < (a.n : Nat))) (
          ∃ q1 : Nat, ∃ o1 : Nat, (a.p : Option Addr) = some ⟨q1, o1, none⟩ ∧ 0 ≤ (i_1 : Int) ∧ (i_1 : Int) < (a.n : Nat) ∧ ∃ n1 : Int, cellH H1 ⟨q1, o1 + Int.toNat i_1, none⟩ = some (.int .i64 n1) ∧
          ∃ q2 : Nat, ∃ o2 : Nat, (b.p : Option Addr) = some ⟨q2, o2, none⟩ ∧ 0 ≤ (i_1 : Int) ∧ (i_1 : Int) < (b.n : Nat) ∧ ∃ n2 : Int, cellH H1 ⟨q2, o2 + Int.toNat i_1, none⟩ = some (.int .i64 n2) ∧
          br ((n1 : Int) != n2) (K (.bool false) H1)
           (SelfEq ([.v (.slice a.p a.n a.c), .v (.slice b.p b.n b.c)], [], []) ∧ I1 (IntKind.wrap .i64 (i_1 + 1)) H1 ∧ M1 (IntKind.wrap .i64 (i_1 + 1)) H1 < M1 i_1 H1))
         (K (.bool true) H1)) := by
  have h1 := hl.len
  have h2 := hm.len
  have hbig := hl.big
  have no : ¬ l = m → K (.bool false) H := fun q => by rw [decide_eq_false q] at k; exact k
  refine br_intro (fun hne => ?_) (fun heq => ?_)
  · have hne : ¬ (a.n : Int) = b.n := by simpa using hne
    exact no fun q => hne (by rw [h1, h2, q])
  · have heq : (a.n : Int) = b.n := by simpa using heq
    refine ⟨fun n H1 => H1 = H ∧ 0 ≤ n ∧ n ≤ a.n ∧ l.take n.toNat = m.take n.toNat, fun n _ => (a.n - n).toNat, ⟨rfl, by omega, by omega, by simp⟩, ?_⟩
    rintro n H1 ⟨rfl, h3, h4, h5⟩
    refine br_intro (fun hlt => ?_) (fun hge => ?_)
    · have hlt := of_decide_eq_true hlt
      obtain ⟨b, o, g1, g2, g3, g4⟩ := hl.at_ h3 hlt
      obtain ⟨b', o', f1, f2, f3, f4⟩ := hm.at_ h3 (by omega)
      refine ⟨b, o, g1, g2, g3, _, g4, b', o', f1, f2, f3, _, f4, br_intro (fun he => ?_) (fun he => ?_)⟩
      · have he : ¬ l.getD n.toNat 0 = m.getD n.toNat 0 := by simpa using he
        exact no fun q => he (by rw [q])
      · have he : l.getD n.toNat 0 = m.getD n.toNat 0 := by simpa using he
        rw [wrap64_id (by omega) (by omega)]
        refine ⟨rfl, ⟨rfl, by omega, by omega, ?_⟩, by dsimp only; omega⟩
        rw [take_next (d := 0) h3 (by omega), take_next (d := 0) h3 (by omega), h5, he]
    · have hge : ¬ n < a.n := by simpa using hge
      rw [take_all (by omega), take_all (by omega)] at h5
      rw [decide_eq_true h5] at k; exact k
theorem Ints.mono {s : Sl} {l : List Int} : Mono (fun H => Ints H s l) := fun _ _ hs h => h.sub hs
abbrev ints (s : Sl) (l : List Int) : Chunk := fun H => Ints H s l
theorem Holds.litInts {cs : List Chunk} {H : Heap} {q T : Nat} {l : List Int} (h : Holds (blk q (.cells (l.map (Value.int .i64)).toArray T (0, 0)) :: cs) H) (hb : l.length ≤ 9223372036854775807) : Ints H ⟨some ⟨q, 0, none⟩, l.length, l.length⟩ l :=
  ⟨rfl, hb, Nat.le_refl _, CellsAt.block (h.get 0 rfl) fun i hi => by simp at hi; simp [hi]⟩
theorem str_eq (a b : ByteArray) : (a.toList == b.toList) = decide (a = b) := by
  rw [ByteArray.toList_eq, ByteArray.toList_eq]
  by_cases e : a = b
  · rw [decide_eq_true e, e]; simp
  · rw [decide_eq_false e]
    cases q : a.data.toList == b.data.toList with
    | false => rfl
    | true => exact absurd (Go.WideShapes.bytes_inj (by simpa using q)) e
end Go.HL
