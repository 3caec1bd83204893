/- What the laws of chapter 1 are given, as the walks want it; a start at which the listed variables are laid. -/
import Derived.Test.YtldaflbdldepnaaDoorRows
import Derived.Test.YtldaflbdldepnaaDoorLClones
import Derived.Test.YtldaflbdldepnaaDoorLRoom
import Derived.Test.YtldaflbdldepnaaDoorLWhole
import Derived.Test.YtldaflbdldepnaaDoorLSafe
import Derived.Test.YtldaflbdldepnaaDoorHlRow
import Derived.LaidMore
import Derived.OpenShut
import Derived.Lay
import Derived.SevenTiedAt
import Derived.Test.YtldaflbdldepnaaDoorTie
import Derived.Test.YtldaflbdldepnaaDoorCards
import Derived.Stop.Joined
namespace Go.Proofs.YtldaflbdldepnaaDoor
open Go Go.HL Go.RowKit Go.ChangeShapes Go.WideShapes Go.ChangeAt
set_option maxRecDepth 100000

theorem Tryd.own : ownKnob Tryd.prog.godebug = none := by kernel_rfl
theorem Tryd.laidOut : laidOutB Tryd.prog = true := by kernel_rfl
theorem u3 : Tryd.prog.underlying 3 = some (.int .i64) := by kernel_rfl
theorem u9 : Tryd.prog.underlying 9 = some .string := by kernel_rfl
theorem list5 {cs : List Value} (h : cs.length = 5) : ∃ a b c d e, cs = [a, b, c, d, e] := by
  match cs, h with
  | [a, b, c, d, e], _ => exact ⟨a, b, c, d, e, rfl⟩
/-- What the rows list: Go's own tables. -/
def laidL : List (String × DataW Unit) := [("unicode/utf8.acceptRanges", Rows.laid_unicode_utf8_acceptRanges), ("unicode/utf8.first", Rows.laid_unicode_utf8_first)]
theorem ops_came {H : Type} {enc : TypeId × Value → H} {w : World} {base : Nat} {sp : Nat → Bool} {held : Bool} {r : Reach} {b0 : Nat} {x : Value} {d : DataW H} {ps : List MemPlace}
    (hv : Value.okWide Tryd.prog w r b0 40 x) (h : DataW.Trod enc Tryd.prog w base sp held 40 x d ps) : ∃ (s : Sl) (l : List Op), x = .slice s.p s.n s.c ∧ Recs eOp (wholeH w) s l ∧ ∀ o ∈ l, OpOk (wholeH w) o := by
  obtain ⟨a, len, cap, rfl⟩ := okWide_slice Tryd.underlying40 hv
  obtain ⟨fuel, hf⟩ := h
  obtain ⟨s, e, h1, h2, h3⟩ := structs_of_trod (c := 5) Tryd.underlying40 Tryd.underlying45 (by kernel_rfl) (by kernel_rfl) rfl (by decide) hf
  obtain ⟨l, h4, h5⟩ := recs_of (enc := eOp) eOplen (fun o => OpOk (wholeH w) o) h1 h2 fun j hj => by
    obtain ⟨b, o, e1, cs, hl, hc, hfs⟩ := h3 j hj
    obtain ⟨v0, v1, v2, v3, v4, rfl⟩ := list5 hl
    obtain ⟨_, _, t0⟩ := hfs 0 _ rfl v0 rfl
    obtain ⟨_, _, t1⟩ := hfs 1 _ rfl v1 rfl
    obtain ⟨_, _, t2⟩ := hfs 2 _ rfl v2 rfl
    obtain ⟨_, _, t3⟩ := hfs 3 _ rfl v3 rfl
    obtain ⟨_, _, t4⟩ := hfs 4 _ rfl v4 rfl
    obtain ⟨n0, rfl, r0⟩ := int_of_trod u3 t0
    obtain ⟨s1, rfl, r1⟩ := str_of_trod u9 t1
    obtain ⟨s2, rfl, r2⟩ := str_of_trod u9 t2
    obtain ⟨n3, rfl, r3⟩ := int_of_trod u3 t3
    obtain ⟨s4, l4, rfl, r4, r5⟩ := ints_of_trod Tryd.underlying23 u3 (by kernel_rfl) t4
    exact ⟨b, o, e1, ⟨n0, s1, s2, n3, s4, l4⟩, ⟨r0, r2, r3, r4, r5⟩, hc⟩
  exact ⟨s, l, e, h4, h5⟩
theorem op_came {H : Type} {enc : TypeId × Value → H} {w : World} {base : Nat} {sp : Nat → Bool} {held : Bool} {r : Reach} {b0 : Nat} {x : Value} {d : DataW H} {ps : List MemPlace}
    (hv : Value.okWide Tryd.prog w r b0 45 x) (h : DataW.Trod enc Tryd.prog w base sp held 45 x d ps) : ∃ o : Op, x = .agg #[.int .i64 o.kind, .string o.name, .string o.b, .int .i64 o.n, .slice o.keep.p o.keep.n o.keep.c] ∧ OpOk (wholeH w) o := by
  obtain ⟨cs, rfl, hsz, hfs⟩ := open_agg Tryd.underlying45 (by kernel_rfl) hv h
  have h5 : Tryd.prog.cellsOf 45 = 5 := by kernel_rfl
  obtain ⟨v0, v1, v2, v3, v4, e⟩ := list5 (cs := cs.toList) (by rw [Array.length_toList, hsz, h5])
  have e : cs = #[v0, v1, v2, v3, v4] := by
    have := congrArg List.toArray e
    simpa using this
  subst e
  obtain ⟨_, _, t0⟩ := hfs 0 _ rfl v0 rfl
  obtain ⟨_, _, t1⟩ := hfs 1 _ rfl v1 rfl
  obtain ⟨_, _, t2⟩ := hfs 2 _ rfl v2 rfl
  obtain ⟨_, _, t3⟩ := hfs 3 _ rfl v3 rfl
  obtain ⟨_, _, t4⟩ := hfs 4 _ rfl v4 rfl
  obtain ⟨n0, rfl, r0⟩ := int_of_trod u3 t0
  obtain ⟨s1, rfl, r1⟩ := str_of_trod u9 t1
  obtain ⟨s2, rfl, r2⟩ := str_of_trod u9 t2
  obtain ⟨n3, rfl, r3⟩ := int_of_trod u3 t3
  obtain ⟨s4, l4, rfl, r4, r5⟩ := ints_of_trod Tryd.underlying23 u3 (by kernel_rfl) t4
  exact ⟨⟨n0, s1, s2, n3, s4, l4⟩, rfl, ⟨r0, r2, r3, r4, r5⟩⟩
/-- The zero heap with the tables laid meets the condition. -/
theorem laid_met (os : Os) (args : Array Value) : laidMetH Tryd.prog laidL ((World.laidAll Tryd.prog os laidL).forCall (fun _ _ => 0) ⟨#[], args, []⟩).memory := by
  rw [MakeChecks.laidMetH_plain _ _ _ (by kernel_rfl)]
  exact laidMet_laidAll _ (by kernel_rfl) (by kernel_rfl)
theorem safe_walk {w : World} {size : Int} {ps ss f : Sl} {parts : List ByteArray} {syncs L : List Int} (hb : i64B size) (hp : Recs eS (wholeH w) ps parts) (wp : ∀ x ∈ parts, x.size ≤ 9223372036854775807) (hs : Ints (wholeH w) ss syncs) (hf : Ints (wholeH w) f L) (wf : ∀ n ∈ L, i64B n) :
    FnH Tryd.prog 3 #[.int .i64 size, .slice ps.p ps.n ps.c, .slice ss.p ss.n ss.c, .slice f.p f.n f.c] (wholeH w) fun v H' => v = .bool true ∧ HL.Sub (wholeH w) H' := safe_law hb hp wp hs hf wf fun H' h => ⟨rfl, h⟩
theorem whole_walk {w : World} {size : Int} {a b : ByteArray} {f : Sl} {L : List Int} (hb : i64B size) (hf : Ints (wholeH w) f L) (wf : ∀ n ∈ L, i64B n) :
    FnH Tryd.prog 4 #[.int .i64 size, .string a, .string b, .slice f.p f.n f.c] (wholeH w) fun v H' => v = .bool true ∧ HL.Sub (wholeH w) H' := whole_law hb hf wf fun H' h => ⟨rfl, h⟩
theorem room_walk {w : World} {size : Int} {s : Sl} {l : List Op} (hb : i64B size) (hr : Recs eOp (wholeH w) s l) (ho : ∀ o ∈ l, OpOk (wholeH w) o) :
    FnH Tryd.prog 6 #[.int .i64 size, .slice s.p s.n s.c] (wholeH w) fun v H' => v = .bool true ∧ HL.Sub (wholeH w) H' := room_law hb hr ho fun H' h => ⟨rfl, h⟩
theorem errs_walk {w : World} {size : Int} {s : Sl} {l : List Op} {o : Op} (hb : i64B size) (hr : Recs eOp (wholeH w) s l) (ho : ∀ o ∈ l, OpOk (wholeH w) o) (hl : OpOk (wholeH w) o) :
    FnH Tryd.prog 7 #[.int .i64 size, .slice s.p s.n s.c, .agg #[.int .i64 o.kind, .string o.name, .string o.b, .int .i64 o.n, .slice o.keep.p o.keep.n o.keep.c]] (wholeH w) fun v H' => v = .bool true ∧ HL.Sub (wholeH w) H' := errs_spec hb hr ho hl fun H' h => ⟨rfl, h⟩
theorem clones_walk {w : World} {size : Int} {s m t : Sl} {l lm lt : List Op} (hb : i64B size) (hr : Recs eOp (wholeH w) s l) (ho : ∀ o ∈ l, OpOk (wholeH w) o) (hm : Recs eOp (wholeH w) m lm) (om : ∀ o ∈ lm, OpOk (wholeH w) o) (ht : Recs eOp (wholeH w) t lt) (ot : ∀ o ∈ lt, OpOk (wholeH w) o) :
    FnH Tryd.prog 8 #[.int .i64 size, .slice s.p s.n s.c, .slice m.p m.n m.c, .slice t.p t.n t.c] (wholeH w) fun v H' => v = .bool true ∧ HL.Sub (wholeH w) H' := clones_spec hb hr ho hm om ht ot fun H' h => ⟨rfl, h⟩
theorem twice_walk {w : World} {size : Int} {s f t : Sl} {l : List Op} {Lf Lt : List Int} (hb : i64B size) (hr : Recs eOp (wholeH w) s l) (ho : ∀ o ∈ l, OpOk (wholeH w) o) (hf : Ints (wholeH w) f Lf) (wf : ∀ n ∈ Lf, i64B n) (ht : Ints (wholeH w) t Lt) (wt : ∀ n ∈ Lt, i64B n) :
    FnH Tryd.prog 9 #[.int .i64 size, .slice s.p s.n s.c, .slice f.p f.n f.c, .slice t.p t.n t.c] (wholeH w) fun v H' => v = .bool true ∧ HL.Sub (wholeH w) H' := twice_spec hb hr ho hf wf ht wt fun H' h => ⟨rfl, h⟩
end Go.Proofs.YtldaflbdldepnaaDoor
