/-
  No cell of these rows narrows 'for every input' (looked for: loops, veiled, ifaces, maps, wideKeys, modest, calm, conditions, laid).
  DERIVED. THE GIVEN ROWS OF THIS SEAT. 4 by the template 'for every input the law returns true; each argument reads behind the call as it read before'; 0 by the template 'total and deterministic' (their statements: YtkabaoigablphaaTotals.lean).
  GIVEN WITH THE SEED: the statements are not yours to turn. If you find one false, say at which input.
  Laid BY PROGRAM, IN A SANDBOX (cutbox-rows.mjs): the forced cells as the released guide's own fill.sh prints them over the translation a0476804813dcb4d… (all of the seat's roots in one cut). By AI agents, Wed Nov 11 2026. No macro, syntax, notation, axiom, sorry.
-/
import Derived.Test.YtkabaoigablphaaChecked
import GoSem.Claim
import GoSem.ClaimJoined
import GoSem.ClaimMapViews
import Derived.JoinedTies
import Derived.KernelRfl
namespace Go.Proofs.Ytkabaoigablphaa
/- THE CELL 'sum', in the pinned program and in every row, IS THE sha256 OF THE DUMP (.gsa) THAT YtkabaoigablphaaProg.lean LOADS. Nothing in Lean hashes anything: it is a label: what it is worth is what the hold of that sum in a sandbox is worth. -/
noncomputable def Try.pinned : Pinned := { name := "ytkabaoigablphaa", sum := "a0476804813dcb4dfb77ad417246696508ce257d39b1edf0f877a3414ece27d3", checked := Try.checked }
namespace Rows
def none {H : Type} : Left H := { results := [], args := [] }

/-- 'logboomlaw8.DedupOnce': WHATEVER THE INPUT: true; the input reads as it did. -/
def dedupOnceSpec : ChangeSpec := { name := "dedupOnce", fn := fun _ => fun
  | [d] => { results := [.lit (.bool true)], args := [d] }
  | _ => none }
def dedupOnceRow : OpenClaim := { program := "ytkabaoigablphaa", sum := "a0476804813dcb4dfb77ad417246696508ce257d39b1edf0f877a3414ece27d3", func := "logboom/logboomlaw8.DedupOnce", spec := "dedupOnce", unfollowed := true, recurses := true, apart := false }
def DedupOnceSaid : Prop := dedupOnceRow.holds Try.pinned (OpenSpec.ofChange dedupOnceSpec)

/-- ITS FALSE NEIGHBOUR: 'it returns false'. Refute it at one input. -/
def dedupOnceWrong : ChangeSpec := { name := "dedupOnce", fn := fun _ => fun
  | [d] => { results := [.lit (.bool false)], args := [d] }
  | _ => none }
def DedupOnceWrongFalsely : Prop := dedupOnceRow.holds Try.pinned (OpenSpec.ofChange dedupOnceWrong)

/-- 'logboomlaw8.DedupLoads': WHATEVER THE INPUT: true; the input reads as it did. -/
def dedupLoadsSpec : ChangeSpec := { name := "dedupLoads", fn := fun _ => fun
  | [d] => { results := [.lit (.bool true)], args := [d] }
  | _ => none }
def dedupLoadsRow : OpenClaim := { program := "ytkabaoigablphaa", sum := "a0476804813dcb4dfb77ad417246696508ce257d39b1edf0f877a3414ece27d3", func := "logboom/logboomlaw8.DedupLoads", spec := "dedupLoads", unfollowed := true, recurses := true, apart := false }
def DedupLoadsSaid : Prop := dedupLoadsRow.holds Try.pinned (OpenSpec.ofChange dedupLoadsSpec)

/-- ITS FALSE NEIGHBOUR: 'it returns false'. Refute it at one input. -/
def dedupLoadsWrong : ChangeSpec := { name := "dedupLoads", fn := fun _ => fun
  | [d] => { results := [.lit (.bool false)], args := [d] }
  | _ => none }
def DedupLoadsWrongFalsely : Prop := dedupLoadsRow.holds Try.pinned (OpenSpec.ofChange dedupLoadsWrong)

/-- 'logboomlaw8.DedupPlays': WHATEVER THE INPUT: true; the input reads as it did. -/
def dedupPlaysSpec : ChangeSpec := { name := "dedupPlays", fn := fun _ => fun
  | [d] => { results := [.lit (.bool true)], args := [d] }
  | _ => none }
def dedupPlaysRow : OpenClaim := { program := "ytkabaoigablphaa", sum := "a0476804813dcb4dfb77ad417246696508ce257d39b1edf0f877a3414ece27d3", func := "logboom/logboomlaw8.DedupPlays", spec := "dedupPlays", unfollowed := true, recurses := true, apart := false }
def DedupPlaysSaid : Prop := dedupPlaysRow.holds Try.pinned (OpenSpec.ofChange dedupPlaysSpec)

/-- ITS FALSE NEIGHBOUR: 'it returns false'. Refute it at one input. -/
def dedupPlaysWrong : ChangeSpec := { name := "dedupPlays", fn := fun _ => fun
  | [d] => { results := [.lit (.bool false)], args := [d] }
  | _ => none }
def DedupPlaysWrongFalsely : Prop := dedupPlaysRow.holds Try.pinned (OpenSpec.ofChange dedupPlaysWrong)

/-- 'logboomlaw8.DedupDeletes': WHATEVER THE INPUT: true; the input reads as it did. -/
def dedupDeletesSpec : ChangeSpec := { name := "dedupDeletes", fn := fun _ => fun
  | [d] => { results := [.lit (.bool true)], args := [d] }
  | _ => none }
def dedupDeletesRow : OpenClaim := { program := "ytkabaoigablphaa", sum := "a0476804813dcb4dfb77ad417246696508ce257d39b1edf0f877a3414ece27d3", func := "logboom/logboomlaw8.DedupDeletes", spec := "dedupDeletes", unfollowed := true, recurses := true, apart := false }
def DedupDeletesSaid : Prop := dedupDeletesRow.holds Try.pinned (OpenSpec.ofChange dedupDeletesSpec)

/-- ITS FALSE NEIGHBOUR: 'it returns false'. Refute it at one input. -/
def dedupDeletesWrong : ChangeSpec := { name := "dedupDeletes", fn := fun _ => fun
  | [d] => { results := [.lit (.bool false)], args := [d] }
  | _ => none }
def DedupDeletesWrongFalsely : Prop := dedupDeletesRow.holds Try.pinned (OpenSpec.ofChange dedupDeletesWrong)

/- THE SECOND FORM. 'bulk': how many values and letters a reading holds, each counted each time it is reached (what is shared counts as often as it is met; a slice's spare places count too). A statement '..UptoSaid' is the law's where the arguments, and the package variables that the reading takes, are together of bulk at most 1048576: NARROWER than '..Said'. Prove '..Said' where nothing that the law and all that it calls make is longer than what came in: it says more and counts as full. Else prove '..UptoSaid'. A law counts once. -/
mutual
def uptoBulk {H : Type} : DataW H → Nat
  | .lit (.string bytes) => bytes.length + 1
  | .lit _ => 1
  | .nil => 1
  | .ptr d => uptoBulk d + 1
  | .slice elems spare => uptoBulkAll elems + uptoBulkAll spare + 1
  | .agg parts => uptoBulkAll parts + 1
  | .iface _ d => uptoBulk d + 1
  | .map entries => uptoBulkEntries entries + 1
  | .held _ => 1
def uptoBulkAll {H : Type} : List (DataW H) → Nat
  | [] => 0
  | d :: r => uptoBulk d + uptoBulkAll r
def uptoBulkEntries {H : Type} : List (Lit × DataW H) → Nat
  | [] => 0
  | x :: r => uptoBulkEntry x + uptoBulkEntries r
def uptoBulkEntry {H : Type} : Lit × DataW H → Nat
  | (.string bytes, d) => bytes.length + uptoBulk d + 1
  | (_, d) => uptoBulk d + 1
 end
def uptoSmall : (H : Type) → List (DataW H) → Bool := fun _ ds => decide (uptoBulkAll ds ≤ 1048576)
def OpenSpec.upto (s : _root_.Go.ChangeSpec) : _root_.Go.OpenSpec := { _root_.Go.OpenSpec.ofChange s with cond := some uptoSmall }

/-- 'logboomlaw8.DedupOnce', WHERE WHAT IT READS IS OF BULK AT MOST 1048576: true; the input reads as it did. -/
def dedupOnceUptoRow : OpenClaim := { program := "ytkabaoigablphaa", sum := "a0476804813dcb4dfb77ad417246696508ce257d39b1edf0f877a3414ece27d3", func := "logboom/logboomlaw8.DedupOnce", spec := "dedupOnce", unfollowed := true, recurses := true, apart := false, narrowed := true }
def DedupOnceUptoSaid : Prop := dedupOnceUptoRow.holds Try.pinned (OpenSpec.upto dedupOnceSpec)

/-- 'logboomlaw8.DedupLoads', WHERE WHAT IT READS IS OF BULK AT MOST 1048576: true; the input reads as it did. -/
def dedupLoadsUptoRow : OpenClaim := { program := "ytkabaoigablphaa", sum := "a0476804813dcb4dfb77ad417246696508ce257d39b1edf0f877a3414ece27d3", func := "logboom/logboomlaw8.DedupLoads", spec := "dedupLoads", unfollowed := true, recurses := true, apart := false, narrowed := true }
def DedupLoadsUptoSaid : Prop := dedupLoadsUptoRow.holds Try.pinned (OpenSpec.upto dedupLoadsSpec)

/-- 'logboomlaw8.DedupPlays', WHERE WHAT IT READS IS OF BULK AT MOST 1048576: true; the input reads as it did. -/
def dedupPlaysUptoRow : OpenClaim := { program := "ytkabaoigablphaa", sum := "a0476804813dcb4dfb77ad417246696508ce257d39b1edf0f877a3414ece27d3", func := "logboom/logboomlaw8.DedupPlays", spec := "dedupPlays", unfollowed := true, recurses := true, apart := false, narrowed := true }
def DedupPlaysUptoSaid : Prop := dedupPlaysUptoRow.holds Try.pinned (OpenSpec.upto dedupPlaysSpec)

/-- 'logboomlaw8.DedupDeletes', WHERE WHAT IT READS IS OF BULK AT MOST 1048576: true; the input reads as it did. -/
def dedupDeletesUptoRow : OpenClaim := { program := "ytkabaoigablphaa", sum := "a0476804813dcb4dfb77ad417246696508ce257d39b1edf0f877a3414ece27d3", func := "logboom/logboomlaw8.DedupDeletes", spec := "dedupDeletes", unfollowed := true, recurses := true, apart := false, narrowed := true }
def DedupDeletesUptoSaid : Prop := dedupDeletesUptoRow.holds Try.pinned (OpenSpec.upto dedupDeletesSpec)

end Rows
end Go.Proofs.Ytkabaoigablphaa
