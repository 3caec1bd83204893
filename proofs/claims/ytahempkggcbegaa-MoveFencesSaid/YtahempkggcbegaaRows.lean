/-
  No cell of these rows narrows 'for every input' (looked for: loops, veiled, ifaces, maps, wideKeys, modest, calm, conditions, laid).
  DERIVED. THE GIVEN ROWS OF THIS SEAT. 4 by the template 'for every input the law returns true; each argument reads behind the call as it read before'; 0 by the template 'total and deterministic' (their statements: YtahempkggcbegaaTotals.lean).
  GIVEN WITH THE SEED: the statements are not yours to turn. If you find one false, say at which input.
  Laid BY PROGRAM, IN A SANDBOX (cutbox-rows.mjs): the forced cells as the released guide's own fill.sh prints them over the translation a1d36a4bb442c9a9… (all of the seat's roots in one cut). By AI agents, Wed Nov 11 2026. No macro, syntax, notation, axiom, sorry.
-/
import Derived.Test.YtahempkggcbegaaChecked
import GoSem.Claim
import GoSem.ClaimJoined
import GoSem.ClaimMapViews
import Derived.JoinedTies
import Derived.KernelRfl
namespace Go.Proofs.Ytahempkggcbegaa
/- THE CELL 'sum', in the pinned program and in every row, IS THE sha256 OF THE DUMP (.gsa) THAT YtahempkggcbegaaProg.lean LOADS. Nothing in Lean hashes anything: it is a label: what it is worth is what the hold of that sum in a sandbox is worth. -/
noncomputable def Try.pinned : Pinned := { name := "ytahempkggcbegaa", sum := "a1d36a4bb442c9a98d97ddaf80e9fc34807f24d658ff8b847c6efd62bfdb8c23", checked := Try.checked }
namespace Rows
def none {H : Type} : Left H := { results := [], args := [] }

/-- 'logboomlaw11.MoveEnds': WHATEVER THE INPUT: true; the input reads as it did. -/
def moveEndsSpec : ChangeSpec := { name := "moveEnds", fn := fun _ => fun
  | [d1, d2] => { results := [.lit (.bool true)], args := [d1, d2] }
  | _ => none }
def moveEndsRow : OpenClaim := { program := "ytahempkggcbegaa", sum := "a1d36a4bb442c9a98d97ddaf80e9fc34807f24d658ff8b847c6efd62bfdb8c23", func := "logboom/logboomlaw11.MoveEnds", spec := "moveEnds", unfollowed := true, recurses := true, apart := false }
def MoveEndsSaid : Prop := moveEndsRow.holds Try.pinned (OpenSpec.ofChange moveEndsSpec)

/-- ITS FALSE NEIGHBOUR: 'it returns false'. Refute it at one input. -/
def moveEndsWrong : ChangeSpec := { name := "moveEnds", fn := fun _ => fun
  | [d1, d2] => { results := [.lit (.bool false)], args := [d1, d2] }
  | _ => none }
def MoveEndsWrongFalsely : Prop := moveEndsRow.holds Try.pinned (OpenSpec.ofChange moveEndsWrong)

/-- 'logboomlaw11.MoveFences': WHATEVER THE INPUT: true; the input reads as it did. -/
def moveFencesSpec : ChangeSpec := { name := "moveFences", fn := fun _ => fun
  | [d1, d2] => { results := [.lit (.bool true)], args := [d1, d2] }
  | _ => none }
def moveFencesRow : OpenClaim := { program := "ytahempkggcbegaa", sum := "a1d36a4bb442c9a98d97ddaf80e9fc34807f24d658ff8b847c6efd62bfdb8c23", func := "logboom/logboomlaw11.MoveFences", spec := "moveFences", unfollowed := true, recurses := true, apart := false }
def MoveFencesSaid : Prop := moveFencesRow.holds Try.pinned (OpenSpec.ofChange moveFencesSpec)

/-- ITS FALSE NEIGHBOUR: 'it returns false'. Refute it at one input. -/
def moveFencesWrong : ChangeSpec := { name := "moveFences", fn := fun _ => fun
  | [d1, d2] => { results := [.lit (.bool false)], args := [d1, d2] }
  | _ => none }
def MoveFencesWrongFalsely : Prop := moveFencesRow.holds Try.pinned (OpenSpec.ofChange moveFencesWrong)

/-- 'logboomlaw11.MoveBack': WHATEVER THE INPUT: true; the input reads as it did. -/
def moveBackSpec : ChangeSpec := { name := "moveBack", fn := fun _ => fun
  | [d1, d2, d3] => { results := [.lit (.bool true)], args := [d1, d2, d3] }
  | _ => none }
def moveBackRow : OpenClaim := { program := "ytahempkggcbegaa", sum := "a1d36a4bb442c9a98d97ddaf80e9fc34807f24d658ff8b847c6efd62bfdb8c23", func := "logboom/logboomlaw11.MoveBack", spec := "moveBack", unfollowed := true, recurses := true, apart := false }
def MoveBackSaid : Prop := moveBackRow.holds Try.pinned (OpenSpec.ofChange moveBackSpec)

/-- ITS FALSE NEIGHBOUR: 'it returns false'. Refute it at one input. -/
def moveBackWrong : ChangeSpec := { name := "moveBack", fn := fun _ => fun
  | [d1, d2, d3] => { results := [.lit (.bool false)], args := [d1, d2, d3] }
  | _ => none }
def MoveBackWrongFalsely : Prop := moveBackRow.holds Try.pinned (OpenSpec.ofChange moveBackWrong)

/-- 'logboomlaw11.MoveRules': WHATEVER THE INPUT: true; the input reads as it did. -/
def moveRulesSpec : ChangeSpec := { name := "moveRules", fn := fun _ => fun
  | [d1, d2] => { results := [.lit (.bool true)], args := [d1, d2] }
  | _ => none }
def moveRulesRow : OpenClaim := { program := "ytahempkggcbegaa", sum := "a1d36a4bb442c9a98d97ddaf80e9fc34807f24d658ff8b847c6efd62bfdb8c23", func := "logboom/logboomlaw11.MoveRules", spec := "moveRules", unfollowed := true, recurses := true, apart := false }
def MoveRulesSaid : Prop := moveRulesRow.holds Try.pinned (OpenSpec.ofChange moveRulesSpec)

/-- ITS FALSE NEIGHBOUR: 'it returns false'. Refute it at one input. -/
def moveRulesWrong : ChangeSpec := { name := "moveRules", fn := fun _ => fun
  | [d1, d2] => { results := [.lit (.bool false)], args := [d1, d2] }
  | _ => none }
def MoveRulesWrongFalsely : Prop := moveRulesRow.holds Try.pinned (OpenSpec.ofChange moveRulesWrong)

/- THE SECOND FORM. 'bulk': how many values and letters a reading holds, each counted each time it is reached (what is shared counts as often as it is met; a slice's spare places count too). A statement '..UptoSaid' is the law's where the arguments, and the package variables that the reading takes, are together of bulk at most 1048576: NARROWER than '..Said'. Prove '..Said' where nothing that the law and all that it calls make is longer than what came in: it says more and counts as full. Else prove '..UptoSaid'. A law counts once. -/
mutual
def uptoBulk {H : Type} : DataW H → Nat
  | .lit (.string bytes) => bytes.length + 1
  | .lit _ => 1
  | .nil => 1
  | .ptr d => uptoBulk d + 1
  | .slice elems spare => uptoBulkAll elems + uptoBulkAll spare + 1
  | .agg parts => uptoBulkAll parts + 1
  | .iface _ d => uptoBulk d + 1
  | .map entries => uptoBulkEntries entries + 1
  | .held _ => 1
def uptoBulkAll {H : Type} : List (DataW H) → Nat
  | [] => 0
  | d :: r => uptoBulk d + uptoBulkAll r
def uptoBulkEntries {H : Type} : List (Lit × DataW H) → Nat
  | [] => 0
  | x :: r => uptoBulkEntry x + uptoBulkEntries r
def uptoBulkEntry {H : Type} : Lit × DataW H → Nat
  | (.string bytes, d) => bytes.length + uptoBulk d + 1
  | (_, d) => uptoBulk d + 1
 end
def uptoSmall : (H : Type) → List (DataW H) → Bool := fun _ ds => decide (uptoBulkAll ds ≤ 1048576)
def OpenSpec.upto (s : _root_.Go.ChangeSpec) : _root_.Go.OpenSpec := { _root_.Go.OpenSpec.ofChange s with cond := some uptoSmall }

/-- 'logboomlaw11.MoveEnds', WHERE WHAT IT READS IS OF BULK AT MOST 1048576: true; the input reads as it did. -/
def moveEndsUptoRow : OpenClaim := { program := "ytahempkggcbegaa", sum := "a1d36a4bb442c9a98d97ddaf80e9fc34807f24d658ff8b847c6efd62bfdb8c23", func := "logboom/logboomlaw11.MoveEnds", spec := "moveEnds", unfollowed := true, recurses := true, apart := false, narrowed := true }
def MoveEndsUptoSaid : Prop := moveEndsUptoRow.holds Try.pinned (OpenSpec.upto moveEndsSpec)

/-- 'logboomlaw11.MoveFences', WHERE WHAT IT READS IS OF BULK AT MOST 1048576: true; the input reads as it did. -/
def moveFencesUptoRow : OpenClaim := { program := "ytahempkggcbegaa", sum := "a1d36a4bb442c9a98d97ddaf80e9fc34807f24d658ff8b847c6efd62bfdb8c23", func := "logboom/logboomlaw11.MoveFences", spec := "moveFences", unfollowed := true, recurses := true, apart := false, narrowed := true }
def MoveFencesUptoSaid : Prop := moveFencesUptoRow.holds Try.pinned (OpenSpec.upto moveFencesSpec)

/-- 'logboomlaw11.MoveBack', WHERE WHAT IT READS IS OF BULK AT MOST 1048576: true; the input reads as it did. -/
def moveBackUptoRow : OpenClaim := { program := "ytahempkggcbegaa", sum := "a1d36a4bb442c9a98d97ddaf80e9fc34807f24d658ff8b847c6efd62bfdb8c23", func := "logboom/logboomlaw11.MoveBack", spec := "moveBack", unfollowed := true, recurses := true, apart := false, narrowed := true }
def MoveBackUptoSaid : Prop := moveBackUptoRow.holds Try.pinned (OpenSpec.upto moveBackSpec)

/-- 'logboomlaw11.MoveRules', WHERE WHAT IT READS IS OF BULK AT MOST 1048576: true; the input reads as it did. -/
def moveRulesUptoRow : OpenClaim := { program := "ytahempkggcbegaa", sum := "a1d36a4bb442c9a98d97ddaf80e9fc34807f24d658ff8b847c6efd62bfdb8c23", func := "logboom/logboomlaw11.MoveRules", spec := "moveRules", unfollowed := true, recurses := true, apart := false, narrowed := true }
def MoveRulesUptoSaid : Prop := moveRulesUptoRow.holds Try.pinned (OpenSpec.upto moveRulesSpec)

end Rows
end Go.Proofs.Ytahempkggcbegaa
