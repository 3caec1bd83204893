/-
  NARROWER THAN 'FOR EVERY INPUT', by the rows' own cells (each row's printed sentence says how): MetaPids: laid · MetaTopics: laid · MetaRules: laid · MetaBack: laid · MetaLoads: laid · MetaPlays: laid.
  DERIVED. THE GIVEN ROWS OF THIS SEAT. 6 by the template 'for every input the law returns true; each argument reads behind the call as it read before'; 0 by the template 'total and deterministic' (their statements: YtmofinghoacobaaGreatDoorTotals.lean).
  GIVEN WITH THE SEED: the statements are not yours to turn. If you find one false, say at which input.
  Laid BY PROGRAM, IN A SANDBOX (cutbox-rows.mjs): the forced cells as the released guide's own fill.sh prints them over the translation 68101691d7979a15… (all of the seat's roots in one cut). By AI agents, Wed Nov 11 2026. No macro, syntax, notation, axiom, sorry.
-/
import Derived.Test.YtmofinghoacobaaGreatDoorChecked
import GoSem.PinnedTables
import GoSem.Claim
import GoSem.ClaimJoined
import GoSem.ClaimMapViews
import Derived.JoinedTies
import Derived.KernelRfl
namespace Go.Proofs.YtmofinghoacobaaGreatDoor
/- THE CELL 'sum', in the pinned program and in every row, IS THE sha256 OF THE DUMP (.gsa) THAT YtmofinghoacobaaGreatDoorProg.lean LOADS. Nothing in Lean hashes anything: it is a label: what it is worth is what the hold of that sum in a sandbox is worth. -/
noncomputable def Tryz.pinned : Pinned := { name := "ytmofinghoacobaagreatdoor", sum := "68101691d7979a15f9a61bb82d1789ceb558b16ad175197f7c227925141dba0e", checked := Tryz.checked }
namespace Rows
def none {H : Type} : Left H := { results := [], args := [] }

/- WHAT THE LISTED PACKAGE-LEVEL VARIABLES READ AS WHEN THE CALL BEGINS. Each datum BY PROGRAM (the guide's laid-datum.mjs) off the statement by which the dump's own 'gosem.cut.vars' lays the variable. In a bare row this is a premise. The card (YtmofinghoacobaaGreatDoorCards.lean) ties it to the program's text. -/
def laid_unicode_utf8_acceptRanges {H : Type} : DataW H := .agg [.agg [.lit (.int .u8 128), .lit (.int .u8 191)], .agg [.lit (.int .u8 160), .lit (.int .u8 191)], .agg [.lit (.int .u8 128), .lit (.int .u8 159)], .agg [.lit (.int .u8 144), .lit (.int .u8 191)], .agg [.lit (.int .u8 128), .lit (.int .u8 143)], .agg [.lit (.int .u8 0), .lit (.int .u8 0)], .agg [.lit (.int .u8 0), .lit (.int .u8 0)], .agg [.lit (.int .u8 0), .lit (.int .u8 0)], .agg [.lit (.int .u8 0), .lit (.int .u8 0)], .agg [.lit (.int .u8 0), .lit (.int .u8 0)], .agg [.lit (.int .u8 0), .lit (.int .u8 0)], .agg [.lit (.int .u8 0), .lit (.int .u8 0)], .agg [.lit (.int .u8 0), .lit (.int .u8 0)], .agg [.lit (.int .u8 0), .lit (.int .u8 0)], .agg [.lit (.int .u8 0), .lit (.int .u8 0)], .agg [.lit (.int .u8 0), .lit (.int .u8 0)]]
/-- One of Go's own tables, pinned by name: the form's constant. -/
def laid_unicode_utf8_first : DataW Unit := Go.Pinned.utf8First

/-- 'logboomlaw12.MetaPids': WHATEVER THE INPUT: true; the input reads as it did. -/
def metaPidsSpec : ChangeSpec := { name := "metaPids", fn := fun _ => fun
  | [d] => { results := [.lit (.bool true)], args := [d] }
  | _ => none }
def metaPidsRow : OpenClaim := { program := "ytmofinghoacobaagreatdoor", sum := "68101691d7979a15f9a61bb82d1789ceb558b16ad175197f7c227925141dba0e", func := "logboom/logboomlaw12.MetaPids", spec := "metaPids", inPlace := ["internal/bytealg.IndexByteString", "internal/bytealg.IndexString"], unfollowed := true, recurses := true, named := ["unicode/utf8.first", "unicode/utf8.acceptRanges", "internal/bytealg.MaxLen"], apart := false, laid := [("unicode/utf8.acceptRanges", laid_unicode_utf8_acceptRanges), ("unicode/utf8.first", laid_unicode_utf8_first)] }
def MetaPidsSaid : Prop := metaPidsRow.holds Tryz.pinned (OpenSpec.ofChange metaPidsSpec)

/-- ITS FALSE NEIGHBOUR: 'it returns false'. Refute it at one input. -/
def metaPidsWrong : ChangeSpec := { name := "metaPids", fn := fun _ => fun
  | [d] => { results := [.lit (.bool false)], args := [d] }
  | _ => none }
def MetaPidsWrongFalsely : Prop := metaPidsRow.holds Tryz.pinned (OpenSpec.ofChange metaPidsWrong)

/-- 'logboomlaw12.MetaTopics': WHATEVER THE INPUT: true; the input reads as it did. -/
def metaTopicsSpec : ChangeSpec := { name := "metaTopics", fn := fun _ => fun
  | [d1, d2] => { results := [.lit (.bool true)], args := [d1, d2] }
  | _ => none }
def metaTopicsRow : OpenClaim := { program := "ytmofinghoacobaagreatdoor", sum := "68101691d7979a15f9a61bb82d1789ceb558b16ad175197f7c227925141dba0e", func := "logboom/logboomlaw12.MetaTopics", spec := "metaTopics", inPlace := ["internal/bytealg.IndexByteString", "internal/bytealg.IndexString"], unfollowed := true, recurses := true, named := ["unicode/utf8.first", "unicode/utf8.acceptRanges", "internal/bytealg.MaxLen"], apart := false, laid := [("unicode/utf8.acceptRanges", laid_unicode_utf8_acceptRanges), ("unicode/utf8.first", laid_unicode_utf8_first)] }
def MetaTopicsSaid : Prop := metaTopicsRow.holds Tryz.pinned (OpenSpec.ofChange metaTopicsSpec)

/-- ITS FALSE NEIGHBOUR: 'it returns false'. Refute it at one input. -/
def metaTopicsWrong : ChangeSpec := { name := "metaTopics", fn := fun _ => fun
  | [d1, d2] => { results := [.lit (.bool false)], args := [d1, d2] }
  | _ => none }
def MetaTopicsWrongFalsely : Prop := metaTopicsRow.holds Tryz.pinned (OpenSpec.ofChange metaTopicsWrong)

/-- 'logboomlaw12.MetaRules': WHATEVER THE INPUT: true; the input reads as it did. -/
def metaRulesSpec : ChangeSpec := { name := "metaRules", fn := fun _ => fun
  | [d] => { results := [.lit (.bool true)], args := [d] }
  | _ => none }
def metaRulesRow : OpenClaim := { program := "ytmofinghoacobaagreatdoor", sum := "68101691d7979a15f9a61bb82d1789ceb558b16ad175197f7c227925141dba0e", func := "logboom/logboomlaw12.MetaRules", spec := "metaRules", inPlace := ["internal/bytealg.IndexByteString", "internal/bytealg.IndexString"], unfollowed := true, recurses := true, named := ["unicode/utf8.first", "unicode/utf8.acceptRanges", "internal/bytealg.MaxLen"], apart := false, laid := [("unicode/utf8.acceptRanges", laid_unicode_utf8_acceptRanges), ("unicode/utf8.first", laid_unicode_utf8_first)] }
def MetaRulesSaid : Prop := metaRulesRow.holds Tryz.pinned (OpenSpec.ofChange metaRulesSpec)

/-- ITS FALSE NEIGHBOUR: 'it returns false'. Refute it at one input. -/
def metaRulesWrong : ChangeSpec := { name := "metaRules", fn := fun _ => fun
  | [d] => { results := [.lit (.bool false)], args := [d] }
  | _ => none }
def MetaRulesWrongFalsely : Prop := metaRulesRow.holds Tryz.pinned (OpenSpec.ofChange metaRulesWrong)

/-- 'logboomlaw12.MetaBack': WHATEVER THE INPUT: true; the input reads as it did. -/
def metaBackSpec : ChangeSpec := { name := "metaBack", fn := fun _ => fun
  | [d1, d2] => { results := [.lit (.bool true)], args := [d1, d2] }
  | _ => none }
def metaBackRow : OpenClaim := { program := "ytmofinghoacobaagreatdoor", sum := "68101691d7979a15f9a61bb82d1789ceb558b16ad175197f7c227925141dba0e", func := "logboom/logboomlaw12.MetaBack", spec := "metaBack", inPlace := ["internal/bytealg.IndexByteString", "internal/bytealg.IndexString"], unfollowed := true, recurses := true, named := ["unicode/utf8.first", "unicode/utf8.acceptRanges", "internal/bytealg.MaxLen"], apart := false, laid := [("unicode/utf8.acceptRanges", laid_unicode_utf8_acceptRanges), ("unicode/utf8.first", laid_unicode_utf8_first)] }
def MetaBackSaid : Prop := metaBackRow.holds Tryz.pinned (OpenSpec.ofChange metaBackSpec)

/-- ITS FALSE NEIGHBOUR: 'it returns false'. Refute it at one input. -/
def metaBackWrong : ChangeSpec := { name := "metaBack", fn := fun _ => fun
  | [d1, d2] => { results := [.lit (.bool false)], args := [d1, d2] }
  | _ => none }
def MetaBackWrongFalsely : Prop := metaBackRow.holds Tryz.pinned (OpenSpec.ofChange metaBackWrong)

/-- 'logboomlaw12.MetaLoads': WHATEVER THE INPUT: true; the input reads as it did. -/
def metaLoadsSpec : ChangeSpec := { name := "metaLoads", fn := fun _ => fun
  | [d1, d2, d3, d4] => { results := [.lit (.bool true)], args := [d1, d2, d3, d4] }
  | _ => none }
def metaLoadsRow : OpenClaim := { program := "ytmofinghoacobaagreatdoor", sum := "68101691d7979a15f9a61bb82d1789ceb558b16ad175197f7c227925141dba0e", func := "logboom/logboomlaw12.MetaLoads", spec := "metaLoads", inPlace := ["internal/bytealg.IndexByteString", "internal/bytealg.IndexString"], unfollowed := true, recurses := true, named := ["unicode/utf8.first", "unicode/utf8.acceptRanges", "internal/bytealg.MaxLen"], apart := false, laid := [("unicode/utf8.acceptRanges", laid_unicode_utf8_acceptRanges), ("unicode/utf8.first", laid_unicode_utf8_first)] }
def MetaLoadsSaid : Prop := metaLoadsRow.holds Tryz.pinned (OpenSpec.ofChange metaLoadsSpec)

/-- ITS FALSE NEIGHBOUR: 'it returns false'. Refute it at one input. -/
def metaLoadsWrong : ChangeSpec := { name := "metaLoads", fn := fun _ => fun
  | [d1, d2, d3, d4] => { results := [.lit (.bool false)], args := [d1, d2, d3, d4] }
  | _ => none }
def MetaLoadsWrongFalsely : Prop := metaLoadsRow.holds Tryz.pinned (OpenSpec.ofChange metaLoadsWrong)

/-- 'logboomlaw12.MetaPlays': WHATEVER THE INPUT: true; the input reads as it did. -/
def metaPlaysSpec : ChangeSpec := { name := "metaPlays", fn := fun _ => fun
  | [d1, d2, d3] => { results := [.lit (.bool true)], args := [d1, d2, d3] }
  | _ => none }
def metaPlaysRow : OpenClaim := { program := "ytmofinghoacobaagreatdoor", sum := "68101691d7979a15f9a61bb82d1789ceb558b16ad175197f7c227925141dba0e", func := "logboom/logboomlaw12.MetaPlays", spec := "metaPlays", inPlace := ["internal/bytealg.IndexByteString", "internal/bytealg.IndexString", "maps.clone"], unfollowed := true, recurses := true, named := ["unicode/utf8.first", "unicode/utf8.acceptRanges", "internal/bytealg.MaxLen"], apart := false, laid := [("unicode/utf8.acceptRanges", laid_unicode_utf8_acceptRanges), ("unicode/utf8.first", laid_unicode_utf8_first)] }
def MetaPlaysSaid : Prop := metaPlaysRow.holds Tryz.pinned (OpenSpec.ofChange metaPlaysSpec)

/-- ITS FALSE NEIGHBOUR: 'it returns false'. Refute it at one input. -/
def metaPlaysWrong : ChangeSpec := { name := "metaPlays", fn := fun _ => fun
  | [d1, d2, d3] => { results := [.lit (.bool false)], args := [d1, d2, d3] }
  | _ => none }
def MetaPlaysWrongFalsely : Prop := metaPlaysRow.holds Tryz.pinned (OpenSpec.ofChange metaPlaysWrong)

/- THE SECOND FORM. 'bulk': how many values and letters a reading holds, each counted each time it is reached (what is shared counts as often as it is met; a slice's spare places count too). A statement '..UptoSaid' is the law's where the arguments, and the package variables that the reading takes, are together of bulk at most 1048576: NARROWER than '..Said'. Prove '..Said' where nothing that the law and all that it calls make is longer than what came in: it says more and counts as full. Else prove '..UptoSaid'. A law counts once. -/
mutual
def uptoBulk {H : Type} : DataW H → Nat
  | .lit (.string bytes) => bytes.length + 1
  | .lit _ => 1
  | .nil => 1
  | .ptr d => uptoBulk d + 1
  | .slice elems spare => uptoBulkAll elems + uptoBulkAll spare + 1
  | .agg parts => uptoBulkAll parts + 1
  | .iface _ d => uptoBulk d + 1
  | .map entries => uptoBulkEntries entries + 1
  | .held _ => 1
def uptoBulkAll {H : Type} : List (DataW H) → Nat
  | [] => 0
  | d :: r => uptoBulk d + uptoBulkAll r
def uptoBulkEntries {H : Type} : List (Lit × DataW H) → Nat
  | [] => 0
  | x :: r => uptoBulkEntry x + uptoBulkEntries r
def uptoBulkEntry {H : Type} : Lit × DataW H → Nat
  | (.string bytes, d) => bytes.length + uptoBulk d + 1
  | (_, d) => uptoBulk d + 1
 end
def uptoSmall : (H : Type) → List (DataW H) → Bool := fun _ ds => decide (uptoBulkAll ds ≤ 1048576)
def OpenSpec.upto (s : _root_.Go.ChangeSpec) : _root_.Go.OpenSpec := { _root_.Go.OpenSpec.ofChange s with cond := some uptoSmall }

/-- 'logboomlaw12.MetaPids', WHERE WHAT IT READS IS OF BULK AT MOST 1048576: true; the input reads as it did. -/
def metaPidsUptoRow : OpenClaim := { program := "ytmofinghoacobaagreatdoor", sum := "68101691d7979a15f9a61bb82d1789ceb558b16ad175197f7c227925141dba0e", func := "logboom/logboomlaw12.MetaPids", spec := "metaPids", inPlace := ["internal/bytealg.IndexByteString", "internal/bytealg.IndexString"], unfollowed := true, recurses := true, named := ["unicode/utf8.first", "unicode/utf8.acceptRanges", "internal/bytealg.MaxLen"], apart := false, laid := [("unicode/utf8.acceptRanges", laid_unicode_utf8_acceptRanges), ("unicode/utf8.first", laid_unicode_utf8_first)], narrowed := true }
def MetaPidsUptoSaid : Prop := metaPidsUptoRow.holds Tryz.pinned (OpenSpec.upto metaPidsSpec)

/-- 'logboomlaw12.MetaTopics', WHERE WHAT IT READS IS OF BULK AT MOST 1048576: true; the input reads as it did. -/
def metaTopicsUptoRow : OpenClaim := { program := "ytmofinghoacobaagreatdoor", sum := "68101691d7979a15f9a61bb82d1789ceb558b16ad175197f7c227925141dba0e", func := "logboom/logboomlaw12.MetaTopics", spec := "metaTopics", inPlace := ["internal/bytealg.IndexByteString", "internal/bytealg.IndexString"], unfollowed := true, recurses := true, named := ["unicode/utf8.first", "unicode/utf8.acceptRanges", "internal/bytealg.MaxLen"], apart := false, laid := [("unicode/utf8.acceptRanges", laid_unicode_utf8_acceptRanges), ("unicode/utf8.first", laid_unicode_utf8_first)], narrowed := true }
def MetaTopicsUptoSaid : Prop := metaTopicsUptoRow.holds Tryz.pinned (OpenSpec.upto metaTopicsSpec)

/-- 'logboomlaw12.MetaRules', WHERE WHAT IT READS IS OF BULK AT MOST 1048576: true; the input reads as it did. -/
def metaRulesUptoRow : OpenClaim := { program := "ytmofinghoacobaagreatdoor", sum := "68101691d7979a15f9a61bb82d1789ceb558b16ad175197f7c227925141dba0e", func := "logboom/logboomlaw12.MetaRules", spec := "metaRules", inPlace := ["internal/bytealg.IndexByteString", "internal/bytealg.IndexString"], unfollowed := true, recurses := true, named := ["unicode/utf8.first", "unicode/utf8.acceptRanges", "internal/bytealg.MaxLen"], apart := false, laid := [("unicode/utf8.acceptRanges", laid_unicode_utf8_acceptRanges), ("unicode/utf8.first", laid_unicode_utf8_first)], narrowed := true }
def MetaRulesUptoSaid : Prop := metaRulesUptoRow.holds Tryz.pinned (OpenSpec.upto metaRulesSpec)

/-- 'logboomlaw12.MetaBack', WHERE WHAT IT READS IS OF BULK AT MOST 1048576: true; the input reads as it did. -/
def metaBackUptoRow : OpenClaim := { program := "ytmofinghoacobaagreatdoor", sum := "68101691d7979a15f9a61bb82d1789ceb558b16ad175197f7c227925141dba0e", func := "logboom/logboomlaw12.MetaBack", spec := "metaBack", inPlace := ["internal/bytealg.IndexByteString", "internal/bytealg.IndexString"], unfollowed := true, recurses := true, named := ["unicode/utf8.first", "unicode/utf8.acceptRanges", "internal/bytealg.MaxLen"], apart := false, laid := [("unicode/utf8.acceptRanges", laid_unicode_utf8_acceptRanges), ("unicode/utf8.first", laid_unicode_utf8_first)], narrowed := true }
def MetaBackUptoSaid : Prop := metaBackUptoRow.holds Tryz.pinned (OpenSpec.upto metaBackSpec)

/-- 'logboomlaw12.MetaLoads', WHERE WHAT IT READS IS OF BULK AT MOST 1048576: true; the input reads as it did. -/
def metaLoadsUptoRow : OpenClaim := { program := "ytmofinghoacobaagreatdoor", sum := "68101691d7979a15f9a61bb82d1789ceb558b16ad175197f7c227925141dba0e", func := "logboom/logboomlaw12.MetaLoads", spec := "metaLoads", inPlace := ["internal/bytealg.IndexByteString", "internal/bytealg.IndexString"], unfollowed := true, recurses := true, named := ["unicode/utf8.first", "unicode/utf8.acceptRanges", "internal/bytealg.MaxLen"], apart := false, laid := [("unicode/utf8.acceptRanges", laid_unicode_utf8_acceptRanges), ("unicode/utf8.first", laid_unicode_utf8_first)], narrowed := true }
def MetaLoadsUptoSaid : Prop := metaLoadsUptoRow.holds Tryz.pinned (OpenSpec.upto metaLoadsSpec)

/-- 'logboomlaw12.MetaPlays', WHERE WHAT IT READS IS OF BULK AT MOST 1048576: true; the input reads as it did. -/
def metaPlaysUptoRow : OpenClaim := { program := "ytmofinghoacobaagreatdoor", sum := "68101691d7979a15f9a61bb82d1789ceb558b16ad175197f7c227925141dba0e", func := "logboom/logboomlaw12.MetaPlays", spec := "metaPlays", inPlace := ["internal/bytealg.IndexByteString", "internal/bytealg.IndexString", "maps.clone"], unfollowed := true, recurses := true, named := ["unicode/utf8.first", "unicode/utf8.acceptRanges", "internal/bytealg.MaxLen"], apart := false, laid := [("unicode/utf8.acceptRanges", laid_unicode_utf8_acceptRanges), ("unicode/utf8.first", laid_unicode_utf8_first)], narrowed := true }
def MetaPlaysUptoSaid : Prop := metaPlaysUptoRow.holds Tryz.pinned (OpenSpec.upto metaPlaysSpec)

end Rows
end Go.Proofs.YtmofinghoacobaaGreatDoor
