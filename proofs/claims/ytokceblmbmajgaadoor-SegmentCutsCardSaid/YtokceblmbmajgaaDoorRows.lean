/-
  NARROWER THAN 'FOR EVERY INPUT', by the rows' own cells (each row's printed sentence says how): SegmentSurvives: laid · SegmentReads: laid · SegmentIndex: laid · SegmentFull: laid · SegmentCuts: laid.
  DERIVED. THE GIVEN ROWS OF THIS SEAT. 5 by the template 'for every input the law returns true; each argument reads behind the call as it read before'; 0 by the template 'total and deterministic' (their statements: YtokceblmbmajgaaDoorTotals.lean).
  GIVEN WITH THE SEED: the statements are not yours to turn. If you find one false, say at which input.
  Laid BY PROGRAM, IN A SANDBOX (cutbox-rows.mjs): the forced cells as the released guide's own fill.sh prints them over the translation a8e5a5f6812313cc… (all of the seat's roots in one cut). By AI agents, Wed Nov 11 2026. No macro, syntax, notation, axiom, sorry.
-/
import Derived.Test.YtokceblmbmajgaaDoorChecked
import GoSem.PinnedTables
import GoSem.Claim
import GoSem.ClaimJoined
import GoSem.ClaimMapViews
import Derived.JoinedTies
import Derived.KernelRfl
namespace Go.Proofs.YtokceblmbmajgaaDoor
/- THE CELL 'sum', in the pinned program and in every row, IS THE sha256 OF THE DUMP (.gsa) THAT YtokceblmbmajgaaDoorProg.lean LOADS. Nothing in Lean hashes anything: it is a label: what it is worth is what the hold of that sum in a sandbox is worth. -/
noncomputable def Tryd.pinned : Pinned := { name := "ytokceblmbmajgaadoor", sum := "a8e5a5f6812313ccdc9e60bac06aac232a3c3edf17885ea681e09a7d2dec8f9a", checked := Tryd.checked }
namespace Rows
def none {H : Type} : Left H := { results := [], args := [] }

/- WHAT THE LISTED PACKAGE-LEVEL VARIABLES READ AS WHEN THE CALL BEGINS. Each datum BY PROGRAM (the guide's laid-datum.mjs) off the statement by which the dump's own 'gosem.cut.vars' lays the variable. In a bare row this is a premise. The card (YtokceblmbmajgaaDoorCards.lean) ties it to the program's text. -/
def laid_unicode_utf8_acceptRanges {H : Type} : DataW H := .agg [.agg [.lit (.int .u8 128), .lit (.int .u8 191)], .agg [.lit (.int .u8 160), .lit (.int .u8 191)], .agg [.lit (.int .u8 128), .lit (.int .u8 159)], .agg [.lit (.int .u8 144), .lit (.int .u8 191)], .agg [.lit (.int .u8 128), .lit (.int .u8 143)], .agg [.lit (.int .u8 0), .lit (.int .u8 0)], .agg [.lit (.int .u8 0), .lit (.int .u8 0)], .agg [.lit (.int .u8 0), .lit (.int .u8 0)], .agg [.lit (.int .u8 0), .lit (.int .u8 0)], .agg [.lit (.int .u8 0), .lit (.int .u8 0)], .agg [.lit (.int .u8 0), .lit (.int .u8 0)], .agg [.lit (.int .u8 0), .lit (.int .u8 0)], .agg [.lit (.int .u8 0), .lit (.int .u8 0)], .agg [.lit (.int .u8 0), .lit (.int .u8 0)], .agg [.lit (.int .u8 0), .lit (.int .u8 0)], .agg [.lit (.int .u8 0), .lit (.int .u8 0)]]
/-- One of Go's own tables, pinned by name: the form's constant. -/
def laid_unicode_utf8_first : DataW Unit := Go.Pinned.utf8First

/-- 'logboomlaw5.SegmentSurvives': WHATEVER THE INPUT: true; the input reads as it did. -/
def segmentSurvivesSpec : ChangeSpec := { name := "segmentSurvives", fn := fun _ => fun
  | [d1, d2, d3] => { results := [.lit (.bool true)], args := [d1, d2, d3] }
  | _ => none }
def segmentSurvivesRow : OpenClaim := { program := "ytokceblmbmajgaadoor", sum := "a8e5a5f6812313ccdc9e60bac06aac232a3c3edf17885ea681e09a7d2dec8f9a", func := "logboom/logboomlaw5.SegmentSurvives", spec := "segmentSurvives", inPlace := ["internal/bytealg.IndexByteString", "internal/bytealg.IndexString"], unfollowed := true, recurses := true, named := ["unicode/utf8.first", "unicode/utf8.acceptRanges", "internal/bytealg.MaxLen"], apart := false, laid := [("unicode/utf8.acceptRanges", laid_unicode_utf8_acceptRanges), ("unicode/utf8.first", laid_unicode_utf8_first)] }
def SegmentSurvivesSaid : Prop := segmentSurvivesRow.holds Tryd.pinned (OpenSpec.ofChange segmentSurvivesSpec)

/-- ITS FALSE NEIGHBOUR: 'it returns false'. Refute it at one input. -/
def segmentSurvivesWrong : ChangeSpec := { name := "segmentSurvives", fn := fun _ => fun
  | [d1, d2, d3] => { results := [.lit (.bool false)], args := [d1, d2, d3] }
  | _ => none }
def SegmentSurvivesWrongFalsely : Prop := segmentSurvivesRow.holds Tryd.pinned (OpenSpec.ofChange segmentSurvivesWrong)

/-- 'logboomlaw5.SegmentReads': WHATEVER THE INPUT: true; the input reads as it did. -/
def segmentReadsSpec : ChangeSpec := { name := "segmentReads", fn := fun _ => fun
  | [d1, d2, d3, d4] => { results := [.lit (.bool true)], args := [d1, d2, d3, d4] }
  | _ => none }
def segmentReadsRow : OpenClaim := { program := "ytokceblmbmajgaadoor", sum := "a8e5a5f6812313ccdc9e60bac06aac232a3c3edf17885ea681e09a7d2dec8f9a", func := "logboom/logboomlaw5.SegmentReads", spec := "segmentReads", inPlace := ["internal/bytealg.IndexByteString", "internal/bytealg.IndexString"], unfollowed := true, recurses := true, named := ["unicode/utf8.first", "unicode/utf8.acceptRanges", "internal/bytealg.MaxLen"], apart := false, laid := [("unicode/utf8.acceptRanges", laid_unicode_utf8_acceptRanges), ("unicode/utf8.first", laid_unicode_utf8_first)] }
def SegmentReadsSaid : Prop := segmentReadsRow.holds Tryd.pinned (OpenSpec.ofChange segmentReadsSpec)

/-- ITS FALSE NEIGHBOUR: 'it returns false'. Refute it at one input. -/
def segmentReadsWrong : ChangeSpec := { name := "segmentReads", fn := fun _ => fun
  | [d1, d2, d3, d4] => { results := [.lit (.bool false)], args := [d1, d2, d3, d4] }
  | _ => none }
def SegmentReadsWrongFalsely : Prop := segmentReadsRow.holds Tryd.pinned (OpenSpec.ofChange segmentReadsWrong)

/-- 'logboomlaw5.SegmentIndex': WHATEVER THE INPUT: true; the input reads as it did. -/
def segmentIndexSpec : ChangeSpec := { name := "segmentIndex", fn := fun _ => fun
  | [d] => { results := [.lit (.bool true)], args := [d] }
  | _ => none }
def segmentIndexRow : OpenClaim := { program := "ytokceblmbmajgaadoor", sum := "a8e5a5f6812313ccdc9e60bac06aac232a3c3edf17885ea681e09a7d2dec8f9a", func := "logboom/logboomlaw5.SegmentIndex", spec := "segmentIndex", inPlace := ["internal/bytealg.IndexByteString", "internal/bytealg.IndexString"], unfollowed := true, recurses := true, named := ["unicode/utf8.first", "unicode/utf8.acceptRanges", "internal/bytealg.MaxLen"], apart := false, laid := [("unicode/utf8.acceptRanges", laid_unicode_utf8_acceptRanges), ("unicode/utf8.first", laid_unicode_utf8_first)] }
def SegmentIndexSaid : Prop := segmentIndexRow.holds Tryd.pinned (OpenSpec.ofChange segmentIndexSpec)

/-- ITS FALSE NEIGHBOUR: 'it returns false'. Refute it at one input. -/
def segmentIndexWrong : ChangeSpec := { name := "segmentIndex", fn := fun _ => fun
  | [d] => { results := [.lit (.bool false)], args := [d] }
  | _ => none }
def SegmentIndexWrongFalsely : Prop := segmentIndexRow.holds Tryd.pinned (OpenSpec.ofChange segmentIndexWrong)

/-- 'logboomlaw5.SegmentFull': WHATEVER THE INPUT: true; the input reads as it did. -/
def segmentFullSpec : ChangeSpec := { name := "segmentFull", fn := fun _ => fun
  | [d1, d2] => { results := [.lit (.bool true)], args := [d1, d2] }
  | _ => none }
def segmentFullRow : OpenClaim := { program := "ytokceblmbmajgaadoor", sum := "a8e5a5f6812313ccdc9e60bac06aac232a3c3edf17885ea681e09a7d2dec8f9a", func := "logboom/logboomlaw5.SegmentFull", spec := "segmentFull", inPlace := ["internal/bytealg.IndexByteString", "internal/bytealg.IndexString", "maps.clone"], unfollowed := true, recurses := true, named := ["unicode/utf8.first", "unicode/utf8.acceptRanges", "internal/bytealg.MaxLen"], apart := false, laid := [("unicode/utf8.acceptRanges", laid_unicode_utf8_acceptRanges), ("unicode/utf8.first", laid_unicode_utf8_first)] }
def SegmentFullSaid : Prop := segmentFullRow.holds Tryd.pinned (OpenSpec.ofChange segmentFullSpec)

/-- ITS FALSE NEIGHBOUR: 'it returns false'. Refute it at one input. -/
def segmentFullWrong : ChangeSpec := { name := "segmentFull", fn := fun _ => fun
  | [d1, d2] => { results := [.lit (.bool false)], args := [d1, d2] }
  | _ => none }
def SegmentFullWrongFalsely : Prop := segmentFullRow.holds Tryd.pinned (OpenSpec.ofChange segmentFullWrong)

/-- 'logboomlaw5.SegmentCuts': WHATEVER THE INPUT: true; the input reads as it did. -/
def segmentCutsSpec : ChangeSpec := { name := "segmentCuts", fn := fun _ => fun
  | [d1, d2, d3] => { results := [.lit (.bool true)], args := [d1, d2, d3] }
  | _ => none }
def segmentCutsRow : OpenClaim := { program := "ytokceblmbmajgaadoor", sum := "a8e5a5f6812313ccdc9e60bac06aac232a3c3edf17885ea681e09a7d2dec8f9a", func := "logboom/logboomlaw5.SegmentCuts", spec := "segmentCuts", inPlace := ["internal/bytealg.IndexByteString", "internal/bytealg.IndexString"], unfollowed := true, recurses := true, named := ["unicode/utf8.first", "unicode/utf8.acceptRanges", "internal/bytealg.MaxLen"], apart := false, laid := [("unicode/utf8.acceptRanges", laid_unicode_utf8_acceptRanges), ("unicode/utf8.first", laid_unicode_utf8_first)] }
def SegmentCutsSaid : Prop := segmentCutsRow.holds Tryd.pinned (OpenSpec.ofChange segmentCutsSpec)

/-- ITS FALSE NEIGHBOUR: 'it returns false'. Refute it at one input. -/
def segmentCutsWrong : ChangeSpec := { name := "segmentCuts", fn := fun _ => fun
  | [d1, d2, d3] => { results := [.lit (.bool false)], args := [d1, d2, d3] }
  | _ => none }
def SegmentCutsWrongFalsely : Prop := segmentCutsRow.holds Tryd.pinned (OpenSpec.ofChange segmentCutsWrong)

/- THE SECOND FORM. 'bulk': how many values and letters a reading holds, each counted each time it is reached (what is shared counts as often as it is met; a slice's spare places count too). A statement '..UptoSaid' is the law's where the arguments, and the package variables that the reading takes, are together of bulk at most 1048576: NARROWER than '..Said'. Prove '..Said' where nothing that the law and all that it calls make is longer than what came in: it says more and counts as full. Else prove '..UptoSaid'. A law counts once. -/
mutual
def uptoBulk {H : Type} : DataW H → Nat
  | .lit (.string bytes) => bytes.length + 1
  | .lit _ => 1
  | .nil => 1
  | .ptr d => uptoBulk d + 1
  | .slice elems spare => uptoBulkAll elems + uptoBulkAll spare + 1
  | .agg parts => uptoBulkAll parts + 1
  | .iface _ d => uptoBulk d + 1
  | .map entries => uptoBulkEntries entries + 1
  | .held _ => 1
def uptoBulkAll {H : Type} : List (DataW H) → Nat
  | [] => 0
  | d :: r => uptoBulk d + uptoBulkAll r
def uptoBulkEntries {H : Type} : List (Lit × DataW H) → Nat
  | [] => 0
  | x :: r => uptoBulkEntry x + uptoBulkEntries r
def uptoBulkEntry {H : Type} : Lit × DataW H → Nat
  | (.string bytes, d) => bytes.length + uptoBulk d + 1
  | (_, d) => uptoBulk d + 1
 end
def uptoSmall : (H : Type) → List (DataW H) → Bool := fun _ ds => decide (uptoBulkAll ds ≤ 1048576)
def OpenSpec.upto (s : _root_.Go.ChangeSpec) : _root_.Go.OpenSpec := { _root_.Go.OpenSpec.ofChange s with cond := some uptoSmall }

/-- 'logboomlaw5.SegmentSurvives', WHERE WHAT IT READS IS OF BULK AT MOST 1048576: true; the input reads as it did. -/
def segmentSurvivesUptoRow : OpenClaim := { program := "ytokceblmbmajgaadoor", sum := "a8e5a5f6812313ccdc9e60bac06aac232a3c3edf17885ea681e09a7d2dec8f9a", func := "logboom/logboomlaw5.SegmentSurvives", spec := "segmentSurvives", inPlace := ["internal/bytealg.IndexByteString", "internal/bytealg.IndexString"], unfollowed := true, recurses := true, named := ["unicode/utf8.first", "unicode/utf8.acceptRanges", "internal/bytealg.MaxLen"], apart := false, laid := [("unicode/utf8.acceptRanges", laid_unicode_utf8_acceptRanges), ("unicode/utf8.first", laid_unicode_utf8_first)], narrowed := true }
def SegmentSurvivesUptoSaid : Prop := segmentSurvivesUptoRow.holds Tryd.pinned (OpenSpec.upto segmentSurvivesSpec)

/-- 'logboomlaw5.SegmentReads', WHERE WHAT IT READS IS OF BULK AT MOST 1048576: true; the input reads as it did. -/
def segmentReadsUptoRow : OpenClaim := { program := "ytokceblmbmajgaadoor", sum := "a8e5a5f6812313ccdc9e60bac06aac232a3c3edf17885ea681e09a7d2dec8f9a", func := "logboom/logboomlaw5.SegmentReads", spec := "segmentReads", inPlace := ["internal/bytealg.IndexByteString", "internal/bytealg.IndexString"], unfollowed := true, recurses := true, named := ["unicode/utf8.first", "unicode/utf8.acceptRanges", "internal/bytealg.MaxLen"], apart := false, laid := [("unicode/utf8.acceptRanges", laid_unicode_utf8_acceptRanges), ("unicode/utf8.first", laid_unicode_utf8_first)], narrowed := true }
def SegmentReadsUptoSaid : Prop := segmentReadsUptoRow.holds Tryd.pinned (OpenSpec.upto segmentReadsSpec)

/-- 'logboomlaw5.SegmentIndex', WHERE WHAT IT READS IS OF BULK AT MOST 1048576: true; the input reads as it did. -/
def segmentIndexUptoRow : OpenClaim := { program := "ytokceblmbmajgaadoor", sum := "a8e5a5f6812313ccdc9e60bac06aac232a3c3edf17885ea681e09a7d2dec8f9a", func := "logboom/logboomlaw5.SegmentIndex", spec := "segmentIndex", inPlace := ["internal/bytealg.IndexByteString", "internal/bytealg.IndexString"], unfollowed := true, recurses := true, named := ["unicode/utf8.first", "unicode/utf8.acceptRanges", "internal/bytealg.MaxLen"], apart := false, laid := [("unicode/utf8.acceptRanges", laid_unicode_utf8_acceptRanges), ("unicode/utf8.first", laid_unicode_utf8_first)], narrowed := true }
def SegmentIndexUptoSaid : Prop := segmentIndexUptoRow.holds Tryd.pinned (OpenSpec.upto segmentIndexSpec)

/-- 'logboomlaw5.SegmentFull', WHERE WHAT IT READS IS OF BULK AT MOST 1048576: true; the input reads as it did. -/
def segmentFullUptoRow : OpenClaim := { program := "ytokceblmbmajgaadoor", sum := "a8e5a5f6812313ccdc9e60bac06aac232a3c3edf17885ea681e09a7d2dec8f9a", func := "logboom/logboomlaw5.SegmentFull", spec := "segmentFull", inPlace := ["internal/bytealg.IndexByteString", "internal/bytealg.IndexString", "maps.clone"], unfollowed := true, recurses := true, named := ["unicode/utf8.first", "unicode/utf8.acceptRanges", "internal/bytealg.MaxLen"], apart := false, laid := [("unicode/utf8.acceptRanges", laid_unicode_utf8_acceptRanges), ("unicode/utf8.first", laid_unicode_utf8_first)], narrowed := true }
def SegmentFullUptoSaid : Prop := segmentFullUptoRow.holds Tryd.pinned (OpenSpec.upto segmentFullSpec)

/-- 'logboomlaw5.SegmentCuts', WHERE WHAT IT READS IS OF BULK AT MOST 1048576: true; the input reads as it did. -/
def segmentCutsUptoRow : OpenClaim := { program := "ytokceblmbmajgaadoor", sum := "a8e5a5f6812313ccdc9e60bac06aac232a3c3edf17885ea681e09a7d2dec8f9a", func := "logboom/logboomlaw5.SegmentCuts", spec := "segmentCuts", inPlace := ["internal/bytealg.IndexByteString", "internal/bytealg.IndexString"], unfollowed := true, recurses := true, named := ["unicode/utf8.first", "unicode/utf8.acceptRanges", "internal/bytealg.MaxLen"], apart := false, laid := [("unicode/utf8.acceptRanges", laid_unicode_utf8_acceptRanges), ("unicode/utf8.first", laid_unicode_utf8_first)], narrowed := true }
def SegmentCutsUptoSaid : Prop := segmentCutsUptoRow.holds Tryd.pinned (OpenSpec.upto segmentCutsSpec)

end Rows
end Go.Proofs.YtokceblmbmajgaaDoor
