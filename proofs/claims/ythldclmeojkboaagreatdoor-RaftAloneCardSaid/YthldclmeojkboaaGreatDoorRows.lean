/-
  NARROWER THAN 'FOR EVERY INPUT', by the rows' own cells (each row's printed sentence says how): RaftVotes: laid · RaftAlone: laid · RaftSafe: laid · RaftCalm: laid · RaftPlays: laid.
  DERIVED. THE GIVEN ROWS OF THIS SEAT. 5 by the template 'for every input the law returns true; each argument reads behind the call as it read before'; 0 by the template 'total and deterministic' (their statements: YthldclmeojkboaaGreatDoorTotals.lean).
  GIVEN WITH THE SEED: the statements are not yours to turn. If you find one false, say at which input.
  Laid BY PROGRAM, IN A SANDBOX (cutbox-rows.mjs): the forced cells as the released guide's own fill.sh prints them over the translation 83dc4b93c62b31d8… (all of the seat's roots in one cut). By AI agents, Wed Nov 11 2026. No macro, syntax, notation, axiom, sorry.
-/
import Derived.Test.YthldclmeojkboaaGreatDoorChecked
import GoSem.PinnedTables
import GoSem.Claim
import GoSem.ClaimJoined
import GoSem.ClaimMapViews
import Derived.JoinedTies
import Derived.KernelRfl
namespace Go.Proofs.YthldclmeojkboaaGreatDoor
/- THE CELL 'sum', in the pinned program and in every row, IS THE sha256 OF THE DUMP (.gsa) THAT YthldclmeojkboaaGreatDoorProg.lean LOADS. Nothing in Lean hashes anything: it is a label: what it is worth is what the hold of that sum in a sandbox is worth. -/
noncomputable def Tryz.pinned : Pinned := { name := "ythldclmeojkboaagreatdoor", sum := "83dc4b93c62b31d89c268e662fdfa35779e693162454c6e19f8702fe16d36f3d", checked := Tryz.checked }
namespace Rows
def none {H : Type} : Left H := { results := [], args := [] }

/- WHAT THE LISTED PACKAGE-LEVEL VARIABLES READ AS WHEN THE CALL BEGINS. Each datum BY PROGRAM (the guide's laid-datum.mjs) off the statement by which the dump's own 'gosem.cut.vars' lays the variable. In a bare row this is a premise. The card (YthldclmeojkboaaGreatDoorCards.lean) ties it to the program's text. -/
def laid_unicode_utf8_acceptRanges {H : Type} : DataW H := .agg [.agg [.lit (.int .u8 128), .lit (.int .u8 191)], .agg [.lit (.int .u8 160), .lit (.int .u8 191)], .agg [.lit (.int .u8 128), .lit (.int .u8 159)], .agg [.lit (.int .u8 144), .lit (.int .u8 191)], .agg [.lit (.int .u8 128), .lit (.int .u8 143)], .agg [.lit (.int .u8 0), .lit (.int .u8 0)], .agg [.lit (.int .u8 0), .lit (.int .u8 0)], .agg [.lit (.int .u8 0), .lit (.int .u8 0)], .agg [.lit (.int .u8 0), .lit (.int .u8 0)], .agg [.lit (.int .u8 0), .lit (.int .u8 0)], .agg [.lit (.int .u8 0), .lit (.int .u8 0)], .agg [.lit (.int .u8 0), .lit (.int .u8 0)], .agg [.lit (.int .u8 0), .lit (.int .u8 0)], .agg [.lit (.int .u8 0), .lit (.int .u8 0)], .agg [.lit (.int .u8 0), .lit (.int .u8 0)], .agg [.lit (.int .u8 0), .lit (.int .u8 0)]]
/-- One of Go's own tables, pinned by name: the form's constant. -/
def laid_unicode_utf8_first : DataW Unit := Go.Pinned.utf8First

/-- 'logboomlaw10.RaftVotes': WHATEVER THE INPUT: true; the input reads as it did. -/
def raftVotesSpec : ChangeSpec := { name := "raftVotes", fn := fun _ => fun
  | [d] => { results := [.lit (.bool true)], args := [d] }
  | _ => none }
def raftVotesRow : OpenClaim := { program := "ythldclmeojkboaagreatdoor", sum := "83dc4b93c62b31d89c268e662fdfa35779e693162454c6e19f8702fe16d36f3d", func := "logboom/logboomlaw10.RaftVotes", spec := "raftVotes", inPlace := ["internal/bytealg.IndexByteString", "internal/bytealg.IndexString"], unfollowed := true, recurses := true, named := ["unicode/utf8.first", "unicode/utf8.acceptRanges", "internal/bytealg.MaxLen"], apart := false, laid := [("unicode/utf8.acceptRanges", laid_unicode_utf8_acceptRanges), ("unicode/utf8.first", laid_unicode_utf8_first)] }
def RaftVotesSaid : Prop := raftVotesRow.holds Tryz.pinned (OpenSpec.ofChange raftVotesSpec)

/-- ITS FALSE NEIGHBOUR: 'it returns false'. Refute it at one input. -/
def raftVotesWrong : ChangeSpec := { name := "raftVotes", fn := fun _ => fun
  | [d] => { results := [.lit (.bool false)], args := [d] }
  | _ => none }
def RaftVotesWrongFalsely : Prop := raftVotesRow.holds Tryz.pinned (OpenSpec.ofChange raftVotesWrong)

/-- 'logboomlaw10.RaftAlone': WHATEVER THE INPUT: true; the input reads as it did. -/
def raftAloneSpec : ChangeSpec := { name := "raftAlone", fn := fun _ => fun
  | [d1, d2] => { results := [.lit (.bool true)], args := [d1, d2] }
  | _ => none }
def raftAloneRow : OpenClaim := { program := "ythldclmeojkboaagreatdoor", sum := "83dc4b93c62b31d89c268e662fdfa35779e693162454c6e19f8702fe16d36f3d", func := "logboom/logboomlaw10.RaftAlone", spec := "raftAlone", inPlace := ["internal/bytealg.IndexByteString", "internal/bytealg.IndexString"], unfollowed := true, recurses := true, named := ["unicode/utf8.first", "unicode/utf8.acceptRanges", "internal/bytealg.MaxLen"], apart := false, laid := [("unicode/utf8.acceptRanges", laid_unicode_utf8_acceptRanges), ("unicode/utf8.first", laid_unicode_utf8_first)] }
def RaftAloneSaid : Prop := raftAloneRow.holds Tryz.pinned (OpenSpec.ofChange raftAloneSpec)

/-- ITS FALSE NEIGHBOUR: 'it returns false'. Refute it at one input. -/
def raftAloneWrong : ChangeSpec := { name := "raftAlone", fn := fun _ => fun
  | [d1, d2] => { results := [.lit (.bool false)], args := [d1, d2] }
  | _ => none }
def RaftAloneWrongFalsely : Prop := raftAloneRow.holds Tryz.pinned (OpenSpec.ofChange raftAloneWrong)

/-- 'logboomlaw10.RaftSafe': WHATEVER THE INPUT: true; the input reads as it did. -/
def raftSafeSpec : ChangeSpec := { name := "raftSafe", fn := fun _ => fun
  | [d1, d2] => { results := [.lit (.bool true)], args := [d1, d2] }
  | _ => none }
def raftSafeRow : OpenClaim := { program := "ythldclmeojkboaagreatdoor", sum := "83dc4b93c62b31d89c268e662fdfa35779e693162454c6e19f8702fe16d36f3d", func := "logboom/logboomlaw10.RaftSafe", spec := "raftSafe", inPlace := ["internal/bytealg.IndexByteString", "internal/bytealg.IndexString"], unfollowed := true, recurses := true, named := ["unicode/utf8.first", "unicode/utf8.acceptRanges", "internal/bytealg.MaxLen"], apart := false, laid := [("unicode/utf8.acceptRanges", laid_unicode_utf8_acceptRanges), ("unicode/utf8.first", laid_unicode_utf8_first)] }
def RaftSafeSaid : Prop := raftSafeRow.holds Tryz.pinned (OpenSpec.ofChange raftSafeSpec)

/-- ITS FALSE NEIGHBOUR: 'it returns false'. Refute it at one input. -/
def raftSafeWrong : ChangeSpec := { name := "raftSafe", fn := fun _ => fun
  | [d1, d2] => { results := [.lit (.bool false)], args := [d1, d2] }
  | _ => none }
def RaftSafeWrongFalsely : Prop := raftSafeRow.holds Tryz.pinned (OpenSpec.ofChange raftSafeWrong)

/-- 'logboomlaw10.RaftCalm': WHATEVER THE INPUT: true; the input reads as it did. -/
def raftCalmSpec : ChangeSpec := { name := "raftCalm", fn := fun _ => fun
  | [d1, d2, d3] => { results := [.lit (.bool true)], args := [d1, d2, d3] }
  | _ => none }
def raftCalmRow : OpenClaim := { program := "ythldclmeojkboaagreatdoor", sum := "83dc4b93c62b31d89c268e662fdfa35779e693162454c6e19f8702fe16d36f3d", func := "logboom/logboomlaw10.RaftCalm", spec := "raftCalm", inPlace := ["internal/bytealg.IndexByteString", "internal/bytealg.IndexString"], unfollowed := true, recurses := true, named := ["unicode/utf8.first", "unicode/utf8.acceptRanges", "internal/bytealg.MaxLen"], apart := false, laid := [("unicode/utf8.acceptRanges", laid_unicode_utf8_acceptRanges), ("unicode/utf8.first", laid_unicode_utf8_first)] }
def RaftCalmSaid : Prop := raftCalmRow.holds Tryz.pinned (OpenSpec.ofChange raftCalmSpec)

/-- ITS FALSE NEIGHBOUR: 'it returns false'. Refute it at one input. -/
def raftCalmWrong : ChangeSpec := { name := "raftCalm", fn := fun _ => fun
  | [d1, d2, d3] => { results := [.lit (.bool false)], args := [d1, d2, d3] }
  | _ => none }
def RaftCalmWrongFalsely : Prop := raftCalmRow.holds Tryz.pinned (OpenSpec.ofChange raftCalmWrong)

/-- 'logboomlaw10.RaftPlays': WHATEVER THE INPUT: true; the input reads as it did. -/
def raftPlaysSpec : ChangeSpec := { name := "raftPlays", fn := fun _ => fun
  | [d1, d2, d3, d4] => { results := [.lit (.bool true)], args := [d1, d2, d3, d4] }
  | _ => none }
def raftPlaysRow : OpenClaim := { program := "ythldclmeojkboaagreatdoor", sum := "83dc4b93c62b31d89c268e662fdfa35779e693162454c6e19f8702fe16d36f3d", func := "logboom/logboomlaw10.RaftPlays", spec := "raftPlays", inPlace := ["internal/bytealg.IndexByteString", "internal/bytealg.IndexString"], unfollowed := true, recurses := true, named := ["unicode/utf8.first", "unicode/utf8.acceptRanges", "internal/bytealg.MaxLen"], apart := false, laid := [("unicode/utf8.acceptRanges", laid_unicode_utf8_acceptRanges), ("unicode/utf8.first", laid_unicode_utf8_first)] }
def RaftPlaysSaid : Prop := raftPlaysRow.holds Tryz.pinned (OpenSpec.ofChange raftPlaysSpec)

/-- ITS FALSE NEIGHBOUR: 'it returns false'. Refute it at one input. -/
def raftPlaysWrong : ChangeSpec := { name := "raftPlays", fn := fun _ => fun
  | [d1, d2, d3, d4] => { results := [.lit (.bool false)], args := [d1, d2, d3, d4] }
  | _ => none }
def RaftPlaysWrongFalsely : Prop := raftPlaysRow.holds Tryz.pinned (OpenSpec.ofChange raftPlaysWrong)

/- THE SECOND FORM. 'bulk': how many values and letters a reading holds, each counted each time it is reached (what is shared counts as often as it is met; a slice's spare places count too). A statement '..UptoSaid' is the law's where the arguments, and the package variables that the reading takes, are together of bulk at most 1048576: NARROWER than '..Said'. Prove '..Said' where nothing that the law and all that it calls make is longer than what came in: it says more and counts as full. Else prove '..UptoSaid'. A law counts once. -/
mutual
def uptoBulk {H : Type} : DataW H → Nat
  | .lit (.string bytes) => bytes.length + 1
  | .lit _ => 1
  | .nil => 1
  | .ptr d => uptoBulk d + 1
  | .slice elems spare => uptoBulkAll elems + uptoBulkAll spare + 1
  | .agg parts => uptoBulkAll parts + 1
  | .iface _ d => uptoBulk d + 1
  | .map entries => uptoBulkEntries entries + 1
  | .held _ => 1
def uptoBulkAll {H : Type} : List (DataW H) → Nat
  | [] => 0
  | d :: r => uptoBulk d + uptoBulkAll r
def uptoBulkEntries {H : Type} : List (Lit × DataW H) → Nat
  | [] => 0
  | x :: r => uptoBulkEntry x + uptoBulkEntries r
def uptoBulkEntry {H : Type} : Lit × DataW H → Nat
  | (.string bytes, d) => bytes.length + uptoBulk d + 1
  | (_, d) => uptoBulk d + 1
 end
def uptoSmall : (H : Type) → List (DataW H) → Bool := fun _ ds => decide (uptoBulkAll ds ≤ 1048576)
def OpenSpec.upto (s : _root_.Go.ChangeSpec) : _root_.Go.OpenSpec := { _root_.Go.OpenSpec.ofChange s with cond := some uptoSmall }

/-- 'logboomlaw10.RaftVotes', WHERE WHAT IT READS IS OF BULK AT MOST 1048576: true; the input reads as it did. -/
def raftVotesUptoRow : OpenClaim := { program := "ythldclmeojkboaagreatdoor", sum := "83dc4b93c62b31d89c268e662fdfa35779e693162454c6e19f8702fe16d36f3d", func := "logboom/logboomlaw10.RaftVotes", spec := "raftVotes", inPlace := ["internal/bytealg.IndexByteString", "internal/bytealg.IndexString"], unfollowed := true, recurses := true, named := ["unicode/utf8.first", "unicode/utf8.acceptRanges", "internal/bytealg.MaxLen"], apart := false, laid := [("unicode/utf8.acceptRanges", laid_unicode_utf8_acceptRanges), ("unicode/utf8.first", laid_unicode_utf8_first)], narrowed := true }
def RaftVotesUptoSaid : Prop := raftVotesUptoRow.holds Tryz.pinned (OpenSpec.upto raftVotesSpec)

/-- 'logboomlaw10.RaftAlone', WHERE WHAT IT READS IS OF BULK AT MOST 1048576: true; the input reads as it did. -/
def raftAloneUptoRow : OpenClaim := { program := "ythldclmeojkboaagreatdoor", sum := "83dc4b93c62b31d89c268e662fdfa35779e693162454c6e19f8702fe16d36f3d", func := "logboom/logboomlaw10.RaftAlone", spec := "raftAlone", inPlace := ["internal/bytealg.IndexByteString", "internal/bytealg.IndexString"], unfollowed := true, recurses := true, named := ["unicode/utf8.first", "unicode/utf8.acceptRanges", "internal/bytealg.MaxLen"], apart := false, laid := [("unicode/utf8.acceptRanges", laid_unicode_utf8_acceptRanges), ("unicode/utf8.first", laid_unicode_utf8_first)], narrowed := true }
def RaftAloneUptoSaid : Prop := raftAloneUptoRow.holds Tryz.pinned (OpenSpec.upto raftAloneSpec)

/-- 'logboomlaw10.RaftSafe', WHERE WHAT IT READS IS OF BULK AT MOST 1048576: true; the input reads as it did. -/
def raftSafeUptoRow : OpenClaim := { program := "ythldclmeojkboaagreatdoor", sum := "83dc4b93c62b31d89c268e662fdfa35779e693162454c6e19f8702fe16d36f3d", func := "logboom/logboomlaw10.RaftSafe", spec := "raftSafe", inPlace := ["internal/bytealg.IndexByteString", "internal/bytealg.IndexString"], unfollowed := true, recurses := true, named := ["unicode/utf8.first", "unicode/utf8.acceptRanges", "internal/bytealg.MaxLen"], apart := false, laid := [("unicode/utf8.acceptRanges", laid_unicode_utf8_acceptRanges), ("unicode/utf8.first", laid_unicode_utf8_first)], narrowed := true }
def RaftSafeUptoSaid : Prop := raftSafeUptoRow.holds Tryz.pinned (OpenSpec.upto raftSafeSpec)

/-- 'logboomlaw10.RaftCalm', WHERE WHAT IT READS IS OF BULK AT MOST 1048576: true; the input reads as it did. -/
def raftCalmUptoRow : OpenClaim := { program := "ythldclmeojkboaagreatdoor", sum := "83dc4b93c62b31d89c268e662fdfa35779e693162454c6e19f8702fe16d36f3d", func := "logboom/logboomlaw10.RaftCalm", spec := "raftCalm", inPlace := ["internal/bytealg.IndexByteString", "internal/bytealg.IndexString"], unfollowed := true, recurses := true, named := ["unicode/utf8.first", "unicode/utf8.acceptRanges", "internal/bytealg.MaxLen"], apart := false, laid := [("unicode/utf8.acceptRanges", laid_unicode_utf8_acceptRanges), ("unicode/utf8.first", laid_unicode_utf8_first)], narrowed := true }
def RaftCalmUptoSaid : Prop := raftCalmUptoRow.holds Tryz.pinned (OpenSpec.upto raftCalmSpec)

/-- 'logboomlaw10.RaftPlays', WHERE WHAT IT READS IS OF BULK AT MOST 1048576: true; the input reads as it did. -/
def raftPlaysUptoRow : OpenClaim := { program := "ythldclmeojkboaagreatdoor", sum := "83dc4b93c62b31d89c268e662fdfa35779e693162454c6e19f8702fe16d36f3d", func := "logboom/logboomlaw10.RaftPlays", spec := "raftPlays", inPlace := ["internal/bytealg.IndexByteString", "internal/bytealg.IndexString"], unfollowed := true, recurses := true, named := ["unicode/utf8.first", "unicode/utf8.acceptRanges", "internal/bytealg.MaxLen"], apart := false, laid := [("unicode/utf8.acceptRanges", laid_unicode_utf8_acceptRanges), ("unicode/utf8.first", laid_unicode_utf8_first)], narrowed := true }
def RaftPlaysUptoSaid : Prop := raftPlaysUptoRow.holds Tryz.pinned (OpenSpec.upto raftPlaysSpec)

end Rows
end Go.Proofs.YthldclmeojkboaaGreatDoor
