/-
  NARROWER THAN 'FOR EVERY INPUT', by the rows' own cells (each row's printed sentence says how): WordsSplit: laid · WordsJoined: laid · WordsAgain: laid · WordsEnd: laid · WordsMoved: laid.
  DERIVED. THE GIVEN ROWS OF THIS SEAT. 5 by the template 'for every input the law returns true; each argument reads behind the call as it read before'; 0 by the template 'total and deterministic' (their statements: YtmlhjahbbcgpaaaDoorTotals.lean).
  GIVEN WITH THE SEED: the statements are not yours to turn. If you find one false, say at which input.
  Laid BY PROGRAM, IN A SANDBOX (cutbox-rows.mjs): the forced cells as the released guide's own fill.sh prints them over the translation b25263dfd32fcea7… (all of the seat's roots in one cut). By AI agents, Wed Nov 11 2026. No macro, syntax, notation, axiom, sorry.
-/
import Derived.Test.YtmlhjahbbcgpaaaDoorChecked
import GoSem.PinnedTables
import GoSem.Claim
import GoSem.ClaimJoined
import GoSem.ClaimMapViews
import Derived.JoinedTies
import Derived.KernelRfl
namespace Go.Proofs.YtmlhjahbbcgpaaaDoor
/- THE CELL 'sum', in the pinned program and in every row, IS THE sha256 OF THE DUMP (.gsa) THAT YtmlhjahbbcgpaaaDoorProg.lean LOADS. Nothing in Lean hashes anything: it is a label: what it is worth is what the hold of that sum in a sandbox is worth. -/
noncomputable def Tryd.pinned : Pinned := { name := "ytmlhjahbbcgpaaadoor", sum := "b25263dfd32fcea769a37b6fa4492ba946548fdc66c5cfd1a67039d0f078bcaf", checked := Tryd.checked }
namespace Rows
def none {H : Type} : Left H := { results := [], args := [] }

/- WHAT THE LISTED PACKAGE-LEVEL VARIABLES READ AS WHEN THE CALL BEGINS. Each datum BY PROGRAM (the guide's laid-datum.mjs) off the statement by which the dump's own 'gosem.cut.vars' lays the variable. In a bare row this is a premise. The card (YtmlhjahbbcgpaaaDoorCards.lean) ties it to the program's text. -/
def laid_unicode_utf8_acceptRanges {H : Type} : DataW H := .agg [.agg [.lit (.int .u8 128), .lit (.int .u8 191)], .agg [.lit (.int .u8 160), .lit (.int .u8 191)], .agg [.lit (.int .u8 128), .lit (.int .u8 159)], .agg [.lit (.int .u8 144), .lit (.int .u8 191)], .agg [.lit (.int .u8 128), .lit (.int .u8 143)], .agg [.lit (.int .u8 0), .lit (.int .u8 0)], .agg [.lit (.int .u8 0), .lit (.int .u8 0)], .agg [.lit (.int .u8 0), .lit (.int .u8 0)], .agg [.lit (.int .u8 0), .lit (.int .u8 0)], .agg [.lit (.int .u8 0), .lit (.int .u8 0)], .agg [.lit (.int .u8 0), .lit (.int .u8 0)], .agg [.lit (.int .u8 0), .lit (.int .u8 0)], .agg [.lit (.int .u8 0), .lit (.int .u8 0)], .agg [.lit (.int .u8 0), .lit (.int .u8 0)], .agg [.lit (.int .u8 0), .lit (.int .u8 0)], .agg [.lit (.int .u8 0), .lit (.int .u8 0)]]
/-- One of Go's own tables, pinned by name: the form's constant. -/
def laid_unicode_utf8_first : DataW Unit := Go.Pinned.utf8First

/-- 'rhizomelaw08.WordsSplit': WHATEVER THE INPUT: true; the input reads as it did. -/
def wordsSplitSpec : ChangeSpec := { name := "wordsSplit", fn := fun _ => fun
  | [d] => { results := [.lit (.bool true)], args := [d] }
  | _ => none }
def wordsSplitRow : OpenClaim := { program := "ytmlhjahbbcgpaaadoor", sum := "b25263dfd32fcea769a37b6fa4492ba946548fdc66c5cfd1a67039d0f078bcaf", func := "rhizome/rhizomelaw08.WordsSplit", spec := "wordsSplit", named := ["unicode/utf8.first", "unicode/utf8.acceptRanges"], apart := false, laid := [("unicode/utf8.acceptRanges", laid_unicode_utf8_acceptRanges), ("unicode/utf8.first", laid_unicode_utf8_first)] }
def WordsSplitSaid : Prop := wordsSplitRow.holds Tryd.pinned (OpenSpec.ofChange wordsSplitSpec)

/-- ITS FALSE NEIGHBOUR: 'it returns false'. Refute it at one input. -/
def wordsSplitWrong : ChangeSpec := { name := "wordsSplit", fn := fun _ => fun
  | [d] => { results := [.lit (.bool false)], args := [d] }
  | _ => none }
def WordsSplitWrongFalsely : Prop := wordsSplitRow.holds Tryd.pinned (OpenSpec.ofChange wordsSplitWrong)

/-- 'rhizomelaw08.WordsJoined': WHATEVER THE INPUT: true; the input reads as it did. -/
def wordsJoinedSpec : ChangeSpec := { name := "wordsJoined", fn := fun _ => fun
  | [d1, d2, d3] => { results := [.lit (.bool true)], args := [d1, d2, d3] }
  | _ => none }
def wordsJoinedRow : OpenClaim := { program := "ytmlhjahbbcgpaaadoor", sum := "b25263dfd32fcea769a37b6fa4492ba946548fdc66c5cfd1a67039d0f078bcaf", func := "rhizome/rhizomelaw08.WordsJoined", spec := "wordsJoined", named := ["unicode/utf8.first", "unicode/utf8.acceptRanges"], apart := false, laid := [("unicode/utf8.acceptRanges", laid_unicode_utf8_acceptRanges), ("unicode/utf8.first", laid_unicode_utf8_first)] }
def WordsJoinedSaid : Prop := wordsJoinedRow.holds Tryd.pinned (OpenSpec.ofChange wordsJoinedSpec)

/-- ITS FALSE NEIGHBOUR: 'it returns false'. Refute it at one input. -/
def wordsJoinedWrong : ChangeSpec := { name := "wordsJoined", fn := fun _ => fun
  | [d1, d2, d3] => { results := [.lit (.bool false)], args := [d1, d2, d3] }
  | _ => none }
def WordsJoinedWrongFalsely : Prop := wordsJoinedRow.holds Tryd.pinned (OpenSpec.ofChange wordsJoinedWrong)

/-- 'rhizomelaw08.WordsAgain': WHATEVER THE INPUT: true; the input reads as it did. -/
def wordsAgainSpec : ChangeSpec := { name := "wordsAgain", fn := fun _ => fun
  | [d] => { results := [.lit (.bool true)], args := [d] }
  | _ => none }
def wordsAgainRow : OpenClaim := { program := "ytmlhjahbbcgpaaadoor", sum := "b25263dfd32fcea769a37b6fa4492ba946548fdc66c5cfd1a67039d0f078bcaf", func := "rhizome/rhizomelaw08.WordsAgain", spec := "wordsAgain", named := ["unicode/utf8.first", "unicode/utf8.acceptRanges"], apart := false, laid := [("unicode/utf8.acceptRanges", laid_unicode_utf8_acceptRanges), ("unicode/utf8.first", laid_unicode_utf8_first)] }
def WordsAgainSaid : Prop := wordsAgainRow.holds Tryd.pinned (OpenSpec.ofChange wordsAgainSpec)

/-- ITS FALSE NEIGHBOUR: 'it returns false'. Refute it at one input. -/
def wordsAgainWrong : ChangeSpec := { name := "wordsAgain", fn := fun _ => fun
  | [d] => { results := [.lit (.bool false)], args := [d] }
  | _ => none }
def WordsAgainWrongFalsely : Prop := wordsAgainRow.holds Tryd.pinned (OpenSpec.ofChange wordsAgainWrong)

/-- 'rhizomelaw08.WordsEnd': WHATEVER THE INPUT: true; the input reads as it did. -/
def wordsEndSpec : ChangeSpec := { name := "wordsEnd", fn := fun _ => fun
  | [d] => { results := [.lit (.bool true)], args := [d] }
  | _ => none }
def wordsEndRow : OpenClaim := { program := "ytmlhjahbbcgpaaadoor", sum := "b25263dfd32fcea769a37b6fa4492ba946548fdc66c5cfd1a67039d0f078bcaf", func := "rhizome/rhizomelaw08.WordsEnd", spec := "wordsEnd", named := ["unicode/utf8.first", "unicode/utf8.acceptRanges"], apart := false, laid := [("unicode/utf8.acceptRanges", laid_unicode_utf8_acceptRanges), ("unicode/utf8.first", laid_unicode_utf8_first)] }
def WordsEndSaid : Prop := wordsEndRow.holds Tryd.pinned (OpenSpec.ofChange wordsEndSpec)

/-- ITS FALSE NEIGHBOUR: 'it returns false'. Refute it at one input. -/
def wordsEndWrong : ChangeSpec := { name := "wordsEnd", fn := fun _ => fun
  | [d] => { results := [.lit (.bool false)], args := [d] }
  | _ => none }
def WordsEndWrongFalsely : Prop := wordsEndRow.holds Tryd.pinned (OpenSpec.ofChange wordsEndWrong)

/-- 'rhizomelaw08.WordsMoved': WHATEVER THE INPUT: true; the input reads as it did. -/
def wordsMovedSpec : ChangeSpec := { name := "wordsMoved", fn := fun _ => fun
  | [d1, d2] => { results := [.lit (.bool true)], args := [d1, d2] }
  | _ => none }
def wordsMovedRow : OpenClaim := { program := "ytmlhjahbbcgpaaadoor", sum := "b25263dfd32fcea769a37b6fa4492ba946548fdc66c5cfd1a67039d0f078bcaf", func := "rhizome/rhizomelaw08.WordsMoved", spec := "wordsMoved", named := ["unicode/utf8.first", "unicode/utf8.acceptRanges"], apart := false, laid := [("unicode/utf8.acceptRanges", laid_unicode_utf8_acceptRanges), ("unicode/utf8.first", laid_unicode_utf8_first)] }
def WordsMovedSaid : Prop := wordsMovedRow.holds Tryd.pinned (OpenSpec.ofChange wordsMovedSpec)

/-- ITS FALSE NEIGHBOUR: 'it returns false'. Refute it at one input. -/
def wordsMovedWrong : ChangeSpec := { name := "wordsMoved", fn := fun _ => fun
  | [d1, d2] => { results := [.lit (.bool false)], args := [d1, d2] }
  | _ => none }
def WordsMovedWrongFalsely : Prop := wordsMovedRow.holds Tryd.pinned (OpenSpec.ofChange wordsMovedWrong)

/- THE SECOND FORM. 'bulk': how many values and letters a reading holds, each counted each time it is reached (what is shared counts as often as it is met; a slice's spare places count too). A statement '..UptoSaid' is the law's where the arguments, and the package variables that the reading takes, are together of bulk at most 1048576: NARROWER than '..Said'. Prove '..Said' where nothing that the law and all that it calls make is longer than what came in: it says more and counts as full. Else prove '..UptoSaid'. A law counts once. -/
mutual
def uptoBulk {H : Type} : DataW H → Nat
  | .lit (.string bytes) => bytes.length + 1
  | .lit _ => 1
  | .nil => 1
  | .ptr d => uptoBulk d + 1
  | .slice elems spare => uptoBulkAll elems + uptoBulkAll spare + 1
  | .agg parts => uptoBulkAll parts + 1
  | .iface _ d => uptoBulk d + 1
  | .map entries => uptoBulkEntries entries + 1
  | .held _ => 1
def uptoBulkAll {H : Type} : List (DataW H) → Nat
  | [] => 0
  | d :: r => uptoBulk d + uptoBulkAll r
def uptoBulkEntries {H : Type} : List (Lit × DataW H) → Nat
  | [] => 0
  | x :: r => uptoBulkEntry x + uptoBulkEntries r
def uptoBulkEntry {H : Type} : Lit × DataW H → Nat
  | (.string bytes, d) => bytes.length + uptoBulk d + 1
  | (_, d) => uptoBulk d + 1
 end
def uptoSmall : (H : Type) → List (DataW H) → Bool := fun _ ds => decide (uptoBulkAll ds ≤ 1048576)
def OpenSpec.upto (s : _root_.Go.ChangeSpec) : _root_.Go.OpenSpec := { _root_.Go.OpenSpec.ofChange s with cond := some uptoSmall }

/-- 'rhizomelaw08.WordsSplit', WHERE WHAT IT READS IS OF BULK AT MOST 1048576: true; the input reads as it did. -/
def wordsSplitUptoRow : OpenClaim := { program := "ytmlhjahbbcgpaaadoor", sum := "b25263dfd32fcea769a37b6fa4492ba946548fdc66c5cfd1a67039d0f078bcaf", func := "rhizome/rhizomelaw08.WordsSplit", spec := "wordsSplit", named := ["unicode/utf8.first", "unicode/utf8.acceptRanges"], apart := false, laid := [("unicode/utf8.acceptRanges", laid_unicode_utf8_acceptRanges), ("unicode/utf8.first", laid_unicode_utf8_first)], narrowed := true }
def WordsSplitUptoSaid : Prop := wordsSplitUptoRow.holds Tryd.pinned (OpenSpec.upto wordsSplitSpec)

/-- 'rhizomelaw08.WordsJoined', WHERE WHAT IT READS IS OF BULK AT MOST 1048576: true; the input reads as it did. -/
def wordsJoinedUptoRow : OpenClaim := { program := "ytmlhjahbbcgpaaadoor", sum := "b25263dfd32fcea769a37b6fa4492ba946548fdc66c5cfd1a67039d0f078bcaf", func := "rhizome/rhizomelaw08.WordsJoined", spec := "wordsJoined", named := ["unicode/utf8.first", "unicode/utf8.acceptRanges"], apart := false, laid := [("unicode/utf8.acceptRanges", laid_unicode_utf8_acceptRanges), ("unicode/utf8.first", laid_unicode_utf8_first)], narrowed := true }
def WordsJoinedUptoSaid : Prop := wordsJoinedUptoRow.holds Tryd.pinned (OpenSpec.upto wordsJoinedSpec)

/-- 'rhizomelaw08.WordsAgain', WHERE WHAT IT READS IS OF BULK AT MOST 1048576: true; the input reads as it did. -/
def wordsAgainUptoRow : OpenClaim := { program := "ytmlhjahbbcgpaaadoor", sum := "b25263dfd32fcea769a37b6fa4492ba946548fdc66c5cfd1a67039d0f078bcaf", func := "rhizome/rhizomelaw08.WordsAgain", spec := "wordsAgain", named := ["unicode/utf8.first", "unicode/utf8.acceptRanges"], apart := false, laid := [("unicode/utf8.acceptRanges", laid_unicode_utf8_acceptRanges), ("unicode/utf8.first", laid_unicode_utf8_first)], narrowed := true }
def WordsAgainUptoSaid : Prop := wordsAgainUptoRow.holds Tryd.pinned (OpenSpec.upto wordsAgainSpec)

/-- 'rhizomelaw08.WordsEnd', WHERE WHAT IT READS IS OF BULK AT MOST 1048576: true; the input reads as it did. -/
def wordsEndUptoRow : OpenClaim := { program := "ytmlhjahbbcgpaaadoor", sum := "b25263dfd32fcea769a37b6fa4492ba946548fdc66c5cfd1a67039d0f078bcaf", func := "rhizome/rhizomelaw08.WordsEnd", spec := "wordsEnd", named := ["unicode/utf8.first", "unicode/utf8.acceptRanges"], apart := false, laid := [("unicode/utf8.acceptRanges", laid_unicode_utf8_acceptRanges), ("unicode/utf8.first", laid_unicode_utf8_first)], narrowed := true }
def WordsEndUptoSaid : Prop := wordsEndUptoRow.holds Tryd.pinned (OpenSpec.upto wordsEndSpec)

/-- 'rhizomelaw08.WordsMoved', WHERE WHAT IT READS IS OF BULK AT MOST 1048576: true; the input reads as it did. -/
def wordsMovedUptoRow : OpenClaim := { program := "ytmlhjahbbcgpaaadoor", sum := "b25263dfd32fcea769a37b6fa4492ba946548fdc66c5cfd1a67039d0f078bcaf", func := "rhizome/rhizomelaw08.WordsMoved", spec := "wordsMoved", named := ["unicode/utf8.first", "unicode/utf8.acceptRanges"], apart := false, laid := [("unicode/utf8.acceptRanges", laid_unicode_utf8_acceptRanges), ("unicode/utf8.first", laid_unicode_utf8_first)], narrowed := true }
def WordsMovedUptoSaid : Prop := wordsMovedUptoRow.holds Tryd.pinned (OpenSpec.upto wordsMovedSpec)

end Rows
end Go.Proofs.YtmlhjahbbcgpaaaDoor
