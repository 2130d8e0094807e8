/-
  No cell of these rows narrows 'for every input' (looked for: loops, veiled, ifaces, maps, wideKeys, modest, calm, conditions, laid).
  DERIVED. THE GIVEN ROWS OF THIS SEAT. 4 by the template 'for every input the law returns true; each argument reads behind the call as it read before'; 0 by the template 'total and deterministic' (their statements: YtkehmehodgcdfaaTotals.lean).
  GIVEN WITH THE SEED: the statements are not yours to turn. If you find one false, say at which input.
  Laid BY PROGRAM, IN A SANDBOX (cutbox-rows.mjs): the forced cells as the released guide's own fill.sh prints them over the translation 405ff3031883fc5d… (all of the seat's roots in one cut). By AI agents, Wed Nov 11 2026. No macro, syntax, notation, axiom, sorry.
-/
import Derived.Test.YtkehmehodgcdfaaChecked
import GoSem.Claim
import GoSem.ClaimJoined
import GoSem.ClaimMapViews
import Derived.JoinedTies
import Derived.KernelRfl
namespace Go.Proofs.Ytkehmehodgcdfaa
/- THE CELL 'sum', in the pinned program and in every row, IS THE sha256 OF THE DUMP (.gsa) THAT YtkehmehodgcdfaaProg.lean LOADS. Nothing in Lean hashes anything: it is a label: what it is worth is what the hold of that sum in a sandbox is worth. -/
noncomputable def Try.pinned : Pinned := { name := "ytkehmehodgcdfaa", sum := "405ff3031883fc5d2a22fea303802ad68bbfdd1629e93c484228f9efea86edf4", checked := Try.checked }
namespace Rows
def none {H : Type} : Left H := { results := [], args := [] }

/-- 'rhizomelaw20.FeedRow': WHATEVER THE INPUT: true; the input reads as it did. -/
def feedRowSpec : ChangeSpec := { name := "feedRow", fn := fun _ => fun
  | [d] => { results := [.lit (.bool true)], args := [d] }
  | _ => none }
def feedRowRow : OpenClaim := { program := "ytkehmehodgcdfaa", sum := "405ff3031883fc5d2a22fea303802ad68bbfdd1629e93c484228f9efea86edf4", func := "rhizome/rhizomelaw20.FeedRow", spec := "feedRow", apart := false }
def FeedRowSaid : Prop := feedRowRow.holds Try.pinned (OpenSpec.ofChange feedRowSpec)

/-- ITS FALSE NEIGHBOUR: 'it returns false'. Refute it at one input. -/
def feedRowWrong : ChangeSpec := { name := "feedRow", fn := fun _ => fun
  | [d] => { results := [.lit (.bool false)], args := [d] }
  | _ => none }
def FeedRowWrongFalsely : Prop := feedRowRow.holds Try.pinned (OpenSpec.ofChange feedRowWrong)

/-- 'rhizomelaw20.FeedParts': WHATEVER THE INPUT: true; the input reads as it did. -/
def feedPartsSpec : ChangeSpec := { name := "feedParts", fn := fun _ => fun
  | [d1, d2] => { results := [.lit (.bool true)], args := [d1, d2] }
  | _ => none }
def feedPartsRow : OpenClaim := { program := "ytkehmehodgcdfaa", sum := "405ff3031883fc5d2a22fea303802ad68bbfdd1629e93c484228f9efea86edf4", func := "rhizome/rhizomelaw20.FeedParts", spec := "feedParts", apart := false }
def FeedPartsSaid : Prop := feedPartsRow.holds Try.pinned (OpenSpec.ofChange feedPartsSpec)

/-- ITS FALSE NEIGHBOUR: 'it returns false'. Refute it at one input. -/
def feedPartsWrong : ChangeSpec := { name := "feedParts", fn := fun _ => fun
  | [d1, d2] => { results := [.lit (.bool false)], args := [d1, d2] }
  | _ => none }
def FeedPartsWrongFalsely : Prop := feedPartsRow.holds Try.pinned (OpenSpec.ofChange feedPartsWrong)

/-- 'rhizomelaw20.FeedPlays': WHATEVER THE INPUT: true; the input reads as it did. -/
def feedPlaysSpec : ChangeSpec := { name := "feedPlays", fn := fun _ => fun
  | [d1, d2, d3] => { results := [.lit (.bool true)], args := [d1, d2, d3] }
  | _ => none }
def feedPlaysRow : OpenClaim := { program := "ytkehmehodgcdfaa", sum := "405ff3031883fc5d2a22fea303802ad68bbfdd1629e93c484228f9efea86edf4", func := "rhizome/rhizomelaw20.FeedPlays", spec := "feedPlays", apart := false }
def FeedPlaysSaid : Prop := feedPlaysRow.holds Try.pinned (OpenSpec.ofChange feedPlaysSpec)

/-- ITS FALSE NEIGHBOUR: 'it returns false'. Refute it at one input. -/
def feedPlaysWrong : ChangeSpec := { name := "feedPlays", fn := fun _ => fun
  | [d1, d2, d3] => { results := [.lit (.bool false)], args := [d1, d2, d3] }
  | _ => none }
def FeedPlaysWrongFalsely : Prop := feedPlaysRow.holds Try.pinned (OpenSpec.ofChange feedPlaysWrong)

/-- 'rhizomelaw20.FeedAnew': WHATEVER THE INPUT: true; the input reads as it did. -/
def feedAnewSpec : ChangeSpec := { name := "feedAnew", fn := fun _ => fun
  | [d1, d2] => { results := [.lit (.bool true)], args := [d1, d2] }
  | _ => none }
def feedAnewRow : OpenClaim := { program := "ytkehmehodgcdfaa", sum := "405ff3031883fc5d2a22fea303802ad68bbfdd1629e93c484228f9efea86edf4", func := "rhizome/rhizomelaw20.FeedAnew", spec := "feedAnew", apart := false }
def FeedAnewSaid : Prop := feedAnewRow.holds Try.pinned (OpenSpec.ofChange feedAnewSpec)

/-- ITS FALSE NEIGHBOUR: 'it returns false'. Refute it at one input. -/
def feedAnewWrong : ChangeSpec := { name := "feedAnew", fn := fun _ => fun
  | [d1, d2] => { results := [.lit (.bool false)], args := [d1, d2] }
  | _ => none }
def FeedAnewWrongFalsely : Prop := feedAnewRow.holds Try.pinned (OpenSpec.ofChange feedAnewWrong)

/- THE SECOND FORM. 'bulk': how many values and letters a reading holds, each counted each time it is reached (what is shared counts as often as it is met; a slice's spare places count too). A statement '..UptoSaid' is the law's where the arguments, and the package variables that the reading takes, are together of bulk at most 1048576: NARROWER than '..Said'. Prove '..Said' where nothing that the law and all that it calls make is longer than what came in: it says more and counts as full. Else prove '..UptoSaid'. A law counts once. -/
mutual
def uptoBulk {H : Type} : DataW H → Nat
  | .lit (.string bytes) => bytes.length + 1
  | .lit _ => 1
  | .nil => 1
  | .ptr d => uptoBulk d + 1
  | .slice elems spare => uptoBulkAll elems + uptoBulkAll spare + 1
  | .agg parts => uptoBulkAll parts + 1
  | .iface _ d => uptoBulk d + 1
  | .map entries => uptoBulkEntries entries + 1
  | .held _ => 1
def uptoBulkAll {H : Type} : List (DataW H) → Nat
  | [] => 0
  | d :: r => uptoBulk d + uptoBulkAll r
def uptoBulkEntries {H : Type} : List (Lit × DataW H) → Nat
  | [] => 0
  | x :: r => uptoBulkEntry x + uptoBulkEntries r
def uptoBulkEntry {H : Type} : Lit × DataW H → Nat
  | (.string bytes, d) => bytes.length + uptoBulk d + 1
  | (_, d) => uptoBulk d + 1
 end
def uptoSmall : (H : Type) → List (DataW H) → Bool := fun _ ds => decide (uptoBulkAll ds ≤ 1048576)
def OpenSpec.upto (s : _root_.Go.ChangeSpec) : _root_.Go.OpenSpec := { _root_.Go.OpenSpec.ofChange s with cond := some uptoSmall }

/-- 'rhizomelaw20.FeedRow', WHERE WHAT IT READS IS OF BULK AT MOST 1048576: true; the input reads as it did. -/
def feedRowUptoRow : OpenClaim := { program := "ytkehmehodgcdfaa", sum := "405ff3031883fc5d2a22fea303802ad68bbfdd1629e93c484228f9efea86edf4", func := "rhizome/rhizomelaw20.FeedRow", spec := "feedRow", apart := false, narrowed := true }
def FeedRowUptoSaid : Prop := feedRowUptoRow.holds Try.pinned (OpenSpec.upto feedRowSpec)

/-- 'rhizomelaw20.FeedParts', WHERE WHAT IT READS IS OF BULK AT MOST 1048576: true; the input reads as it did. -/
def feedPartsUptoRow : OpenClaim := { program := "ytkehmehodgcdfaa", sum := "405ff3031883fc5d2a22fea303802ad68bbfdd1629e93c484228f9efea86edf4", func := "rhizome/rhizomelaw20.FeedParts", spec := "feedParts", apart := false, narrowed := true }
def FeedPartsUptoSaid : Prop := feedPartsUptoRow.holds Try.pinned (OpenSpec.upto feedPartsSpec)

/-- 'rhizomelaw20.FeedPlays', WHERE WHAT IT READS IS OF BULK AT MOST 1048576: true; the input reads as it did. -/
def feedPlaysUptoRow : OpenClaim := { program := "ytkehmehodgcdfaa", sum := "405ff3031883fc5d2a22fea303802ad68bbfdd1629e93c484228f9efea86edf4", func := "rhizome/rhizomelaw20.FeedPlays", spec := "feedPlays", apart := false, narrowed := true }
def FeedPlaysUptoSaid : Prop := feedPlaysUptoRow.holds Try.pinned (OpenSpec.upto feedPlaysSpec)

/-- 'rhizomelaw20.FeedAnew', WHERE WHAT IT READS IS OF BULK AT MOST 1048576: true; the input reads as it did. -/
def feedAnewUptoRow : OpenClaim := { program := "ytkehmehodgcdfaa", sum := "405ff3031883fc5d2a22fea303802ad68bbfdd1629e93c484228f9efea86edf4", func := "rhizome/rhizomelaw20.FeedAnew", spec := "feedAnew", apart := false, narrowed := true }
def FeedAnewUptoSaid : Prop := feedAnewUptoRow.holds Try.pinned (OpenSpec.upto feedAnewSpec)

end Rows
end Go.Proofs.Ytkehmehodgcdfaa
