/-
  No cell of these rows narrows 'for every input' (looked for: loops, veiled, ifaces, maps, wideKeys, modest, calm, conditions, laid).
  DERIVED. THE GIVEN ROWS OF THIS SEAT. 6 by the template 'for every input the law returns true; each argument reads behind the call as it read before'; 0 by the template 'total and deterministic' (their statements: YtmneommbdfapfaaTotals.lean).
  GIVEN WITH THE SEED: the statements are not yours to turn. If you find one false, say at which input.
  Laid BY PROGRAM, IN A SANDBOX (cutbox-rows.mjs): the forced cells as the released guide's own fill.sh prints them over the translation 8f4e4ffb441d3129… (all of the seat's roots in one cut). By AI agents, Wed Nov 11 2026. No macro, syntax, notation, axiom, sorry.
-/
import Derived.Test.YtmneommbdfapfaaChecked
import GoSem.Claim
import GoSem.ClaimJoined
import GoSem.ClaimMapViews
import Derived.JoinedTies
import Derived.KernelRfl
namespace Go.Proofs.Ytmneommbdfapfaa
/- THE CELL 'sum', in the pinned program and in every row, IS THE sha256 OF THE DUMP (.gsa) THAT YtmneommbdfapfaaProg.lean LOADS. Nothing in Lean hashes anything: it is a label: what it is worth is what the hold of that sum in a sandbox is worth. -/
noncomputable def Try.pinned : Pinned := { name := "ytmneommbdfapfaa", sum := "8f4e4ffb441d312923aaa02a256dcc29b15e986ff16534610fe081d5e6f89ff4", checked := Try.checked }
namespace Rows
def none {H : Type} : Left H := { results := [], args := [] }

/-- 'rhizomelaw06.TreeHalves': WHATEVER THE INPUT: true; the input reads as it did. -/
def treeHalvesSpec : ChangeSpec := { name := "treeHalves", fn := fun _ => fun
  | [d1, d2, d3] => { results := [.lit (.bool true)], args := [d1, d2, d3] }
  | _ => none }
def treeHalvesRow : OpenClaim := { program := "ytmneommbdfapfaa", sum := "8f4e4ffb441d312923aaa02a256dcc29b15e986ff16534610fe081d5e6f89ff4", func := "rhizome/rhizomelaw06.TreeHalves", spec := "treeHalves", inPlace := ["internal/bytealg.Compare"], recurses := true, apart := false }
def TreeHalvesSaid : Prop := treeHalvesRow.holds Try.pinned (OpenSpec.ofChange treeHalvesSpec)

/-- ITS FALSE NEIGHBOUR: 'it returns false'. Refute it at one input. -/
def treeHalvesWrong : ChangeSpec := { name := "treeHalves", fn := fun _ => fun
  | [d1, d2, d3] => { results := [.lit (.bool false)], args := [d1, d2, d3] }
  | _ => none }
def TreeHalvesWrongFalsely : Prop := treeHalvesRow.holds Try.pinned (OpenSpec.ofChange treeHalvesWrong)

/-- 'rhizomelaw06.TreeRanks': WHATEVER THE INPUT: true; the input reads as it did. -/
def treeRanksSpec : ChangeSpec := { name := "treeRanks", fn := fun _ => fun
  | [d1, d2, d3] => { results := [.lit (.bool true)], args := [d1, d2, d3] }
  | _ => none }
def treeRanksRow : OpenClaim := { program := "ytmneommbdfapfaa", sum := "8f4e4ffb441d312923aaa02a256dcc29b15e986ff16534610fe081d5e6f89ff4", func := "rhizome/rhizomelaw06.TreeRanks", spec := "treeRanks", inPlace := ["internal/bytealg.Compare"], recurses := true, apart := false }
def TreeRanksSaid : Prop := treeRanksRow.holds Try.pinned (OpenSpec.ofChange treeRanksSpec)

/-- ITS FALSE NEIGHBOUR: 'it returns false'. Refute it at one input. -/
def treeRanksWrong : ChangeSpec := { name := "treeRanks", fn := fun _ => fun
  | [d1, d2, d3] => { results := [.lit (.bool false)], args := [d1, d2, d3] }
  | _ => none }
def TreeRanksWrongFalsely : Prop := treeRanksRow.holds Try.pinned (OpenSpec.ofChange treeRanksWrong)

/-- 'rhizomelaw06.TreeFlat': WHATEVER THE INPUT: true; the input reads as it did. -/
def treeFlatSpec : ChangeSpec := { name := "treeFlat", fn := fun _ => fun
  | [d1, d2] => { results := [.lit (.bool true)], args := [d1, d2] }
  | _ => none }
def treeFlatRow : OpenClaim := { program := "ytmneommbdfapfaa", sum := "8f4e4ffb441d312923aaa02a256dcc29b15e986ff16534610fe081d5e6f89ff4", func := "rhizome/rhizomelaw06.TreeFlat", spec := "treeFlat", inPlace := ["internal/bytealg.Compare"], recurses := true, apart := false }
def TreeFlatSaid : Prop := treeFlatRow.holds Try.pinned (OpenSpec.ofChange treeFlatSpec)

/-- ITS FALSE NEIGHBOUR: 'it returns false'. Refute it at one input. -/
def treeFlatWrong : ChangeSpec := { name := "treeFlat", fn := fun _ => fun
  | [d1, d2] => { results := [.lit (.bool false)], args := [d1, d2] }
  | _ => none }
def TreeFlatWrongFalsely : Prop := treeFlatRow.holds Try.pinned (OpenSpec.ofChange treeFlatWrong)

/-- 'rhizomelaw06.TreeApart': WHATEVER THE INPUT: true; the input reads as it did. -/
def treeApartSpec : ChangeSpec := { name := "treeApart", fn := fun _ => fun
  | [d1, d2] => { results := [.lit (.bool true)], args := [d1, d2] }
  | _ => none }
def treeApartRow : OpenClaim := { program := "ytmneommbdfapfaa", sum := "8f4e4ffb441d312923aaa02a256dcc29b15e986ff16534610fe081d5e6f89ff4", func := "rhizome/rhizomelaw06.TreeApart", spec := "treeApart", inPlace := ["internal/bytealg.Compare"], recurses := true, apart := false }
def TreeApartSaid : Prop := treeApartRow.holds Try.pinned (OpenSpec.ofChange treeApartSpec)

/-- ITS FALSE NEIGHBOUR: 'it returns false'. Refute it at one input. -/
def treeApartWrong : ChangeSpec := { name := "treeApart", fn := fun _ => fun
  | [d1, d2] => { results := [.lit (.bool false)], args := [d1, d2] }
  | _ => none }
def TreeApartWrongFalsely : Prop := treeApartRow.holds Try.pinned (OpenSpec.ofChange treeApartWrong)

/-- 'rhizomelaw06.TreeOrder': WHATEVER THE INPUT: true; the input reads as it did. -/
def treeOrderSpec : ChangeSpec := { name := "treeOrder", fn := fun _ => fun
  | [d1, d2] => { results := [.lit (.bool true)], args := [d1, d2] }
  | _ => none }
def treeOrderRow : OpenClaim := { program := "ytmneommbdfapfaa", sum := "8f4e4ffb441d312923aaa02a256dcc29b15e986ff16534610fe081d5e6f89ff4", func := "rhizome/rhizomelaw06.TreeOrder", spec := "treeOrder", inPlace := ["internal/bytealg.Compare"], unfollowed := true, recurses := true, apart := false }
def TreeOrderSaid : Prop := treeOrderRow.holds Try.pinned (OpenSpec.ofChange treeOrderSpec)

/-- ITS FALSE NEIGHBOUR: 'it returns false'. Refute it at one input. -/
def treeOrderWrong : ChangeSpec := { name := "treeOrder", fn := fun _ => fun
  | [d1, d2] => { results := [.lit (.bool false)], args := [d1, d2] }
  | _ => none }
def TreeOrderWrongFalsely : Prop := treeOrderRow.holds Try.pinned (OpenSpec.ofChange treeOrderWrong)

/-- 'rhizomelaw06.TreePlays': WHATEVER THE INPUT: true; the input reads as it did. -/
def treePlaysSpec : ChangeSpec := { name := "treePlays", fn := fun _ => fun
  | [d] => { results := [.lit (.bool true)], args := [d] }
  | _ => none }
def treePlaysRow : OpenClaim := { program := "ytmneommbdfapfaa", sum := "8f4e4ffb441d312923aaa02a256dcc29b15e986ff16534610fe081d5e6f89ff4", func := "rhizome/rhizomelaw06.TreePlays", spec := "treePlays", inPlace := ["internal/bytealg.Compare"], recurses := true, apart := false }
def TreePlaysSaid : Prop := treePlaysRow.holds Try.pinned (OpenSpec.ofChange treePlaysSpec)

/-- ITS FALSE NEIGHBOUR: 'it returns false'. Refute it at one input. -/
def treePlaysWrong : ChangeSpec := { name := "treePlays", fn := fun _ => fun
  | [d] => { results := [.lit (.bool false)], args := [d] }
  | _ => none }
def TreePlaysWrongFalsely : Prop := treePlaysRow.holds Try.pinned (OpenSpec.ofChange treePlaysWrong)

/- THE SECOND FORM. 'bulk': how many values and letters a reading holds, each counted each time it is reached (what is shared counts as often as it is met; a slice's spare places count too). A statement '..UptoSaid' is the law's where the arguments, and the package variables that the reading takes, are together of bulk at most 1048576: NARROWER than '..Said'. Prove '..Said' where nothing that the law and all that it calls make is longer than what came in: it says more and counts as full. Else prove '..UptoSaid'. A law counts once. -/
mutual
def uptoBulk {H : Type} : DataW H → Nat
  | .lit (.string bytes) => bytes.length + 1
  | .lit _ => 1
  | .nil => 1
  | .ptr d => uptoBulk d + 1
  | .slice elems spare => uptoBulkAll elems + uptoBulkAll spare + 1
  | .agg parts => uptoBulkAll parts + 1
  | .iface _ d => uptoBulk d + 1
  | .map entries => uptoBulkEntries entries + 1
  | .held _ => 1
def uptoBulkAll {H : Type} : List (DataW H) → Nat
  | [] => 0
  | d :: r => uptoBulk d + uptoBulkAll r
def uptoBulkEntries {H : Type} : List (Lit × DataW H) → Nat
  | [] => 0
  | x :: r => uptoBulkEntry x + uptoBulkEntries r
def uptoBulkEntry {H : Type} : Lit × DataW H → Nat
  | (.string bytes, d) => bytes.length + uptoBulk d + 1
  | (_, d) => uptoBulk d + 1
 end
def uptoSmall : (H : Type) → List (DataW H) → Bool := fun _ ds => decide (uptoBulkAll ds ≤ 1048576)
def OpenSpec.upto (s : _root_.Go.ChangeSpec) : _root_.Go.OpenSpec := { _root_.Go.OpenSpec.ofChange s with cond := some uptoSmall }

/-- 'rhizomelaw06.TreeHalves', WHERE WHAT IT READS IS OF BULK AT MOST 1048576: true; the input reads as it did. -/
def treeHalvesUptoRow : OpenClaim := { program := "ytmneommbdfapfaa", sum := "8f4e4ffb441d312923aaa02a256dcc29b15e986ff16534610fe081d5e6f89ff4", func := "rhizome/rhizomelaw06.TreeHalves", spec := "treeHalves", inPlace := ["internal/bytealg.Compare"], recurses := true, apart := false, narrowed := true }
def TreeHalvesUptoSaid : Prop := treeHalvesUptoRow.holds Try.pinned (OpenSpec.upto treeHalvesSpec)

/-- 'rhizomelaw06.TreeRanks', WHERE WHAT IT READS IS OF BULK AT MOST 1048576: true; the input reads as it did. -/
def treeRanksUptoRow : OpenClaim := { program := "ytmneommbdfapfaa", sum := "8f4e4ffb441d312923aaa02a256dcc29b15e986ff16534610fe081d5e6f89ff4", func := "rhizome/rhizomelaw06.TreeRanks", spec := "treeRanks", inPlace := ["internal/bytealg.Compare"], recurses := true, apart := false, narrowed := true }
def TreeRanksUptoSaid : Prop := treeRanksUptoRow.holds Try.pinned (OpenSpec.upto treeRanksSpec)

/-- 'rhizomelaw06.TreeFlat', WHERE WHAT IT READS IS OF BULK AT MOST 1048576: true; the input reads as it did. -/
def treeFlatUptoRow : OpenClaim := { program := "ytmneommbdfapfaa", sum := "8f4e4ffb441d312923aaa02a256dcc29b15e986ff16534610fe081d5e6f89ff4", func := "rhizome/rhizomelaw06.TreeFlat", spec := "treeFlat", inPlace := ["internal/bytealg.Compare"], recurses := true, apart := false, narrowed := true }
def TreeFlatUptoSaid : Prop := treeFlatUptoRow.holds Try.pinned (OpenSpec.upto treeFlatSpec)

/-- 'rhizomelaw06.TreeApart', WHERE WHAT IT READS IS OF BULK AT MOST 1048576: true; the input reads as it did. -/
def treeApartUptoRow : OpenClaim := { program := "ytmneommbdfapfaa", sum := "8f4e4ffb441d312923aaa02a256dcc29b15e986ff16534610fe081d5e6f89ff4", func := "rhizome/rhizomelaw06.TreeApart", spec := "treeApart", inPlace := ["internal/bytealg.Compare"], recurses := true, apart := false, narrowed := true }
def TreeApartUptoSaid : Prop := treeApartUptoRow.holds Try.pinned (OpenSpec.upto treeApartSpec)

/-- 'rhizomelaw06.TreeOrder', WHERE WHAT IT READS IS OF BULK AT MOST 1048576: true; the input reads as it did. -/
def treeOrderUptoRow : OpenClaim := { program := "ytmneommbdfapfaa", sum := "8f4e4ffb441d312923aaa02a256dcc29b15e986ff16534610fe081d5e6f89ff4", func := "rhizome/rhizomelaw06.TreeOrder", spec := "treeOrder", inPlace := ["internal/bytealg.Compare"], unfollowed := true, recurses := true, apart := false, narrowed := true }
def TreeOrderUptoSaid : Prop := treeOrderUptoRow.holds Try.pinned (OpenSpec.upto treeOrderSpec)

/-- 'rhizomelaw06.TreePlays', WHERE WHAT IT READS IS OF BULK AT MOST 1048576: true; the input reads as it did. -/
def treePlaysUptoRow : OpenClaim := { program := "ytmneommbdfapfaa", sum := "8f4e4ffb441d312923aaa02a256dcc29b15e986ff16534610fe081d5e6f89ff4", func := "rhizome/rhizomelaw06.TreePlays", spec := "treePlays", inPlace := ["internal/bytealg.Compare"], recurses := true, apart := false, narrowed := true }
def TreePlaysUptoSaid : Prop := treePlaysUptoRow.holds Try.pinned (OpenSpec.upto treePlaysSpec)

end Rows
end Go.Proofs.Ytmneommbdfapfaa
