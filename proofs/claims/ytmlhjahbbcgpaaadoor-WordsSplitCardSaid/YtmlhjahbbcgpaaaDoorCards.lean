/-
  DERIVED. GIVEN WITH THE SEED: THE CARDS: each row of YtmlhjahbbcgpaaaDoorRows.lean that lists a variable, with what it lists TIED to the program's text (the seventh form; the later family's looks); each row that meets fmt, with fmt's text TOLD by the authors' own Lean function (tested against real Go, not proved from fmt's source: count such statements apart). THE CARD IS WHAT COUNTS. Prove the row's statement (the work); the ties are given (YtmlhjahbbcgpaaaDoorTie.lean); close each card by the builder's one call (the guide's Derived/Test/ToyasCard.lean, 'card_holds'). Laid BY PROGRAM, IN A SANDBOX (cutbox-door.mjs). By AI agents, Wed Nov 11 2026. No macro, syntax, notation, axiom, sorry.
-/
import Derived.Test.YtmlhjahbbcgpaaaDoorRows
import GoSem.ClaimSeven
namespace Go.Proofs.YtmlhjahbbcgpaaaDoor
namespace Rows

/-- THE TIED CARD OF 'rhizomelaw08.WordsSplit'. -/
def wordsSplitCard : Claim7 := { stood := { row := wordsSplitRow, standIns := [], harness := (true, "21e518a30c8a0d4ba769a8e171f97fbf34dfccfb703704af5ffc827f2398dd42"), looks := false }, kinds := [], alts := [], laidByText := true, laidKinds := [.data, .pinned], laidTests := true, laidLooks := .later }
def WordsSplitCardSaid : Prop := Claim7.holds Tryd.pinned (.plain (OpenSpec.ofChange wordsSplitSpec)) wordsSplitCard

/-- THE TIED CARD OF 'rhizomelaw08.WordsJoined'. -/
def wordsJoinedCard : Claim7 := { stood := { row := wordsJoinedRow, standIns := [], harness := (true, "21e518a30c8a0d4ba769a8e171f97fbf34dfccfb703704af5ffc827f2398dd42"), looks := false }, kinds := [], alts := [], laidByText := true, laidKinds := [.data, .pinned], laidTests := true, laidLooks := .later }
def WordsJoinedCardSaid : Prop := Claim7.holds Tryd.pinned (.plain (OpenSpec.ofChange wordsJoinedSpec)) wordsJoinedCard

/-- THE TIED CARD OF 'rhizomelaw08.WordsAgain'. -/
def wordsAgainCard : Claim7 := { stood := { row := wordsAgainRow, standIns := [], harness := (true, "21e518a30c8a0d4ba769a8e171f97fbf34dfccfb703704af5ffc827f2398dd42"), looks := false }, kinds := [], alts := [], laidByText := true, laidKinds := [.data, .pinned], laidTests := true, laidLooks := .later }
def WordsAgainCardSaid : Prop := Claim7.holds Tryd.pinned (.plain (OpenSpec.ofChange wordsAgainSpec)) wordsAgainCard

/-- THE TIED CARD OF 'rhizomelaw08.WordsEnd'. -/
def wordsEndCard : Claim7 := { stood := { row := wordsEndRow, standIns := [], harness := (true, "21e518a30c8a0d4ba769a8e171f97fbf34dfccfb703704af5ffc827f2398dd42"), looks := false }, kinds := [], alts := [], laidByText := true, laidKinds := [.data, .pinned], laidTests := true, laidLooks := .later }
def WordsEndCardSaid : Prop := Claim7.holds Tryd.pinned (.plain (OpenSpec.ofChange wordsEndSpec)) wordsEndCard

/-- THE TIED CARD OF 'rhizomelaw08.WordsMoved'. -/
def wordsMovedCard : Claim7 := { stood := { row := wordsMovedRow, standIns := [], harness := (true, "21e518a30c8a0d4ba769a8e171f97fbf34dfccfb703704af5ffc827f2398dd42"), looks := false }, kinds := [], alts := [], laidByText := true, laidKinds := [.data, .pinned], laidTests := true, laidLooks := .later }
def WordsMovedCardSaid : Prop := Claim7.holds Tryd.pinned (.plain (OpenSpec.ofChange wordsMovedSpec)) wordsMovedCard

/-- THE SECOND FORM's CARD OF 'rhizomelaw08.WordsSplit'. -/
def wordsSplitUptoCard : Claim7 := { stood := { row := wordsSplitUptoRow, standIns := [], harness := (true, "21e518a30c8a0d4ba769a8e171f97fbf34dfccfb703704af5ffc827f2398dd42"), looks := false }, kinds := [], alts := [], laidByText := true, laidKinds := [.data, .pinned], laidTests := true, laidLooks := .later }
def WordsSplitUptoCardSaid : Prop := Claim7.holds Tryd.pinned (.plain (OpenSpec.upto wordsSplitSpec)) wordsSplitUptoCard

/-- THE SECOND FORM's CARD OF 'rhizomelaw08.WordsJoined'. -/
def wordsJoinedUptoCard : Claim7 := { stood := { row := wordsJoinedUptoRow, standIns := [], harness := (true, "21e518a30c8a0d4ba769a8e171f97fbf34dfccfb703704af5ffc827f2398dd42"), looks := false }, kinds := [], alts := [], laidByText := true, laidKinds := [.data, .pinned], laidTests := true, laidLooks := .later }
def WordsJoinedUptoCardSaid : Prop := Claim7.holds Tryd.pinned (.plain (OpenSpec.upto wordsJoinedSpec)) wordsJoinedUptoCard

/-- THE SECOND FORM's CARD OF 'rhizomelaw08.WordsAgain'. -/
def wordsAgainUptoCard : Claim7 := { stood := { row := wordsAgainUptoRow, standIns := [], harness := (true, "21e518a30c8a0d4ba769a8e171f97fbf34dfccfb703704af5ffc827f2398dd42"), looks := false }, kinds := [], alts := [], laidByText := true, laidKinds := [.data, .pinned], laidTests := true, laidLooks := .later }
def WordsAgainUptoCardSaid : Prop := Claim7.holds Tryd.pinned (.plain (OpenSpec.upto wordsAgainSpec)) wordsAgainUptoCard

/-- THE SECOND FORM's CARD OF 'rhizomelaw08.WordsEnd'. -/
def wordsEndUptoCard : Claim7 := { stood := { row := wordsEndUptoRow, standIns := [], harness := (true, "21e518a30c8a0d4ba769a8e171f97fbf34dfccfb703704af5ffc827f2398dd42"), looks := false }, kinds := [], alts := [], laidByText := true, laidKinds := [.data, .pinned], laidTests := true, laidLooks := .later }
def WordsEndUptoCardSaid : Prop := Claim7.holds Tryd.pinned (.plain (OpenSpec.upto wordsEndSpec)) wordsEndUptoCard

/-- THE SECOND FORM's CARD OF 'rhizomelaw08.WordsMoved'. -/
def wordsMovedUptoCard : Claim7 := { stood := { row := wordsMovedUptoRow, standIns := [], harness := (true, "21e518a30c8a0d4ba769a8e171f97fbf34dfccfb703704af5ffc827f2398dd42"), looks := false }, kinds := [], alts := [], laidByText := true, laidKinds := [.data, .pinned], laidTests := true, laidLooks := .later }
def WordsMovedUptoCardSaid : Prop := Claim7.holds Tryd.pinned (.plain (OpenSpec.upto wordsMovedSpec)) wordsMovedUptoCard
end Rows
end Go.Proofs.YtmlhjahbbcgpaaaDoor
