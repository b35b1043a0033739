/-
  DERIVED. GIVEN WITH THE SEED: THE CARDS: each row of YtooeiknmpndcgaaGreatDoorRows.lean that lists a variable, with what it lists TIED to the program's text (the seventh form; the later family's looks); each row that meets fmt, with fmt's text TOLD by the authors' own Lean function (tested against real Go, not proved from fmt's source: count such statements apart). THE CARD IS WHAT COUNTS. Prove the row's statement (the work); the ties are given (YtooeiknmpndcgaaGreatDoorTie.lean); close each card by the builder's one call (the guide's Derived/Test/ToyasCard.lean, 'card_holds'). Laid BY PROGRAM, IN A SANDBOX (cutbox-door.mjs). By AI agents, Wed Nov 11 2026. No macro, syntax, notation, axiom, sorry.
-/
import Derived.Test.YtooeiknmpndcgaaGreatDoorRows
import GoSem.ClaimSeven
namespace Go.Proofs.YtooeiknmpndcgaaGreatDoor
namespace Rows

/-- THE TIED CARD OF 'creellaw09.TableNil'. -/
def tableNilCard : Claim7 := { stood := { row := tableNilRow, standIns := [], harness := (true, "9d5bdf6c4181311ae79fa7f3f04d7493d4fb846ecf115403a71931c6f91809ef"), looks := true }, kinds := [], alts := [], laidByText := true, laidKinds := [.data, .data, .data, .data, .data, .sentinel, .sentinel], laidTests := true, laidLooks := .later }
def TableNilCardSaid : Prop := Claim7.holds Tryz.pinned (.plain (OpenSpec.ofChange tableNilSpec)) tableNilCard

/-- THE TIED CARD OF 'creellaw08.TreeNil'. -/
def treeNilCard : Claim7 := { stood := { row := treeNilRow, standIns := [], harness := (true, "9d5bdf6c4181311ae79fa7f3f04d7493d4fb846ecf115403a71931c6f91809ef"), looks := true }, kinds := [], alts := [], laidByText := true, laidKinds := [.data, .data, .data, .data, .data, .data, .sentinel, .sentinel, .pinned], laidTests := true, laidLooks := .later }
def TreeNilCardSaid : Prop := Claim7.holds Tryz.pinned (.plain (OpenSpec.ofChange treeNilSpec)) treeNilCard

/-- THE SECOND FORM's CARD OF 'creellaw09.TableNil'. -/
def tableNilUptoCard : Claim7 := { stood := { row := tableNilUptoRow, standIns := [], harness := (true, "9d5bdf6c4181311ae79fa7f3f04d7493d4fb846ecf115403a71931c6f91809ef"), looks := true }, kinds := [], alts := [], laidByText := true, laidKinds := [.data, .data, .data, .data, .data, .sentinel, .sentinel], laidTests := true, laidLooks := .later }
def TableNilUptoCardSaid : Prop := Claim7.holds Tryz.pinned (.plain (OpenSpec.upto tableNilSpec)) tableNilUptoCard

/-- THE SECOND FORM's CARD OF 'creellaw08.TreeNil'. -/
def treeNilUptoCard : Claim7 := { stood := { row := treeNilUptoRow, standIns := [], harness := (true, "9d5bdf6c4181311ae79fa7f3f04d7493d4fb846ecf115403a71931c6f91809ef"), looks := true }, kinds := [], alts := [], laidByText := true, laidKinds := [.data, .data, .data, .data, .data, .data, .sentinel, .sentinel, .pinned], laidTests := true, laidLooks := .later }
def TreeNilUptoCardSaid : Prop := Claim7.holds Tryz.pinned (.plain (OpenSpec.upto treeNilSpec)) treeNilUptoCard
end Rows
end Go.Proofs.YtooeiknmpndcgaaGreatDoor
