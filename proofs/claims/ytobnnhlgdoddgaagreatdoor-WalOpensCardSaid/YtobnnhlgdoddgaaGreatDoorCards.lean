/-
  DERIVED. GIVEN WITH THE SEED: THE CARDS: each row of YtobnnhlgdoddgaaGreatDoorRows.lean that lists a variable, with what it lists TIED to the program's text (the seventh form; the later family's looks); each row that meets fmt, with fmt's text TOLD by the authors' own Lean function (tested against real Go, not proved from fmt's source: count such statements apart). THE CARD IS WHAT COUNTS. Prove the row's statement (the work); the ties are given (YtobnnhlgdoddgaaGreatDoorTie.lean); close each card by the builder's one call (the guide's Derived/Test/ToyasCard.lean, 'card_holds'). Laid BY PROGRAM, IN A SANDBOX (cutbox-door.mjs). By AI agents, Wed Nov 11 2026. No macro, syntax, notation, axiom, sorry.
-/
import Derived.Test.YtobnnhlgdoddgaaGreatDoorRows
import GoSem.ClaimSeven
namespace Go.Proofs.YtobnnhlgdoddgaaGreatDoor
namespace Rows

/-- THE TIED CARD OF 'creellaw04.WalOpens'. -/
def walOpensCard : Claim7 := { stood := { row := walOpensRow, standIns := [], harness := (true, "1b6afc7c9361ac49b3d06bb71d2318b003149de1e54e45cc86e561cebc350c41"), looks := false }, kinds := [], alts := [], laidByText := true, laidKinds := [.data, .data], laidTests := true, laidLooks := .later }
def WalOpensCardSaid : Prop := Claim7.holds Tryz.pinned (.plain (OpenSpec.ofChange walOpensSpec)) walOpensCard

/-- THE SECOND FORM's CARD OF 'creellaw04.WalOpens'. -/
def walOpensUptoCard : Claim7 := { stood := { row := walOpensUptoRow, standIns := [], harness := (true, "1b6afc7c9361ac49b3d06bb71d2318b003149de1e54e45cc86e561cebc350c41"), looks := false }, kinds := [], alts := [], laidByText := true, laidKinds := [.data, .data], laidTests := true, laidLooks := .later }
def WalOpensUptoCardSaid : Prop := Claim7.holds Tryz.pinned (.plain (OpenSpec.upto walOpensSpec)) walOpensUptoCard
end Rows
end Go.Proofs.YtobnnhlgdoddgaaGreatDoor
