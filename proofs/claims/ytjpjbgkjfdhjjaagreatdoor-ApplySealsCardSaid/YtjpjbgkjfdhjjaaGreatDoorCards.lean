/-
  DERIVED. GIVEN WITH THE SEED: THE CARDS: each row of YtjpjbgkjfdhjjaaGreatDoorRows.lean that lists a variable, with what it lists TIED to the program's text (the seventh form; the later family's looks); each row that meets fmt, with fmt's text TOLD by the authors' own Lean function (tested against real Go, not proved from fmt's source: count such statements apart). THE CARD IS WHAT COUNTS. Prove the row's statement (the work); the ties are given (YtjpjbgkjfdhjjaaGreatDoorTie.lean); close each card by the builder's one call (the guide's Derived/Test/ToyasCard.lean, 'card_holds'). Laid BY PROGRAM, IN A SANDBOX (cutbox-door.mjs). By AI agents, Wed Nov 11 2026. No macro, syntax, notation, axiom, sorry.
-/
import Derived.Test.YtjpjbgkjfdhjjaaGreatDoorRows
import GoSem.ClaimSeven
namespace Go.Proofs.YtjpjbgkjfdhjjaaGreatDoor
namespace Rows

/-- THE TIED CARD OF 'creellaw26.ApplyKeeps'. -/
def applyKeepsCard : Claim7 := { stood := { row := applyKeepsRow, standIns := [], harness := (true, "936350c64949f3158ba336a33cc4d5fba334d7214ca2d554de9d750ef974d58c"), looks := true }, kinds := [], alts := [], laidByText := true, laidKinds := [.data, .data, .data, .data, .data, .sentinel, .sentinel], laidTests := true, laidLooks := .later }
def ApplyKeepsCardSaid : Prop := Claim7.holds Tryz.pinned (.plain (OpenSpec.ofChange applyKeepsSpec)) applyKeepsCard

/-- THE TIED CARD OF 'creellaw26.ApplySeals'. -/
def applySealsCard : Claim7 := { stood := { row := applySealsRow, standIns := [], harness := (true, "936350c64949f3158ba336a33cc4d5fba334d7214ca2d554de9d750ef974d58c"), looks := true }, kinds := [], alts := [], laidByText := true, laidKinds := [.data, .data, .data, .data, .data, .data, .sentinel, .sentinel, .pinned], laidTests := true, laidLooks := .later }
def ApplySealsCardSaid : Prop := Claim7.holds Tryz.pinned (.plain (OpenSpec.ofChange applySealsSpec)) applySealsCard

/-- THE SECOND FORM's CARD OF 'creellaw26.ApplyKeeps'. -/
def applyKeepsUptoCard : Claim7 := { stood := { row := applyKeepsUptoRow, standIns := [], harness := (true, "936350c64949f3158ba336a33cc4d5fba334d7214ca2d554de9d750ef974d58c"), looks := true }, kinds := [], alts := [], laidByText := true, laidKinds := [.data, .data, .data, .data, .data, .sentinel, .sentinel], laidTests := true, laidLooks := .later }
def ApplyKeepsUptoCardSaid : Prop := Claim7.holds Tryz.pinned (.plain (OpenSpec.upto applyKeepsSpec)) applyKeepsUptoCard

/-- THE SECOND FORM's CARD OF 'creellaw26.ApplySeals'. -/
def applySealsUptoCard : Claim7 := { stood := { row := applySealsUptoRow, standIns := [], harness := (true, "936350c64949f3158ba336a33cc4d5fba334d7214ca2d554de9d750ef974d58c"), looks := true }, kinds := [], alts := [], laidByText := true, laidKinds := [.data, .data, .data, .data, .data, .data, .sentinel, .sentinel, .pinned], laidTests := true, laidLooks := .later }
def ApplySealsUptoCardSaid : Prop := Claim7.holds Tryz.pinned (.plain (OpenSpec.upto applySealsSpec)) applySealsUptoCard
end Rows
end Go.Proofs.YtjpjbgkjfdhjjaaGreatDoor
