/-
  DERIVED. GIVEN WITH THE SEED: THE CARDS: each row of YteonaddammjopaaGreatDoorRows.lean that lists a variable, with what it lists TIED to the program's text (the seventh form; the later family's looks); each row that meets fmt, with fmt's text TOLD by the authors' own Lean function (tested against real Go, not proved from fmt's source: count such statements apart). THE CARD IS WHAT COUNTS. Prove the row's statement (the work); the ties are given (YteonaddammjopaaGreatDoorTie.lean); close each card by the builder's one call (the guide's Derived/Test/ToyasCard.lean, 'card_holds'). Laid BY PROGRAM, IN A SANDBOX (cutbox-door.mjs). By AI agents, Wed Nov 11 2026. No macro, syntax, notation, axiom, sorry.
-/
import Derived.Test.YteonaddammjopaaGreatDoorRows
import GoSem.ClaimSeven
namespace Go.Proofs.YteonaddammjopaaGreatDoor
namespace Rows

/-- THE TIED CARD OF 'creellaw11.ChainMarks'. -/
def chainMarksCard : Claim7 := { stood := { row := chainMarksRow, standIns := [], harness := (true, "75ba6fef9477667e246a8e37f79cb9e4cfe05501578a8f6e03e50023f16c7c66"), looks := true }, kinds := [], alts := [], laidByText := true, laidKinds := [.data, .data, .data, .data, .data, .sentinel, .sentinel], laidTests := true, laidLooks := .later }
def ChainMarksCardSaid : Prop := Claim7.holds Tryz.pinned (.plain (OpenSpec.ofChange chainMarksSpec)) chainMarksCard

/-- THE TIED CARD OF 'creellaw11.ChainBinds'. -/
def chainBindsCard : Claim7 := { stood := { row := chainBindsRow, standIns := [], harness := (true, "75ba6fef9477667e246a8e37f79cb9e4cfe05501578a8f6e03e50023f16c7c66"), looks := true }, kinds := [], alts := [], laidByText := true, laidKinds := [.data, .data, .data, .data, .data, .sentinel, .sentinel], laidTests := true, laidLooks := .later }
def ChainBindsCardSaid : Prop := Claim7.holds Tryz.pinned (.plain (OpenSpec.ofChange chainBindsSpec)) chainBindsCard

/-- THE TIED CARD OF 'creellaw11.ChainGrows'. -/
def chainGrowsCard : Claim7 := { stood := { row := chainGrowsRow, standIns := [], harness := (true, "75ba6fef9477667e246a8e37f79cb9e4cfe05501578a8f6e03e50023f16c7c66"), looks := true }, kinds := [], alts := [], laidByText := true, laidKinds := [.data, .data, .data, .data, .data, .sentinel, .sentinel], laidTests := true, laidLooks := .later }
def ChainGrowsCardSaid : Prop := Claim7.holds Tryz.pinned (.plain (OpenSpec.ofChange chainGrowsSpec)) chainGrowsCard

/-- THE TIED CARD OF 'creellaw11.ChainNil'. -/
def chainNilCard : Claim7 := { stood := { row := chainNilRow, standIns := [], harness := (true, "75ba6fef9477667e246a8e37f79cb9e4cfe05501578a8f6e03e50023f16c7c66"), looks := true }, kinds := [], alts := [], laidByText := true, laidKinds := [.data, .data, .data, .data, .data, .sentinel, .sentinel], laidTests := true, laidLooks := .later }
def ChainNilCardSaid : Prop := Claim7.holds Tryz.pinned (.plain (OpenSpec.ofChange chainNilSpec)) chainNilCard

/-- THE SECOND FORM's CARD OF 'creellaw11.ChainMarks'. -/
def chainMarksUptoCard : Claim7 := { stood := { row := chainMarksUptoRow, standIns := [], harness := (true, "75ba6fef9477667e246a8e37f79cb9e4cfe05501578a8f6e03e50023f16c7c66"), looks := true }, kinds := [], alts := [], laidByText := true, laidKinds := [.data, .data, .data, .data, .data, .sentinel, .sentinel], laidTests := true, laidLooks := .later }
def ChainMarksUptoCardSaid : Prop := Claim7.holds Tryz.pinned (.plain (OpenSpec.upto chainMarksSpec)) chainMarksUptoCard

/-- THE SECOND FORM's CARD OF 'creellaw11.ChainBinds'. -/
def chainBindsUptoCard : Claim7 := { stood := { row := chainBindsUptoRow, standIns := [], harness := (true, "75ba6fef9477667e246a8e37f79cb9e4cfe05501578a8f6e03e50023f16c7c66"), looks := true }, kinds := [], alts := [], laidByText := true, laidKinds := [.data, .data, .data, .data, .data, .sentinel, .sentinel], laidTests := true, laidLooks := .later }
def ChainBindsUptoCardSaid : Prop := Claim7.holds Tryz.pinned (.plain (OpenSpec.upto chainBindsSpec)) chainBindsUptoCard

/-- THE SECOND FORM's CARD OF 'creellaw11.ChainGrows'. -/
def chainGrowsUptoCard : Claim7 := { stood := { row := chainGrowsUptoRow, standIns := [], harness := (true, "75ba6fef9477667e246a8e37f79cb9e4cfe05501578a8f6e03e50023f16c7c66"), looks := true }, kinds := [], alts := [], laidByText := true, laidKinds := [.data, .data, .data, .data, .data, .sentinel, .sentinel], laidTests := true, laidLooks := .later }
def ChainGrowsUptoCardSaid : Prop := Claim7.holds Tryz.pinned (.plain (OpenSpec.upto chainGrowsSpec)) chainGrowsUptoCard

/-- THE SECOND FORM's CARD OF 'creellaw11.ChainNil'. -/
def chainNilUptoCard : Claim7 := { stood := { row := chainNilUptoRow, standIns := [], harness := (true, "75ba6fef9477667e246a8e37f79cb9e4cfe05501578a8f6e03e50023f16c7c66"), looks := true }, kinds := [], alts := [], laidByText := true, laidKinds := [.data, .data, .data, .data, .data, .sentinel, .sentinel], laidTests := true, laidLooks := .later }
def ChainNilUptoCardSaid : Prop := Claim7.holds Tryz.pinned (.plain (OpenSpec.upto chainNilSpec)) chainNilUptoCard
end Rows
end Go.Proofs.YteonaddammjopaaGreatDoor
