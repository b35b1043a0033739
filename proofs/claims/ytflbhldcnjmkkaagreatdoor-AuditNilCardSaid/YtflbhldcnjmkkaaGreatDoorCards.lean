/-
  DERIVED. GIVEN WITH THE SEED: THE CARDS: each row of YtflbhldcnjmkkaaGreatDoorRows.lean that lists a variable, with what it lists TIED to the program's text (the seventh form; the later family's looks); each row that meets fmt, with fmt's text TOLD by the authors' own Lean function (tested against real Go, not proved from fmt's source: count such statements apart). THE CARD IS WHAT COUNTS. Prove the row's statement (the work); the ties are given (YtflbhldcnjmkkaaGreatDoorTie.lean); close each card by the builder's one call (the guide's Derived/Test/ToyasCard.lean, 'card_holds'). Laid BY PROGRAM, IN A SANDBOX (cutbox-door.mjs). By AI agents, Wed Nov 11 2026. No macro, syntax, notation, axiom, sorry.
-/
import Derived.Test.YtflbhldcnjmkkaaGreatDoorRows
import GoSem.ClaimSeven
namespace Go.Proofs.YtflbhldcnjmkkaaGreatDoor
namespace Rows

/-- THE TIED CARD OF 'creellaw07.InodePlays'. -/
def inodePlaysCard : Claim7 := { stood := { row := inodePlaysRow, standIns := [], harness := (true, "ccb3264fb334ce879f4c5aa269ed8591b5aec7397f1a503f376a2800ca834c65"), looks := true }, kinds := [], alts := [], laidByText := true, laidKinds := [.data, .data], laidTests := true, laidLooks := .later }
def InodePlaysCardSaid : Prop := Claim7.holds Tryz.pinned (.plain (OpenSpec.ofChange inodePlaysSpec)) inodePlaysCard

/-- THE TIED CARD OF 'creellaw10.StoreNil'. -/
def storeNilCard : Claim7 := { stood := { row := storeNilRow, standIns := [], harness := (true, "ccb3264fb334ce879f4c5aa269ed8591b5aec7397f1a503f376a2800ca834c65"), looks := true }, kinds := [], alts := [], laidByText := true, laidKinds := [.data, .data, .data, .data, .data, .sentinel, .sentinel], laidTests := true, laidLooks := .later }
def StoreNilCardSaid : Prop := Claim7.holds Tryz.pinned (.plain (OpenSpec.ofChange storeNilSpec)) storeNilCard

/-- THE TIED CARD OF 'creellaw27.AuditNil'. -/
def auditNilCard : Claim7 := { stood := { row := auditNilRow, standIns := [], harness := (true, "ccb3264fb334ce879f4c5aa269ed8591b5aec7397f1a503f376a2800ca834c65"), looks := true }, kinds := [], alts := [], laidByText := true, laidKinds := [.data, .data, .data, .data, .data, .sentinel, .sentinel, .listed, .data], laidTests := true, laidLooks := .later }
def AuditNilCardSaid : Prop := Claim7.holds Tryz.pinned (.plain (OpenSpec.ofChange auditNilSpec)) auditNilCard

/-- THE SECOND FORM's CARD OF 'creellaw07.InodePlays'. -/
def inodePlaysUptoCard : Claim7 := { stood := { row := inodePlaysUptoRow, standIns := [], harness := (true, "ccb3264fb334ce879f4c5aa269ed8591b5aec7397f1a503f376a2800ca834c65"), looks := true }, kinds := [], alts := [], laidByText := true, laidKinds := [.data, .data], laidTests := true, laidLooks := .later }
def InodePlaysUptoCardSaid : Prop := Claim7.holds Tryz.pinned (.plain (OpenSpec.upto inodePlaysSpec)) inodePlaysUptoCard

/-- THE SECOND FORM's CARD OF 'creellaw10.StoreNil'. -/
def storeNilUptoCard : Claim7 := { stood := { row := storeNilUptoRow, standIns := [], harness := (true, "ccb3264fb334ce879f4c5aa269ed8591b5aec7397f1a503f376a2800ca834c65"), looks := true }, kinds := [], alts := [], laidByText := true, laidKinds := [.data, .data, .data, .data, .data, .sentinel, .sentinel], laidTests := true, laidLooks := .later }
def StoreNilUptoCardSaid : Prop := Claim7.holds Tryz.pinned (.plain (OpenSpec.upto storeNilSpec)) storeNilUptoCard

/-- THE SECOND FORM's CARD OF 'creellaw27.AuditNil'. -/
def auditNilUptoCard : Claim7 := { stood := { row := auditNilUptoRow, standIns := [], harness := (true, "ccb3264fb334ce879f4c5aa269ed8591b5aec7397f1a503f376a2800ca834c65"), looks := true }, kinds := [], alts := [], laidByText := true, laidKinds := [.data, .data, .data, .data, .data, .sentinel, .sentinel, .listed, .data], laidTests := true, laidLooks := .later }
def AuditNilUptoCardSaid : Prop := Claim7.holds Tryz.pinned (.plain (OpenSpec.upto auditNilSpec)) auditNilUptoCard
end Rows
end Go.Proofs.YtflbhldcnjmkkaaGreatDoor
