/-
  DERIVED. GIVEN WITH THE SEED: THE CARDS: each row of YtpbgaojjlepkcaaGreatDoorRows.lean that lists a variable, with what it lists TIED to the program's text (the seventh form; the later family's looks); each row that meets fmt, with fmt's text TOLD by the authors' own Lean function (tested against real Go, not proved from fmt's source: count such statements apart). THE CARD IS WHAT COUNTS. Prove the row's statement (the work); the ties are given (YtpbgaojjlepkcaaGreatDoorTie.lean); close each card by the builder's one call (the guide's Derived/Test/ToyasCard.lean, 'card_holds'). Laid BY PROGRAM, IN A SANDBOX (cutbox-door.mjs). By AI agents, Wed Nov 11 2026. No macro, syntax, notation, axiom, sorry.
-/
import Derived.Test.YtpbgaojjlepkcaaGreatDoorRows
import GoSem.ClaimSeven
namespace Go.Proofs.YtpbgaojjlepkcaaGreatDoor
namespace Rows

/-- THE TIED CARD OF 'creellaw09.TableLast'. -/
def tableLastCard : Claim7 := { stood := { row := tableLastRow, standIns := [], harness := (true, "763386669d35477ef00c8014d9605f4a306b43e050d4d4e5592a8126d279b065"), looks := true }, kinds := [], alts := [], laidByText := true, laidKinds := [.data, .data, .data, .data, .data, .sentinel, .sentinel], laidTests := true, laidLooks := .later }
def TableLastCardSaid : Prop := Claim7.holds Tryz.pinned (.plain (OpenSpec.ofChange tableLastSpec)) tableLastCard

/-- THE TIED CARD OF 'creellaw27.AuditAsks'. -/
def auditAsksCard : Claim7 := { stood := { row := auditAsksRow, standIns := [], harness := (true, "763386669d35477ef00c8014d9605f4a306b43e050d4d4e5592a8126d279b065"), looks := true }, kinds := [], alts := [], laidByText := true, laidKinds := [.data, .data, .data, .data, .data, .sentinel, .sentinel, .listed, .data], laidTests := true, laidLooks := .later }
def AuditAsksCardSaid : Prop := Claim7.holds Tryz.pinned (.plain (OpenSpec.ofChange auditAsksSpec)) auditAsksCard

/-- THE TIED CARD OF 'creellaw27.AuditBent'. -/
def auditBentCard : Claim7 := { stood := { row := auditBentRow, standIns := [], harness := (true, "763386669d35477ef00c8014d9605f4a306b43e050d4d4e5592a8126d279b065"), looks := true }, kinds := [], alts := [], laidByText := true, laidKinds := [.data, .data, .data, .data, .data, .sentinel, .sentinel, .listed, .data], laidTests := true, laidLooks := .later }
def AuditBentCardSaid : Prop := Claim7.holds Tryz.pinned (.plain (OpenSpec.ofChange auditBentSpec)) auditBentCard

/-- THE TIED CARD OF 'creellaw27.AuditNotes'. -/
def auditNotesCard : Claim7 := { stood := { row := auditNotesRow, standIns := [], harness := (true, "763386669d35477ef00c8014d9605f4a306b43e050d4d4e5592a8126d279b065"), looks := true }, kinds := [], alts := [], laidByText := true, laidKinds := [.data, .data, .data, .data, .data, .sentinel, .sentinel, .listed, .data], laidTests := true, laidLooks := .later }
def AuditNotesCardSaid : Prop := Claim7.holds Tryz.pinned (.plain (OpenSpec.ofChange auditNotesSpec)) auditNotesCard

/-- THE SECOND FORM's CARD OF 'creellaw09.TableLast'. -/
def tableLastUptoCard : Claim7 := { stood := { row := tableLastUptoRow, standIns := [], harness := (true, "763386669d35477ef00c8014d9605f4a306b43e050d4d4e5592a8126d279b065"), looks := true }, kinds := [], alts := [], laidByText := true, laidKinds := [.data, .data, .data, .data, .data, .sentinel, .sentinel], laidTests := true, laidLooks := .later }
def TableLastUptoCardSaid : Prop := Claim7.holds Tryz.pinned (.plain (OpenSpec.upto tableLastSpec)) tableLastUptoCard

/-- THE SECOND FORM's CARD OF 'creellaw27.AuditAsks'. -/
def auditAsksUptoCard : Claim7 := { stood := { row := auditAsksUptoRow, standIns := [], harness := (true, "763386669d35477ef00c8014d9605f4a306b43e050d4d4e5592a8126d279b065"), looks := true }, kinds := [], alts := [], laidByText := true, laidKinds := [.data, .data, .data, .data, .data, .sentinel, .sentinel, .listed, .data], laidTests := true, laidLooks := .later }
def AuditAsksUptoCardSaid : Prop := Claim7.holds Tryz.pinned (.plain (OpenSpec.upto auditAsksSpec)) auditAsksUptoCard

/-- THE SECOND FORM's CARD OF 'creellaw27.AuditBent'. -/
def auditBentUptoCard : Claim7 := { stood := { row := auditBentUptoRow, standIns := [], harness := (true, "763386669d35477ef00c8014d9605f4a306b43e050d4d4e5592a8126d279b065"), looks := true }, kinds := [], alts := [], laidByText := true, laidKinds := [.data, .data, .data, .data, .data, .sentinel, .sentinel, .listed, .data], laidTests := true, laidLooks := .later }
def AuditBentUptoCardSaid : Prop := Claim7.holds Tryz.pinned (.plain (OpenSpec.upto auditBentSpec)) auditBentUptoCard

/-- THE SECOND FORM's CARD OF 'creellaw27.AuditNotes'. -/
def auditNotesUptoCard : Claim7 := { stood := { row := auditNotesUptoRow, standIns := [], harness := (true, "763386669d35477ef00c8014d9605f4a306b43e050d4d4e5592a8126d279b065"), looks := true }, kinds := [], alts := [], laidByText := true, laidKinds := [.data, .data, .data, .data, .data, .sentinel, .sentinel, .listed, .data], laidTests := true, laidLooks := .later }
def AuditNotesUptoCardSaid : Prop := Claim7.holds Tryz.pinned (.plain (OpenSpec.upto auditNotesSpec)) auditNotesUptoCard
end Rows
end Go.Proofs.YtpbgaojjlepkcaaGreatDoor
