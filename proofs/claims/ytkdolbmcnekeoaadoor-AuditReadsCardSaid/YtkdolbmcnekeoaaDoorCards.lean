/-
  DERIVED. GIVEN WITH THE SEED: THE CARDS: each row of YtkdolbmcnekeoaaDoorRows.lean that lists a variable, with what it lists TIED to the program's text (the seventh form; the later family's looks); each row that meets fmt, with fmt's text TOLD by the authors' own Lean function (tested against real Go, not proved from fmt's source: count such statements apart). THE CARD IS WHAT COUNTS. Prove the row's statement (the work); the ties are given (YtkdolbmcnekeoaaDoorTie.lean); close each card by the builder's one call (the guide's Derived/Test/ToyasCard.lean, 'card_holds'). Laid BY PROGRAM, IN A SANDBOX (cutbox-door.mjs). By AI agents, Wed Nov 11 2026. No macro, syntax, notation, axiom, sorry.
-/
import Derived.Test.YtkdolbmcnekeoaaDoorRows
import GoSem.ClaimSeven
namespace Go.Proofs.YtkdolbmcnekeoaaDoor
namespace Rows

/-- THE TIED CARD OF 'creellaw29.CommandBytes'. -/
def commandBytesCard : Claim7 := { stood := { row := commandBytesRow, standIns := [], harness := (true, "fd1271c6f48c22ab2e3be361fb79ba2ab8a26812bc3009129c9b3bb8ffe2cb4e"), looks := true }, kinds := [], alts := [], laidByText := true, laidKinds := [.data, .data, .data, .sentinel, .sentinel], laidTests := true, laidLooks := .later }
def CommandBytesCardSaid : Prop := Claim7.holds Tryd.pinned (.plain (OpenSpec.ofChange commandBytesSpec)) commandBytesCard

/-- THE TIED CARD OF 'creellaw29.CommandReads'. -/
def commandReadsCard : Claim7 := { stood := { row := commandReadsRow, standIns := [], harness := (true, "fd1271c6f48c22ab2e3be361fb79ba2ab8a26812bc3009129c9b3bb8ffe2cb4e"), looks := true }, kinds := [], alts := [], laidByText := true, laidKinds := [.data, .data, .data, .sentinel, .sentinel], laidTests := true, laidLooks := .later }
def CommandReadsCardSaid : Prop := Claim7.holds Tryd.pinned (.plain (OpenSpec.ofChange commandReadsSpec)) commandReadsCard

/-- THE TIED CARD OF 'creellaw27.AuditBytes'. -/
def auditBytesCard : Claim7 := { stood := { row := auditBytesRow, standIns := [], harness := (true, "fd1271c6f48c22ab2e3be361fb79ba2ab8a26812bc3009129c9b3bb8ffe2cb4e"), looks := true }, kinds := [], alts := [], laidByText := true, laidKinds := [.data, .data, .data, .sentinel, .sentinel, .listed, .data], laidTests := true, laidLooks := .later }
def AuditBytesCardSaid : Prop := Claim7.holds Tryd.pinned (.plain (OpenSpec.ofChange auditBytesSpec)) auditBytesCard

/-- THE TIED CARD OF 'creellaw27.AuditReads'. -/
def auditReadsCard : Claim7 := { stood := { row := auditReadsRow, standIns := [], harness := (true, "fd1271c6f48c22ab2e3be361fb79ba2ab8a26812bc3009129c9b3bb8ffe2cb4e"), looks := true }, kinds := [], alts := [], laidByText := true, laidKinds := [.data, .data, .data, .sentinel, .sentinel, .listed, .data], laidTests := true, laidLooks := .later }
def AuditReadsCardSaid : Prop := Claim7.holds Tryd.pinned (.plain (OpenSpec.ofChange auditReadsSpec)) auditReadsCard

/-- THE SECOND FORM's CARD OF 'creellaw29.CommandBytes'. -/
def commandBytesUptoCard : Claim7 := { stood := { row := commandBytesUptoRow, standIns := [], harness := (true, "fd1271c6f48c22ab2e3be361fb79ba2ab8a26812bc3009129c9b3bb8ffe2cb4e"), looks := true }, kinds := [], alts := [], laidByText := true, laidKinds := [.data, .data, .data, .sentinel, .sentinel], laidTests := true, laidLooks := .later }
def CommandBytesUptoCardSaid : Prop := Claim7.holds Tryd.pinned (.plain (OpenSpec.upto commandBytesSpec)) commandBytesUptoCard

/-- THE SECOND FORM's CARD OF 'creellaw29.CommandReads'. -/
def commandReadsUptoCard : Claim7 := { stood := { row := commandReadsUptoRow, standIns := [], harness := (true, "fd1271c6f48c22ab2e3be361fb79ba2ab8a26812bc3009129c9b3bb8ffe2cb4e"), looks := true }, kinds := [], alts := [], laidByText := true, laidKinds := [.data, .data, .data, .sentinel, .sentinel], laidTests := true, laidLooks := .later }
def CommandReadsUptoCardSaid : Prop := Claim7.holds Tryd.pinned (.plain (OpenSpec.upto commandReadsSpec)) commandReadsUptoCard

/-- THE SECOND FORM's CARD OF 'creellaw27.AuditBytes'. -/
def auditBytesUptoCard : Claim7 := { stood := { row := auditBytesUptoRow, standIns := [], harness := (true, "fd1271c6f48c22ab2e3be361fb79ba2ab8a26812bc3009129c9b3bb8ffe2cb4e"), looks := true }, kinds := [], alts := [], laidByText := true, laidKinds := [.data, .data, .data, .sentinel, .sentinel, .listed, .data], laidTests := true, laidLooks := .later }
def AuditBytesUptoCardSaid : Prop := Claim7.holds Tryd.pinned (.plain (OpenSpec.upto auditBytesSpec)) auditBytesUptoCard

/-- THE SECOND FORM's CARD OF 'creellaw27.AuditReads'. -/
def auditReadsUptoCard : Claim7 := { stood := { row := auditReadsUptoRow, standIns := [], harness := (true, "fd1271c6f48c22ab2e3be361fb79ba2ab8a26812bc3009129c9b3bb8ffe2cb4e"), looks := true }, kinds := [], alts := [], laidByText := true, laidKinds := [.data, .data, .data, .sentinel, .sentinel, .listed, .data], laidTests := true, laidLooks := .later }
def AuditReadsUptoCardSaid : Prop := Claim7.holds Tryd.pinned (.plain (OpenSpec.upto auditReadsSpec)) auditReadsUptoCard
end Rows
end Go.Proofs.YtkdolbmcnekeoaaDoor
