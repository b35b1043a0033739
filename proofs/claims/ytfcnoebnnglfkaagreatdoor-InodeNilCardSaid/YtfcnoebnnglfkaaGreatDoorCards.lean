/-
  DERIVED. GIVEN WITH THE SEED: THE CARDS: each row of YtfcnoebnnglfkaaGreatDoorRows.lean that lists a variable, with what it lists TIED to the program's text (the seventh form; the later family's looks); each row that meets fmt, with fmt's text TOLD by the authors' own Lean function (tested against real Go, not proved from fmt's source: count such statements apart). THE CARD IS WHAT COUNTS. Prove the row's statement (the work); the ties are given (YtfcnoebnnglfkaaGreatDoorTie.lean); close each card by the builder's one call (the guide's Derived/Test/ToyasCard.lean, 'card_holds'). Laid BY PROGRAM, IN A SANDBOX (cutbox-door.mjs). By AI agents, Wed Nov 11 2026. No macro, syntax, notation, axiom, sorry.
-/
import Derived.Test.YtfcnoebnnglfkaaGreatDoorRows
import GoSem.ClaimSeven
namespace Go.Proofs.YtfcnoebnnglfkaaGreatDoor
namespace Rows

/-- THE TIED CARD OF 'creellaw07.InodePlays'. -/
def inodePlaysCard : Claim7 := { stood := { row := inodePlaysRow, standIns := [], harness := (true, "0540e720d6db5677283b8fcff30f5c287bb5a932e1a686560fc0a3e0b3488656"), looks := true }, kinds := [], alts := [], laidByText := true, laidKinds := [.data, .data], laidTests := true, laidLooks := .later }
def InodePlaysCardSaid : Prop := Claim7.holds Tryz.pinned (.plain (OpenSpec.ofChange inodePlaysSpec)) inodePlaysCard

/-- THE TIED CARD OF 'creellaw07.InodeNil'. -/
def inodeNilCard : Claim7 := { stood := { row := inodeNilRow, standIns := [], harness := (true, "0540e720d6db5677283b8fcff30f5c287bb5a932e1a686560fc0a3e0b3488656"), looks := true }, kinds := [], alts := [], laidByText := true, laidKinds := [.data, .data], laidTests := true, laidLooks := .later }
def InodeNilCardSaid : Prop := Claim7.holds Tryz.pinned (.plain (OpenSpec.ofChange inodeNilSpec)) inodeNilCard

/-- THE TIED CARD OF 'creellaw07.InodeCrashes'. -/
def inodeCrashesCard : Claim7 := { stood := { row := inodeCrashesRow, standIns := [], harness := (true, "0540e720d6db5677283b8fcff30f5c287bb5a932e1a686560fc0a3e0b3488656"), looks := true }, kinds := [], alts := [], laidByText := true, laidKinds := [.data, .data], laidTests := true, laidLooks := .later }
def InodeCrashesCardSaid : Prop := Claim7.holds Tryz.pinned (.plain (OpenSpec.ofChange inodeCrashesSpec)) inodeCrashesCard

/-- THE TIED CARD OF 'creellaw10.StoreNil'. -/
def storeNilCard : Claim7 := { stood := { row := storeNilRow, standIns := [], harness := (true, "0540e720d6db5677283b8fcff30f5c287bb5a932e1a686560fc0a3e0b3488656"), looks := true }, kinds := [], alts := [], laidByText := true, laidKinds := [.data, .data, .data, .data, .data, .sentinel, .sentinel], laidTests := true, laidLooks := .later }
def StoreNilCardSaid : Prop := Claim7.holds Tryz.pinned (.plain (OpenSpec.ofChange storeNilSpec)) storeNilCard

/-- THE TIED CARD OF 'creellaw09.TableLast'. -/
def tableLastCard : Claim7 := { stood := { row := tableLastRow, standIns := [], harness := (true, "0540e720d6db5677283b8fcff30f5c287bb5a932e1a686560fc0a3e0b3488656"), looks := true }, kinds := [], alts := [], laidByText := true, laidKinds := [.data, .data, .data, .data, .data, .sentinel, .sentinel], laidTests := true, laidLooks := .later }
def TableLastCardSaid : Prop := Claim7.holds Tryz.pinned (.plain (OpenSpec.ofChange tableLastSpec)) tableLastCard

/-- THE TIED CARD OF 'creellaw09.TableNil'. -/
def tableNilCard : Claim7 := { stood := { row := tableNilRow, standIns := [], harness := (true, "0540e720d6db5677283b8fcff30f5c287bb5a932e1a686560fc0a3e0b3488656"), looks := true }, kinds := [], alts := [], laidByText := true, laidKinds := [.data, .data, .data, .data, .data, .sentinel, .sentinel], laidTests := true, laidLooks := .later }
def TableNilCardSaid : Prop := Claim7.holds Tryz.pinned (.plain (OpenSpec.ofChange tableNilSpec)) tableNilCard

/-- THE TIED CARD OF 'creellaw09.TableReads'. -/
def tableReadsCard : Claim7 := { stood := { row := tableReadsRow, standIns := [], harness := (true, "0540e720d6db5677283b8fcff30f5c287bb5a932e1a686560fc0a3e0b3488656"), looks := true }, kinds := [], alts := [], laidByText := true, laidKinds := [.data, .data, .data, .data, .data, .sentinel, .sentinel], laidTests := true, laidLooks := .later }
def TableReadsCardSaid : Prop := Claim7.holds Tryz.pinned (.plain (OpenSpec.ofChange tableReadsSpec)) tableReadsCard

/-- THE TIED CARD OF 'creellaw09.TableApart'. -/
def tableApartCard : Claim7 := { stood := { row := tableApartRow, standIns := [], harness := (true, "0540e720d6db5677283b8fcff30f5c287bb5a932e1a686560fc0a3e0b3488656"), looks := true }, kinds := [], alts := [], laidByText := true, laidKinds := [.data, .data, .data, .data, .data, .sentinel, .sentinel], laidTests := true, laidLooks := .later }
def TableApartCardSaid : Prop := Claim7.holds Tryz.pinned (.plain (OpenSpec.ofChange tableApartSpec)) tableApartCard

/-- THE TIED CARD OF 'creellaw08.TreeForms'. -/
def treeFormsCard : Claim7 := { stood := { row := treeFormsRow, standIns := [], harness := (true, "0540e720d6db5677283b8fcff30f5c287bb5a932e1a686560fc0a3e0b3488656"), looks := true }, kinds := [], alts := [], laidByText := true, laidKinds := [.data, .data, .data, .data, .data, .data, .sentinel, .sentinel, .pinned], laidTests := true, laidLooks := .later }
def TreeFormsCardSaid : Prop := Claim7.holds Tryz.pinned (.plain (OpenSpec.ofChange treeFormsSpec)) treeFormsCard

/-- THE TIED CARD OF 'creellaw10.StorePlays'. -/
def storePlaysCard : Claim7 := { stood := { row := storePlaysRow, standIns := [], harness := (true, "0540e720d6db5677283b8fcff30f5c287bb5a932e1a686560fc0a3e0b3488656"), looks := true }, kinds := [], alts := [], laidByText := true, laidKinds := [.data, .data, .data, .data, .data, .sentinel, .sentinel], laidTests := true, laidLooks := .later }
def StorePlaysCardSaid : Prop := Claim7.holds Tryz.pinned (.plain (OpenSpec.ofChange storePlaysSpec)) storePlaysCard

/-- THE SECOND FORM's CARD OF 'creellaw07.InodePlays'. -/
def inodePlaysUptoCard : Claim7 := { stood := { row := inodePlaysUptoRow, standIns := [], harness := (true, "0540e720d6db5677283b8fcff30f5c287bb5a932e1a686560fc0a3e0b3488656"), looks := true }, kinds := [], alts := [], laidByText := true, laidKinds := [.data, .data], laidTests := true, laidLooks := .later }
def InodePlaysUptoCardSaid : Prop := Claim7.holds Tryz.pinned (.plain (OpenSpec.upto inodePlaysSpec)) inodePlaysUptoCard

/-- THE SECOND FORM's CARD OF 'creellaw07.InodeNil'. -/
def inodeNilUptoCard : Claim7 := { stood := { row := inodeNilUptoRow, standIns := [], harness := (true, "0540e720d6db5677283b8fcff30f5c287bb5a932e1a686560fc0a3e0b3488656"), looks := true }, kinds := [], alts := [], laidByText := true, laidKinds := [.data, .data], laidTests := true, laidLooks := .later }
def InodeNilUptoCardSaid : Prop := Claim7.holds Tryz.pinned (.plain (OpenSpec.upto inodeNilSpec)) inodeNilUptoCard

/-- THE SECOND FORM's CARD OF 'creellaw07.InodeCrashes'. -/
def inodeCrashesUptoCard : Claim7 := { stood := { row := inodeCrashesUptoRow, standIns := [], harness := (true, "0540e720d6db5677283b8fcff30f5c287bb5a932e1a686560fc0a3e0b3488656"), looks := true }, kinds := [], alts := [], laidByText := true, laidKinds := [.data, .data], laidTests := true, laidLooks := .later }
def InodeCrashesUptoCardSaid : Prop := Claim7.holds Tryz.pinned (.plain (OpenSpec.upto inodeCrashesSpec)) inodeCrashesUptoCard

/-- THE SECOND FORM's CARD OF 'creellaw10.StoreNil'. -/
def storeNilUptoCard : Claim7 := { stood := { row := storeNilUptoRow, standIns := [], harness := (true, "0540e720d6db5677283b8fcff30f5c287bb5a932e1a686560fc0a3e0b3488656"), looks := true }, kinds := [], alts := [], laidByText := true, laidKinds := [.data, .data, .data, .data, .data, .sentinel, .sentinel], laidTests := true, laidLooks := .later }
def StoreNilUptoCardSaid : Prop := Claim7.holds Tryz.pinned (.plain (OpenSpec.upto storeNilSpec)) storeNilUptoCard

/-- THE SECOND FORM's CARD OF 'creellaw09.TableLast'. -/
def tableLastUptoCard : Claim7 := { stood := { row := tableLastUptoRow, standIns := [], harness := (true, "0540e720d6db5677283b8fcff30f5c287bb5a932e1a686560fc0a3e0b3488656"), looks := true }, kinds := [], alts := [], laidByText := true, laidKinds := [.data, .data, .data, .data, .data, .sentinel, .sentinel], laidTests := true, laidLooks := .later }
def TableLastUptoCardSaid : Prop := Claim7.holds Tryz.pinned (.plain (OpenSpec.upto tableLastSpec)) tableLastUptoCard

/-- THE SECOND FORM's CARD OF 'creellaw09.TableNil'. -/
def tableNilUptoCard : Claim7 := { stood := { row := tableNilUptoRow, standIns := [], harness := (true, "0540e720d6db5677283b8fcff30f5c287bb5a932e1a686560fc0a3e0b3488656"), looks := true }, kinds := [], alts := [], laidByText := true, laidKinds := [.data, .data, .data, .data, .data, .sentinel, .sentinel], laidTests := true, laidLooks := .later }
def TableNilUptoCardSaid : Prop := Claim7.holds Tryz.pinned (.plain (OpenSpec.upto tableNilSpec)) tableNilUptoCard

/-- THE SECOND FORM's CARD OF 'creellaw09.TableReads'. -/
def tableReadsUptoCard : Claim7 := { stood := { row := tableReadsUptoRow, standIns := [], harness := (true, "0540e720d6db5677283b8fcff30f5c287bb5a932e1a686560fc0a3e0b3488656"), looks := true }, kinds := [], alts := [], laidByText := true, laidKinds := [.data, .data, .data, .data, .data, .sentinel, .sentinel], laidTests := true, laidLooks := .later }
def TableReadsUptoCardSaid : Prop := Claim7.holds Tryz.pinned (.plain (OpenSpec.upto tableReadsSpec)) tableReadsUptoCard

/-- THE SECOND FORM's CARD OF 'creellaw09.TableApart'. -/
def tableApartUptoCard : Claim7 := { stood := { row := tableApartUptoRow, standIns := [], harness := (true, "0540e720d6db5677283b8fcff30f5c287bb5a932e1a686560fc0a3e0b3488656"), looks := true }, kinds := [], alts := [], laidByText := true, laidKinds := [.data, .data, .data, .data, .data, .sentinel, .sentinel], laidTests := true, laidLooks := .later }
def TableApartUptoCardSaid : Prop := Claim7.holds Tryz.pinned (.plain (OpenSpec.upto tableApartSpec)) tableApartUptoCard

/-- THE SECOND FORM's CARD OF 'creellaw08.TreeForms'. -/
def treeFormsUptoCard : Claim7 := { stood := { row := treeFormsUptoRow, standIns := [], harness := (true, "0540e720d6db5677283b8fcff30f5c287bb5a932e1a686560fc0a3e0b3488656"), looks := true }, kinds := [], alts := [], laidByText := true, laidKinds := [.data, .data, .data, .data, .data, .data, .sentinel, .sentinel, .pinned], laidTests := true, laidLooks := .later }
def TreeFormsUptoCardSaid : Prop := Claim7.holds Tryz.pinned (.plain (OpenSpec.upto treeFormsSpec)) treeFormsUptoCard

/-- THE SECOND FORM's CARD OF 'creellaw10.StorePlays'. -/
def storePlaysUptoCard : Claim7 := { stood := { row := storePlaysUptoRow, standIns := [], harness := (true, "0540e720d6db5677283b8fcff30f5c287bb5a932e1a686560fc0a3e0b3488656"), looks := true }, kinds := [], alts := [], laidByText := true, laidKinds := [.data, .data, .data, .data, .data, .sentinel, .sentinel], laidTests := true, laidLooks := .later }
def StorePlaysUptoCardSaid : Prop := Claim7.holds Tryz.pinned (.plain (OpenSpec.upto storePlaysSpec)) storePlaysUptoCard
end Rows
end Go.Proofs.YtfcnoebnnglfkaaGreatDoor
