/-
  DERIVED. GIVEN WITH THE SEED: THE CARDS: each row of YtobnnhlgdoddgaaDoorRows.lean that lists a variable, with what it lists TIED to the program's text (the seventh form; the later family's looks); each row that meets fmt, with fmt's text TOLD by the authors' own Lean function (tested against real Go, not proved from fmt's source: count such statements apart). THE CARD IS WHAT COUNTS. Prove the row's statement (the work); the ties are given (YtobnnhlgdoddgaaDoorTie.lean); close each card by the builder's one call (the guide's Derived/Test/ToyasCard.lean, 'card_holds'). Laid BY PROGRAM, IN A SANDBOX (cutbox-door.mjs). By AI agents, Wed Nov 11 2026. No macro, syntax, notation, axiom, sorry.
-/
import Derived.Test.YtobnnhlgdoddgaaDoorRows
import GoSem.ClaimSeven
namespace Go.Proofs.YtobnnhlgdoddgaaDoor
namespace Rows

/-- THE TIED CARD OF 'creellaw04.WalOrder'. -/
def walOrderCard : Claim7 := { stood := { row := walOrderRow, standIns := [], harness := (true, "cbe97e181daa3bcb6d39d321b5b4eed93a2e16c4ed5f1307a6e3c596d3addde8"), looks := false }, kinds := [], alts := [], laidByText := true, laidKinds := [.data, .data], laidTests := true, laidLooks := .later }
def WalOrderCardSaid : Prop := Claim7.holds Tryd.pinned (.plain (OpenSpec.ofChange walOrderSpec)) walOrderCard

/-- THE TIED CARD OF 'creellaw04.WalNil'. -/
def walNilCard : Claim7 := { stood := { row := walNilRow, standIns := [], harness := (true, "cbe97e181daa3bcb6d39d321b5b4eed93a2e16c4ed5f1307a6e3c596d3addde8"), looks := false }, kinds := [], alts := [], laidByText := true, laidKinds := [.data, .data], laidTests := true, laidLooks := .later }
def WalNilCardSaid : Prop := Claim7.holds Tryd.pinned (.plain (OpenSpec.ofChange walNilSpec)) walNilCard

/-- THE SECOND FORM's CARD OF 'creellaw04.WalOrder'. -/
def walOrderUptoCard : Claim7 := { stood := { row := walOrderUptoRow, standIns := [], harness := (true, "cbe97e181daa3bcb6d39d321b5b4eed93a2e16c4ed5f1307a6e3c596d3addde8"), looks := false }, kinds := [], alts := [], laidByText := true, laidKinds := [.data, .data], laidTests := true, laidLooks := .later }
def WalOrderUptoCardSaid : Prop := Claim7.holds Tryd.pinned (.plain (OpenSpec.upto walOrderSpec)) walOrderUptoCard

/-- THE SECOND FORM's CARD OF 'creellaw04.WalNil'. -/
def walNilUptoCard : Claim7 := { stood := { row := walNilUptoRow, standIns := [], harness := (true, "cbe97e181daa3bcb6d39d321b5b4eed93a2e16c4ed5f1307a6e3c596d3addde8"), looks := false }, kinds := [], alts := [], laidByText := true, laidKinds := [.data, .data], laidTests := true, laidLooks := .later }
def WalNilUptoCardSaid : Prop := Claim7.holds Tryd.pinned (.plain (OpenSpec.upto walNilSpec)) walNilUptoCard
end Rows
end Go.Proofs.YtobnnhlgdoddgaaDoor
