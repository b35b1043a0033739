/-
  DERIVED. GIVEN WITH THE SEED: THE CARDS: each row of YtpdhcfkjakbmfaaGreatDoorRows.lean that lists a variable, with what it lists TIED to the program's text (the seventh form; the later family's looks); each row that meets fmt, with fmt's text TOLD by the authors' own Lean function (tested against real Go, not proved from fmt's source: count such statements apart). THE CARD IS WHAT COUNTS. Prove the row's statement (the work); the ties are given (YtpdhcfkjakbmfaaGreatDoorTie.lean); close each card by the builder's one call (the guide's Derived/Test/ToyasCard.lean, 'card_holds'). Laid BY PROGRAM, IN A SANDBOX (cutbox-door.mjs). By AI agents, Wed Nov 11 2026. No macro, syntax, notation, axiom, sorry.
-/
import Derived.Test.YtpdhcfkjakbmfaaGreatDoorRows
import GoSem.ClaimSeven
namespace Go.Proofs.YtpdhcfkjakbmfaaGreatDoor
namespace Rows

/-- THE TIED CARD OF 'creellaw07.InodePlays'. -/
def inodePlaysCard : Claim7 := { stood := { row := inodePlaysRow, standIns := [], harness := (true, "4ef0ecfa041c33b90757d25aafe5fdaf937fed3a3fa5af387d901bb8a408424f"), looks := true }, kinds := [], alts := [], laidByText := true, laidKinds := [.data, .data], laidTests := true, laidLooks := .later }
def InodePlaysCardSaid : Prop := Claim7.holds Tryz.pinned (.plain (OpenSpec.ofChange inodePlaysSpec)) inodePlaysCard

/-- THE SECOND FORM's CARD OF 'creellaw07.InodePlays'. -/
def inodePlaysUptoCard : Claim7 := { stood := { row := inodePlaysUptoRow, standIns := [], harness := (true, "4ef0ecfa041c33b90757d25aafe5fdaf937fed3a3fa5af387d901bb8a408424f"), looks := true }, kinds := [], alts := [], laidByText := true, laidKinds := [.data, .data], laidTests := true, laidLooks := .later }
def InodePlaysUptoCardSaid : Prop := Claim7.holds Tryz.pinned (.plain (OpenSpec.upto inodePlaysSpec)) inodePlaysUptoCard
end Rows
end Go.Proofs.YtpdhcfkjakbmfaaGreatDoor
