/-
  DERIVED. GIVEN WITH THE SEED: THE CARDS: each row of YtfoigjehifalpaaGreatDoorRows.lean that lists a variable, with what it lists TIED to the program's text (the seventh form; the later family's looks); each row that meets fmt, with fmt's text TOLD by the authors' own Lean function (tested against real Go, not proved from fmt's source: count such statements apart). THE CARD IS WHAT COUNTS. Prove the row's statement (the work); the ties are given (YtfoigjehifalpaaGreatDoorTie.lean); close each card by the builder's one call (the guide's Derived/Test/ToyasCard.lean, 'card_holds'). Laid BY PROGRAM, IN A SANDBOX (cutbox-door.mjs). By AI agents, Wed Nov 11 2026. No macro, syntax, notation, axiom, sorry.
-/
import Derived.Test.YtfoigjehifalpaaGreatDoorRows
import GoSem.ClaimSeven
namespace Go.Proofs.YtfoigjehifalpaaGreatDoor
namespace Rows

/-- THE TIED CARD OF 'creellaw09.TableLast'. -/
def tableLastCard : Claim7 := { stood := { row := tableLastRow, standIns := [], harness := (true, "d87cd7052b8350795887dbaed0ce3e7d22ea80daed280d77ab1a431b0f3909e7"), looks := true }, kinds := [], alts := [], laidByText := true, laidKinds := [.data, .data, .data, .data, .data, .sentinel, .sentinel], laidTests := true, laidLooks := .later }
def TableLastCardSaid : Prop := Claim7.holds Tryz.pinned (.plain (OpenSpec.ofChange tableLastSpec)) tableLastCard

/-- THE TIED CARD OF 'creellaw11.ChainMarks'. -/
def chainMarksCard : Claim7 := { stood := { row := chainMarksRow, standIns := [], harness := (true, "d87cd7052b8350795887dbaed0ce3e7d22ea80daed280d77ab1a431b0f3909e7"), looks := true }, kinds := [], alts := [], laidByText := true, laidKinds := [.data, .data, .data, .data, .data, .sentinel, .sentinel], laidTests := true, laidLooks := .later }
def ChainMarksCardSaid : Prop := Claim7.holds Tryz.pinned (.plain (OpenSpec.ofChange chainMarksSpec)) chainMarksCard

/-- THE TIED CARD OF 'creellaw11.ChainAdds'. -/
def chainAddsCard : Claim7 := { stood := { row := chainAddsRow, standIns := [], harness := (true, "d87cd7052b8350795887dbaed0ce3e7d22ea80daed280d77ab1a431b0f3909e7"), looks := true }, kinds := [], alts := [], laidByText := true, laidKinds := [.data, .data, .data, .data, .data, .sentinel, .sentinel], laidTests := true, laidLooks := .later }
def ChainAddsCardSaid : Prop := Claim7.holds Tryz.pinned (.plain (OpenSpec.ofChange chainAddsSpec)) chainAddsCard

/-- THE SECOND FORM's CARD OF 'creellaw09.TableLast'. -/
def tableLastUptoCard : Claim7 := { stood := { row := tableLastUptoRow, standIns := [], harness := (true, "d87cd7052b8350795887dbaed0ce3e7d22ea80daed280d77ab1a431b0f3909e7"), looks := true }, kinds := [], alts := [], laidByText := true, laidKinds := [.data, .data, .data, .data, .data, .sentinel, .sentinel], laidTests := true, laidLooks := .later }
def TableLastUptoCardSaid : Prop := Claim7.holds Tryz.pinned (.plain (OpenSpec.upto tableLastSpec)) tableLastUptoCard

/-- THE SECOND FORM's CARD OF 'creellaw11.ChainMarks'. -/
def chainMarksUptoCard : Claim7 := { stood := { row := chainMarksUptoRow, standIns := [], harness := (true, "d87cd7052b8350795887dbaed0ce3e7d22ea80daed280d77ab1a431b0f3909e7"), looks := true }, kinds := [], alts := [], laidByText := true, laidKinds := [.data, .data, .data, .data, .data, .sentinel, .sentinel], laidTests := true, laidLooks := .later }
def ChainMarksUptoCardSaid : Prop := Claim7.holds Tryz.pinned (.plain (OpenSpec.upto chainMarksSpec)) chainMarksUptoCard

/-- THE SECOND FORM's CARD OF 'creellaw11.ChainAdds'. -/
def chainAddsUptoCard : Claim7 := { stood := { row := chainAddsUptoRow, standIns := [], harness := (true, "d87cd7052b8350795887dbaed0ce3e7d22ea80daed280d77ab1a431b0f3909e7"), looks := true }, kinds := [], alts := [], laidByText := true, laidKinds := [.data, .data, .data, .data, .data, .sentinel, .sentinel], laidTests := true, laidLooks := .later }
def ChainAddsUptoCardSaid : Prop := Claim7.holds Tryz.pinned (.plain (OpenSpec.upto chainAddsSpec)) chainAddsUptoCard
end Rows
end Go.Proofs.YtfoigjehifalpaaGreatDoor
