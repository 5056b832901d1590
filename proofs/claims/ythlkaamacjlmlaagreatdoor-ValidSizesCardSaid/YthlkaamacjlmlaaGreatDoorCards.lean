/-
  DERIVED. GIVEN WITH THE SEED: THE CARDS: each row of YthlkaamacjlmlaaGreatDoorRows.lean that lists a variable, with what it lists TIED to the program's text (the seventh form; the later family's looks); each row that meets fmt, with fmt's text TOLD by the authors' own Lean function (tested against real Go, not proved from fmt's source: count such statements apart). THE CARD IS WHAT COUNTS. Prove the row's statement (the work); the ties are given (YthlkaamacjlmlaaGreatDoorTie.lean); close each card by the builder's one call (the guide's Derived/Test/ToyasCard.lean, 'card_holds'). Laid BY PROGRAM, IN A SANDBOX (cutbox-door.mjs). By AI agents, Wed Nov 11 2026. No macro, syntax, notation, axiom, sorry.
-/
import Derived.Test.YthlkaamacjlmlaaGreatDoorRows
import GoSem.ClaimSeven
namespace Go.Proofs.YthlkaamacjlmlaaGreatDoor
namespace Rows

/-- THE TIED CARD OF 'arboretlaw15.ValidSizes'. -/
def validSizesCard : Claim7 := { stood := { row := validSizesRow, standIns := [], harness := (true, "93f5b77f9cc44029d7e2a5713a78c66139be04eddf7b49cc4358f0e9d8c81595"), looks := false }, kinds := [], alts := [], laidByText := true, laidKinds := [.data, .pinned], laidTests := true, laidLooks := .later }
def ValidSizesCardSaid : Prop := Claim7.holds Tryz.pinned (.plain (OpenSpec.ofChange validSizesSpec)) validSizesCard

/-- THE SECOND FORM's CARD OF 'arboretlaw15.ValidSizes'. -/
def validSizesUptoCard : Claim7 := { stood := { row := validSizesUptoRow, standIns := [], harness := (true, "93f5b77f9cc44029d7e2a5713a78c66139be04eddf7b49cc4358f0e9d8c81595"), looks := false }, kinds := [], alts := [], laidByText := true, laidKinds := [.data, .pinned], laidTests := true, laidLooks := .later }
def ValidSizesUptoCardSaid : Prop := Claim7.holds Tryz.pinned (.plain (OpenSpec.upto validSizesSpec)) validSizesUptoCard
end Rows
end Go.Proofs.YthlkaamacjlmlaaGreatDoor
