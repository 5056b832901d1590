/-
  DERIVED. GIVEN WITH THE SEED: THE CARDS: each row of YteejaaeglfpcmabDoorRows.lean that lists a variable, with what it lists TIED to the program's text (the seventh form; the later family's looks); each row that meets fmt, with fmt's text TOLD by the authors' own Lean function (tested against real Go, not proved from fmt's source: count such statements apart). THE CARD IS WHAT COUNTS. Prove the row's statement (the work); the ties are given (YteejaaeglfpcmabDoorTie.lean); close each card by the builder's one call (the guide's Derived/Test/ToyasCard.lean, 'card_holds'). Laid BY PROGRAM, IN A SANDBOX (cutbox-door.mjs). By AI agents, Wed Nov 11 2026. No macro, syntax, notation, axiom, sorry.
-/
import Derived.Test.YteejaaeglfpcmabDoorRows
import GoSem.ClaimSeven
namespace Go.Proofs.YteejaaeglfpcmabDoor
namespace Rows

/-- THE TIED CARD OF 'arboretlaw07.PropReads'. -/
def propReadsCard : Claim7 := { stood := { row := propReadsRow, standIns := [], harness := (true, "d8f42d582df25ea0d0087651542afb0857b6d56c74977c29593998eb54d95074"), looks := true }, kinds := [], alts := [], laidByText := true, laidKinds := [.data, .pinned], laidTests := true, laidLooks := .later }
def PropReadsCardSaid : Prop := Claim7.holds Tryd.pinned (.plain (OpenSpec.ofChange propReadsSpec)) propReadsCard

/-- THE TIED CARD OF 'arboretlaw07.PropBack'. -/
def propBackCard : Claim7 := { stood := { row := propBackRow, standIns := [], harness := (true, "d8f42d582df25ea0d0087651542afb0857b6d56c74977c29593998eb54d95074"), looks := true }, kinds := [], alts := [], laidByText := true, laidKinds := [.data, .pinned], laidTests := true, laidLooks := .later }
def PropBackCardSaid : Prop := Claim7.holds Tryd.pinned (.plain (OpenSpec.ofChange propBackSpec)) propBackCard

/-- THE TIED CARD OF 'arboretlaw02.NameBack'. -/
def nameBackCard : Claim7 := { stood := { row := nameBackRow, standIns := [], harness := (true, "d8f42d582df25ea0d0087651542afb0857b6d56c74977c29593998eb54d95074"), looks := true }, kinds := [], alts := [], laidByText := true, laidKinds := [.data, .data, .data, .sentinel, .sentinel], laidTests := true, laidLooks := .later }
def NameBackCardSaid : Prop := Claim7.holds Tryd.pinned (.plain (OpenSpec.ofChange nameBackSpec)) nameBackCard

/-- THE SECOND FORM's CARD OF 'arboretlaw07.PropReads'. -/
def propReadsUptoCard : Claim7 := { stood := { row := propReadsUptoRow, standIns := [], harness := (true, "d8f42d582df25ea0d0087651542afb0857b6d56c74977c29593998eb54d95074"), looks := true }, kinds := [], alts := [], laidByText := true, laidKinds := [.data, .pinned], laidTests := true, laidLooks := .later }
def PropReadsUptoCardSaid : Prop := Claim7.holds Tryd.pinned (.plain (OpenSpec.upto propReadsSpec)) propReadsUptoCard

/-- THE SECOND FORM's CARD OF 'arboretlaw07.PropBack'. -/
def propBackUptoCard : Claim7 := { stood := { row := propBackUptoRow, standIns := [], harness := (true, "d8f42d582df25ea0d0087651542afb0857b6d56c74977c29593998eb54d95074"), looks := true }, kinds := [], alts := [], laidByText := true, laidKinds := [.data, .pinned], laidTests := true, laidLooks := .later }
def PropBackUptoCardSaid : Prop := Claim7.holds Tryd.pinned (.plain (OpenSpec.upto propBackSpec)) propBackUptoCard

/-- THE SECOND FORM's CARD OF 'arboretlaw02.NameBack'. -/
def nameBackUptoCard : Claim7 := { stood := { row := nameBackUptoRow, standIns := [], harness := (true, "d8f42d582df25ea0d0087651542afb0857b6d56c74977c29593998eb54d95074"), looks := true }, kinds := [], alts := [], laidByText := true, laidKinds := [.data, .data, .data, .sentinel, .sentinel], laidTests := true, laidLooks := .later }
def NameBackUptoCardSaid : Prop := Claim7.holds Tryd.pinned (.plain (OpenSpec.upto nameBackSpec)) nameBackUptoCard
end Rows
end Go.Proofs.YteejaaeglfpcmabDoor
