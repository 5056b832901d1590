/-
  DERIVED. GIVEN WITH THE SEED: THE CARDS: each row of YtkfcgjopabcbeaaGreatDoorRows.lean that lists a variable, with what it lists TIED to the program's text (the seventh form; the later family's looks); each row that meets fmt, with fmt's text TOLD by the authors' own Lean function (tested against real Go, not proved from fmt's source: count such statements apart). THE CARD IS WHAT COUNTS. Prove the row's statement (the work); the ties are given (YtkfcgjopabcbeaaGreatDoorTie.lean); close each card by the builder's one call (the guide's Derived/Test/ToyasCard.lean, 'card_holds'). Laid BY PROGRAM, IN A SANDBOX (cutbox-door.mjs). By AI agents, Wed Nov 11 2026. No macro, syntax, notation, axiom, sorry.
-/
import Derived.Test.YtkfcgjopabcbeaaGreatDoorRows
import GoSem.ClaimSeven
namespace Go.Proofs.YtkfcgjopabcbeaaGreatDoor
namespace Rows

/-- THE TIED CARD OF 'arboretlaw15.ValidForms'. -/
def validFormsCard : Claim7 := { stood := { row := validFormsRow, standIns := [], harness := (true, "7d07abc7a0d15daa30527fca79b86287c15ad901a0a4619efbc13fe1bb7fc8e1"), looks := true }, kinds := [], alts := [], laidByText := true, laidKinds := [.data, .handle, .pinned], laidTests := true, laidLooks := .later }
def ValidFormsCardSaid : Prop := Claim7.holds Tryz.pinned (.plain (OpenSpec.ofChange validFormsSpec)) validFormsCard

/-- THE TIED CARD OF 'arboretlaw22.SocNil'. -/
def socNilCard : Claim7 := { stood := { row := socNilRow, standIns := [], harness := (true, "7d07abc7a0d15daa30527fca79b86287c15ad901a0a4619efbc13fe1bb7fc8e1"), looks := true }, kinds := [], alts := [], laidByText := true, laidKinds := [.data, .data, .pinned], laidTests := true, laidLooks := .later }
def SocNilCardSaid : Prop := Claim7.holds Tryz.pinned (.plain (OpenSpec.ofChange socNilSpec)) socNilCard

/-- THE TIED CARD OF 'arboretlaw23.ProbeReads'. -/
def probeReadsCard : Claim7 := { stood := { row := probeReadsRow, standIns := [], harness := (true, "7d07abc7a0d15daa30527fca79b86287c15ad901a0a4619efbc13fe1bb7fc8e1"), looks := true }, kinds := [], alts := [], laidByText := true, laidKinds := [.data, .handle, .pinned], laidTests := true, laidLooks := .later }
def ProbeReadsCardSaid : Prop := Claim7.holds Tryz.pinned (.plain (OpenSpec.ofChange probeReadsSpec)) probeReadsCard

/-- THE SECOND FORM's CARD OF 'arboretlaw15.ValidForms'. -/
def validFormsUptoCard : Claim7 := { stood := { row := validFormsUptoRow, standIns := [], harness := (true, "7d07abc7a0d15daa30527fca79b86287c15ad901a0a4619efbc13fe1bb7fc8e1"), looks := true }, kinds := [], alts := [], laidByText := true, laidKinds := [.data, .handle, .pinned], laidTests := true, laidLooks := .later }
def ValidFormsUptoCardSaid : Prop := Claim7.holds Tryz.pinned (.plain (OpenSpec.upto validFormsSpec)) validFormsUptoCard

/-- THE SECOND FORM's CARD OF 'arboretlaw22.SocNil'. -/
def socNilUptoCard : Claim7 := { stood := { row := socNilUptoRow, standIns := [], harness := (true, "7d07abc7a0d15daa30527fca79b86287c15ad901a0a4619efbc13fe1bb7fc8e1"), looks := true }, kinds := [], alts := [], laidByText := true, laidKinds := [.data, .data, .pinned], laidTests := true, laidLooks := .later }
def SocNilUptoCardSaid : Prop := Claim7.holds Tryz.pinned (.plain (OpenSpec.upto socNilSpec)) socNilUptoCard

/-- THE SECOND FORM's CARD OF 'arboretlaw23.ProbeReads'. -/
def probeReadsUptoCard : Claim7 := { stood := { row := probeReadsUptoRow, standIns := [], harness := (true, "7d07abc7a0d15daa30527fca79b86287c15ad901a0a4619efbc13fe1bb7fc8e1"), looks := true }, kinds := [], alts := [], laidByText := true, laidKinds := [.data, .handle, .pinned], laidTests := true, laidLooks := .later }
def ProbeReadsUptoCardSaid : Prop := Claim7.holds Tryz.pinned (.plain (OpenSpec.upto probeReadsSpec)) probeReadsUptoCard
end Rows
end Go.Proofs.YtkfcgjopabcbeaaGreatDoor
