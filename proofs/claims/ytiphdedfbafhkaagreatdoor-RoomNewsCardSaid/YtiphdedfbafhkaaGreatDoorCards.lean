/-
  DERIVED. GIVEN WITH THE SEED: THE CARDS: each row of YtiphdedfbafhkaaGreatDoorRows.lean that lists a variable, with what it lists TIED to the program's text (the seventh form; the later family's looks); each row that meets fmt, with fmt's text TOLD by the authors' own Lean function (tested against real Go, not proved from fmt's source: count such statements apart). THE CARD IS WHAT COUNTS. Prove the row's statement (the work); the ties are given (YtiphdedfbafhkaaGreatDoorTie.lean); close each card by the builder's one call (the guide's Derived/Test/ToyasCard.lean, 'card_holds'). Laid BY PROGRAM, IN A SANDBOX (cutbox-door.mjs). By AI agents, Wed Nov 11 2026. No macro, syntax, notation, axiom, sorry.
-/
import Derived.Test.YtiphdedfbafhkaaGreatDoorRows
import GoSem.ClaimSeven
namespace Go.Proofs.YtiphdedfbafhkaaGreatDoor
namespace Rows

/-- THE TIED CARD OF 'norialaw14.RoomWrong'. -/
def roomWrongCard : Claim7 := { stood := { row := roomWrongRow, standIns := [], harness := (true, "782919625166f8fa575796aa665da3469f90c0c2b6dbaf4fb39a2c4cb57a675e"), looks := true }, kinds := [], alts := [], laidByText := true, laidKinds := [.data, .data], laidTests := true, laidLooks := .later }
def RoomWrongCardSaid : Prop := Claim7.holds Tryz.pinned (.plain (OpenSpec.ofChange roomWrongSpec)) roomWrongCard

/-- THE TIED CARD OF 'norialaw14.RoomCells'. -/
def roomCellsCard : Claim7 := { stood := { row := roomCellsRow, standIns := [], harness := (true, "782919625166f8fa575796aa665da3469f90c0c2b6dbaf4fb39a2c4cb57a675e"), looks := true }, kinds := [], alts := [], laidByText := true, laidKinds := [.data, .data], laidTests := true, laidLooks := .later }
def RoomCellsCardSaid : Prop := Claim7.holds Tryz.pinned (.plain (OpenSpec.ofChange roomCellsSpec)) roomCellsCard

/-- THE TIED CARD OF 'norialaw14.RoomNews'. -/
def roomNewsCard : Claim7 := { stood := { row := roomNewsRow, standIns := [], harness := (true, "782919625166f8fa575796aa665da3469f90c0c2b6dbaf4fb39a2c4cb57a675e"), looks := true }, kinds := [], alts := [], laidByText := true, laidKinds := [.data, .data], laidTests := true, laidLooks := .later }
def RoomNewsCardSaid : Prop := Claim7.holds Tryz.pinned (.plain (OpenSpec.ofChange roomNewsSpec)) roomNewsCard

/-- THE TIED CARD OF 'norialaw14.RoomPlays'. -/
def roomPlaysCard : Claim7 := { stood := { row := roomPlaysRow, standIns := [], harness := (true, "782919625166f8fa575796aa665da3469f90c0c2b6dbaf4fb39a2c4cb57a675e"), looks := true }, kinds := [], alts := [], laidByText := true, laidKinds := [.data, .data], laidTests := true, laidLooks := .later }
def RoomPlaysCardSaid : Prop := Claim7.holds Tryz.pinned (.plain (OpenSpec.ofChange roomPlaysSpec)) roomPlaysCard

/-- THE SECOND FORM's CARD OF 'norialaw14.RoomWrong'. -/
def roomWrongUptoCard : Claim7 := { stood := { row := roomWrongUptoRow, standIns := [], harness := (true, "782919625166f8fa575796aa665da3469f90c0c2b6dbaf4fb39a2c4cb57a675e"), looks := true }, kinds := [], alts := [], laidByText := true, laidKinds := [.data, .data], laidTests := true, laidLooks := .later }
def RoomWrongUptoCardSaid : Prop := Claim7.holds Tryz.pinned (.plain (OpenSpec.upto roomWrongSpec)) roomWrongUptoCard

/-- THE SECOND FORM's CARD OF 'norialaw14.RoomCells'. -/
def roomCellsUptoCard : Claim7 := { stood := { row := roomCellsUptoRow, standIns := [], harness := (true, "782919625166f8fa575796aa665da3469f90c0c2b6dbaf4fb39a2c4cb57a675e"), looks := true }, kinds := [], alts := [], laidByText := true, laidKinds := [.data, .data], laidTests := true, laidLooks := .later }
def RoomCellsUptoCardSaid : Prop := Claim7.holds Tryz.pinned (.plain (OpenSpec.upto roomCellsSpec)) roomCellsUptoCard

/-- THE SECOND FORM's CARD OF 'norialaw14.RoomNews'. -/
def roomNewsUptoCard : Claim7 := { stood := { row := roomNewsUptoRow, standIns := [], harness := (true, "782919625166f8fa575796aa665da3469f90c0c2b6dbaf4fb39a2c4cb57a675e"), looks := true }, kinds := [], alts := [], laidByText := true, laidKinds := [.data, .data], laidTests := true, laidLooks := .later }
def RoomNewsUptoCardSaid : Prop := Claim7.holds Tryz.pinned (.plain (OpenSpec.upto roomNewsSpec)) roomNewsUptoCard

/-- THE SECOND FORM's CARD OF 'norialaw14.RoomPlays'. -/
def roomPlaysUptoCard : Claim7 := { stood := { row := roomPlaysUptoRow, standIns := [], harness := (true, "782919625166f8fa575796aa665da3469f90c0c2b6dbaf4fb39a2c4cb57a675e"), looks := true }, kinds := [], alts := [], laidByText := true, laidKinds := [.data, .data], laidTests := true, laidLooks := .later }
def RoomPlaysUptoCardSaid : Prop := Claim7.holds Tryz.pinned (.plain (OpenSpec.upto roomPlaysSpec)) roomPlaysUptoCard
end Rows
end Go.Proofs.YtiphdedfbafhkaaGreatDoor
