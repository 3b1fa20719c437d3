/-
  DERIVED. GIVEN WITH THE SEED: THE CARDS: each row of YtiphdedfbafhkaaDoorRows.lean that lists a variable, with what it lists TIED to the program's text (the seventh form; the later family's looks); each row that meets fmt, with fmt's text TOLD by the authors' own Lean function (tested against real Go, not proved from fmt's source: count such statements apart). THE CARD IS WHAT COUNTS. Prove the row's statement (the work); the ties are given (YtiphdedfbafhkaaDoorTie.lean); close each card by the builder's one call (the guide's Derived/Test/ToyasCard.lean, 'card_holds'). Laid BY PROGRAM, IN A SANDBOX (cutbox-door.mjs). By AI agents, Wed Nov 11 2026. No macro, syntax, notation, axiom, sorry.
-/
import Derived.Test.YtiphdedfbafhkaaDoorRows
import GoSem.ClaimSeven
namespace Go.Proofs.YtiphdedfbafhkaaDoor
namespace Rows

/-- THE TIED CARD OF 'norialaw14.RoomTimes'. -/
def roomTimesCard : Claim7 := { stood := { row := roomTimesRow, standIns := [], harness := (true, "7487dc03e1ec6d2f5a82d29aaefd0fb69e34d31aa0c73a38d2054e2446622c5e"), looks := true }, kinds := [], alts := [], laidByText := true, laidKinds := [.data, .data], laidTests := true, laidLooks := .later }
def RoomTimesCardSaid : Prop := Claim7.holds Tryd.pinned (.plain (OpenSpec.ofChange roomTimesSpec)) roomTimesCard

/-- THE TIED CARD OF 'norialaw14.RoomJoins'. -/
def roomJoinsCard : Claim7 := { stood := { row := roomJoinsRow, standIns := [], harness := (true, "7487dc03e1ec6d2f5a82d29aaefd0fb69e34d31aa0c73a38d2054e2446622c5e"), looks := true }, kinds := [], alts := [], laidByText := true, laidKinds := [.data, .data], laidTests := true, laidLooks := .later }
def RoomJoinsCardSaid : Prop := Claim7.holds Tryd.pinned (.plain (OpenSpec.ofChange roomJoinsSpec)) roomJoinsCard

/-- THE TIED CARD OF 'norialaw14.RoomKinds'. -/
def roomKindsCard : Claim7 := { stood := { row := roomKindsRow, standIns := [], harness := (true, "7487dc03e1ec6d2f5a82d29aaefd0fb69e34d31aa0c73a38d2054e2446622c5e"), looks := true }, kinds := [], alts := [], laidByText := true, laidKinds := [.data, .data], laidTests := true, laidLooks := .later }
def RoomKindsCardSaid : Prop := Claim7.holds Tryd.pinned (.plain (OpenSpec.ofChange roomKindsSpec)) roomKindsCard

/-- THE SECOND FORM's CARD OF 'norialaw14.RoomTimes'. -/
def roomTimesUptoCard : Claim7 := { stood := { row := roomTimesUptoRow, standIns := [], harness := (true, "7487dc03e1ec6d2f5a82d29aaefd0fb69e34d31aa0c73a38d2054e2446622c5e"), looks := true }, kinds := [], alts := [], laidByText := true, laidKinds := [.data, .data], laidTests := true, laidLooks := .later }
def RoomTimesUptoCardSaid : Prop := Claim7.holds Tryd.pinned (.plain (OpenSpec.upto roomTimesSpec)) roomTimesUptoCard

/-- THE SECOND FORM's CARD OF 'norialaw14.RoomJoins'. -/
def roomJoinsUptoCard : Claim7 := { stood := { row := roomJoinsUptoRow, standIns := [], harness := (true, "7487dc03e1ec6d2f5a82d29aaefd0fb69e34d31aa0c73a38d2054e2446622c5e"), looks := true }, kinds := [], alts := [], laidByText := true, laidKinds := [.data, .data], laidTests := true, laidLooks := .later }
def RoomJoinsUptoCardSaid : Prop := Claim7.holds Tryd.pinned (.plain (OpenSpec.upto roomJoinsSpec)) roomJoinsUptoCard

/-- THE SECOND FORM's CARD OF 'norialaw14.RoomKinds'. -/
def roomKindsUptoCard : Claim7 := { stood := { row := roomKindsUptoRow, standIns := [], harness := (true, "7487dc03e1ec6d2f5a82d29aaefd0fb69e34d31aa0c73a38d2054e2446622c5e"), looks := true }, kinds := [], alts := [], laidByText := true, laidKinds := [.data, .data], laidTests := true, laidLooks := .later }
def RoomKindsUptoCardSaid : Prop := Claim7.holds Tryd.pinned (.plain (OpenSpec.upto roomKindsSpec)) roomKindsUptoCard
end Rows
end Go.Proofs.YtiphdedfbafhkaaDoor
