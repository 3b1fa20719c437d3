/-
  DERIVED. GIVEN WITH THE SEED: THE CARDS: each row of YteicmmgpkhmlbaaDoorRows.lean that lists a variable, with what it lists TIED to the program's text (the seventh form; the later family's looks); each row that meets fmt, with fmt's text TOLD by the authors' own Lean function (tested against real Go, not proved from fmt's source: count such statements apart). THE CARD IS WHAT COUNTS. Prove the row's statement (the work); the ties are given (YteicmmgpkhmlbaaDoorTie.lean); close each card by the builder's one call (the guide's Derived/Test/ToyasCard.lean, 'card_holds'). Laid BY PROGRAM, IN A SANDBOX (cutbox-door.mjs). By AI agents, Wed Nov 11 2026. No macro, syntax, notation, axiom, sorry.
-/
import Derived.Test.YteicmmgpkhmlbaaDoorRows
import GoSem.ClaimSeven
namespace Go.Proofs.YteicmmgpkhmlbaaDoor
namespace Rows

/-- THE TIED CARD OF 'norialaw02.PowTurns'. -/
def powTurnsCard : Claim7 := { stood := { row := powTurnsRow, standIns := [], harness := (true, "b91a2d7440654825d5b2adeddaa12c42d343423cd9fe6407874d9161241c26b5"), looks := true }, kinds := [], alts := [], laidByText := true, laidKinds := [.data, .data], laidTests := true, laidLooks := .later }
def PowTurnsCardSaid : Prop := Claim7.holds Tryd.pinned (.plain (OpenSpec.ofChange powTurnsSpec)) powTurnsCard

/-- THE TIED CARD OF 'norialaw02.PowPlaces'. -/
def powPlacesCard : Claim7 := { stood := { row := powPlacesRow, standIns := [], harness := (true, "b91a2d7440654825d5b2adeddaa12c42d343423cd9fe6407874d9161241c26b5"), looks := true }, kinds := [], alts := [], laidByText := true, laidKinds := [.data, .data], laidTests := true, laidLooks := .later }
def PowPlacesCardSaid : Prop := Claim7.holds Tryd.pinned (.plain (OpenSpec.ofChange powPlacesSpec)) powPlacesCard

/-- THE TIED CARD OF 'norialaw02.PowRooms'. -/
def powRoomsCard : Claim7 := { stood := { row := powRoomsRow, standIns := [], harness := (true, "b91a2d7440654825d5b2adeddaa12c42d343423cd9fe6407874d9161241c26b5"), looks := true }, kinds := [], alts := [], laidByText := true, laidKinds := [.data, .data], laidTests := true, laidLooks := .later }
def PowRoomsCardSaid : Prop := Claim7.holds Tryd.pinned (.plain (OpenSpec.ofChange powRoomsSpec)) powRoomsCard

/-- THE TIED CARD OF 'norialaw06.SlotsPlays'. -/
def slotsPlaysCard : Claim7 := { stood := { row := slotsPlaysRow, standIns := [], harness := (true, "b91a2d7440654825d5b2adeddaa12c42d343423cd9fe6407874d9161241c26b5"), looks := true }, kinds := [], alts := [], laidByText := true, laidKinds := [.data, .data], laidTests := true, laidLooks := .later }
def SlotsPlaysCardSaid : Prop := Claim7.holds Tryd.pinned (.plain (OpenSpec.ofChange slotsPlaysSpec)) slotsPlaysCard

/-- THE TIED CARD OF 'norialaw02.PowSizes'. -/
def powSizesCard : Claim7 := { stood := { row := powSizesRow, standIns := [], harness := (true, "b91a2d7440654825d5b2adeddaa12c42d343423cd9fe6407874d9161241c26b5"), looks := true }, kinds := [], alts := [], laidByText := true, laidKinds := [.data, .data], laidTests := true, laidLooks := .later }
def PowSizesCardSaid : Prop := Claim7.holds Tryd.pinned (.plain (OpenSpec.ofChange powSizesSpec)) powSizesCard

/-- THE TIED CARD OF 'norialaw06.SlotsSpans'. -/
def slotsSpansCard : Claim7 := { stood := { row := slotsSpansRow, standIns := [], harness := (true, "b91a2d7440654825d5b2adeddaa12c42d343423cd9fe6407874d9161241c26b5"), looks := true }, kinds := [], alts := [], laidByText := true, laidKinds := [.data, .data], laidTests := true, laidLooks := .later }
def SlotsSpansCardSaid : Prop := Claim7.holds Tryd.pinned (.plain (OpenSpec.ofChange slotsSpansSpec)) slotsSpansCard

/-- THE TIED CARD OF 'norialaw06.SlotsWrong'. -/
def slotsWrongCard : Claim7 := { stood := { row := slotsWrongRow, standIns := [], harness := (true, "b91a2d7440654825d5b2adeddaa12c42d343423cd9fe6407874d9161241c26b5"), looks := true }, kinds := [], alts := [], laidByText := true, laidKinds := [.data, .data], laidTests := true, laidLooks := .later }
def SlotsWrongCardSaid : Prop := Claim7.holds Tryd.pinned (.plain (OpenSpec.ofChange slotsWrongSpec)) slotsWrongCard

/-- THE TIED CARD OF 'norialaw07.AvailRounds'. -/
def availRoundsCard : Claim7 := { stood := { row := availRoundsRow, standIns := [], harness := (true, "b91a2d7440654825d5b2adeddaa12c42d343423cd9fe6407874d9161241c26b5"), looks := true }, kinds := [], alts := [], laidByText := true, laidKinds := [.data, .data], laidTests := true, laidLooks := .later }
def AvailRoundsCardSaid : Prop := Claim7.holds Tryd.pinned (.plain (OpenSpec.ofChange availRoundsSpec)) availRoundsCard

/-- THE TIED CARD OF 'norialaw07.AvailPlays'. -/
def availPlaysCard : Claim7 := { stood := { row := availPlaysRow, standIns := [], harness := (true, "b91a2d7440654825d5b2adeddaa12c42d343423cd9fe6407874d9161241c26b5"), looks := true }, kinds := [], alts := [], laidByText := true, laidKinds := [.data, .data], laidTests := true, laidLooks := .later }
def AvailPlaysCardSaid : Prop := Claim7.holds Tryd.pinned (.plain (OpenSpec.ofChange availPlaysSpec)) availPlaysCard

/-- THE TIED CARD OF 'norialaw07.AvailNil'. -/
def availNilCard : Claim7 := { stood := { row := availNilRow, standIns := [], harness := (true, "b91a2d7440654825d5b2adeddaa12c42d343423cd9fe6407874d9161241c26b5"), looks := true }, kinds := [], alts := [], laidByText := true, laidKinds := [.data, .data], laidTests := true, laidLooks := .later }
def AvailNilCardSaid : Prop := Claim7.holds Tryd.pinned (.plain (OpenSpec.ofChange availNilSpec)) availNilCard

/-- THE TIED CARD OF 'norialaw01.FaultNests'. -/
def faultNestsCard : Claim7 := { stood := { row := faultNestsRow, standIns := [], harness := (true, "b91a2d7440654825d5b2adeddaa12c42d343423cd9fe6407874d9161241c26b5"), looks := true }, kinds := [], alts := [], laidByText := true, laidKinds := [.data, .data, .data, .handle], laidTests := true, laidLooks := .later }
def FaultNestsCardSaid : Prop := Claim7.holds Tryd.pinned (.plain (OpenSpec.ofChange faultNestsSpec)) faultNestsCard

/-- THE TIED CARD OF 'norialaw01.FaultChains'. -/
def faultChainsCard : Claim7 := { stood := { row := faultChainsRow, standIns := [], harness := (true, "b91a2d7440654825d5b2adeddaa12c42d343423cd9fe6407874d9161241c26b5"), looks := true }, kinds := [], alts := [], laidByText := true, laidKinds := [.data, .data, .data, .handle], laidTests := true, laidLooks := .later }
def FaultChainsCardSaid : Prop := Claim7.holds Tryd.pinned (.plain (OpenSpec.ofChange faultChainsSpec)) faultChainsCard

/-- THE TIED CARD OF 'norialaw01.FaultKinds'. -/
def faultKindsCard : Claim7 := { stood := { row := faultKindsRow, standIns := [], harness := (true, "b91a2d7440654825d5b2adeddaa12c42d343423cd9fe6407874d9161241c26b5"), looks := true }, kinds := [], alts := [], laidByText := true, laidKinds := [.data, .data, .data, .handle], laidTests := true, laidLooks := .later }
def FaultKindsCardSaid : Prop := Claim7.holds Tryd.pinned (.plain (OpenSpec.ofChange faultKindsSpec)) faultKindsCard

/-- THE SECOND FORM's CARD OF 'norialaw02.PowTurns'. -/
def powTurnsUptoCard : Claim7 := { stood := { row := powTurnsUptoRow, standIns := [], harness := (true, "b91a2d7440654825d5b2adeddaa12c42d343423cd9fe6407874d9161241c26b5"), looks := true }, kinds := [], alts := [], laidByText := true, laidKinds := [.data, .data], laidTests := true, laidLooks := .later }
def PowTurnsUptoCardSaid : Prop := Claim7.holds Tryd.pinned (.plain (OpenSpec.upto powTurnsSpec)) powTurnsUptoCard

/-- THE SECOND FORM's CARD OF 'norialaw02.PowPlaces'. -/
def powPlacesUptoCard : Claim7 := { stood := { row := powPlacesUptoRow, standIns := [], harness := (true, "b91a2d7440654825d5b2adeddaa12c42d343423cd9fe6407874d9161241c26b5"), looks := true }, kinds := [], alts := [], laidByText := true, laidKinds := [.data, .data], laidTests := true, laidLooks := .later }
def PowPlacesUptoCardSaid : Prop := Claim7.holds Tryd.pinned (.plain (OpenSpec.upto powPlacesSpec)) powPlacesUptoCard

/-- THE SECOND FORM's CARD OF 'norialaw02.PowRooms'. -/
def powRoomsUptoCard : Claim7 := { stood := { row := powRoomsUptoRow, standIns := [], harness := (true, "b91a2d7440654825d5b2adeddaa12c42d343423cd9fe6407874d9161241c26b5"), looks := true }, kinds := [], alts := [], laidByText := true, laidKinds := [.data, .data], laidTests := true, laidLooks := .later }
def PowRoomsUptoCardSaid : Prop := Claim7.holds Tryd.pinned (.plain (OpenSpec.upto powRoomsSpec)) powRoomsUptoCard

/-- THE SECOND FORM's CARD OF 'norialaw06.SlotsPlays'. -/
def slotsPlaysUptoCard : Claim7 := { stood := { row := slotsPlaysUptoRow, standIns := [], harness := (true, "b91a2d7440654825d5b2adeddaa12c42d343423cd9fe6407874d9161241c26b5"), looks := true }, kinds := [], alts := [], laidByText := true, laidKinds := [.data, .data], laidTests := true, laidLooks := .later }
def SlotsPlaysUptoCardSaid : Prop := Claim7.holds Tryd.pinned (.plain (OpenSpec.upto slotsPlaysSpec)) slotsPlaysUptoCard

/-- THE SECOND FORM's CARD OF 'norialaw02.PowSizes'. -/
def powSizesUptoCard : Claim7 := { stood := { row := powSizesUptoRow, standIns := [], harness := (true, "b91a2d7440654825d5b2adeddaa12c42d343423cd9fe6407874d9161241c26b5"), looks := true }, kinds := [], alts := [], laidByText := true, laidKinds := [.data, .data], laidTests := true, laidLooks := .later }
def PowSizesUptoCardSaid : Prop := Claim7.holds Tryd.pinned (.plain (OpenSpec.upto powSizesSpec)) powSizesUptoCard

/-- THE SECOND FORM's CARD OF 'norialaw06.SlotsSpans'. -/
def slotsSpansUptoCard : Claim7 := { stood := { row := slotsSpansUptoRow, standIns := [], harness := (true, "b91a2d7440654825d5b2adeddaa12c42d343423cd9fe6407874d9161241c26b5"), looks := true }, kinds := [], alts := [], laidByText := true, laidKinds := [.data, .data], laidTests := true, laidLooks := .later }
def SlotsSpansUptoCardSaid : Prop := Claim7.holds Tryd.pinned (.plain (OpenSpec.upto slotsSpansSpec)) slotsSpansUptoCard

/-- THE SECOND FORM's CARD OF 'norialaw06.SlotsWrong'. -/
def slotsWrongUptoCard : Claim7 := { stood := { row := slotsWrongUptoRow, standIns := [], harness := (true, "b91a2d7440654825d5b2adeddaa12c42d343423cd9fe6407874d9161241c26b5"), looks := true }, kinds := [], alts := [], laidByText := true, laidKinds := [.data, .data], laidTests := true, laidLooks := .later }
def SlotsWrongUptoCardSaid : Prop := Claim7.holds Tryd.pinned (.plain (OpenSpec.upto slotsWrongSpec)) slotsWrongUptoCard

/-- THE SECOND FORM's CARD OF 'norialaw07.AvailRounds'. -/
def availRoundsUptoCard : Claim7 := { stood := { row := availRoundsUptoRow, standIns := [], harness := (true, "b91a2d7440654825d5b2adeddaa12c42d343423cd9fe6407874d9161241c26b5"), looks := true }, kinds := [], alts := [], laidByText := true, laidKinds := [.data, .data], laidTests := true, laidLooks := .later }
def AvailRoundsUptoCardSaid : Prop := Claim7.holds Tryd.pinned (.plain (OpenSpec.upto availRoundsSpec)) availRoundsUptoCard

/-- THE SECOND FORM's CARD OF 'norialaw07.AvailPlays'. -/
def availPlaysUptoCard : Claim7 := { stood := { row := availPlaysUptoRow, standIns := [], harness := (true, "b91a2d7440654825d5b2adeddaa12c42d343423cd9fe6407874d9161241c26b5"), looks := true }, kinds := [], alts := [], laidByText := true, laidKinds := [.data, .data], laidTests := true, laidLooks := .later }
def AvailPlaysUptoCardSaid : Prop := Claim7.holds Tryd.pinned (.plain (OpenSpec.upto availPlaysSpec)) availPlaysUptoCard

/-- THE SECOND FORM's CARD OF 'norialaw07.AvailNil'. -/
def availNilUptoCard : Claim7 := { stood := { row := availNilUptoRow, standIns := [], harness := (true, "b91a2d7440654825d5b2adeddaa12c42d343423cd9fe6407874d9161241c26b5"), looks := true }, kinds := [], alts := [], laidByText := true, laidKinds := [.data, .data], laidTests := true, laidLooks := .later }
def AvailNilUptoCardSaid : Prop := Claim7.holds Tryd.pinned (.plain (OpenSpec.upto availNilSpec)) availNilUptoCard

/-- THE SECOND FORM's CARD OF 'norialaw01.FaultNests'. -/
def faultNestsUptoCard : Claim7 := { stood := { row := faultNestsUptoRow, standIns := [], harness := (true, "b91a2d7440654825d5b2adeddaa12c42d343423cd9fe6407874d9161241c26b5"), looks := true }, kinds := [], alts := [], laidByText := true, laidKinds := [.data, .data, .data, .handle], laidTests := true, laidLooks := .later }
def FaultNestsUptoCardSaid : Prop := Claim7.holds Tryd.pinned (.plain (OpenSpec.upto faultNestsSpec)) faultNestsUptoCard

/-- THE SECOND FORM's CARD OF 'norialaw01.FaultChains'. -/
def faultChainsUptoCard : Claim7 := { stood := { row := faultChainsUptoRow, standIns := [], harness := (true, "b91a2d7440654825d5b2adeddaa12c42d343423cd9fe6407874d9161241c26b5"), looks := true }, kinds := [], alts := [], laidByText := true, laidKinds := [.data, .data, .data, .handle], laidTests := true, laidLooks := .later }
def FaultChainsUptoCardSaid : Prop := Claim7.holds Tryd.pinned (.plain (OpenSpec.upto faultChainsSpec)) faultChainsUptoCard

/-- THE SECOND FORM's CARD OF 'norialaw01.FaultKinds'. -/
def faultKindsUptoCard : Claim7 := { stood := { row := faultKindsUptoRow, standIns := [], harness := (true, "b91a2d7440654825d5b2adeddaa12c42d343423cd9fe6407874d9161241c26b5"), looks := true }, kinds := [], alts := [], laidByText := true, laidKinds := [.data, .data, .data, .handle], laidTests := true, laidLooks := .later }
def FaultKindsUptoCardSaid : Prop := Claim7.holds Tryd.pinned (.plain (OpenSpec.upto faultKindsSpec)) faultKindsUptoCard
end Rows
end Go.Proofs.YteicmmgpkhmlbaaDoor
