/-
  DERIVED. GIVEN WITH THE SEED: THE CARDS: each row of YtoifknfmamcimaaDoorRows.lean that lists a variable, with what it lists TIED to the program's text (the seventh form; the later family's looks); each row that meets fmt, with fmt's text TOLD by the authors' own Lean function (tested against real Go, not proved from fmt's source: count such statements apart). THE CARD IS WHAT COUNTS. Prove the row's statement (the work); the ties are given (YtoifknfmamcimaaDoorTie.lean); close each card by the builder's one call (the guide's Derived/Test/ToyasCard.lean, 'card_holds'). Laid BY PROGRAM, IN A SANDBOX (cutbox-door.mjs). By AI agents, Wed Nov 11 2026. No macro, syntax, notation, axiom, sorry.
-/
import Derived.Test.YtoifknfmamcimaaDoorRows
import GoSem.ClaimSeven
namespace Go.Proofs.YtoifknfmamcimaaDoor
namespace Rows

/-- THE TIED CARD OF 'norialaw12.BarrierRises'. -/
def barrierRisesCard : Claim7 := { stood := { row := barrierRisesRow, standIns := [], harness := (true, "948825995cb008e12a2b38287ad0b9f61944f8d3d442dc2b593d7480764454ee"), looks := true }, kinds := [], alts := [], laidByText := true, laidKinds := [.data, .data], laidTests := true, laidLooks := .later }
def BarrierRisesCardSaid : Prop := Claim7.holds Tryd.pinned (.plain (OpenSpec.ofChange barrierRisesSpec)) barrierRisesCard

/-- THE TIED CARD OF 'norialaw10.MultiOrders'. -/
def multiOrdersCard : Claim7 := { stood := { row := multiOrdersRow, standIns := [], harness := (true, "948825995cb008e12a2b38287ad0b9f61944f8d3d442dc2b593d7480764454ee"), looks := true }, kinds := [], alts := [], laidByText := true, laidKinds := [.data, .data], laidTests := true, laidLooks := .later }
def MultiOrdersCardSaid : Prop := Claim7.holds Tryd.pinned (.plain (OpenSpec.ofChange multiOrdersSpec)) multiOrdersCard

/-- THE TIED CARD OF 'norialaw12.BarrierLooks'. -/
def barrierLooksCard : Claim7 := { stood := { row := barrierLooksRow, standIns := [], harness := (true, "948825995cb008e12a2b38287ad0b9f61944f8d3d442dc2b593d7480764454ee"), looks := true }, kinds := [], alts := [], laidByText := true, laidKinds := [.data, .data], laidTests := true, laidLooks := .later }
def BarrierLooksCardSaid : Prop := Claim7.holds Tryd.pinned (.plain (OpenSpec.ofChange barrierLooksSpec)) barrierLooksCard

/-- THE TIED CARD OF 'norialaw12.BarrierNew'. -/
def barrierNewCard : Claim7 := { stood := { row := barrierNewRow, standIns := [], harness := (true, "948825995cb008e12a2b38287ad0b9f61944f8d3d442dc2b593d7480764454ee"), looks := true }, kinds := [], alts := [], laidByText := true, laidKinds := [.data, .data], laidTests := true, laidLooks := .later }
def BarrierNewCardSaid : Prop := Claim7.holds Tryd.pinned (.plain (OpenSpec.ofChange barrierNewSpec)) barrierNewCard

/-- THE TIED CARD OF 'norialaw12.BarrierProbes'. -/
def barrierProbesCard : Claim7 := { stood := { row := barrierProbesRow, standIns := [], harness := (true, "948825995cb008e12a2b38287ad0b9f61944f8d3d442dc2b593d7480764454ee"), looks := true }, kinds := [], alts := [], laidByText := true, laidKinds := [.data, .data], laidTests := true, laidLooks := .later }
def BarrierProbesCardSaid : Prop := Claim7.holds Tryd.pinned (.plain (OpenSpec.ofChange barrierProbesSpec)) barrierProbesCard

/-- THE TIED CARD OF 'norialaw10.MultiShares'. -/
def multiSharesCard : Claim7 := { stood := { row := multiSharesRow, standIns := [], harness := (true, "948825995cb008e12a2b38287ad0b9f61944f8d3d442dc2b593d7480764454ee"), looks := true }, kinds := [], alts := [], laidByText := true, laidKinds := [.data, .data], laidTests := true, laidLooks := .later }
def MultiSharesCardSaid : Prop := Claim7.holds Tryd.pinned (.plain (OpenSpec.ofChange multiSharesSpec)) multiSharesCard

/-- THE TIED CARD OF 'norialaw10.MultiLikeSingle'. -/
def multiLikeSingleCard : Claim7 := { stood := { row := multiLikeSingleRow, standIns := [], harness := (true, "948825995cb008e12a2b38287ad0b9f61944f8d3d442dc2b593d7480764454ee"), looks := true }, kinds := [], alts := [], laidByText := true, laidKinds := [.data, .data], laidTests := true, laidLooks := .later }
def MultiLikeSingleCardSaid : Prop := Claim7.holds Tryd.pinned (.plain (OpenSpec.ofChange multiLikeSingleSpec)) multiLikeSingleCard

/-- THE TIED CARD OF 'norialaw10.MultiTries'. -/
def multiTriesCard : Claim7 := { stood := { row := multiTriesRow, standIns := [], harness := (true, "948825995cb008e12a2b38287ad0b9f61944f8d3d442dc2b593d7480764454ee"), looks := true }, kinds := [], alts := [], laidByText := true, laidKinds := [.data, .data], laidTests := true, laidLooks := .later }
def MultiTriesCardSaid : Prop := Claim7.holds Tryd.pinned (.plain (OpenSpec.ofChange multiTriesSpec)) multiTriesCard

/-- THE TIED CARD OF 'norialaw10.MultiWrong'. -/
def multiWrongCard : Claim7 := { stood := { row := multiWrongRow, standIns := [], harness := (true, "948825995cb008e12a2b38287ad0b9f61944f8d3d442dc2b593d7480764454ee"), looks := true }, kinds := [], alts := [], laidByText := true, laidKinds := [.data, .data], laidTests := true, laidLooks := .later }
def MultiWrongCardSaid : Prop := Claim7.holds Tryd.pinned (.plain (OpenSpec.ofChange multiWrongSpec)) multiWrongCard

/-- THE TIED CARD OF 'norialaw10.MultiPlays'. -/
def multiPlaysCard : Claim7 := { stood := { row := multiPlaysRow, standIns := [], harness := (true, "948825995cb008e12a2b38287ad0b9f61944f8d3d442dc2b593d7480764454ee"), looks := true }, kinds := [], alts := [], laidByText := true, laidKinds := [.data, .data], laidTests := true, laidLooks := .later }
def MultiPlaysCardSaid : Prop := Claim7.holds Tryd.pinned (.plain (OpenSpec.ofChange multiPlaysSpec)) multiPlaysCard

/-- THE SECOND FORM's CARD OF 'norialaw12.BarrierRises'. -/
def barrierRisesUptoCard : Claim7 := { stood := { row := barrierRisesUptoRow, standIns := [], harness := (true, "948825995cb008e12a2b38287ad0b9f61944f8d3d442dc2b593d7480764454ee"), looks := true }, kinds := [], alts := [], laidByText := true, laidKinds := [.data, .data], laidTests := true, laidLooks := .later }
def BarrierRisesUptoCardSaid : Prop := Claim7.holds Tryd.pinned (.plain (OpenSpec.upto barrierRisesSpec)) barrierRisesUptoCard

/-- THE SECOND FORM's CARD OF 'norialaw10.MultiOrders'. -/
def multiOrdersUptoCard : Claim7 := { stood := { row := multiOrdersUptoRow, standIns := [], harness := (true, "948825995cb008e12a2b38287ad0b9f61944f8d3d442dc2b593d7480764454ee"), looks := true }, kinds := [], alts := [], laidByText := true, laidKinds := [.data, .data], laidTests := true, laidLooks := .later }
def MultiOrdersUptoCardSaid : Prop := Claim7.holds Tryd.pinned (.plain (OpenSpec.upto multiOrdersSpec)) multiOrdersUptoCard

/-- THE SECOND FORM's CARD OF 'norialaw12.BarrierLooks'. -/
def barrierLooksUptoCard : Claim7 := { stood := { row := barrierLooksUptoRow, standIns := [], harness := (true, "948825995cb008e12a2b38287ad0b9f61944f8d3d442dc2b593d7480764454ee"), looks := true }, kinds := [], alts := [], laidByText := true, laidKinds := [.data, .data], laidTests := true, laidLooks := .later }
def BarrierLooksUptoCardSaid : Prop := Claim7.holds Tryd.pinned (.plain (OpenSpec.upto barrierLooksSpec)) barrierLooksUptoCard

/-- THE SECOND FORM's CARD OF 'norialaw12.BarrierNew'. -/
def barrierNewUptoCard : Claim7 := { stood := { row := barrierNewUptoRow, standIns := [], harness := (true, "948825995cb008e12a2b38287ad0b9f61944f8d3d442dc2b593d7480764454ee"), looks := true }, kinds := [], alts := [], laidByText := true, laidKinds := [.data, .data], laidTests := true, laidLooks := .later }
def BarrierNewUptoCardSaid : Prop := Claim7.holds Tryd.pinned (.plain (OpenSpec.upto barrierNewSpec)) barrierNewUptoCard

/-- THE SECOND FORM's CARD OF 'norialaw12.BarrierProbes'. -/
def barrierProbesUptoCard : Claim7 := { stood := { row := barrierProbesUptoRow, standIns := [], harness := (true, "948825995cb008e12a2b38287ad0b9f61944f8d3d442dc2b593d7480764454ee"), looks := true }, kinds := [], alts := [], laidByText := true, laidKinds := [.data, .data], laidTests := true, laidLooks := .later }
def BarrierProbesUptoCardSaid : Prop := Claim7.holds Tryd.pinned (.plain (OpenSpec.upto barrierProbesSpec)) barrierProbesUptoCard

/-- THE SECOND FORM's CARD OF 'norialaw10.MultiShares'. -/
def multiSharesUptoCard : Claim7 := { stood := { row := multiSharesUptoRow, standIns := [], harness := (true, "948825995cb008e12a2b38287ad0b9f61944f8d3d442dc2b593d7480764454ee"), looks := true }, kinds := [], alts := [], laidByText := true, laidKinds := [.data, .data], laidTests := true, laidLooks := .later }
def MultiSharesUptoCardSaid : Prop := Claim7.holds Tryd.pinned (.plain (OpenSpec.upto multiSharesSpec)) multiSharesUptoCard

/-- THE SECOND FORM's CARD OF 'norialaw10.MultiLikeSingle'. -/
def multiLikeSingleUptoCard : Claim7 := { stood := { row := multiLikeSingleUptoRow, standIns := [], harness := (true, "948825995cb008e12a2b38287ad0b9f61944f8d3d442dc2b593d7480764454ee"), looks := true }, kinds := [], alts := [], laidByText := true, laidKinds := [.data, .data], laidTests := true, laidLooks := .later }
def MultiLikeSingleUptoCardSaid : Prop := Claim7.holds Tryd.pinned (.plain (OpenSpec.upto multiLikeSingleSpec)) multiLikeSingleUptoCard

/-- THE SECOND FORM's CARD OF 'norialaw10.MultiTries'. -/
def multiTriesUptoCard : Claim7 := { stood := { row := multiTriesUptoRow, standIns := [], harness := (true, "948825995cb008e12a2b38287ad0b9f61944f8d3d442dc2b593d7480764454ee"), looks := true }, kinds := [], alts := [], laidByText := true, laidKinds := [.data, .data], laidTests := true, laidLooks := .later }
def MultiTriesUptoCardSaid : Prop := Claim7.holds Tryd.pinned (.plain (OpenSpec.upto multiTriesSpec)) multiTriesUptoCard

/-- THE SECOND FORM's CARD OF 'norialaw10.MultiWrong'. -/
def multiWrongUptoCard : Claim7 := { stood := { row := multiWrongUptoRow, standIns := [], harness := (true, "948825995cb008e12a2b38287ad0b9f61944f8d3d442dc2b593d7480764454ee"), looks := true }, kinds := [], alts := [], laidByText := true, laidKinds := [.data, .data], laidTests := true, laidLooks := .later }
def MultiWrongUptoCardSaid : Prop := Claim7.holds Tryd.pinned (.plain (OpenSpec.upto multiWrongSpec)) multiWrongUptoCard

/-- THE SECOND FORM's CARD OF 'norialaw10.MultiPlays'. -/
def multiPlaysUptoCard : Claim7 := { stood := { row := multiPlaysUptoRow, standIns := [], harness := (true, "948825995cb008e12a2b38287ad0b9f61944f8d3d442dc2b593d7480764454ee"), looks := true }, kinds := [], alts := [], laidByText := true, laidKinds := [.data, .data], laidTests := true, laidLooks := .later }
def MultiPlaysUptoCardSaid : Prop := Claim7.holds Tryd.pinned (.plain (OpenSpec.upto multiPlaysSpec)) multiPlaysUptoCard
end Rows
end Go.Proofs.YtoifknfmamcimaaDoor
