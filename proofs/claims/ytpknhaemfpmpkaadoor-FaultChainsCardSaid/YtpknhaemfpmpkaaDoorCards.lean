/-
  DERIVED. GIVEN WITH THE SEED: THE CARDS: each row of YtpknhaemfpmpkaaDoorRows.lean that lists a variable, with what it lists TIED to the program's text (the seventh form; the later family's looks); each row that meets fmt, with fmt's text TOLD by the authors' own Lean function (tested against real Go, not proved from fmt's source: count such statements apart). THE CARD IS WHAT COUNTS. Prove the row's statement (the work); the ties are given (YtpknhaemfpmpkaaDoorTie.lean); close each card by the builder's one call (the guide's Derived/Test/ToyasCard.lean, 'card_holds'). Laid BY PROGRAM, IN A SANDBOX (cutbox-door.mjs). By AI agents, Wed Nov 11 2026. No macro, syntax, notation, axiom, sorry.
-/
import Derived.Test.YtpknhaemfpmpkaaDoorRows
import GoSem.ClaimSeven
namespace Go.Proofs.YtpknhaemfpmpkaaDoor
namespace Rows

/-- THE TIED CARD OF 'norialaw01.FaultNests'. -/
def faultNestsCard : Claim7 := { stood := { row := faultNestsRow, standIns := [], harness := (true, "880daae35b64534a902dee33873e2c0edbad10bce2ba4415a7b8dbad0e4dd911"), looks := true }, kinds := [], alts := [], laidByText := true, laidKinds := [.data, .data, .data, .handle], laidTests := true, laidLooks := .later }
def FaultNestsCardSaid : Prop := Claim7.holds Tryd.pinned (.plain (OpenSpec.ofChange faultNestsSpec)) faultNestsCard

/-- THE TIED CARD OF 'norialaw01.FaultChains'. -/
def faultChainsCard : Claim7 := { stood := { row := faultChainsRow, standIns := [], harness := (true, "880daae35b64534a902dee33873e2c0edbad10bce2ba4415a7b8dbad0e4dd911"), looks := true }, kinds := [], alts := [], laidByText := true, laidKinds := [.data, .data, .data, .handle], laidTests := true, laidLooks := .later }
def FaultChainsCardSaid : Prop := Claim7.holds Tryd.pinned (.plain (OpenSpec.ofChange faultChainsSpec)) faultChainsCard

/-- THE TIED CARD OF 'norialaw01.FaultKinds'. -/
def faultKindsCard : Claim7 := { stood := { row := faultKindsRow, standIns := [], harness := (true, "880daae35b64534a902dee33873e2c0edbad10bce2ba4415a7b8dbad0e4dd911"), looks := true }, kinds := [], alts := [], laidByText := true, laidKinds := [.data, .data, .data, .handle], laidTests := true, laidLooks := .later }
def FaultKindsCardSaid : Prop := Claim7.holds Tryd.pinned (.plain (OpenSpec.ofChange faultKindsSpec)) faultKindsCard

/-- THE SECOND FORM's CARD OF 'norialaw01.FaultNests'. -/
def faultNestsUptoCard : Claim7 := { stood := { row := faultNestsUptoRow, standIns := [], harness := (true, "880daae35b64534a902dee33873e2c0edbad10bce2ba4415a7b8dbad0e4dd911"), looks := true }, kinds := [], alts := [], laidByText := true, laidKinds := [.data, .data, .data, .handle], laidTests := true, laidLooks := .later }
def FaultNestsUptoCardSaid : Prop := Claim7.holds Tryd.pinned (.plain (OpenSpec.upto faultNestsSpec)) faultNestsUptoCard

/-- THE SECOND FORM's CARD OF 'norialaw01.FaultChains'. -/
def faultChainsUptoCard : Claim7 := { stood := { row := faultChainsUptoRow, standIns := [], harness := (true, "880daae35b64534a902dee33873e2c0edbad10bce2ba4415a7b8dbad0e4dd911"), looks := true }, kinds := [], alts := [], laidByText := true, laidKinds := [.data, .data, .data, .handle], laidTests := true, laidLooks := .later }
def FaultChainsUptoCardSaid : Prop := Claim7.holds Tryd.pinned (.plain (OpenSpec.upto faultChainsSpec)) faultChainsUptoCard

/-- THE SECOND FORM's CARD OF 'norialaw01.FaultKinds'. -/
def faultKindsUptoCard : Claim7 := { stood := { row := faultKindsUptoRow, standIns := [], harness := (true, "880daae35b64534a902dee33873e2c0edbad10bce2ba4415a7b8dbad0e4dd911"), looks := true }, kinds := [], alts := [], laidByText := true, laidKinds := [.data, .data, .data, .handle], laidTests := true, laidLooks := .later }
def FaultKindsUptoCardSaid : Prop := Claim7.holds Tryd.pinned (.plain (OpenSpec.upto faultKindsSpec)) faultKindsUptoCard
end Rows
end Go.Proofs.YtpknhaemfpmpkaaDoor
