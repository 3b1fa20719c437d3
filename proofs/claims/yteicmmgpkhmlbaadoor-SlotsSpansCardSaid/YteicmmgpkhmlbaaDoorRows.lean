/-
  NARROWER THAN 'FOR EVERY INPUT', by the rows' own cells (each row's printed sentence says how): PowTurns: laid · PowPlaces: laid · PowRooms: laid · SlotsPlays: laid · PowSizes: laid · SlotsSpans: laid · SlotsWrong: laid · AvailRounds: laid · AvailPlays: laid · AvailNil: laid · FaultNests: laid · FaultChains: laid · FaultKinds: laid.
  DERIVED. THE GIVEN ROWS OF THIS SEAT. 13 by the template 'for every input the law returns true; each argument reads behind the call as it read before'; 0 by the template 'total and deterministic' (their statements: YteicmmgpkhmlbaaDoorTotals.lean).
  GIVEN WITH THE SEED: the statements are not yours to turn. If you find one false, say at which input.
  Laid BY PROGRAM, IN A SANDBOX (cutbox-rows.mjs): the forced cells as the released guide's own fill.sh prints them over the translation 4a759c2b09e41652… (all of the seat's roots in one cut). By AI agents, Wed Nov 11 2026. No macro, syntax, notation, axiom, sorry.
-/
import Derived.Test.YteicmmgpkhmlbaaDoorChecked
import GoSem.Claim
import GoSem.ClaimJoined
import GoSem.ClaimMapViews
import Derived.JoinedTies
import Derived.KernelRfl
namespace Go.Proofs.YteicmmgpkhmlbaaDoor
/- THE CELL 'sum', in the pinned program and in every row, IS THE sha256 OF THE DUMP (.gsa) THAT YteicmmgpkhmlbaaDoorProg.lean LOADS. Nothing in Lean hashes anything: it is a label: what it is worth is what the hold of that sum in a sandbox is worth. -/
noncomputable def Tryd.pinned : Pinned := { name := "yteicmmgpkhmlbaadoor", sum := "4a759c2b09e41652327d427c722d853b4a59fe90264bccf5bb2c78e377511269", checked := Tryd.checked }
namespace Rows
def none {H : Type} : Left H := { results := [], args := [] }

/- WHAT THE LISTED PACKAGE-LEVEL VARIABLES READ AS WHEN THE CALL BEGINS. Each datum BY PROGRAM (the guide's laid-datum.mjs) off the statement by which the dump's own 'gosem.cut.vars' lays the variable. In a bare row this is a premise. The card (YteicmmgpkhmlbaaDoorCards.lean) ties it to the program's text. -/
def laid_math_bits_deBruijn32tab {H : Type} : DataW H := .agg [.lit (.int .u8 0), .lit (.int .u8 1), .lit (.int .u8 28), .lit (.int .u8 2), .lit (.int .u8 29), .lit (.int .u8 14), .lit (.int .u8 24), .lit (.int .u8 3), .lit (.int .u8 30), .lit (.int .u8 22), .lit (.int .u8 20), .lit (.int .u8 15), .lit (.int .u8 25), .lit (.int .u8 17), .lit (.int .u8 4), .lit (.int .u8 8), .lit (.int .u8 31), .lit (.int .u8 27), .lit (.int .u8 13), .lit (.int .u8 23), .lit (.int .u8 21), .lit (.int .u8 19), .lit (.int .u8 16), .lit (.int .u8 7), .lit (.int .u8 26), .lit (.int .u8 12), .lit (.int .u8 18), .lit (.int .u8 6), .lit (.int .u8 11), .lit (.int .u8 5), .lit (.int .u8 10), .lit (.int .u8 9)]
def laid_math_bits_deBruijn64tab {H : Type} : DataW H := .agg [.lit (.int .u8 0), .lit (.int .u8 1), .lit (.int .u8 56), .lit (.int .u8 2), .lit (.int .u8 57), .lit (.int .u8 49), .lit (.int .u8 28), .lit (.int .u8 3), .lit (.int .u8 61), .lit (.int .u8 58), .lit (.int .u8 42), .lit (.int .u8 50), .lit (.int .u8 38), .lit (.int .u8 29), .lit (.int .u8 17), .lit (.int .u8 4), .lit (.int .u8 62), .lit (.int .u8 47), .lit (.int .u8 59), .lit (.int .u8 36), .lit (.int .u8 45), .lit (.int .u8 43), .lit (.int .u8 51), .lit (.int .u8 22), .lit (.int .u8 53), .lit (.int .u8 39), .lit (.int .u8 33), .lit (.int .u8 30), .lit (.int .u8 24), .lit (.int .u8 18), .lit (.int .u8 12), .lit (.int .u8 5), .lit (.int .u8 63), .lit (.int .u8 55), .lit (.int .u8 48), .lit (.int .u8 27), .lit (.int .u8 60), .lit (.int .u8 41), .lit (.int .u8 37), .lit (.int .u8 16), .lit (.int .u8 46), .lit (.int .u8 35), .lit (.int .u8 44), .lit (.int .u8 21), .lit (.int .u8 52), .lit (.int .u8 32), .lit (.int .u8 23), .lit (.int .u8 11), .lit (.int .u8 54), .lit (.int .u8 26), .lit (.int .u8 40), .lit (.int .u8 15), .lit (.int .u8 34), .lit (.int .u8 20), .lit (.int .u8 31), .lit (.int .u8 10), .lit (.int .u8 25), .lit (.int .u8 14), .lit (.int .u8 19), .lit (.int .u8 9), .lit (.int .u8 13), .lit (.int .u8 8), .lit (.int .u8 7), .lit (.int .u8 6)]
def laid_internal_strconv_uint64pow10 {H : Type} : DataW H := .agg [.lit (.int .u64 1), .lit (.int .u64 10), .lit (.int .u64 100), .lit (.int .u64 1000), .lit (.int .u64 10000), .lit (.int .u64 100000), .lit (.int .u64 1000000), .lit (.int .u64 10000000), .lit (.int .u64 100000000), .lit (.int .u64 1000000000), .lit (.int .u64 10000000000), .lit (.int .u64 100000000000), .lit (.int .u64 1000000000000), .lit (.int .u64 10000000000000), .lit (.int .u64 100000000000000), .lit (.int .u64 1000000000000000), .lit (.int .u64 10000000000000000), .lit (.int .u64 100000000000000000), .lit (.int .u64 1000000000000000000), .lit (.int .u64 10000000000000000000)]
def laid_errors_errorType {H : Type} : DataW H := .iface "internal/reflectlite.rtype" (.agg [.ptr (.lit (.string [101, 114, 114, 111, 114]))])

/-- 'norialaw02.PowTurns': WHATEVER THE INPUT: true; the input reads as it did. -/
def powTurnsSpec : ChangeSpec := { name := "powTurns", fn := fun _ => fun
  | [d1, d2, d3] => { results := [.lit (.bool true)], args := [d1, d2, d3] }
  | _ => none }
def powTurnsRow : OpenClaim := { program := "yteicmmgpkhmlbaadoor", sum := "4a759c2b09e41652327d427c722d853b4a59fe90264bccf5bb2c78e377511269", func := "noria/norialaw02.PowTurns", spec := "powTurns", named := ["math/bits.deBruijn32tab", "math/bits.deBruijn64tab"], apart := false, laid := [("math/bits.deBruijn32tab", laid_math_bits_deBruijn32tab), ("math/bits.deBruijn64tab", laid_math_bits_deBruijn64tab)] }
def PowTurnsSaid : Prop := powTurnsRow.holds Tryd.pinned (OpenSpec.ofChange powTurnsSpec)

/-- ITS FALSE NEIGHBOUR: 'it returns false'. Refute it at one input. -/
def powTurnsWrong : ChangeSpec := { name := "powTurns", fn := fun _ => fun
  | [d1, d2, d3] => { results := [.lit (.bool false)], args := [d1, d2, d3] }
  | _ => none }
def PowTurnsWrongFalsely : Prop := powTurnsRow.holds Tryd.pinned (OpenSpec.ofChange powTurnsWrong)

/-- 'norialaw02.PowPlaces': WHATEVER THE INPUT: true; the input reads as it did. -/
def powPlacesSpec : ChangeSpec := { name := "powPlaces", fn := fun _ => fun
  | [d1, d2] => { results := [.lit (.bool true)], args := [d1, d2] }
  | _ => none }
def powPlacesRow : OpenClaim := { program := "yteicmmgpkhmlbaadoor", sum := "4a759c2b09e41652327d427c722d853b4a59fe90264bccf5bb2c78e377511269", func := "noria/norialaw02.PowPlaces", spec := "powPlaces", inPlace := ["internal/reflectlite.TypeOf"], unfollowed := true, recurses := true, named := ["math/bits.deBruijn32tab", "math/bits.deBruijn64tab"], apart := false, laid := [("math/bits.deBruijn32tab", laid_math_bits_deBruijn32tab), ("math/bits.deBruijn64tab", laid_math_bits_deBruijn64tab)] }
def PowPlacesSaid : Prop := powPlacesRow.holds Tryd.pinned (OpenSpec.ofChange powPlacesSpec)

/-- ITS FALSE NEIGHBOUR: 'it returns false'. Refute it at one input. -/
def powPlacesWrong : ChangeSpec := { name := "powPlaces", fn := fun _ => fun
  | [d1, d2] => { results := [.lit (.bool false)], args := [d1, d2] }
  | _ => none }
def PowPlacesWrongFalsely : Prop := powPlacesRow.holds Tryd.pinned (OpenSpec.ofChange powPlacesWrong)

/-- 'norialaw02.PowRooms': WHATEVER THE INPUT: true; the input reads as it did. -/
def powRoomsSpec : ChangeSpec := { name := "powRooms", fn := fun _ => fun
  | [d1, d2, d3, d4] => { results := [.lit (.bool true)], args := [d1, d2, d3, d4] }
  | _ => none }
def powRoomsRow : OpenClaim := { program := "yteicmmgpkhmlbaadoor", sum := "4a759c2b09e41652327d427c722d853b4a59fe90264bccf5bb2c78e377511269", func := "noria/norialaw02.PowRooms", spec := "powRooms", inPlace := ["internal/reflectlite.TypeOf"], unfollowed := true, recurses := true, named := ["math/bits.deBruijn32tab", "math/bits.deBruijn64tab"], apart := false, laid := [("math/bits.deBruijn32tab", laid_math_bits_deBruijn32tab), ("math/bits.deBruijn64tab", laid_math_bits_deBruijn64tab)] }
def PowRoomsSaid : Prop := powRoomsRow.holds Tryd.pinned (OpenSpec.ofChange powRoomsSpec)

/-- ITS FALSE NEIGHBOUR: 'it returns false'. Refute it at one input. -/
def powRoomsWrong : ChangeSpec := { name := "powRooms", fn := fun _ => fun
  | [d1, d2, d3, d4] => { results := [.lit (.bool false)], args := [d1, d2, d3, d4] }
  | _ => none }
def PowRoomsWrongFalsely : Prop := powRoomsRow.holds Tryd.pinned (OpenSpec.ofChange powRoomsWrong)

/-- 'norialaw06.SlotsPlays': WHATEVER THE INPUT: true; the input reads as it did. -/
def slotsPlaysSpec : ChangeSpec := { name := "slotsPlays", fn := fun _ => fun
  | [d1, d2, d3] => { results := [.lit (.bool true)], args := [d1, d2, d3] }
  | _ => none }
def slotsPlaysRow : OpenClaim := { program := "yteicmmgpkhmlbaadoor", sum := "4a759c2b09e41652327d427c722d853b4a59fe90264bccf5bb2c78e377511269", func := "noria/norialaw06.SlotsPlays", spec := "slotsPlays", inPlace := ["internal/reflectlite.TypeOf"], unfollowed := true, recurses := true, named := ["math/bits.deBruijn32tab", "math/bits.deBruijn64tab"], apart := false, laid := [("math/bits.deBruijn32tab", laid_math_bits_deBruijn32tab), ("math/bits.deBruijn64tab", laid_math_bits_deBruijn64tab)] }
def SlotsPlaysSaid : Prop := slotsPlaysRow.holds Tryd.pinned (OpenSpec.ofChange slotsPlaysSpec)

/-- ITS FALSE NEIGHBOUR: 'it returns false'. Refute it at one input. -/
def slotsPlaysWrong : ChangeSpec := { name := "slotsPlays", fn := fun _ => fun
  | [d1, d2, d3] => { results := [.lit (.bool false)], args := [d1, d2, d3] }
  | _ => none }
def SlotsPlaysWrongFalsely : Prop := slotsPlaysRow.holds Tryd.pinned (OpenSpec.ofChange slotsPlaysWrong)

/-- 'norialaw02.PowSizes': WHATEVER THE INPUT: true; the input reads as it did. -/
def powSizesSpec : ChangeSpec := { name := "powSizes", fn := fun _ => fun
  | [d] => { results := [.lit (.bool true)], args := [d] }
  | _ => none }
def powSizesRow : OpenClaim := { program := "yteicmmgpkhmlbaadoor", sum := "4a759c2b09e41652327d427c722d853b4a59fe90264bccf5bb2c78e377511269", func := "noria/norialaw02.PowSizes", spec := "powSizes", inPlace := ["internal/reflectlite.TypeOf"], unfollowed := true, recurses := true, named := ["math/bits.deBruijn32tab", "math/bits.deBruijn64tab"], apart := false, laid := [("math/bits.deBruijn32tab", laid_math_bits_deBruijn32tab), ("math/bits.deBruijn64tab", laid_math_bits_deBruijn64tab)] }
def PowSizesSaid : Prop := powSizesRow.holds Tryd.pinned (OpenSpec.ofChange powSizesSpec)

/-- ITS FALSE NEIGHBOUR: 'it returns false'. Refute it at one input. -/
def powSizesWrong : ChangeSpec := { name := "powSizes", fn := fun _ => fun
  | [d] => { results := [.lit (.bool false)], args := [d] }
  | _ => none }
def PowSizesWrongFalsely : Prop := powSizesRow.holds Tryd.pinned (OpenSpec.ofChange powSizesWrong)

/-- 'norialaw06.SlotsSpans': WHATEVER THE INPUT: true; the input reads as it did. -/
def slotsSpansSpec : ChangeSpec := { name := "slotsSpans", fn := fun _ => fun
  | [d1, d2, d3, d4, d5] => { results := [.lit (.bool true)], args := [d1, d2, d3, d4, d5] }
  | _ => none }
def slotsSpansRow : OpenClaim := { program := "yteicmmgpkhmlbaadoor", sum := "4a759c2b09e41652327d427c722d853b4a59fe90264bccf5bb2c78e377511269", func := "noria/norialaw06.SlotsSpans", spec := "slotsSpans", inPlace := ["internal/reflectlite.TypeOf"], unfollowed := true, recurses := true, named := ["math/bits.deBruijn32tab", "math/bits.deBruijn64tab"], apart := false, laid := [("math/bits.deBruijn32tab", laid_math_bits_deBruijn32tab), ("math/bits.deBruijn64tab", laid_math_bits_deBruijn64tab)] }
def SlotsSpansSaid : Prop := slotsSpansRow.holds Tryd.pinned (OpenSpec.ofChange slotsSpansSpec)

/-- ITS FALSE NEIGHBOUR: 'it returns false'. Refute it at one input. -/
def slotsSpansWrong : ChangeSpec := { name := "slotsSpans", fn := fun _ => fun
  | [d1, d2, d3, d4, d5] => { results := [.lit (.bool false)], args := [d1, d2, d3, d4, d5] }
  | _ => none }
def SlotsSpansWrongFalsely : Prop := slotsSpansRow.holds Tryd.pinned (OpenSpec.ofChange slotsSpansWrong)

/-- 'norialaw06.SlotsWrong': WHATEVER THE INPUT: true; the input reads as it did. -/
def slotsWrongSpec : ChangeSpec := { name := "slotsWrong", fn := fun _ => fun
  | [d1, d2] => { results := [.lit (.bool true)], args := [d1, d2] }
  | _ => none }
def slotsWrongRow : OpenClaim := { program := "yteicmmgpkhmlbaadoor", sum := "4a759c2b09e41652327d427c722d853b4a59fe90264bccf5bb2c78e377511269", func := "noria/norialaw06.SlotsWrong", spec := "slotsWrong", inPlace := ["internal/reflectlite.TypeOf"], unfollowed := true, recurses := true, named := ["math/bits.deBruijn32tab", "math/bits.deBruijn64tab"], apart := false, laid := [("math/bits.deBruijn32tab", laid_math_bits_deBruijn32tab), ("math/bits.deBruijn64tab", laid_math_bits_deBruijn64tab)] }
def SlotsWrongSaid : Prop := slotsWrongRow.holds Tryd.pinned (OpenSpec.ofChange slotsWrongSpec)

/-- ITS FALSE NEIGHBOUR: 'it returns false'. Refute it at one input. -/
def slotsWrongWrong : ChangeSpec := { name := "slotsWrong", fn := fun _ => fun
  | [d1, d2] => { results := [.lit (.bool false)], args := [d1, d2] }
  | _ => none }
def SlotsWrongWrongFalsely : Prop := slotsWrongRow.holds Tryd.pinned (OpenSpec.ofChange slotsWrongWrong)

/-- 'norialaw07.AvailRounds': WHATEVER THE INPUT: true; the input reads as it did. -/
def availRoundsSpec : ChangeSpec := { name := "availRounds", fn := fun _ => fun
  | [d1, d2, d3] => { results := [.lit (.bool true)], args := [d1, d2, d3] }
  | _ => none }
def availRoundsRow : OpenClaim := { program := "yteicmmgpkhmlbaadoor", sum := "4a759c2b09e41652327d427c722d853b4a59fe90264bccf5bb2c78e377511269", func := "noria/norialaw07.AvailRounds", spec := "availRounds", named := ["math/bits.deBruijn32tab", "math/bits.deBruijn64tab"], apart := false, laid := [("math/bits.deBruijn32tab", laid_math_bits_deBruijn32tab), ("math/bits.deBruijn64tab", laid_math_bits_deBruijn64tab)] }
def AvailRoundsSaid : Prop := availRoundsRow.holds Tryd.pinned (OpenSpec.ofChange availRoundsSpec)

/-- ITS FALSE NEIGHBOUR: 'it returns false'. Refute it at one input. -/
def availRoundsWrong : ChangeSpec := { name := "availRounds", fn := fun _ => fun
  | [d1, d2, d3] => { results := [.lit (.bool false)], args := [d1, d2, d3] }
  | _ => none }
def AvailRoundsWrongFalsely : Prop := availRoundsRow.holds Tryd.pinned (OpenSpec.ofChange availRoundsWrong)

/-- 'norialaw07.AvailPlays': WHATEVER THE INPUT: true; the input reads as it did. -/
def availPlaysSpec : ChangeSpec := { name := "availPlays", fn := fun _ => fun
  | [d1, d2, d3, d4, d5] => { results := [.lit (.bool true)], args := [d1, d2, d3, d4, d5] }
  | _ => none }
def availPlaysRow : OpenClaim := { program := "yteicmmgpkhmlbaadoor", sum := "4a759c2b09e41652327d427c722d853b4a59fe90264bccf5bb2c78e377511269", func := "noria/norialaw07.AvailPlays", spec := "availPlays", inPlace := ["internal/reflectlite.TypeOf"], unfollowed := true, recurses := true, named := ["math/bits.deBruijn32tab", "math/bits.deBruijn64tab"], apart := false, laid := [("math/bits.deBruijn32tab", laid_math_bits_deBruijn32tab), ("math/bits.deBruijn64tab", laid_math_bits_deBruijn64tab)] }
def AvailPlaysSaid : Prop := availPlaysRow.holds Tryd.pinned (OpenSpec.ofChange availPlaysSpec)

/-- ITS FALSE NEIGHBOUR: 'it returns false'. Refute it at one input. -/
def availPlaysWrong : ChangeSpec := { name := "availPlays", fn := fun _ => fun
  | [d1, d2, d3, d4, d5] => { results := [.lit (.bool false)], args := [d1, d2, d3, d4, d5] }
  | _ => none }
def AvailPlaysWrongFalsely : Prop := availPlaysRow.holds Tryd.pinned (OpenSpec.ofChange availPlaysWrong)

/-- 'norialaw07.AvailNil': WHATEVER THE INPUT: true; the input reads as it did. -/
def availNilSpec : ChangeSpec := { name := "availNil", fn := fun _ => fun
  | [d] => { results := [.lit (.bool true)], args := [d] }
  | _ => none }
def availNilRow : OpenClaim := { program := "yteicmmgpkhmlbaadoor", sum := "4a759c2b09e41652327d427c722d853b4a59fe90264bccf5bb2c78e377511269", func := "noria/norialaw07.AvailNil", spec := "availNil", inPlace := ["internal/reflectlite.TypeOf"], unfollowed := true, recurses := true, named := ["math/bits.deBruijn32tab", "math/bits.deBruijn64tab"], apart := false, laid := [("math/bits.deBruijn32tab", laid_math_bits_deBruijn32tab), ("math/bits.deBruijn64tab", laid_math_bits_deBruijn64tab)] }
def AvailNilSaid : Prop := availNilRow.holds Tryd.pinned (OpenSpec.ofChange availNilSpec)

/-- ITS FALSE NEIGHBOUR: 'it returns false'. Refute it at one input. -/
def availNilWrong : ChangeSpec := { name := "availNil", fn := fun _ => fun
  | [d] => { results := [.lit (.bool false)], args := [d] }
  | _ => none }
def AvailNilWrongFalsely : Prop := availNilRow.holds Tryd.pinned (OpenSpec.ofChange availNilWrong)

/-- 'norialaw01.FaultNests': WHATEVER THE INPUT: true; the input reads as it did. -/
def faultNestsSpec : ChangeSpec := { name := "faultNests", fn := fun _ => fun
  | [d1, d2, d3, d4] => { results := [.lit (.bool true)], args := [d1, d2, d3, d4] }
  | _ => none }
def faultNestsRow : OpenClaim := { program := "yteicmmgpkhmlbaadoor", sum := "4a759c2b09e41652327d427c722d853b4a59fe90264bccf5bb2c78e377511269", func := "noria/norialaw01.FaultNests", spec := "faultNests", inPlace := ["internal/reflectlite.ValueOf", "(internal/reflectlite.Value).Type", "(internal/reflectlite.Value).IsNil", "internal/reflectlite.TypeOf", "(internal/reflectlite.Value).Elem", "(internal/reflectlite.Value).Set"], unfollowed := true, recurses := true, named := ["errors.errorType", "internal/strconv.uint64pow10", "math/bits.deBruijn32tab", "math/bits.deBruijn64tab"], apart := false, laid := [("math/bits.deBruijn32tab", laid_math_bits_deBruijn32tab), ("math/bits.deBruijn64tab", laid_math_bits_deBruijn64tab), ("internal/strconv.uint64pow10", laid_internal_strconv_uint64pow10), ("errors.errorType", laid_errors_errorType)] }
def FaultNestsSaid : Prop := faultNestsRow.holds Tryd.pinned (OpenSpec.ofChange faultNestsSpec)

/-- ITS FALSE NEIGHBOUR: 'it returns false'. Refute it at one input. -/
def faultNestsWrong : ChangeSpec := { name := "faultNests", fn := fun _ => fun
  | [d1, d2, d3, d4] => { results := [.lit (.bool false)], args := [d1, d2, d3, d4] }
  | _ => none }
def FaultNestsWrongFalsely : Prop := faultNestsRow.holds Tryd.pinned (OpenSpec.ofChange faultNestsWrong)

/-- 'norialaw01.FaultChains': WHATEVER THE INPUT: true; the input reads as it did. -/
def faultChainsSpec : ChangeSpec := { name := "faultChains", fn := fun _ => fun
  | [d1, d2] => { results := [.lit (.bool true)], args := [d1, d2] }
  | _ => none }
def faultChainsRow : OpenClaim := { program := "yteicmmgpkhmlbaadoor", sum := "4a759c2b09e41652327d427c722d853b4a59fe90264bccf5bb2c78e377511269", func := "noria/norialaw01.FaultChains", spec := "faultChains", inPlace := ["internal/reflectlite.ValueOf", "(internal/reflectlite.Value).Type", "(internal/reflectlite.Value).IsNil", "internal/reflectlite.TypeOf", "(internal/reflectlite.Value).Elem", "(internal/reflectlite.Value).Set"], unfollowed := true, recurses := true, named := ["errors.errorType", "internal/strconv.uint64pow10", "math/bits.deBruijn32tab", "math/bits.deBruijn64tab"], apart := false, laid := [("math/bits.deBruijn32tab", laid_math_bits_deBruijn32tab), ("math/bits.deBruijn64tab", laid_math_bits_deBruijn64tab), ("internal/strconv.uint64pow10", laid_internal_strconv_uint64pow10), ("errors.errorType", laid_errors_errorType)] }
def FaultChainsSaid : Prop := faultChainsRow.holds Tryd.pinned (OpenSpec.ofChange faultChainsSpec)

/-- ITS FALSE NEIGHBOUR: 'it returns false'. Refute it at one input. -/
def faultChainsWrong : ChangeSpec := { name := "faultChains", fn := fun _ => fun
  | [d1, d2] => { results := [.lit (.bool false)], args := [d1, d2] }
  | _ => none }
def FaultChainsWrongFalsely : Prop := faultChainsRow.holds Tryd.pinned (OpenSpec.ofChange faultChainsWrong)

/-- 'norialaw01.FaultKinds': WHATEVER THE INPUT: true; the input reads as it did. -/
def faultKindsSpec : ChangeSpec := { name := "faultKinds", fn := fun _ => fun
  | [d1, d2, d3] => { results := [.lit (.bool true)], args := [d1, d2, d3] }
  | _ => none }
def faultKindsRow : OpenClaim := { program := "yteicmmgpkhmlbaadoor", sum := "4a759c2b09e41652327d427c722d853b4a59fe90264bccf5bb2c78e377511269", func := "noria/norialaw01.FaultKinds", spec := "faultKinds", inPlace := ["internal/reflectlite.ValueOf", "(internal/reflectlite.Value).Type", "(internal/reflectlite.Value).IsNil", "internal/reflectlite.TypeOf", "(internal/reflectlite.Value).Elem", "(internal/reflectlite.Value).Set"], unfollowed := true, recurses := true, named := ["errors.errorType", "internal/strconv.uint64pow10", "math/bits.deBruijn32tab", "math/bits.deBruijn64tab"], apart := false, laid := [("math/bits.deBruijn32tab", laid_math_bits_deBruijn32tab), ("math/bits.deBruijn64tab", laid_math_bits_deBruijn64tab), ("internal/strconv.uint64pow10", laid_internal_strconv_uint64pow10), ("errors.errorType", laid_errors_errorType)] }
def FaultKindsSaid : Prop := faultKindsRow.holds Tryd.pinned (OpenSpec.ofChange faultKindsSpec)

/-- ITS FALSE NEIGHBOUR: 'it returns false'. Refute it at one input. -/
def faultKindsWrong : ChangeSpec := { name := "faultKinds", fn := fun _ => fun
  | [d1, d2, d3] => { results := [.lit (.bool false)], args := [d1, d2, d3] }
  | _ => none }
def FaultKindsWrongFalsely : Prop := faultKindsRow.holds Tryd.pinned (OpenSpec.ofChange faultKindsWrong)

/- THE SECOND FORM. 'bulk': how many values and letters a reading holds, each counted each time it is reached (what is shared counts as often as it is met; a slice's spare places count too). A statement '..UptoSaid' is the law's where the arguments, and the package variables that the reading takes, are together of bulk at most 1048576: NARROWER than '..Said'. Prove '..Said' where nothing that the law and all that it calls make is longer than what came in: it says more and counts as full. Else prove '..UptoSaid'. A law counts once. -/
mutual
def uptoBulk {H : Type} : DataW H → Nat
  | .lit (.string bytes) => bytes.length + 1
  | .lit _ => 1
  | .nil => 1
  | .ptr d => uptoBulk d + 1
  | .slice elems spare => uptoBulkAll elems + uptoBulkAll spare + 1
  | .agg parts => uptoBulkAll parts + 1
  | .iface _ d => uptoBulk d + 1
  | .map entries => uptoBulkEntries entries + 1
  | .held _ => 1
def uptoBulkAll {H : Type} : List (DataW H) → Nat
  | [] => 0
  | d :: r => uptoBulk d + uptoBulkAll r
def uptoBulkEntries {H : Type} : List (Lit × DataW H) → Nat
  | [] => 0
  | x :: r => uptoBulkEntry x + uptoBulkEntries r
def uptoBulkEntry {H : Type} : Lit × DataW H → Nat
  | (.string bytes, d) => bytes.length + uptoBulk d + 1
  | (_, d) => uptoBulk d + 1
 end
def uptoSmall : (H : Type) → List (DataW H) → Bool := fun _ ds => decide (uptoBulkAll ds ≤ 1048576)
def OpenSpec.upto (s : _root_.Go.ChangeSpec) : _root_.Go.OpenSpec := { _root_.Go.OpenSpec.ofChange s with cond := some uptoSmall }

/-- 'norialaw02.PowTurns', WHERE WHAT IT READS IS OF BULK AT MOST 1048576: true; the input reads as it did. -/
def powTurnsUptoRow : OpenClaim := { program := "yteicmmgpkhmlbaadoor", sum := "4a759c2b09e41652327d427c722d853b4a59fe90264bccf5bb2c78e377511269", func := "noria/norialaw02.PowTurns", spec := "powTurns", named := ["math/bits.deBruijn32tab", "math/bits.deBruijn64tab"], apart := false, laid := [("math/bits.deBruijn32tab", laid_math_bits_deBruijn32tab), ("math/bits.deBruijn64tab", laid_math_bits_deBruijn64tab)], narrowed := true }
def PowTurnsUptoSaid : Prop := powTurnsUptoRow.holds Tryd.pinned (OpenSpec.upto powTurnsSpec)

/-- 'norialaw02.PowPlaces', WHERE WHAT IT READS IS OF BULK AT MOST 1048576: true; the input reads as it did. -/
def powPlacesUptoRow : OpenClaim := { program := "yteicmmgpkhmlbaadoor", sum := "4a759c2b09e41652327d427c722d853b4a59fe90264bccf5bb2c78e377511269", func := "noria/norialaw02.PowPlaces", spec := "powPlaces", inPlace := ["internal/reflectlite.TypeOf"], unfollowed := true, recurses := true, named := ["math/bits.deBruijn32tab", "math/bits.deBruijn64tab"], apart := false, laid := [("math/bits.deBruijn32tab", laid_math_bits_deBruijn32tab), ("math/bits.deBruijn64tab", laid_math_bits_deBruijn64tab)], narrowed := true }
def PowPlacesUptoSaid : Prop := powPlacesUptoRow.holds Tryd.pinned (OpenSpec.upto powPlacesSpec)

/-- 'norialaw02.PowRooms', WHERE WHAT IT READS IS OF BULK AT MOST 1048576: true; the input reads as it did. -/
def powRoomsUptoRow : OpenClaim := { program := "yteicmmgpkhmlbaadoor", sum := "4a759c2b09e41652327d427c722d853b4a59fe90264bccf5bb2c78e377511269", func := "noria/norialaw02.PowRooms", spec := "powRooms", inPlace := ["internal/reflectlite.TypeOf"], unfollowed := true, recurses := true, named := ["math/bits.deBruijn32tab", "math/bits.deBruijn64tab"], apart := false, laid := [("math/bits.deBruijn32tab", laid_math_bits_deBruijn32tab), ("math/bits.deBruijn64tab", laid_math_bits_deBruijn64tab)], narrowed := true }
def PowRoomsUptoSaid : Prop := powRoomsUptoRow.holds Tryd.pinned (OpenSpec.upto powRoomsSpec)

/-- 'norialaw06.SlotsPlays', WHERE WHAT IT READS IS OF BULK AT MOST 1048576: true; the input reads as it did. -/
def slotsPlaysUptoRow : OpenClaim := { program := "yteicmmgpkhmlbaadoor", sum := "4a759c2b09e41652327d427c722d853b4a59fe90264bccf5bb2c78e377511269", func := "noria/norialaw06.SlotsPlays", spec := "slotsPlays", inPlace := ["internal/reflectlite.TypeOf"], unfollowed := true, recurses := true, named := ["math/bits.deBruijn32tab", "math/bits.deBruijn64tab"], apart := false, laid := [("math/bits.deBruijn32tab", laid_math_bits_deBruijn32tab), ("math/bits.deBruijn64tab", laid_math_bits_deBruijn64tab)], narrowed := true }
def SlotsPlaysUptoSaid : Prop := slotsPlaysUptoRow.holds Tryd.pinned (OpenSpec.upto slotsPlaysSpec)

/-- 'norialaw02.PowSizes', WHERE WHAT IT READS IS OF BULK AT MOST 1048576: true; the input reads as it did. -/
def powSizesUptoRow : OpenClaim := { program := "yteicmmgpkhmlbaadoor", sum := "4a759c2b09e41652327d427c722d853b4a59fe90264bccf5bb2c78e377511269", func := "noria/norialaw02.PowSizes", spec := "powSizes", inPlace := ["internal/reflectlite.TypeOf"], unfollowed := true, recurses := true, named := ["math/bits.deBruijn32tab", "math/bits.deBruijn64tab"], apart := false, laid := [("math/bits.deBruijn32tab", laid_math_bits_deBruijn32tab), ("math/bits.deBruijn64tab", laid_math_bits_deBruijn64tab)], narrowed := true }
def PowSizesUptoSaid : Prop := powSizesUptoRow.holds Tryd.pinned (OpenSpec.upto powSizesSpec)

/-- 'norialaw06.SlotsSpans', WHERE WHAT IT READS IS OF BULK AT MOST 1048576: true; the input reads as it did. -/
def slotsSpansUptoRow : OpenClaim := { program := "yteicmmgpkhmlbaadoor", sum := "4a759c2b09e41652327d427c722d853b4a59fe90264bccf5bb2c78e377511269", func := "noria/norialaw06.SlotsSpans", spec := "slotsSpans", inPlace := ["internal/reflectlite.TypeOf"], unfollowed := true, recurses := true, named := ["math/bits.deBruijn32tab", "math/bits.deBruijn64tab"], apart := false, laid := [("math/bits.deBruijn32tab", laid_math_bits_deBruijn32tab), ("math/bits.deBruijn64tab", laid_math_bits_deBruijn64tab)], narrowed := true }
def SlotsSpansUptoSaid : Prop := slotsSpansUptoRow.holds Tryd.pinned (OpenSpec.upto slotsSpansSpec)

/-- 'norialaw06.SlotsWrong', WHERE WHAT IT READS IS OF BULK AT MOST 1048576: true; the input reads as it did. -/
def slotsWrongUptoRow : OpenClaim := { program := "yteicmmgpkhmlbaadoor", sum := "4a759c2b09e41652327d427c722d853b4a59fe90264bccf5bb2c78e377511269", func := "noria/norialaw06.SlotsWrong", spec := "slotsWrong", inPlace := ["internal/reflectlite.TypeOf"], unfollowed := true, recurses := true, named := ["math/bits.deBruijn32tab", "math/bits.deBruijn64tab"], apart := false, laid := [("math/bits.deBruijn32tab", laid_math_bits_deBruijn32tab), ("math/bits.deBruijn64tab", laid_math_bits_deBruijn64tab)], narrowed := true }
def SlotsWrongUptoSaid : Prop := slotsWrongUptoRow.holds Tryd.pinned (OpenSpec.upto slotsWrongSpec)

/-- 'norialaw07.AvailRounds', WHERE WHAT IT READS IS OF BULK AT MOST 1048576: true; the input reads as it did. -/
def availRoundsUptoRow : OpenClaim := { program := "yteicmmgpkhmlbaadoor", sum := "4a759c2b09e41652327d427c722d853b4a59fe90264bccf5bb2c78e377511269", func := "noria/norialaw07.AvailRounds", spec := "availRounds", named := ["math/bits.deBruijn32tab", "math/bits.deBruijn64tab"], apart := false, laid := [("math/bits.deBruijn32tab", laid_math_bits_deBruijn32tab), ("math/bits.deBruijn64tab", laid_math_bits_deBruijn64tab)], narrowed := true }
def AvailRoundsUptoSaid : Prop := availRoundsUptoRow.holds Tryd.pinned (OpenSpec.upto availRoundsSpec)

/-- 'norialaw07.AvailPlays', WHERE WHAT IT READS IS OF BULK AT MOST 1048576: true; the input reads as it did. -/
def availPlaysUptoRow : OpenClaim := { program := "yteicmmgpkhmlbaadoor", sum := "4a759c2b09e41652327d427c722d853b4a59fe90264bccf5bb2c78e377511269", func := "noria/norialaw07.AvailPlays", spec := "availPlays", inPlace := ["internal/reflectlite.TypeOf"], unfollowed := true, recurses := true, named := ["math/bits.deBruijn32tab", "math/bits.deBruijn64tab"], apart := false, laid := [("math/bits.deBruijn32tab", laid_math_bits_deBruijn32tab), ("math/bits.deBruijn64tab", laid_math_bits_deBruijn64tab)], narrowed := true }
def AvailPlaysUptoSaid : Prop := availPlaysUptoRow.holds Tryd.pinned (OpenSpec.upto availPlaysSpec)

/-- 'norialaw07.AvailNil', WHERE WHAT IT READS IS OF BULK AT MOST 1048576: true; the input reads as it did. -/
def availNilUptoRow : OpenClaim := { program := "yteicmmgpkhmlbaadoor", sum := "4a759c2b09e41652327d427c722d853b4a59fe90264bccf5bb2c78e377511269", func := "noria/norialaw07.AvailNil", spec := "availNil", inPlace := ["internal/reflectlite.TypeOf"], unfollowed := true, recurses := true, named := ["math/bits.deBruijn32tab", "math/bits.deBruijn64tab"], apart := false, laid := [("math/bits.deBruijn32tab", laid_math_bits_deBruijn32tab), ("math/bits.deBruijn64tab", laid_math_bits_deBruijn64tab)], narrowed := true }
def AvailNilUptoSaid : Prop := availNilUptoRow.holds Tryd.pinned (OpenSpec.upto availNilSpec)

/-- 'norialaw01.FaultNests', WHERE WHAT IT READS IS OF BULK AT MOST 1048576: true; the input reads as it did. -/
def faultNestsUptoRow : OpenClaim := { program := "yteicmmgpkhmlbaadoor", sum := "4a759c2b09e41652327d427c722d853b4a59fe90264bccf5bb2c78e377511269", func := "noria/norialaw01.FaultNests", spec := "faultNests", inPlace := ["internal/reflectlite.ValueOf", "(internal/reflectlite.Value).Type", "(internal/reflectlite.Value).IsNil", "internal/reflectlite.TypeOf", "(internal/reflectlite.Value).Elem", "(internal/reflectlite.Value).Set"], unfollowed := true, recurses := true, named := ["errors.errorType", "internal/strconv.uint64pow10", "math/bits.deBruijn32tab", "math/bits.deBruijn64tab"], apart := false, laid := [("math/bits.deBruijn32tab", laid_math_bits_deBruijn32tab), ("math/bits.deBruijn64tab", laid_math_bits_deBruijn64tab), ("internal/strconv.uint64pow10", laid_internal_strconv_uint64pow10), ("errors.errorType", laid_errors_errorType)], narrowed := true }
def FaultNestsUptoSaid : Prop := faultNestsUptoRow.holds Tryd.pinned (OpenSpec.upto faultNestsSpec)

/-- 'norialaw01.FaultChains', WHERE WHAT IT READS IS OF BULK AT MOST 1048576: true; the input reads as it did. -/
def faultChainsUptoRow : OpenClaim := { program := "yteicmmgpkhmlbaadoor", sum := "4a759c2b09e41652327d427c722d853b4a59fe90264bccf5bb2c78e377511269", func := "noria/norialaw01.FaultChains", spec := "faultChains", inPlace := ["internal/reflectlite.ValueOf", "(internal/reflectlite.Value).Type", "(internal/reflectlite.Value).IsNil", "internal/reflectlite.TypeOf", "(internal/reflectlite.Value).Elem", "(internal/reflectlite.Value).Set"], unfollowed := true, recurses := true, named := ["errors.errorType", "internal/strconv.uint64pow10", "math/bits.deBruijn32tab", "math/bits.deBruijn64tab"], apart := false, laid := [("math/bits.deBruijn32tab", laid_math_bits_deBruijn32tab), ("math/bits.deBruijn64tab", laid_math_bits_deBruijn64tab), ("internal/strconv.uint64pow10", laid_internal_strconv_uint64pow10), ("errors.errorType", laid_errors_errorType)], narrowed := true }
def FaultChainsUptoSaid : Prop := faultChainsUptoRow.holds Tryd.pinned (OpenSpec.upto faultChainsSpec)

/-- 'norialaw01.FaultKinds', WHERE WHAT IT READS IS OF BULK AT MOST 1048576: true; the input reads as it did. -/
def faultKindsUptoRow : OpenClaim := { program := "yteicmmgpkhmlbaadoor", sum := "4a759c2b09e41652327d427c722d853b4a59fe90264bccf5bb2c78e377511269", func := "noria/norialaw01.FaultKinds", spec := "faultKinds", inPlace := ["internal/reflectlite.ValueOf", "(internal/reflectlite.Value).Type", "(internal/reflectlite.Value).IsNil", "internal/reflectlite.TypeOf", "(internal/reflectlite.Value).Elem", "(internal/reflectlite.Value).Set"], unfollowed := true, recurses := true, named := ["errors.errorType", "internal/strconv.uint64pow10", "math/bits.deBruijn32tab", "math/bits.deBruijn64tab"], apart := false, laid := [("math/bits.deBruijn32tab", laid_math_bits_deBruijn32tab), ("math/bits.deBruijn64tab", laid_math_bits_deBruijn64tab), ("internal/strconv.uint64pow10", laid_internal_strconv_uint64pow10), ("errors.errorType", laid_errors_errorType)], narrowed := true }
def FaultKindsUptoSaid : Prop := faultKindsUptoRow.holds Tryd.pinned (OpenSpec.upto faultKindsSpec)

end Rows
end Go.Proofs.YteicmmgpkhmlbaaDoor
