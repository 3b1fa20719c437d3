/-
  NARROWER THAN 'FOR EVERY INPUT', by the rows' own cells (each row's printed sentence says how): BarrierRises: laid · MultiOrders: laid · BarrierLooks: laid · BarrierNew: laid · BarrierProbes: laid · MultiShares: laid · MultiLikeSingle: laid · MultiTries: laid · MultiWrong: laid · MultiPlays: laid.
  DERIVED. THE GIVEN ROWS OF THIS SEAT. 10 by the template 'for every input the law returns true; each argument reads behind the call as it read before'; 0 by the template 'total and deterministic' (their statements: YtoifknfmamcimaaDoorTotals.lean).
  GIVEN WITH THE SEED: the statements are not yours to turn. If you find one false, say at which input.
  Laid BY PROGRAM, IN A SANDBOX (cutbox-rows.mjs): the forced cells as the released guide's own fill.sh prints them over the translation dc5de9394c2cc91e… (all of the seat's roots in one cut). By AI agents, Wed Nov 11 2026. No macro, syntax, notation, axiom, sorry.
-/
import Derived.Test.YtoifknfmamcimaaDoorChecked
import GoSem.Claim
import GoSem.ClaimJoined
import GoSem.ClaimMapViews
import Derived.JoinedTies
import Derived.KernelRfl
namespace Go.Proofs.YtoifknfmamcimaaDoor
/- THE CELL 'sum', in the pinned program and in every row, IS THE sha256 OF THE DUMP (.gsa) THAT YtoifknfmamcimaaDoorProg.lean LOADS. Nothing in Lean hashes anything: it is a label: what it is worth is what the hold of that sum in a sandbox is worth. -/
noncomputable def Tryd.pinned : Pinned := { name := "ytoifknfmamcimaadoor", sum := "dc5de9394c2cc91e8b4bae936f43cde846952ba3173f608503637b315591140f", checked := Tryd.checked }
namespace Rows
def none {H : Type} : Left H := { results := [], args := [] }

/- WHAT THE LISTED PACKAGE-LEVEL VARIABLES READ AS WHEN THE CALL BEGINS. Each datum BY PROGRAM (the guide's laid-datum.mjs) off the statement by which the dump's own 'gosem.cut.vars' lays the variable. In a bare row this is a premise. The card (YtoifknfmamcimaaDoorCards.lean) ties it to the program's text. -/
def laid_math_bits_deBruijn32tab {H : Type} : DataW H := .agg [.lit (.int .u8 0), .lit (.int .u8 1), .lit (.int .u8 28), .lit (.int .u8 2), .lit (.int .u8 29), .lit (.int .u8 14), .lit (.int .u8 24), .lit (.int .u8 3), .lit (.int .u8 30), .lit (.int .u8 22), .lit (.int .u8 20), .lit (.int .u8 15), .lit (.int .u8 25), .lit (.int .u8 17), .lit (.int .u8 4), .lit (.int .u8 8), .lit (.int .u8 31), .lit (.int .u8 27), .lit (.int .u8 13), .lit (.int .u8 23), .lit (.int .u8 21), .lit (.int .u8 19), .lit (.int .u8 16), .lit (.int .u8 7), .lit (.int .u8 26), .lit (.int .u8 12), .lit (.int .u8 18), .lit (.int .u8 6), .lit (.int .u8 11), .lit (.int .u8 5), .lit (.int .u8 10), .lit (.int .u8 9)]
def laid_math_bits_deBruijn64tab {H : Type} : DataW H := .agg [.lit (.int .u8 0), .lit (.int .u8 1), .lit (.int .u8 56), .lit (.int .u8 2), .lit (.int .u8 57), .lit (.int .u8 49), .lit (.int .u8 28), .lit (.int .u8 3), .lit (.int .u8 61), .lit (.int .u8 58), .lit (.int .u8 42), .lit (.int .u8 50), .lit (.int .u8 38), .lit (.int .u8 29), .lit (.int .u8 17), .lit (.int .u8 4), .lit (.int .u8 62), .lit (.int .u8 47), .lit (.int .u8 59), .lit (.int .u8 36), .lit (.int .u8 45), .lit (.int .u8 43), .lit (.int .u8 51), .lit (.int .u8 22), .lit (.int .u8 53), .lit (.int .u8 39), .lit (.int .u8 33), .lit (.int .u8 30), .lit (.int .u8 24), .lit (.int .u8 18), .lit (.int .u8 12), .lit (.int .u8 5), .lit (.int .u8 63), .lit (.int .u8 55), .lit (.int .u8 48), .lit (.int .u8 27), .lit (.int .u8 60), .lit (.int .u8 41), .lit (.int .u8 37), .lit (.int .u8 16), .lit (.int .u8 46), .lit (.int .u8 35), .lit (.int .u8 44), .lit (.int .u8 21), .lit (.int .u8 52), .lit (.int .u8 32), .lit (.int .u8 23), .lit (.int .u8 11), .lit (.int .u8 54), .lit (.int .u8 26), .lit (.int .u8 40), .lit (.int .u8 15), .lit (.int .u8 34), .lit (.int .u8 20), .lit (.int .u8 31), .lit (.int .u8 10), .lit (.int .u8 25), .lit (.int .u8 14), .lit (.int .u8 19), .lit (.int .u8 9), .lit (.int .u8 13), .lit (.int .u8 8), .lit (.int .u8 7), .lit (.int .u8 6)]

/-- 'norialaw12.BarrierRises': WHATEVER THE INPUT: true; the input reads as it did. -/
def barrierRisesSpec : ChangeSpec := { name := "barrierRises", fn := fun _ => fun
  | [d1, d2, d3] => { results := [.lit (.bool true)], args := [d1, d2, d3] }
  | _ => none }
def barrierRisesRow : OpenClaim := { program := "ytoifknfmamcimaadoor", sum := "dc5de9394c2cc91e8b4bae936f43cde846952ba3173f608503637b315591140f", func := "noria/norialaw12.BarrierRises", spec := "barrierRises", named := ["math/bits.deBruijn32tab", "math/bits.deBruijn64tab"], apart := false, laid := [("math/bits.deBruijn32tab", laid_math_bits_deBruijn32tab), ("math/bits.deBruijn64tab", laid_math_bits_deBruijn64tab)] }
def BarrierRisesSaid : Prop := barrierRisesRow.holds Tryd.pinned (OpenSpec.ofChange barrierRisesSpec)

/-- ITS FALSE NEIGHBOUR: 'it returns false'. Refute it at one input. -/
def barrierRisesWrong : ChangeSpec := { name := "barrierRises", fn := fun _ => fun
  | [d1, d2, d3] => { results := [.lit (.bool false)], args := [d1, d2, d3] }
  | _ => none }
def BarrierRisesWrongFalsely : Prop := barrierRisesRow.holds Tryd.pinned (OpenSpec.ofChange barrierRisesWrong)

/-- 'norialaw10.MultiOrders': WHATEVER THE INPUT: true; the input reads as it did. -/
def multiOrdersSpec : ChangeSpec := { name := "multiOrders", fn := fun _ => fun
  | [d1, d2] => { results := [.lit (.bool true)], args := [d1, d2] }
  | _ => none }
def multiOrdersRow : OpenClaim := { program := "ytoifknfmamcimaadoor", sum := "dc5de9394c2cc91e8b4bae936f43cde846952ba3173f608503637b315591140f", func := "noria/norialaw10.MultiOrders", spec := "multiOrders", named := ["math/bits.deBruijn32tab", "math/bits.deBruijn64tab"], apart := false, laid := [("math/bits.deBruijn32tab", laid_math_bits_deBruijn32tab), ("math/bits.deBruijn64tab", laid_math_bits_deBruijn64tab)] }
def MultiOrdersSaid : Prop := multiOrdersRow.holds Tryd.pinned (OpenSpec.ofChange multiOrdersSpec)

/-- ITS FALSE NEIGHBOUR: 'it returns false'. Refute it at one input. -/
def multiOrdersWrong : ChangeSpec := { name := "multiOrders", fn := fun _ => fun
  | [d1, d2] => { results := [.lit (.bool false)], args := [d1, d2] }
  | _ => none }
def MultiOrdersWrongFalsely : Prop := multiOrdersRow.holds Tryd.pinned (OpenSpec.ofChange multiOrdersWrong)

/-- 'norialaw12.BarrierLooks': WHATEVER THE INPUT: true; the input reads as it did. -/
def barrierLooksSpec : ChangeSpec := { name := "barrierLooks", fn := fun _ => fun
  | [d1, d2] => { results := [.lit (.bool true)], args := [d1, d2] }
  | _ => none }
def barrierLooksRow : OpenClaim := { program := "ytoifknfmamcimaadoor", sum := "dc5de9394c2cc91e8b4bae936f43cde846952ba3173f608503637b315591140f", func := "noria/norialaw12.BarrierLooks", spec := "barrierLooks", inPlace := ["internal/reflectlite.TypeOf"], unfollowed := true, recurses := true, named := ["math/bits.deBruijn32tab", "math/bits.deBruijn64tab"], apart := false, laid := [("math/bits.deBruijn32tab", laid_math_bits_deBruijn32tab), ("math/bits.deBruijn64tab", laid_math_bits_deBruijn64tab)] }
def BarrierLooksSaid : Prop := barrierLooksRow.holds Tryd.pinned (OpenSpec.ofChange barrierLooksSpec)

/-- ITS FALSE NEIGHBOUR: 'it returns false'. Refute it at one input. -/
def barrierLooksWrong : ChangeSpec := { name := "barrierLooks", fn := fun _ => fun
  | [d1, d2] => { results := [.lit (.bool false)], args := [d1, d2] }
  | _ => none }
def BarrierLooksWrongFalsely : Prop := barrierLooksRow.holds Tryd.pinned (OpenSpec.ofChange barrierLooksWrong)

/-- 'norialaw12.BarrierNew': WHATEVER THE INPUT: true; the input reads as it did. -/
def barrierNewSpec : ChangeSpec := { name := "barrierNew", fn := fun _ => fun
  | [d1, d2] => { results := [.lit (.bool true)], args := [d1, d2] }
  | _ => none }
def barrierNewRow : OpenClaim := { program := "ytoifknfmamcimaadoor", sum := "dc5de9394c2cc91e8b4bae936f43cde846952ba3173f608503637b315591140f", func := "noria/norialaw12.BarrierNew", spec := "barrierNew", inPlace := ["internal/reflectlite.TypeOf"], unfollowed := true, recurses := true, named := ["math/bits.deBruijn32tab", "math/bits.deBruijn64tab"], apart := false, laid := [("math/bits.deBruijn32tab", laid_math_bits_deBruijn32tab), ("math/bits.deBruijn64tab", laid_math_bits_deBruijn64tab)] }
def BarrierNewSaid : Prop := barrierNewRow.holds Tryd.pinned (OpenSpec.ofChange barrierNewSpec)

/-- ITS FALSE NEIGHBOUR: 'it returns false'. Refute it at one input. -/
def barrierNewWrong : ChangeSpec := { name := "barrierNew", fn := fun _ => fun
  | [d1, d2] => { results := [.lit (.bool false)], args := [d1, d2] }
  | _ => none }
def BarrierNewWrongFalsely : Prop := barrierNewRow.holds Tryd.pinned (OpenSpec.ofChange barrierNewWrong)

/-- 'norialaw12.BarrierProbes': WHATEVER THE INPUT: true; the input reads as it did. -/
def barrierProbesSpec : ChangeSpec := { name := "barrierProbes", fn := fun _ => fun
  | [d1, d2] => { results := [.lit (.bool true)], args := [d1, d2] }
  | _ => none }
def barrierProbesRow : OpenClaim := { program := "ytoifknfmamcimaadoor", sum := "dc5de9394c2cc91e8b4bae936f43cde846952ba3173f608503637b315591140f", func := "noria/norialaw12.BarrierProbes", spec := "barrierProbes", inPlace := ["internal/reflectlite.TypeOf"], unfollowed := true, recurses := true, named := ["math/bits.deBruijn32tab", "math/bits.deBruijn64tab"], apart := false, laid := [("math/bits.deBruijn32tab", laid_math_bits_deBruijn32tab), ("math/bits.deBruijn64tab", laid_math_bits_deBruijn64tab)] }
def BarrierProbesSaid : Prop := barrierProbesRow.holds Tryd.pinned (OpenSpec.ofChange barrierProbesSpec)

/-- ITS FALSE NEIGHBOUR: 'it returns false'. Refute it at one input. -/
def barrierProbesWrong : ChangeSpec := { name := "barrierProbes", fn := fun _ => fun
  | [d1, d2] => { results := [.lit (.bool false)], args := [d1, d2] }
  | _ => none }
def BarrierProbesWrongFalsely : Prop := barrierProbesRow.holds Tryd.pinned (OpenSpec.ofChange barrierProbesWrong)

/-- 'norialaw10.MultiShares': WHATEVER THE INPUT: true; the input reads as it did. -/
def multiSharesSpec : ChangeSpec := { name := "multiShares", fn := fun _ => fun
  | [d1, d2] => { results := [.lit (.bool true)], args := [d1, d2] }
  | _ => none }
def multiSharesRow : OpenClaim := { program := "ytoifknfmamcimaadoor", sum := "dc5de9394c2cc91e8b4bae936f43cde846952ba3173f608503637b315591140f", func := "noria/norialaw10.MultiShares", spec := "multiShares", named := ["math/bits.deBruijn32tab", "math/bits.deBruijn64tab"], apart := false, laid := [("math/bits.deBruijn32tab", laid_math_bits_deBruijn32tab), ("math/bits.deBruijn64tab", laid_math_bits_deBruijn64tab)] }
def MultiSharesSaid : Prop := multiSharesRow.holds Tryd.pinned (OpenSpec.ofChange multiSharesSpec)

/-- ITS FALSE NEIGHBOUR: 'it returns false'. Refute it at one input. -/
def multiSharesWrong : ChangeSpec := { name := "multiShares", fn := fun _ => fun
  | [d1, d2] => { results := [.lit (.bool false)], args := [d1, d2] }
  | _ => none }
def MultiSharesWrongFalsely : Prop := multiSharesRow.holds Tryd.pinned (OpenSpec.ofChange multiSharesWrong)

/-- 'norialaw10.MultiLikeSingle': WHATEVER THE INPUT: true; the input reads as it did. -/
def multiLikeSingleSpec : ChangeSpec := { name := "multiLikeSingle", fn := fun _ => fun
  | [d1, d2, d3] => { results := [.lit (.bool true)], args := [d1, d2, d3] }
  | _ => none }
def multiLikeSingleRow : OpenClaim := { program := "ytoifknfmamcimaadoor", sum := "dc5de9394c2cc91e8b4bae936f43cde846952ba3173f608503637b315591140f", func := "noria/norialaw10.MultiLikeSingle", spec := "multiLikeSingle", inPlace := ["internal/reflectlite.TypeOf"], unfollowed := true, recurses := true, named := ["math/bits.deBruijn32tab", "math/bits.deBruijn64tab"], apart := false, laid := [("math/bits.deBruijn32tab", laid_math_bits_deBruijn32tab), ("math/bits.deBruijn64tab", laid_math_bits_deBruijn64tab)] }
def MultiLikeSingleSaid : Prop := multiLikeSingleRow.holds Tryd.pinned (OpenSpec.ofChange multiLikeSingleSpec)

/-- ITS FALSE NEIGHBOUR: 'it returns false'. Refute it at one input. -/
def multiLikeSingleWrong : ChangeSpec := { name := "multiLikeSingle", fn := fun _ => fun
  | [d1, d2, d3] => { results := [.lit (.bool false)], args := [d1, d2, d3] }
  | _ => none }
def MultiLikeSingleWrongFalsely : Prop := multiLikeSingleRow.holds Tryd.pinned (OpenSpec.ofChange multiLikeSingleWrong)

/-- 'norialaw10.MultiTries': WHATEVER THE INPUT: true; the input reads as it did. -/
def multiTriesSpec : ChangeSpec := { name := "multiTries", fn := fun _ => fun
  | [d1, d2] => { results := [.lit (.bool true)], args := [d1, d2] }
  | _ => none }
def multiTriesRow : OpenClaim := { program := "ytoifknfmamcimaadoor", sum := "dc5de9394c2cc91e8b4bae936f43cde846952ba3173f608503637b315591140f", func := "noria/norialaw10.MultiTries", spec := "multiTries", inPlace := ["internal/reflectlite.TypeOf"], unfollowed := true, recurses := true, named := ["math/bits.deBruijn32tab", "math/bits.deBruijn64tab"], apart := false, laid := [("math/bits.deBruijn32tab", laid_math_bits_deBruijn32tab), ("math/bits.deBruijn64tab", laid_math_bits_deBruijn64tab)] }
def MultiTriesSaid : Prop := multiTriesRow.holds Tryd.pinned (OpenSpec.ofChange multiTriesSpec)

/-- ITS FALSE NEIGHBOUR: 'it returns false'. Refute it at one input. -/
def multiTriesWrong : ChangeSpec := { name := "multiTries", fn := fun _ => fun
  | [d1, d2] => { results := [.lit (.bool false)], args := [d1, d2] }
  | _ => none }
def MultiTriesWrongFalsely : Prop := multiTriesRow.holds Tryd.pinned (OpenSpec.ofChange multiTriesWrong)

/-- 'norialaw10.MultiWrong': WHATEVER THE INPUT: true; the input reads as it did. -/
def multiWrongSpec : ChangeSpec := { name := "multiWrong", fn := fun _ => fun
  | [d1, d2, d3] => { results := [.lit (.bool true)], args := [d1, d2, d3] }
  | _ => none }
def multiWrongRow : OpenClaim := { program := "ytoifknfmamcimaadoor", sum := "dc5de9394c2cc91e8b4bae936f43cde846952ba3173f608503637b315591140f", func := "noria/norialaw10.MultiWrong", spec := "multiWrong", inPlace := ["internal/reflectlite.TypeOf"], unfollowed := true, recurses := true, named := ["math/bits.deBruijn32tab", "math/bits.deBruijn64tab"], apart := false, laid := [("math/bits.deBruijn32tab", laid_math_bits_deBruijn32tab), ("math/bits.deBruijn64tab", laid_math_bits_deBruijn64tab)] }
def MultiWrongSaid : Prop := multiWrongRow.holds Tryd.pinned (OpenSpec.ofChange multiWrongSpec)

/-- ITS FALSE NEIGHBOUR: 'it returns false'. Refute it at one input. -/
def multiWrongWrong : ChangeSpec := { name := "multiWrong", fn := fun _ => fun
  | [d1, d2, d3] => { results := [.lit (.bool false)], args := [d1, d2, d3] }
  | _ => none }
def MultiWrongWrongFalsely : Prop := multiWrongRow.holds Tryd.pinned (OpenSpec.ofChange multiWrongWrong)

/-- 'norialaw10.MultiPlays': WHATEVER THE INPUT: true; the input reads as it did. -/
def multiPlaysSpec : ChangeSpec := { name := "multiPlays", fn := fun _ => fun
  | [d1, d2, d3] => { results := [.lit (.bool true)], args := [d1, d2, d3] }
  | _ => none }
def multiPlaysRow : OpenClaim := { program := "ytoifknfmamcimaadoor", sum := "dc5de9394c2cc91e8b4bae936f43cde846952ba3173f608503637b315591140f", func := "noria/norialaw10.MultiPlays", spec := "multiPlays", inPlace := ["internal/reflectlite.TypeOf"], unfollowed := true, recurses := true, named := ["math/bits.deBruijn32tab", "math/bits.deBruijn64tab"], apart := false, laid := [("math/bits.deBruijn32tab", laid_math_bits_deBruijn32tab), ("math/bits.deBruijn64tab", laid_math_bits_deBruijn64tab)] }
def MultiPlaysSaid : Prop := multiPlaysRow.holds Tryd.pinned (OpenSpec.ofChange multiPlaysSpec)

/-- ITS FALSE NEIGHBOUR: 'it returns false'. Refute it at one input. -/
def multiPlaysWrong : ChangeSpec := { name := "multiPlays", fn := fun _ => fun
  | [d1, d2, d3] => { results := [.lit (.bool false)], args := [d1, d2, d3] }
  | _ => none }
def MultiPlaysWrongFalsely : Prop := multiPlaysRow.holds Tryd.pinned (OpenSpec.ofChange multiPlaysWrong)

/- THE SECOND FORM. 'bulk': how many values and letters a reading holds, each counted each time it is reached (what is shared counts as often as it is met; a slice's spare places count too). A statement '..UptoSaid' is the law's where the arguments, and the package variables that the reading takes, are together of bulk at most 1048576: NARROWER than '..Said'. Prove '..Said' where nothing that the law and all that it calls make is longer than what came in: it says more and counts as full. Else prove '..UptoSaid'. A law counts once. -/
mutual
def uptoBulk {H : Type} : DataW H → Nat
  | .lit (.string bytes) => bytes.length + 1
  | .lit _ => 1
  | .nil => 1
  | .ptr d => uptoBulk d + 1
  | .slice elems spare => uptoBulkAll elems + uptoBulkAll spare + 1
  | .agg parts => uptoBulkAll parts + 1
  | .iface _ d => uptoBulk d + 1
  | .map entries => uptoBulkEntries entries + 1
  | .held _ => 1
def uptoBulkAll {H : Type} : List (DataW H) → Nat
  | [] => 0
  | d :: r => uptoBulk d + uptoBulkAll r
def uptoBulkEntries {H : Type} : List (Lit × DataW H) → Nat
  | [] => 0
  | x :: r => uptoBulkEntry x + uptoBulkEntries r
def uptoBulkEntry {H : Type} : Lit × DataW H → Nat
  | (.string bytes, d) => bytes.length + uptoBulk d + 1
  | (_, d) => uptoBulk d + 1
 end
def uptoSmall : (H : Type) → List (DataW H) → Bool := fun _ ds => decide (uptoBulkAll ds ≤ 1048576)
def OpenSpec.upto (s : _root_.Go.ChangeSpec) : _root_.Go.OpenSpec := { _root_.Go.OpenSpec.ofChange s with cond := some uptoSmall }

/-- 'norialaw12.BarrierRises', WHERE WHAT IT READS IS OF BULK AT MOST 1048576: true; the input reads as it did. -/
def barrierRisesUptoRow : OpenClaim := { program := "ytoifknfmamcimaadoor", sum := "dc5de9394c2cc91e8b4bae936f43cde846952ba3173f608503637b315591140f", func := "noria/norialaw12.BarrierRises", spec := "barrierRises", named := ["math/bits.deBruijn32tab", "math/bits.deBruijn64tab"], apart := false, laid := [("math/bits.deBruijn32tab", laid_math_bits_deBruijn32tab), ("math/bits.deBruijn64tab", laid_math_bits_deBruijn64tab)], narrowed := true }
def BarrierRisesUptoSaid : Prop := barrierRisesUptoRow.holds Tryd.pinned (OpenSpec.upto barrierRisesSpec)

/-- 'norialaw10.MultiOrders', WHERE WHAT IT READS IS OF BULK AT MOST 1048576: true; the input reads as it did. -/
def multiOrdersUptoRow : OpenClaim := { program := "ytoifknfmamcimaadoor", sum := "dc5de9394c2cc91e8b4bae936f43cde846952ba3173f608503637b315591140f", func := "noria/norialaw10.MultiOrders", spec := "multiOrders", named := ["math/bits.deBruijn32tab", "math/bits.deBruijn64tab"], apart := false, laid := [("math/bits.deBruijn32tab", laid_math_bits_deBruijn32tab), ("math/bits.deBruijn64tab", laid_math_bits_deBruijn64tab)], narrowed := true }
def MultiOrdersUptoSaid : Prop := multiOrdersUptoRow.holds Tryd.pinned (OpenSpec.upto multiOrdersSpec)

/-- 'norialaw12.BarrierLooks', WHERE WHAT IT READS IS OF BULK AT MOST 1048576: true; the input reads as it did. -/
def barrierLooksUptoRow : OpenClaim := { program := "ytoifknfmamcimaadoor", sum := "dc5de9394c2cc91e8b4bae936f43cde846952ba3173f608503637b315591140f", func := "noria/norialaw12.BarrierLooks", spec := "barrierLooks", inPlace := ["internal/reflectlite.TypeOf"], unfollowed := true, recurses := true, named := ["math/bits.deBruijn32tab", "math/bits.deBruijn64tab"], apart := false, laid := [("math/bits.deBruijn32tab", laid_math_bits_deBruijn32tab), ("math/bits.deBruijn64tab", laid_math_bits_deBruijn64tab)], narrowed := true }
def BarrierLooksUptoSaid : Prop := barrierLooksUptoRow.holds Tryd.pinned (OpenSpec.upto barrierLooksSpec)

/-- 'norialaw12.BarrierNew', WHERE WHAT IT READS IS OF BULK AT MOST 1048576: true; the input reads as it did. -/
def barrierNewUptoRow : OpenClaim := { program := "ytoifknfmamcimaadoor", sum := "dc5de9394c2cc91e8b4bae936f43cde846952ba3173f608503637b315591140f", func := "noria/norialaw12.BarrierNew", spec := "barrierNew", inPlace := ["internal/reflectlite.TypeOf"], unfollowed := true, recurses := true, named := ["math/bits.deBruijn32tab", "math/bits.deBruijn64tab"], apart := false, laid := [("math/bits.deBruijn32tab", laid_math_bits_deBruijn32tab), ("math/bits.deBruijn64tab", laid_math_bits_deBruijn64tab)], narrowed := true }
def BarrierNewUptoSaid : Prop := barrierNewUptoRow.holds Tryd.pinned (OpenSpec.upto barrierNewSpec)

/-- 'norialaw12.BarrierProbes', WHERE WHAT IT READS IS OF BULK AT MOST 1048576: true; the input reads as it did. -/
def barrierProbesUptoRow : OpenClaim := { program := "ytoifknfmamcimaadoor", sum := "dc5de9394c2cc91e8b4bae936f43cde846952ba3173f608503637b315591140f", func := "noria/norialaw12.BarrierProbes", spec := "barrierProbes", inPlace := ["internal/reflectlite.TypeOf"], unfollowed := true, recurses := true, named := ["math/bits.deBruijn32tab", "math/bits.deBruijn64tab"], apart := false, laid := [("math/bits.deBruijn32tab", laid_math_bits_deBruijn32tab), ("math/bits.deBruijn64tab", laid_math_bits_deBruijn64tab)], narrowed := true }
def BarrierProbesUptoSaid : Prop := barrierProbesUptoRow.holds Tryd.pinned (OpenSpec.upto barrierProbesSpec)

/-- 'norialaw10.MultiShares', WHERE WHAT IT READS IS OF BULK AT MOST 1048576: true; the input reads as it did. -/
def multiSharesUptoRow : OpenClaim := { program := "ytoifknfmamcimaadoor", sum := "dc5de9394c2cc91e8b4bae936f43cde846952ba3173f608503637b315591140f", func := "noria/norialaw10.MultiShares", spec := "multiShares", named := ["math/bits.deBruijn32tab", "math/bits.deBruijn64tab"], apart := false, laid := [("math/bits.deBruijn32tab", laid_math_bits_deBruijn32tab), ("math/bits.deBruijn64tab", laid_math_bits_deBruijn64tab)], narrowed := true }
def MultiSharesUptoSaid : Prop := multiSharesUptoRow.holds Tryd.pinned (OpenSpec.upto multiSharesSpec)

/-- 'norialaw10.MultiLikeSingle', WHERE WHAT IT READS IS OF BULK AT MOST 1048576: true; the input reads as it did. -/
def multiLikeSingleUptoRow : OpenClaim := { program := "ytoifknfmamcimaadoor", sum := "dc5de9394c2cc91e8b4bae936f43cde846952ba3173f608503637b315591140f", func := "noria/norialaw10.MultiLikeSingle", spec := "multiLikeSingle", inPlace := ["internal/reflectlite.TypeOf"], unfollowed := true, recurses := true, named := ["math/bits.deBruijn32tab", "math/bits.deBruijn64tab"], apart := false, laid := [("math/bits.deBruijn32tab", laid_math_bits_deBruijn32tab), ("math/bits.deBruijn64tab", laid_math_bits_deBruijn64tab)], narrowed := true }
def MultiLikeSingleUptoSaid : Prop := multiLikeSingleUptoRow.holds Tryd.pinned (OpenSpec.upto multiLikeSingleSpec)

/-- 'norialaw10.MultiTries', WHERE WHAT IT READS IS OF BULK AT MOST 1048576: true; the input reads as it did. -/
def multiTriesUptoRow : OpenClaim := { program := "ytoifknfmamcimaadoor", sum := "dc5de9394c2cc91e8b4bae936f43cde846952ba3173f608503637b315591140f", func := "noria/norialaw10.MultiTries", spec := "multiTries", inPlace := ["internal/reflectlite.TypeOf"], unfollowed := true, recurses := true, named := ["math/bits.deBruijn32tab", "math/bits.deBruijn64tab"], apart := false, laid := [("math/bits.deBruijn32tab", laid_math_bits_deBruijn32tab), ("math/bits.deBruijn64tab", laid_math_bits_deBruijn64tab)], narrowed := true }
def MultiTriesUptoSaid : Prop := multiTriesUptoRow.holds Tryd.pinned (OpenSpec.upto multiTriesSpec)

/-- 'norialaw10.MultiWrong', WHERE WHAT IT READS IS OF BULK AT MOST 1048576: true; the input reads as it did. -/
def multiWrongUptoRow : OpenClaim := { program := "ytoifknfmamcimaadoor", sum := "dc5de9394c2cc91e8b4bae936f43cde846952ba3173f608503637b315591140f", func := "noria/norialaw10.MultiWrong", spec := "multiWrong", inPlace := ["internal/reflectlite.TypeOf"], unfollowed := true, recurses := true, named := ["math/bits.deBruijn32tab", "math/bits.deBruijn64tab"], apart := false, laid := [("math/bits.deBruijn32tab", laid_math_bits_deBruijn32tab), ("math/bits.deBruijn64tab", laid_math_bits_deBruijn64tab)], narrowed := true }
def MultiWrongUptoSaid : Prop := multiWrongUptoRow.holds Tryd.pinned (OpenSpec.upto multiWrongSpec)

/-- 'norialaw10.MultiPlays', WHERE WHAT IT READS IS OF BULK AT MOST 1048576: true; the input reads as it did. -/
def multiPlaysUptoRow : OpenClaim := { program := "ytoifknfmamcimaadoor", sum := "dc5de9394c2cc91e8b4bae936f43cde846952ba3173f608503637b315591140f", func := "noria/norialaw10.MultiPlays", spec := "multiPlays", inPlace := ["internal/reflectlite.TypeOf"], unfollowed := true, recurses := true, named := ["math/bits.deBruijn32tab", "math/bits.deBruijn64tab"], apart := false, laid := [("math/bits.deBruijn32tab", laid_math_bits_deBruijn32tab), ("math/bits.deBruijn64tab", laid_math_bits_deBruijn64tab)], narrowed := true }
def MultiPlaysUptoSaid : Prop := multiPlaysUptoRow.holds Tryd.pinned (OpenSpec.upto multiPlaysSpec)

end Rows
end Go.Proofs.YtoifknfmamcimaaDoor
