/-
  No cell of these rows narrows 'for every input' (looked for: loops, veiled, ifaces, maps, wideKeys, modest, calm, conditions, laid).
  DERIVED. THE GIVEN ROWS OF THIS SEAT. 16 by the template 'for every input the law returns true; each argument reads behind the call as it read before'; 0 by the template 'total and deterministic' (their statements: YtmhhhiegioniaaaTotals.lean).
  GIVEN WITH THE SEED: the statements are not yours to turn. If you find one false, say at which input.
  Laid BY PROGRAM, IN A SANDBOX (cutbox-rows.mjs): the forced cells as the released guide's own fill.sh prints them over the translation 212d7104c1718a74… (all of the seat's roots in one cut). By AI agents, Wed Nov 11 2026. No macro, syntax, notation, axiom, sorry.
-/
import Derived.Test.YtmhhhiegioniaaaChecked
import GoSem.Claim
import GoSem.ClaimJoined
import GoSem.ClaimMapViews
import Derived.JoinedTies
import Derived.KernelRfl
namespace Go.Proofs.Ytmhhhiegioniaaa
/- THE CELL 'sum', in the pinned program and in every row, IS THE sha256 OF THE DUMP (.gsa) THAT YtmhhhiegioniaaaProg.lean LOADS. Nothing in Lean hashes anything: it is a label: what it is worth is what the hold of that sum in a sandbox is worth. -/
noncomputable def Try.pinned : Pinned := { name := "ytmhhhiegioniaaa", sum := "212d7104c1718a74bfa64caa5a111950933f928901c67cea50bad73818ff74df", checked := Try.checked }
namespace Rows
def none {H : Type} : Left H := { results := [], args := [] }

/-- 'norialaw03.CellsSwaps': WHATEVER THE INPUT: true; the input reads as it did. -/
def cellsSwapsSpec : ChangeSpec := { name := "cellsSwaps", fn := fun _ => fun
  | [d1, d2, d3] => { results := [.lit (.bool true)], args := [d1, d2, d3] }
  | _ => none }
def cellsSwapsRow : OpenClaim := { program := "ytmhhhiegioniaaa", sum := "212d7104c1718a74bfa64caa5a111950933f928901c67cea50bad73818ff74df", func := "noria/norialaw03.CellsSwaps", spec := "cellsSwaps", apart := false }
def CellsSwapsSaid : Prop := cellsSwapsRow.holds Try.pinned (OpenSpec.ofChange cellsSwapsSpec)

/-- ITS FALSE NEIGHBOUR: 'it returns false'. Refute it at one input. -/
def cellsSwapsWrong : ChangeSpec := { name := "cellsSwaps", fn := fun _ => fun
  | [d1, d2, d3] => { results := [.lit (.bool false)], args := [d1, d2, d3] }
  | _ => none }
def CellsSwapsWrongFalsely : Prop := cellsSwapsRow.holds Try.pinned (OpenSpec.ofChange cellsSwapsWrong)

/-- 'norialaw05.ActorWakes': WHATEVER THE INPUT: true; the input reads as it did. -/
def actorWakesSpec : ChangeSpec := { name := "actorWakes", fn := fun _ => fun
  | [d1, d2] => { results := [.lit (.bool true)], args := [d1, d2] }
  | _ => none }
def actorWakesRow : OpenClaim := { program := "ytmhhhiegioniaaa", sum := "212d7104c1718a74bfa64caa5a111950933f928901c67cea50bad73818ff74df", func := "noria/norialaw05.ActorWakes", spec := "actorWakes", apart := false }
def ActorWakesSaid : Prop := actorWakesRow.holds Try.pinned (OpenSpec.ofChange actorWakesSpec)

/-- ITS FALSE NEIGHBOUR: 'it returns false'. Refute it at one input. -/
def actorWakesWrong : ChangeSpec := { name := "actorWakes", fn := fun _ => fun
  | [d1, d2] => { results := [.lit (.bool false)], args := [d1, d2] }
  | _ => none }
def ActorWakesWrongFalsely : Prop := actorWakesRow.holds Try.pinned (OpenSpec.ofChange actorWakesWrong)

/-- 'norialaw08.GateLeast': WHATEVER THE INPUT: true; the input reads as it did. -/
def gateLeastSpec : ChangeSpec := { name := "gateLeast", fn := fun _ => fun
  | [d1, d2, d3] => { results := [.lit (.bool true)], args := [d1, d2, d3] }
  | _ => none }
def gateLeastRow : OpenClaim := { program := "ytmhhhiegioniaaa", sum := "212d7104c1718a74bfa64caa5a111950933f928901c67cea50bad73818ff74df", func := "noria/norialaw08.GateLeast", spec := "gateLeast", apart := false }
def GateLeastSaid : Prop := gateLeastRow.holds Try.pinned (OpenSpec.ofChange gateLeastSpec)

/-- ITS FALSE NEIGHBOUR: 'it returns false'. Refute it at one input. -/
def gateLeastWrong : ChangeSpec := { name := "gateLeast", fn := fun _ => fun
  | [d1, d2, d3] => { results := [.lit (.bool false)], args := [d1, d2, d3] }
  | _ => none }
def GateLeastWrongFalsely : Prop := gateLeastRow.holds Try.pinned (OpenSpec.ofChange gateLeastWrong)

/-- 'norialaw03.CellsPlays': WHATEVER THE INPUT: true; the input reads as it did. -/
def cellsPlaysSpec : ChangeSpec := { name := "cellsPlays", fn := fun _ => fun
  | [d] => { results := [.lit (.bool true)], args := [d] }
  | _ => none }
def cellsPlaysRow : OpenClaim := { program := "ytmhhhiegioniaaa", sum := "212d7104c1718a74bfa64caa5a111950933f928901c67cea50bad73818ff74df", func := "noria/norialaw03.CellsPlays", spec := "cellsPlays", inPlace := ["internal/reflectlite.TypeOf"], unfollowed := true, recurses := true, apart := false }
def CellsPlaysSaid : Prop := cellsPlaysRow.holds Try.pinned (OpenSpec.ofChange cellsPlaysSpec)

/-- ITS FALSE NEIGHBOUR: 'it returns false'. Refute it at one input. -/
def cellsPlaysWrong : ChangeSpec := { name := "cellsPlays", fn := fun _ => fun
  | [d] => { results := [.lit (.bool false)], args := [d] }
  | _ => none }
def CellsPlaysWrongFalsely : Prop := cellsPlaysRow.holds Try.pinned (OpenSpec.ofChange cellsPlaysWrong)

/-- 'norialaw03.CellsNil': WHATEVER THE INPUT: true; the input reads as it did. -/
def cellsNilSpec : ChangeSpec := { name := "cellsNil", fn := fun _ => fun
  | [d1, d2] => { results := [.lit (.bool true)], args := [d1, d2] }
  | _ => none }
def cellsNilRow : OpenClaim := { program := "ytmhhhiegioniaaa", sum := "212d7104c1718a74bfa64caa5a111950933f928901c67cea50bad73818ff74df", func := "noria/norialaw03.CellsNil", spec := "cellsNil", inPlace := ["internal/reflectlite.TypeOf"], unfollowed := true, recurses := true, apart := false }
def CellsNilSaid : Prop := cellsNilRow.holds Try.pinned (OpenSpec.ofChange cellsNilSpec)

/-- ITS FALSE NEIGHBOUR: 'it returns false'. Refute it at one input. -/
def cellsNilWrong : ChangeSpec := { name := "cellsNil", fn := fun _ => fun
  | [d1, d2] => { results := [.lit (.bool false)], args := [d1, d2] }
  | _ => none }
def CellsNilWrongFalsely : Prop := cellsNilRow.holds Try.pinned (OpenSpec.ofChange cellsNilWrong)

/-- 'norialaw05.ActorPlays': WHATEVER THE INPUT: true; the input reads as it did. -/
def actorPlaysSpec : ChangeSpec := { name := "actorPlays", fn := fun _ => fun
  | [d1, d2] => { results := [.lit (.bool true)], args := [d1, d2] }
  | _ => none }
def actorPlaysRow : OpenClaim := { program := "ytmhhhiegioniaaa", sum := "212d7104c1718a74bfa64caa5a111950933f928901c67cea50bad73818ff74df", func := "noria/norialaw05.ActorPlays", spec := "actorPlays", inPlace := ["internal/reflectlite.TypeOf"], unfollowed := true, recurses := true, apart := false }
def ActorPlaysSaid : Prop := actorPlaysRow.holds Try.pinned (OpenSpec.ofChange actorPlaysSpec)

/-- ITS FALSE NEIGHBOUR: 'it returns false'. Refute it at one input. -/
def actorPlaysWrong : ChangeSpec := { name := "actorPlays", fn := fun _ => fun
  | [d1, d2] => { results := [.lit (.bool false)], args := [d1, d2] }
  | _ => none }
def ActorPlaysWrongFalsely : Prop := actorPlaysRow.holds Try.pinned (OpenSpec.ofChange actorPlaysWrong)

/-- 'norialaw08.GatePlays': WHATEVER THE INPUT: true; the input reads as it did. -/
def gatePlaysSpec : ChangeSpec := { name := "gatePlays", fn := fun _ => fun
  | [d1, d2] => { results := [.lit (.bool true)], args := [d1, d2] }
  | _ => none }
def gatePlaysRow : OpenClaim := { program := "ytmhhhiegioniaaa", sum := "212d7104c1718a74bfa64caa5a111950933f928901c67cea50bad73818ff74df", func := "noria/norialaw08.GatePlays", spec := "gatePlays", inPlace := ["internal/reflectlite.TypeOf"], unfollowed := true, recurses := true, apart := false }
def GatePlaysSaid : Prop := gatePlaysRow.holds Try.pinned (OpenSpec.ofChange gatePlaysSpec)

/-- ITS FALSE NEIGHBOUR: 'it returns false'. Refute it at one input. -/
def gatePlaysWrong : ChangeSpec := { name := "gatePlays", fn := fun _ => fun
  | [d1, d2] => { results := [.lit (.bool false)], args := [d1, d2] }
  | _ => none }
def GatePlaysWrongFalsely : Prop := gatePlaysRow.holds Try.pinned (OpenSpec.ofChange gatePlaysWrong)

/-- 'norialaw08.GateNil': WHATEVER THE INPUT: true; the input reads as it did. -/
def gateNilSpec : ChangeSpec := { name := "gateNil", fn := fun _ => fun
  | [d1, d2] => { results := [.lit (.bool true)], args := [d1, d2] }
  | _ => none }
def gateNilRow : OpenClaim := { program := "ytmhhhiegioniaaa", sum := "212d7104c1718a74bfa64caa5a111950933f928901c67cea50bad73818ff74df", func := "noria/norialaw08.GateNil", spec := "gateNil", inPlace := ["internal/reflectlite.TypeOf"], unfollowed := true, recurses := true, apart := false }
def GateNilSaid : Prop := gateNilRow.holds Try.pinned (OpenSpec.ofChange gateNilSpec)

/-- ITS FALSE NEIGHBOUR: 'it returns false'. Refute it at one input. -/
def gateNilWrong : ChangeSpec := { name := "gateNil", fn := fun _ => fun
  | [d1, d2] => { results := [.lit (.bool false)], args := [d1, d2] }
  | _ => none }
def GateNilWrongFalsely : Prop := gateNilRow.holds Try.pinned (OpenSpec.ofChange gateNilWrong)

/-- 'norialaw04.ClockPlays': WHATEVER THE INPUT: true; the input reads as it did. -/
def clockPlaysSpec : ChangeSpec := { name := "clockPlays", fn := fun _ => fun
  | [d] => { results := [.lit (.bool true)], args := [d] }
  | _ => none }
def clockPlaysRow : OpenClaim := { program := "ytmhhhiegioniaaa", sum := "212d7104c1718a74bfa64caa5a111950933f928901c67cea50bad73818ff74df", func := "noria/norialaw04.ClockPlays", spec := "clockPlays", inPlace := ["slices.overlaps[noria/clock.timer]", "internal/reflectlite.TypeOf"], unfollowed := true, recurses := true, apart := false }
def ClockPlaysSaid : Prop := clockPlaysRow.holds Try.pinned (OpenSpec.ofChange clockPlaysSpec)

/-- ITS FALSE NEIGHBOUR: 'it returns false'. Refute it at one input. -/
def clockPlaysWrong : ChangeSpec := { name := "clockPlays", fn := fun _ => fun
  | [d] => { results := [.lit (.bool false)], args := [d] }
  | _ => none }
def ClockPlaysWrongFalsely : Prop := clockPlaysRow.holds Try.pinned (OpenSpec.ofChange clockPlaysWrong)

/-- 'norialaw13.GraphOrders': WHATEVER THE INPUT: true; the input reads as it did. -/
def graphOrdersSpec : ChangeSpec := { name := "graphOrders", fn := fun _ => fun
  | [d] => { results := [.lit (.bool true)], args := [d] }
  | _ => none }
def graphOrdersRow : OpenClaim := { program := "ytmhhhiegioniaaa", sum := "212d7104c1718a74bfa64caa5a111950933f928901c67cea50bad73818ff74df", func := "noria/norialaw13.GraphOrders", spec := "graphOrders", inPlace := ["internal/reflectlite.TypeOf"], unfollowed := true, recurses := true, apart := false }
def GraphOrdersSaid : Prop := graphOrdersRow.holds Try.pinned (OpenSpec.ofChange graphOrdersSpec)

/-- ITS FALSE NEIGHBOUR: 'it returns false'. Refute it at one input. -/
def graphOrdersWrong : ChangeSpec := { name := "graphOrders", fn := fun _ => fun
  | [d] => { results := [.lit (.bool false)], args := [d] }
  | _ => none }
def GraphOrdersWrongFalsely : Prop := graphOrdersRow.holds Try.pinned (OpenSpec.ofChange graphOrdersWrong)

/-- 'norialaw04.ClockOnce': WHATEVER THE INPUT: true; the input reads as it did. -/
def clockOnceSpec : ChangeSpec := { name := "clockOnce", fn := fun _ => fun
  | [d1, d2, d3] => { results := [.lit (.bool true)], args := [d1, d2, d3] }
  | _ => none }
def clockOnceRow : OpenClaim := { program := "ytmhhhiegioniaaa", sum := "212d7104c1718a74bfa64caa5a111950933f928901c67cea50bad73818ff74df", func := "noria/norialaw04.ClockOnce", spec := "clockOnce", inPlace := ["slices.overlaps[noria/clock.timer]", "internal/reflectlite.TypeOf"], unfollowed := true, recurses := true, apart := false }
def ClockOnceSaid : Prop := clockOnceRow.holds Try.pinned (OpenSpec.ofChange clockOnceSpec)

/-- ITS FALSE NEIGHBOUR: 'it returns false'. Refute it at one input. -/
def clockOnceWrong : ChangeSpec := { name := "clockOnce", fn := fun _ => fun
  | [d1, d2, d3] => { results := [.lit (.bool false)], args := [d1, d2, d3] }
  | _ => none }
def ClockOnceWrongFalsely : Prop := clockOnceRow.holds Try.pinned (OpenSpec.ofChange clockOnceWrong)

/-- 'norialaw13.GraphDepths': WHATEVER THE INPUT: true; the input reads as it did. -/
def graphDepthsSpec : ChangeSpec := { name := "graphDepths", fn := fun _ => fun
  | [d] => { results := [.lit (.bool true)], args := [d] }
  | _ => none }
def graphDepthsRow : OpenClaim := { program := "ytmhhhiegioniaaa", sum := "212d7104c1718a74bfa64caa5a111950933f928901c67cea50bad73818ff74df", func := "noria/norialaw13.GraphDepths", spec := "graphDepths", inPlace := ["internal/reflectlite.TypeOf"], unfollowed := true, recurses := true, apart := false }
def GraphDepthsSaid : Prop := graphDepthsRow.holds Try.pinned (OpenSpec.ofChange graphDepthsSpec)

/-- ITS FALSE NEIGHBOUR: 'it returns false'. Refute it at one input. -/
def graphDepthsWrong : ChangeSpec := { name := "graphDepths", fn := fun _ => fun
  | [d] => { results := [.lit (.bool false)], args := [d] }
  | _ => none }
def GraphDepthsWrongFalsely : Prop := graphDepthsRow.holds Try.pinned (OpenSpec.ofChange graphDepthsWrong)

/-- 'norialaw13.GraphPlays': WHATEVER THE INPUT: true; the input reads as it did. -/
def graphPlaysSpec : ChangeSpec := { name := "graphPlays", fn := fun _ => fun
  | [d] => { results := [.lit (.bool true)], args := [d] }
  | _ => none }
def graphPlaysRow : OpenClaim := { program := "ytmhhhiegioniaaa", sum := "212d7104c1718a74bfa64caa5a111950933f928901c67cea50bad73818ff74df", func := "noria/norialaw13.GraphPlays", spec := "graphPlays", inPlace := ["internal/reflectlite.TypeOf"], unfollowed := true, recurses := true, apart := false }
def GraphPlaysSaid : Prop := graphPlaysRow.holds Try.pinned (OpenSpec.ofChange graphPlaysSpec)

/-- ITS FALSE NEIGHBOUR: 'it returns false'. Refute it at one input. -/
def graphPlaysWrong : ChangeSpec := { name := "graphPlays", fn := fun _ => fun
  | [d] => { results := [.lit (.bool false)], args := [d] }
  | _ => none }
def GraphPlaysWrongFalsely : Prop := graphPlaysRow.holds Try.pinned (OpenSpec.ofChange graphPlaysWrong)

/-- 'norialaw13.GraphCycles': WHATEVER THE INPUT: true; the input reads as it did. -/
def graphCyclesSpec : ChangeSpec := { name := "graphCycles", fn := fun _ => fun
  | [d1, d2, d3] => { results := [.lit (.bool true)], args := [d1, d2, d3] }
  | _ => none }
def graphCyclesRow : OpenClaim := { program := "ytmhhhiegioniaaa", sum := "212d7104c1718a74bfa64caa5a111950933f928901c67cea50bad73818ff74df", func := "noria/norialaw13.GraphCycles", spec := "graphCycles", inPlace := ["internal/reflectlite.TypeOf"], unfollowed := true, recurses := true, apart := false }
def GraphCyclesSaid : Prop := graphCyclesRow.holds Try.pinned (OpenSpec.ofChange graphCyclesSpec)

/-- ITS FALSE NEIGHBOUR: 'it returns false'. Refute it at one input. -/
def graphCyclesWrong : ChangeSpec := { name := "graphCycles", fn := fun _ => fun
  | [d1, d2, d3] => { results := [.lit (.bool false)], args := [d1, d2, d3] }
  | _ => none }
def GraphCyclesWrongFalsely : Prop := graphCyclesRow.holds Try.pinned (OpenSpec.ofChange graphCyclesWrong)

/-- 'norialaw13.GraphDrops': WHATEVER THE INPUT: true; the input reads as it did. -/
def graphDropsSpec : ChangeSpec := { name := "graphDrops", fn := fun _ => fun
  | [d1, d2] => { results := [.lit (.bool true)], args := [d1, d2] }
  | _ => none }
def graphDropsRow : OpenClaim := { program := "ytmhhhiegioniaaa", sum := "212d7104c1718a74bfa64caa5a111950933f928901c67cea50bad73818ff74df", func := "noria/norialaw13.GraphDrops", spec := "graphDrops", inPlace := ["internal/reflectlite.TypeOf"], unfollowed := true, recurses := true, apart := false }
def GraphDropsSaid : Prop := graphDropsRow.holds Try.pinned (OpenSpec.ofChange graphDropsSpec)

/-- ITS FALSE NEIGHBOUR: 'it returns false'. Refute it at one input. -/
def graphDropsWrong : ChangeSpec := { name := "graphDrops", fn := fun _ => fun
  | [d1, d2] => { results := [.lit (.bool false)], args := [d1, d2] }
  | _ => none }
def GraphDropsWrongFalsely : Prop := graphDropsRow.holds Try.pinned (OpenSpec.ofChange graphDropsWrong)

/-- 'norialaw13.GraphNil': WHATEVER THE INPUT: true; the input reads as it did. -/
def graphNilSpec : ChangeSpec := { name := "graphNil", fn := fun _ => fun
  | [d] => { results := [.lit (.bool true)], args := [d] }
  | _ => none }
def graphNilRow : OpenClaim := { program := "ytmhhhiegioniaaa", sum := "212d7104c1718a74bfa64caa5a111950933f928901c67cea50bad73818ff74df", func := "noria/norialaw13.GraphNil", spec := "graphNil", inPlace := ["internal/reflectlite.TypeOf"], unfollowed := true, recurses := true, apart := false }
def GraphNilSaid : Prop := graphNilRow.holds Try.pinned (OpenSpec.ofChange graphNilSpec)

/-- ITS FALSE NEIGHBOUR: 'it returns false'. Refute it at one input. -/
def graphNilWrong : ChangeSpec := { name := "graphNil", fn := fun _ => fun
  | [d] => { results := [.lit (.bool false)], args := [d] }
  | _ => none }
def GraphNilWrongFalsely : Prop := graphNilRow.holds Try.pinned (OpenSpec.ofChange graphNilWrong)

/- THE SECOND FORM. 'bulk': how many values and letters a reading holds, each counted each time it is reached (what is shared counts as often as it is met; a slice's spare places count too). A statement '..UptoSaid' is the law's where the arguments, and the package variables that the reading takes, are together of bulk at most 1048576: NARROWER than '..Said'. Prove '..Said' where nothing that the law and all that it calls make is longer than what came in: it says more and counts as full. Else prove '..UptoSaid'. A law counts once. -/
mutual
def uptoBulk {H : Type} : DataW H → Nat
  | .lit (.string bytes) => bytes.length + 1
  | .lit _ => 1
  | .nil => 1
  | .ptr d => uptoBulk d + 1
  | .slice elems spare => uptoBulkAll elems + uptoBulkAll spare + 1
  | .agg parts => uptoBulkAll parts + 1
  | .iface _ d => uptoBulk d + 1
  | .map entries => uptoBulkEntries entries + 1
  | .held _ => 1
def uptoBulkAll {H : Type} : List (DataW H) → Nat
  | [] => 0
  | d :: r => uptoBulk d + uptoBulkAll r
def uptoBulkEntries {H : Type} : List (Lit × DataW H) → Nat
  | [] => 0
  | x :: r => uptoBulkEntry x + uptoBulkEntries r
def uptoBulkEntry {H : Type} : Lit × DataW H → Nat
  | (.string bytes, d) => bytes.length + uptoBulk d + 1
  | (_, d) => uptoBulk d + 1
 end
def uptoSmall : (H : Type) → List (DataW H) → Bool := fun _ ds => decide (uptoBulkAll ds ≤ 1048576)
def OpenSpec.upto (s : _root_.Go.ChangeSpec) : _root_.Go.OpenSpec := { _root_.Go.OpenSpec.ofChange s with cond := some uptoSmall }

/-- 'norialaw03.CellsSwaps', WHERE WHAT IT READS IS OF BULK AT MOST 1048576: true; the input reads as it did. -/
def cellsSwapsUptoRow : OpenClaim := { program := "ytmhhhiegioniaaa", sum := "212d7104c1718a74bfa64caa5a111950933f928901c67cea50bad73818ff74df", func := "noria/norialaw03.CellsSwaps", spec := "cellsSwaps", apart := false, narrowed := true }
def CellsSwapsUptoSaid : Prop := cellsSwapsUptoRow.holds Try.pinned (OpenSpec.upto cellsSwapsSpec)

/-- 'norialaw05.ActorWakes', WHERE WHAT IT READS IS OF BULK AT MOST 1048576: true; the input reads as it did. -/
def actorWakesUptoRow : OpenClaim := { program := "ytmhhhiegioniaaa", sum := "212d7104c1718a74bfa64caa5a111950933f928901c67cea50bad73818ff74df", func := "noria/norialaw05.ActorWakes", spec := "actorWakes", apart := false, narrowed := true }
def ActorWakesUptoSaid : Prop := actorWakesUptoRow.holds Try.pinned (OpenSpec.upto actorWakesSpec)

/-- 'norialaw08.GateLeast', WHERE WHAT IT READS IS OF BULK AT MOST 1048576: true; the input reads as it did. -/
def gateLeastUptoRow : OpenClaim := { program := "ytmhhhiegioniaaa", sum := "212d7104c1718a74bfa64caa5a111950933f928901c67cea50bad73818ff74df", func := "noria/norialaw08.GateLeast", spec := "gateLeast", apart := false, narrowed := true }
def GateLeastUptoSaid : Prop := gateLeastUptoRow.holds Try.pinned (OpenSpec.upto gateLeastSpec)

/-- 'norialaw03.CellsPlays', WHERE WHAT IT READS IS OF BULK AT MOST 1048576: true; the input reads as it did. -/
def cellsPlaysUptoRow : OpenClaim := { program := "ytmhhhiegioniaaa", sum := "212d7104c1718a74bfa64caa5a111950933f928901c67cea50bad73818ff74df", func := "noria/norialaw03.CellsPlays", spec := "cellsPlays", inPlace := ["internal/reflectlite.TypeOf"], unfollowed := true, recurses := true, apart := false, narrowed := true }
def CellsPlaysUptoSaid : Prop := cellsPlaysUptoRow.holds Try.pinned (OpenSpec.upto cellsPlaysSpec)

/-- 'norialaw03.CellsNil', WHERE WHAT IT READS IS OF BULK AT MOST 1048576: true; the input reads as it did. -/
def cellsNilUptoRow : OpenClaim := { program := "ytmhhhiegioniaaa", sum := "212d7104c1718a74bfa64caa5a111950933f928901c67cea50bad73818ff74df", func := "noria/norialaw03.CellsNil", spec := "cellsNil", inPlace := ["internal/reflectlite.TypeOf"], unfollowed := true, recurses := true, apart := false, narrowed := true }
def CellsNilUptoSaid : Prop := cellsNilUptoRow.holds Try.pinned (OpenSpec.upto cellsNilSpec)

/-- 'norialaw05.ActorPlays', WHERE WHAT IT READS IS OF BULK AT MOST 1048576: true; the input reads as it did. -/
def actorPlaysUptoRow : OpenClaim := { program := "ytmhhhiegioniaaa", sum := "212d7104c1718a74bfa64caa5a111950933f928901c67cea50bad73818ff74df", func := "noria/norialaw05.ActorPlays", spec := "actorPlays", inPlace := ["internal/reflectlite.TypeOf"], unfollowed := true, recurses := true, apart := false, narrowed := true }
def ActorPlaysUptoSaid : Prop := actorPlaysUptoRow.holds Try.pinned (OpenSpec.upto actorPlaysSpec)

/-- 'norialaw08.GatePlays', WHERE WHAT IT READS IS OF BULK AT MOST 1048576: true; the input reads as it did. -/
def gatePlaysUptoRow : OpenClaim := { program := "ytmhhhiegioniaaa", sum := "212d7104c1718a74bfa64caa5a111950933f928901c67cea50bad73818ff74df", func := "noria/norialaw08.GatePlays", spec := "gatePlays", inPlace := ["internal/reflectlite.TypeOf"], unfollowed := true, recurses := true, apart := false, narrowed := true }
def GatePlaysUptoSaid : Prop := gatePlaysUptoRow.holds Try.pinned (OpenSpec.upto gatePlaysSpec)

/-- 'norialaw08.GateNil', WHERE WHAT IT READS IS OF BULK AT MOST 1048576: true; the input reads as it did. -/
def gateNilUptoRow : OpenClaim := { program := "ytmhhhiegioniaaa", sum := "212d7104c1718a74bfa64caa5a111950933f928901c67cea50bad73818ff74df", func := "noria/norialaw08.GateNil", spec := "gateNil", inPlace := ["internal/reflectlite.TypeOf"], unfollowed := true, recurses := true, apart := false, narrowed := true }
def GateNilUptoSaid : Prop := gateNilUptoRow.holds Try.pinned (OpenSpec.upto gateNilSpec)

/-- 'norialaw04.ClockPlays', WHERE WHAT IT READS IS OF BULK AT MOST 1048576: true; the input reads as it did. -/
def clockPlaysUptoRow : OpenClaim := { program := "ytmhhhiegioniaaa", sum := "212d7104c1718a74bfa64caa5a111950933f928901c67cea50bad73818ff74df", func := "noria/norialaw04.ClockPlays", spec := "clockPlays", inPlace := ["slices.overlaps[noria/clock.timer]", "internal/reflectlite.TypeOf"], unfollowed := true, recurses := true, apart := false, narrowed := true }
def ClockPlaysUptoSaid : Prop := clockPlaysUptoRow.holds Try.pinned (OpenSpec.upto clockPlaysSpec)

/-- 'norialaw13.GraphOrders', WHERE WHAT IT READS IS OF BULK AT MOST 1048576: true; the input reads as it did. -/
def graphOrdersUptoRow : OpenClaim := { program := "ytmhhhiegioniaaa", sum := "212d7104c1718a74bfa64caa5a111950933f928901c67cea50bad73818ff74df", func := "noria/norialaw13.GraphOrders", spec := "graphOrders", inPlace := ["internal/reflectlite.TypeOf"], unfollowed := true, recurses := true, apart := false, narrowed := true }
def GraphOrdersUptoSaid : Prop := graphOrdersUptoRow.holds Try.pinned (OpenSpec.upto graphOrdersSpec)

/-- 'norialaw04.ClockOnce', WHERE WHAT IT READS IS OF BULK AT MOST 1048576: true; the input reads as it did. -/
def clockOnceUptoRow : OpenClaim := { program := "ytmhhhiegioniaaa", sum := "212d7104c1718a74bfa64caa5a111950933f928901c67cea50bad73818ff74df", func := "noria/norialaw04.ClockOnce", spec := "clockOnce", inPlace := ["slices.overlaps[noria/clock.timer]", "internal/reflectlite.TypeOf"], unfollowed := true, recurses := true, apart := false, narrowed := true }
def ClockOnceUptoSaid : Prop := clockOnceUptoRow.holds Try.pinned (OpenSpec.upto clockOnceSpec)

/-- 'norialaw13.GraphDepths', WHERE WHAT IT READS IS OF BULK AT MOST 1048576: true; the input reads as it did. -/
def graphDepthsUptoRow : OpenClaim := { program := "ytmhhhiegioniaaa", sum := "212d7104c1718a74bfa64caa5a111950933f928901c67cea50bad73818ff74df", func := "noria/norialaw13.GraphDepths", spec := "graphDepths", inPlace := ["internal/reflectlite.TypeOf"], unfollowed := true, recurses := true, apart := false, narrowed := true }
def GraphDepthsUptoSaid : Prop := graphDepthsUptoRow.holds Try.pinned (OpenSpec.upto graphDepthsSpec)

/-- 'norialaw13.GraphPlays', WHERE WHAT IT READS IS OF BULK AT MOST 1048576: true; the input reads as it did. -/
def graphPlaysUptoRow : OpenClaim := { program := "ytmhhhiegioniaaa", sum := "212d7104c1718a74bfa64caa5a111950933f928901c67cea50bad73818ff74df", func := "noria/norialaw13.GraphPlays", spec := "graphPlays", inPlace := ["internal/reflectlite.TypeOf"], unfollowed := true, recurses := true, apart := false, narrowed := true }
def GraphPlaysUptoSaid : Prop := graphPlaysUptoRow.holds Try.pinned (OpenSpec.upto graphPlaysSpec)

/-- 'norialaw13.GraphCycles', WHERE WHAT IT READS IS OF BULK AT MOST 1048576: true; the input reads as it did. -/
def graphCyclesUptoRow : OpenClaim := { program := "ytmhhhiegioniaaa", sum := "212d7104c1718a74bfa64caa5a111950933f928901c67cea50bad73818ff74df", func := "noria/norialaw13.GraphCycles", spec := "graphCycles", inPlace := ["internal/reflectlite.TypeOf"], unfollowed := true, recurses := true, apart := false, narrowed := true }
def GraphCyclesUptoSaid : Prop := graphCyclesUptoRow.holds Try.pinned (OpenSpec.upto graphCyclesSpec)

/-- 'norialaw13.GraphDrops', WHERE WHAT IT READS IS OF BULK AT MOST 1048576: true; the input reads as it did. -/
def graphDropsUptoRow : OpenClaim := { program := "ytmhhhiegioniaaa", sum := "212d7104c1718a74bfa64caa5a111950933f928901c67cea50bad73818ff74df", func := "noria/norialaw13.GraphDrops", spec := "graphDrops", inPlace := ["internal/reflectlite.TypeOf"], unfollowed := true, recurses := true, apart := false, narrowed := true }
def GraphDropsUptoSaid : Prop := graphDropsUptoRow.holds Try.pinned (OpenSpec.upto graphDropsSpec)

/-- 'norialaw13.GraphNil', WHERE WHAT IT READS IS OF BULK AT MOST 1048576: true; the input reads as it did. -/
def graphNilUptoRow : OpenClaim := { program := "ytmhhhiegioniaaa", sum := "212d7104c1718a74bfa64caa5a111950933f928901c67cea50bad73818ff74df", func := "noria/norialaw13.GraphNil", spec := "graphNil", inPlace := ["internal/reflectlite.TypeOf"], unfollowed := true, recurses := true, apart := false, narrowed := true }
def GraphNilUptoSaid : Prop := graphNilUptoRow.holds Try.pinned (OpenSpec.upto graphNilSpec)

end Rows
end Go.Proofs.Ytmhhhiegioniaaa
