/- The contract of Runnable of an actor table: the ready ones' numbers, rising, in new memory. No condition but that the table is such. -/
import Derived.Test.YtiphdedfbafhkaaGreatDoorActor
namespace Go.Proofs.YtiphdedfbafhkaaGreatDoor
open Go.RowKit

theorem Tryz.infoInt : (Tryz.prog.info? 3).map (fun i => (i.zero, i.size, i.bytes)) = some (some (.int .i64 0), 1, 8) := by kernel_rfl

/-- The ready ones among the first `n`. -/
def readyTo (l : List One) : Nat → List Int
  | 0 => []
  | n + 1 => readyTo l n ++ (match l[n]? with | some x => if x.state = 0 then [(n : Int)] else [] | none => [])

theorem readyTo_len (l : List One) (n : Nat) : (readyTo l n).length ≤ n := by
  induction n with
  | zero => simp [readyTo]
  | succ n ih =>
    rw [readyTo, List.length_append]
    split
    · split <;> simp <;> omega
    · simp; omega

def RunRel (c : Nat → Nat) (kr : Nat) (w : World) (l : List One) (out i : Value) (wr : World) : Prop :=
  ∃ c' j ao cap, i = .int .i64 (j : Nat) ∧ j ≤ l.length ∧ out = .slice ao (readyTo l j).length cap ∧ Row c' kr wr 3 1 ao (readyTo l j).length cap ((readyTo l j).map (Value.int .i64)) ∧ Stp (· = kr) c c' w wr

end Go.Proofs.YtiphdedfbafhkaaGreatDoor
