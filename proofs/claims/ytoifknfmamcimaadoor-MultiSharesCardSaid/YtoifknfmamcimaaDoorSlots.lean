/- Contracts of the functions of package slots. No condition beyond each contract's own. -/
import Derived.Test.YtoifknfmamcimaaDoorPow5
import Derived.Test.YtoifknfmamcimaaDoorMem3
namespace Go.Proofs.YtoifknfmamcimaaDoor
open Go.RowKit

structure Ev where
  key : Int
  val : Int
def Ev.cells (x : Ev) : List Value := [.int .i64 x.key, .int .i64 x.val]
theorem Ev.len (x : Ev) : x.cells.length = 2 := rfl

theorem made_flat (n : Nat) : madeCells #[.int .i64 0, .int .i64 0] (n * 2) = ((List.replicate n (⟨0, 0⟩ : Ev)).flatMap Ev.cells).toArray := by
  have h1 : madeCells #[.int .i64 0, .int .i64 0] (n * 2) = (List.replicate (n * 2) (Value.int .i64 0)).toArray := by
    apply Array.ext
    · simp [size_madeCells]
    · intro i h1 h2
      have : i % 2 = 0 ∨ i % 2 = 1 := by omega
      rcases this with h | h <;> simp [madeCells, h]
  rw [h1]
  congr 1
  induction n with
  | zero => rfl
  | succ n ih =>
    rw [show (n + 1) * 2 = n * 2 + 1 + 1 by omega, List.replicate_succ, List.replicate_succ, List.replicate_succ, List.flatMap_cons, ih (by
      apply Array.ext
      · simp [size_madeCells]
      · intro i h1 h2
        have : i % 2 = 0 ∨ i % 2 = 1 := by omega
        rcases this with h | h <;> simp [madeCells, h])]
    rfl

end Go.Proofs.YtoifknfmamcimaaDoor
