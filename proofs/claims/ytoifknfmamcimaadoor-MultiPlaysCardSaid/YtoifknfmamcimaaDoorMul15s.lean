/- What turns nothing old, without colours. No condition beyond each lemma's own. -/
import Derived.Test.YtoifknfmamcimaaDoorMul15
namespace Go.Proofs.YtoifknfmamcimaaDoor
open Go.RowKit
/-- What turns nothing old. -/
def SF (c : Nat → Nat) (w w' : World) : Prop := ∃ c', Stp (fun _ => False) c c' w w'
theorem SF.drew {c : Nat → Nat} {a w : World} (h : SF c a w) : SF c a w.drew := by obtain ⟨c', h⟩ := h; exact ⟨c', h.drew⟩
theorem SF.alloc {c : Nat → Nat} {a w : World} (h : SF c a w) {o : Obj} : SF c a (w.alloc o) := by obtain ⟨c', h⟩ := h; exact ⟨_, h.alloc o 9⟩
theorem SF.set {c : Nat → Nat} {a w : World} {b : Nat} (hp : a.heap.size ≤ b) (h : SF c a w) {j : Nat} {s : Option Nat} {v : Value} : SF c a (w.setCell ⟨b, j, s⟩ v) := by obtain ⟨c', h⟩ := h; exact ⟨c', h.setNew (p := ⟨b, j, s⟩) v hp⟩
end Go.Proofs.YtoifknfmamcimaaDoor
