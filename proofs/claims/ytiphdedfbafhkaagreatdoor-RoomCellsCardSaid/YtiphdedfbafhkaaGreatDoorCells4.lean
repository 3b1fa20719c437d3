/- Contracts of the arena's functions Swap, Add, Clone where they refuse, or add, or copy. No condition beyond each contract's own. -/
import Derived.Test.YtiphdedfbafhkaaGreatDoorCells3
import Derived.Test.YtiphdedfbafhkaaGreatDoorMem5
namespace Go.Proofs.YtiphdedfbafhkaaGreatDoor
open Go.RowKit

theorem swap_bad {c : Nat → Nat} {k : Nat} {w : World} {p : Nat} {l : List Int} {s : Int} (h : ArenaAt c k w p l s) (id old v : Int) (hid : id < 0 ∨ (l.length : Int) ≤ id) :
    Calls Tryz.prog 123 #[.pointer (some ⟨p, 0, none⟩), .int .i64 id, .int .i64 old, .int .i64 v] w fun e w' => ∃ ev, e = .returned (.tuple #[.bool false, ev]) ∧ ∃ c', Stp (fun _ => False) c c' w w' ∧ ErrAt c' w' ev 3 := by
  have Hat := Lib.hid h
  have Hid' := Lib.hid hid
  clear h hid
  go_enter Tryz.func123, Tryz.ntmps123
  go_wp2_with (go_at_call 80; refine (at_bad Hat.out _ _ Hid'.out).mono ?_; rintro e w' ⟨rfl, rfl⟩)
  go_ret2
  exact ⟨_, rfl, _, (Stp.refl _ c w).alloc _ 1, ErrAt.new _ _ _ _ _⟩

theorem store_no {c : Nat → Nat} {k : Nat} {w : World} {p : Nat} {l : List Int} {s : Int} (h : ArenaAt c k w p l s) (id v : Int) (hid : id < 0 ∨ (l.length : Int) ≤ id) :
    Calls Tryz.prog 106 #[.pointer (some ⟨p, 0, none⟩), .int .i64 id, .int .i64 v] w fun e w' => ∃ ev, e = .returned ev ∧ ∃ c', Stp (fun _ => False) c c' w w' ∧ ErrAt c' w' ev 3 := by
  have Hat := Lib.hid h
  have Hid' := Lib.hid hid
  clear h hid
  go_enter Tryz.func106, Tryz.ntmps106
  go_wp2_with (go_at_call 80; refine (at_bad Hat.out _ _ Hid'.out).mono ?_; rintro e w' ⟨rfl, rfl⟩)
  go_ret
  exact ⟨_, rfl, _, (Stp.refl _ c w).alloc _ 1, ErrAt.new _ _ _ _ _⟩

theorem load_no {c : Nat → Nat} {k : Nat} {w : World} {p : Nat} {l : List Int} {s : Int} (h : ArenaAt c k w p l s) (id : Int) (hid : id < 0 ∨ (l.length : Int) ≤ id) :
    Calls Tryz.prog 37 #[.pointer (some ⟨p, 0, none⟩), .int .i64 id] w fun e w' => ∃ ev, e = .returned (.tuple #[.int .i64 0, ev]) ∧ ∃ c', Stp (fun _ => False) c c' w w' ∧ ErrAt c' w' ev 3 := by
  have Hat := Lib.hid h
  have Hid' := Lib.hid hid
  clear h hid
  go_enter Tryz.func37, Tryz.ntmps37
  go_wp2_with (go_at_call 80; refine (at_bad Hat.out _ _ Hid'.out).mono ?_; rintro e w' ⟨rfl, rfl⟩)
  go_ret2
  exact ⟨_, rfl, _, (Stp.refl _ c w).alloc _ 1, ErrAt.new _ _ _ _ _⟩

/-- The tests of Add, by the sign of what is added. -/
theorem add_tests {x d V : Int} (hV : x + d = V) : (decide (x < V) = true ∧ decide (0 < d) = true ∧ (d != 0) = true) ∨ (decide (x < V) = false ∧ decide (0 < d) = false ∧ (d != 0) = false) ∨ (decide (x < V) = false ∧ decide (0 < d) = false ∧ (d != 0) = true) := by
  rcases Int.lt_trichotomy d 0 with h | h | h
  · exact .inr (.inr ⟨by simp; omega, by simp; omega, by simp; omega⟩)
  · exact .inr (.inl ⟨by simp; omega, by simp; omega, by simp; omega⟩)
  · exact .inl ⟨by simp; omega, by simp; omega, by simp; omega⟩

end Go.Proofs.YtiphdedfbafhkaaGreatDoor
