/- Contracts of the arena's functions at no arena, and of Len and Steps. No condition beyond each contract's own. -/
import Derived.Test.YtiphdedfbafhkaaGreatDoorErrs2
namespace Go.Proofs.YtiphdedfbafhkaaGreatDoor
open Go.RowKit

theorem alloc_nil (v : Int) (w : World) :
    Calls Tryz.prog 36 #[.pointer none, .int .i64 v] w fun e w' => e = .returned (.tuple #[.int .i64 0, .iface 98 (.int .i64 2)]) ∧ w = w' := by
  go_enter Tryz.func36, Tryz.ntmps36
  go_wp2
  go_ret2
  exact ⟨rfl, rfl⟩

theorem swap_nil (id old v : Int) (w : World) :
    Calls Tryz.prog 123 #[.pointer none, .int .i64 id, .int .i64 old, .int .i64 v] w fun e w' => e = .returned (.tuple #[.bool false, .iface 98 (.int .i64 2)]) ∧ w = w' := by
  go_enter Tryz.func123, Tryz.ntmps123
  go_wp2_with (go_at_call 80; refine (at_none _ _ _).mono ?_; rintro e w' ⟨rfl, rfl⟩)
  go_ret2
  exact ⟨rfl, rfl⟩

theorem len_nil (w : World) : Calls Tryz.prog 18 #[.pointer none] w fun e w' => e = .returned (.int .i64 0) ∧ w = w' := by
  go_enter Tryz.func18, Tryz.ntmps18
  go_wp2
  go_ret
  exact ⟨rfl, rfl⟩

theorem len_any {c : Nat → Nat} {k : Nat} {w : World} {p : Nat} {l : List Int} {s : Int} (h : ArenaAt c k w p l s) :
    Calls Tryz.prog 18 #[.pointer (some ⟨p, 0, none⟩)] w fun e w' => e = .returned (.int .i64 l.length) ∧ w = w' := by
  obtain ⟨ao, cap, hb, hr⟩ := h
  have c0 := hb.cell 0
  simp at c0
  clear hb hr
  go_enter Tryz.func18, Tryz.ntmps18
  go_wp2
  go_ret
  exact ⟨rfl, rfl⟩

/-- norialaw01.Is of a number, asked for itself. -/
theorem is_self (n : Int) (h : n ≠ 0) (w : World) :
    Calls Tryz.prog 14 #[.iface 98 (.int .i64 n), .int .i64 n] w fun e w' => e = .returned (.bool true) ∧ w = w' :=
  (lawis (Err.num (fun _ => 0) w n h) n).mono fun e w' ⟨he, hw⟩ => ⟨by simpa using he, hw⟩
end Go.Proofs.YtiphdedfbafhkaaGreatDoor
