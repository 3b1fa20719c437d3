/- Contracts of the clock's Now, Waiting, Next, Clone, Tick: for every clock that is such (ClockAt). No condition beyond each contract's own. -/
import Derived.Test.YtiphdedfbafhkaaGreatDoorErrs2
import Derived.Test.YtiphdedfbafhkaaGreatDoorMem2
import Derived.Test.YtiphdedfbafhkaaGreatDoorMem5
import Derived.Lib.SliceRun
import Derived.Deep.QuietTactic
import Derived.BigQuiet
namespace Go.Proofs.YtiphdedfbafhkaaGreatDoor
open Go.RowKit

structure Tm where
  at_ : Int
  who : Int

def Tm.cells (x : Tm) : List Value := [.int .i64 x.at_, .int .i64 x.who]
theorem Tm.len (x : Tm) : x.cells.length = 2 := rfl

theorem tm_one (l : List Tm) : ∀ u ∈ l.flatMap Tm.cells, u.oneCell' = true := by
  intro u hu
  obtain ⟨x, _, hx⟩ := List.mem_flatMap.1 hu
  simp [Tm.cells] at hx
  rcases hx with rfl | rfl <;> rfl

theorem Tryz.infoTimer : (Tryz.prog.info? 196).map (fun i => (i.zero, i.size, i.bytes)) = some (some (.agg #[.int .i64 0, .int .i64 0]), 2, 16) := by kernel_rfl
theorem Tryz.infoIntK : (Tryz.prog.info? 3).map (fun i => (i.zero, i.size, i.bytes)) = some (some (.int .i64 0), 1, 8) := by kernel_rfl

/-- A clock: its block of colour k, its timers' array of colour k + 1. -/
structure ClockIs (c : Nat → Nat) (k : Nat) (w : World) (p : Nat) (now : Int) (l : List Tm) (n : Nat) (ao : Option Addr) (cap : Nat) : Prop where
  hb : Blk c k w p [.int .i64 now, .slice ao n cap] 133
  hr : Row c (k + 1) w 196 2 ao n cap (l.flatMap Tm.cells)
  len : l.length = n

def ClockAt (c : Nat → Nat) (k : Nat) (w : World) (p : Nat) (now : Int) (l : List Tm) : Prop := ∃ n ao cap, ClockIs c k w p now l n ao cap

theorem ClockAt.stp {J : Nat → Prop} {c c' : Nat → Nat} {k : Nat} {w w' : World} {p : Nat} {now : Int} {l : List Tm} (h : ClockAt c k w p now l) (st : Stp J c c' w w') (h0 : ¬ J k) (h1 : ¬ J (k + 1)) : ClockAt c' k w' p now l := by
  obtain ⟨n, ao, cap, hb, hr, hl⟩ := h
  exact ⟨n, ao, cap, hb.stp st h0, hr.stp st h1, hl⟩

theorem know_any {c : Nat → Nat} {k : Nat} {w : World} {p : Nat} {now : Int} {l : List Tm} (h : ClockAt c k w p now l) :
    Calls Tryz.prog 22 #[.pointer (some ⟨p, 0, none⟩)] w fun e w' => e = .returned (.int .i64 now) ∧ w = w' := by
  obtain ⟨n, ao, cap, hb, hr, hl⟩ := h
  have c0 := hb.cell 0
  simp at c0
  clear hb hr hl
  go_enter Tryz.func22, Tryz.ntmps22
  go_wp2
  go_ret
  exact ⟨rfl, rfl⟩

theorem know_nil (w : World) : Calls Tryz.prog 22 #[.pointer none] w fun e w' => e = .returned (.int .i64 0) ∧ w = w' := by
  go_enter Tryz.func22, Tryz.ntmps22
  go_wp2
  go_ret
  exact ⟨rfl, rfl⟩

theorem kwait_any {c : Nat → Nat} {k : Nat} {w : World} {p : Nat} {now : Int} {l : List Tm} (h : ClockAt c k w p now l) :
    Calls Tryz.prog 101 #[.pointer (some ⟨p, 0, none⟩)] w fun e w' => e = .returned (.int .i64 l.length) ∧ w = w' := by
  obtain ⟨n, ao, cap, hb, hr, hl⟩ := h
  have c1 := hb.cell 1
  simp at c1
  rw [hl]
  clear hb hr hl
  go_enter Tryz.func101, Tryz.ntmps101
  go_wp2
  go_ret
  exact ⟨rfl, rfl⟩

theorem kwait_nil (w : World) : Calls Tryz.prog 101 #[.pointer none] w fun e w' => e = .returned (.int .i64 0) ∧ w = w' := by
  go_enter Tryz.func101, Tryz.ntmps101
  go_wp2
  go_ret
  exact ⟨rfl, rfl⟩

theorem kdrop_nil (who : Int) (w : World) : Calls Tryz.prog 62 #[.pointer none, .int .i64 who] w fun e w' => e = .returned (.int .i64 0) ∧ Below w.heap.size w w' := by
  go_enter Tryz.func62, Tryz.ntmps62
  go_wp2
  go_ret
  exact ⟨rfl, (Below.refl _ _).alloc (Nat.le_refl _) _⟩

theorem kset_nil (at_ who : Int) (w : World) : Calls Tryz.prog 63 #[.pointer none, .int .i64 at_, .int .i64 who] w fun e w' => e = .returned (.iface 98 (.int .i64 2)) ∧ Below w.heap.size w w' := by
  go_enter Tryz.func63, Tryz.ntmps63
  go_wp2
  go_ret
  exact ⟨rfl, (Below.refl _ _).alloc (Nat.le_refl _) _⟩

theorem ktick_nil (d : Int) (w : World) : Calls Tryz.prog 65 #[.pointer none, .int .i64 d] w fun e w' => e = .returned (.tuple #[.slice none 0 0, .iface 98 (.int .i64 2)]) ∧ w = w' := by
  go_enter Tryz.func65, Tryz.ntmps65
  go_wp2
  go_ret2
  exact ⟨rfl, rfl⟩

end Go.Proofs.YtiphdedfbafhkaaGreatDoor
