/- Contracts of fault.Wrap and of the inner function at of an arena: for every arena that is such (ArenaAt), every cell number. -/
import Derived.Test.YtiphdedfbafhkaaGreatDoorMem
import Derived.Test.YtiphdedfbafhkaaGreatDoorRows
namespace Go.Proofs.YtiphdedfbafhkaaGreatDoor
open Go.RowKit

theorem Tryz.info2 : (Tryz.prog.info? 2).map (fun i => (i.zero, i.size, i.bytes)) = some (some (.int .i64 0), 1, 8) := by kernel_rfl

theorem wrap_nil (op : ByteArray) (seq : Int) (w : World) :
    Calls Tryz.prog 50 #[.string op, .int .i64 seq, .nilIface] w fun e w' => e = .returned .nilIface ∧ w = w' := by
  go_enter Tryz.func50, Tryz.ntmps50
  go_wp2
  go_ret
  exact ⟨rfl, rfl⟩

theorem wrap_some (op : ByteArray) (seq : Int) (t : TypeId) (v : Value) (w : World) :
    Calls Tryz.prog 50 #[.string op, .int .i64 seq, .iface t v] w fun e w' => e = .returned (.iface 179 (.pointer (some ⟨w.heap.size, 0, none⟩))) ∧ w.alloc (.cells #[.string op, .int .i64 seq, .iface t v] 181 (0, 0)) = w' := by
  go_enter Tryz.func50, Tryz.ntmps50
  go_wp2
  go_ret
  exact ⟨rfl, rfl⟩

/-- An arena. -/
def ArenaAt (c : Nat → Nat) (k : Nat) (w : World) (p : Nat) (l : List Int) (s : Int) : Prop :=
  ∃ ao cap, Blk c k w p [.slice ao l.length cap, .int .i64 s] 127 ∧ Row c k w 2 1 ao l.length cap (l.map (Value.int .i64))

theorem at_none (op : ByteArray) (id : Int) (w : World) :
    Calls Tryz.prog 80 #[.pointer none, .string op, .int .i64 id] w fun e w' => e = .returned (.iface 98 (.int .i64 2)) ∧ w = w' := by
  go_enter Tryz.func80, Tryz.ntmps80
  go_wp2
  go_ret
  exact ⟨rfl, rfl⟩

theorem at_bad {c : Nat → Nat} {k : Nat} {w : World} {p : Nat} {l : List Int} {s : Int} (h : ArenaAt c k w p l s) (op : ByteArray) (id : Int) (hid : id < 0 ∨ (l.length : Int) ≤ id) :
    Calls Tryz.prog 80 #[.pointer (some ⟨p, 0, none⟩), .string op, .int .i64 id] w fun e w' => e = .returned (.iface 179 (.pointer (some ⟨w.heap.size, 0, none⟩))) ∧ w.alloc (.cells #[.string op, .int .i64 id, .iface 98 (.int .i64 3)] 181 (0, 0)) = w' := by
  obtain ⟨ao, cap, hb, hr⟩ := h
  have c0 := hb.cell 0
  have c1 := hb.cell 1
  simp at c0 c1
  clear hb hr
  by_cases h0 : id < 0
  · have h0' : decide (id < 0) = true := by simpa using h0
    go_enter Tryz.func80, Tryz.ntmps80
    go_wp2_with (go_at_call 50; refine (wrap_some _ _ _ _ _).mono ?_; rintro e w' ⟨rfl, rfl⟩)
    go_ret
    exact ⟨rfl, rfl⟩
  · have h1 : (l.length : Int) ≤ id := by omega
    have h0' : decide (id < 0) = false := by simpa using h0
    clear hid
    go_enter Tryz.func80, Tryz.ntmps80
    go_wp2_with (go_at_call 50; refine (wrap_some _ _ _ _ _).mono ?_; rintro e w' ⟨rfl, rfl⟩)
    go_ret
    exact ⟨rfl, rfl⟩

theorem at_ok {c : Nat → Nat} {k : Nat} {w : World} {p : Nat} {l : List Int} {s : Int} (h : ArenaAt c k w p l s) (op : ByteArray) (id : Int) (h0 : 0 ≤ id) (h1 : id < l.length) (s0 : 0 ≤ s) (s1 : s < 4611686018427387904) :
    Calls Tryz.prog 80 #[.pointer (some ⟨p, 0, none⟩), .string op, .int .i64 id] w fun e w' => e = .returned .nilIface ∧ w.setCell ⟨p, 1, none⟩ (.int .i64 (s + 1)) = w' := by
  obtain ⟨ao, cap, hb, hr⟩ := h
  have c0 := hb.cell 0
  have c1 := hb.cell 1
  have f1 := hb.free 1
  simp at c0 c1
  clear hb hr
  have h0' : decide (id < 0) = false := by simp; omega
  go_enter Tryz.func80, Tryz.ntmps80
  go_wp2
  go_ret
  exact ⟨rfl, rfl⟩
end Go.Proofs.YtiphdedfbafhkaaGreatDoor
