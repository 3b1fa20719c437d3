/- Contracts of a barrier's probe: Probe, Done, Available, settle. No condition beyond each contract's own. -/
import Derived.Test.YtoifknfmamcimaaDoorBarLaw
import Derived.Test.YtoifknfmamcimaaDoorGate3
import Derived.Test.YtoifknfmamcimaaDoorAvailRef
namespace Go.Proofs.YtoifknfmamcimaaDoor
open Go.RowKit

/-- A barrier: its struct, its group, its buffer. -/
structure BarIs (c : Nat → Nat) (k : Nat) (w : World) (b g : Nat) (bv : Option Addr) (B : Bar) : Prop where
  st : Blk c k w b [.int .i64 B.cur, .pointer bv, .pointer (some ⟨g, 0, none⟩), .int .i64 B.al] 121
  gr : GroupAt c (k + 1) w g B.ids
  bf : (B.buf = none ∧ bv = none) ∨ ∃ sh first q, B.buf = some (sh, first) ∧ bv = some ⟨q, 0, none⟩ ∧ BufAt c (k + 2) w q sh first

/- of the type 121 -/
theorem BarIs.stp {J : Nat → Prop} {c c' : Nat → Nat} {k : Nat} {w w' : World} {b g : Nat} {bv : Option Addr} {B : Bar} (h : BarIs c k w b g bv B) (s : Stp J c c' w w') (h0 : ¬ J k) (h1 : ¬ J (k + 1)) (h2 : ¬ J (k + 2)) : BarIs c' k w' b g bv B := by
  refine ⟨h.st.stp s h0, h.gr.stp s h1, ?_⟩
  rcases h.bf with hf | ⟨sh, first, q, h3, h4, h5⟩
  · exact .inl hf
  · exact .inr ⟨sh, first, q, h3, h4, h5.stp s h2⟩

/- of the type 121 -/
theorem BarIs.cells {c : Nat → Nat} {k : Nat} {w : World} {b g : Nat} {bv : Option Addr} {B : Bar} (h : BarIs c k w b g bv B) : w.cell? ⟨b, 0, none⟩ = some (.int .i64 B.cur) ∧ w.cell? ⟨b, 1, none⟩ = some (.pointer bv) ∧ w.cell? ⟨b, 2, none⟩ = some (.pointer (some ⟨g, 0, none⟩)) ∧ w.cell? ⟨b, 3, none⟩ = some (.int .i64 B.al) ∧ b < w.heap.size :=
  ⟨by simpa using h.st.cell 0, by simpa using h.st.cell 1, by simpa using h.st.cell 2, by simpa using h.st.cell 3, h.st.lt⟩

section
variable (bv : Option Addr) (next stage : Int) (ao : Option Addr) (n cap : Nat) (most hi pos sign : Int) (fin : Bool)
set_option maxRecDepth 100000 in
theorem bprobe_any (c : Nat → Nat) (w : World) :
    Calls Tryd.prog 15 #[.pointer bv, .int .i64 next] w fun e w' => e = .returned (.agg #[.pointer bv, .int .i64 next, .int .i64 0, .slice none 0 0, .int .i64 0, .int .i64 0, .int .i64 0, .int .i64 0, .bool false]) ∧ ∃ c', Stp (fun _ => False) c c' w w' := by
  have S := Lib.hid ((Stp.refl (fun _ => False) c w).alloc (.cells #[.pointer bv, .int .i64 next, .int .i64 0, .slice none 0 0, .int .i64 0, .int .i64 0, .int .i64 0, .int .i64 0, .bool false] 35) 0)
  go_enter Tryd.func15, Tryd.ntmps15
  go_wp2
  exact bodyPost_ret (v := .agg #[.pointer bv, .int .i64 next, .int .i64 0, .slice none 0 0, .int .i64 0, .int .i64 0, .int .i64 0, .int .i64 0, .bool false]) (by simp [results, Tryd.results15, go_sem]) rfl ⟨rfl, _, S.out⟩

set_option maxRecDepth 100000 in
theorem prdone_any (c : Nat → Nat) (b : Addr) (w : World) :
    Calls Tryd.prog 16 #[.agg #[.pointer (some b), .int .i64 next, .int .i64 stage, .slice ao n cap, .int .i64 most, .int .i64 hi, .int .i64 pos, .int .i64 sign, .bool fin]] w fun e w' => e = .returned (.bool fin) ∧ ∃ c', Stp (fun _ => False) c c' w w' := by
  have S := Lib.hid ((Stp.refl (fun _ => False) c w).alloc (.cells #[.pointer (some b), .int .i64 next, .int .i64 stage, .slice ao n cap, .int .i64 most, .int .i64 hi, .int .i64 pos, .int .i64 sign, .bool fin] 35) 0)
  cases fin
  all_goals
    go_enter Tryd.func16, Tryd.ntmps16
    go_wp2
    go_ret
    exact ⟨by simp, _, S.out⟩

set_option maxRecDepth 100000 in
theorem pravail_any (c : Nat → Nat) (hn : -1 ≤ next ∧ next ≤ 4611686018427387904) (w : World) :
    Calls Tryd.prog 20 #[.agg #[.pointer bv, .int .i64 next, .int .i64 stage, .slice ao n cap, .int .i64 most, .int .i64 hi, .int .i64 pos, .int .i64 sign, .bool fin]] w fun e w' => e = .returned (.int .i64 (if fin = true then max pos (next - 1) else next - 1)) ∧ ∃ c', Stp (fun _ => False) c c' w w' := by
  have S := Lib.hid ((Stp.refl (fun _ => False) c w).alloc (.cells #[.pointer bv, .int .i64 next, .int .i64 stage, .slice ao n cap, .int .i64 most, .int .i64 hi, .int .i64 pos, .int .i64 sign, .bool fin] 35) 0)
  have W1 : wrap64 (next - 1) = next - 1 := IntWalk.wrap64_in _ (by constructor <;> omega)
  cases fin
  · go_enter Tryd.func20, Tryd.ntmps20
    go_wp2
    go_ret
    exact ⟨by simp, _, S.out⟩
  · rcases Int.lt_or_le pos (next - 1) with hm | hm
    · have M : max pos (next - 1) = next - 1 := Int.max_eq_right (by omega)
      go_enter Tryd.func20, Tryd.ntmps20
      go_wp2
      go_ret
      exact ⟨by simp, _, S.out⟩
    · have M : max pos (next - 1) = pos := Int.max_eq_left hm
      go_enter Tryd.func20, Tryd.ntmps20
      go_wp2
      go_ret
      exact ⟨by simp, _, S.out⟩

set_option maxRecDepth 100000 in
theorem prsign_any (c : Nat → Nat) (w : World) :
    Calls Tryd.prog 36 #[.agg #[.pointer bv, .int .i64 next, .int .i64 stage, .slice ao n cap, .int .i64 most, .int .i64 hi, .int .i64 pos, .int .i64 sign, .bool fin]] w fun e w' => e = .returned (.int .i64 sign) ∧ ∃ c', Stp (fun _ => False) c c' w w' := by
  have S := Lib.hid ((Stp.refl (fun _ => False) c w).alloc (.cells #[.pointer bv, .int .i64 next, .int .i64 stage, .slice ao n cap, .int .i64 most, .int .i64 hi, .int .i64 pos, .int .i64 sign, .bool fin] 35) 0)
  go_enter Tryd.func36, Tryd.ntmps36
  go_wp2
  go_ret
  exact ⟨by simp, _, S.out⟩

set_option maxRecDepth 100000 in
theorem prsettle_any (c : Nat → Nat) (x : Int) (w : World) :
    Calls Tryd.prog 66 #[.agg #[.pointer bv, .int .i64 next, .int .i64 stage, .slice ao n cap, .int .i64 most, .int .i64 hi, .int .i64 pos, .int .i64 sign, .bool fin], .int .i64 x] w fun e w' => e = .returned (.agg #[.pointer bv, .int .i64 next, .int .i64 stage, .slice ao n cap, .int .i64 most, .int .i64 hi, .int .i64 x, .int .i64 sign, .bool true]) ∧ ∃ c', Stp (fun _ => False) c c' w w' := by
  have S := Lib.hid (((Stp.refl (fun _ => False) c w).alloc (.cells #[.pointer bv, .int .i64 next, .int .i64 stage, .slice ao n cap, .int .i64 most, .int .i64 hi, .int .i64 x, .int .i64 sign, .bool true] 35) 0).alloc (.cells #[.pointer bv, .int .i64 next, .int .i64 stage, .slice ao n cap, .int .i64 most, .int .i64 hi, .int .i64 x, .int .i64 sign, .bool true] 35) 0)
  go_enter Tryd.func66, Tryd.ntmps66
  go_wp2
  exact bodyPost_ret (v := .agg #[.pointer bv, .int .i64 next, .int .i64 stage, .slice ao n cap, .int .i64 most, .int .i64 hi, .int .i64 x, .int .i64 sign, .bool true]) (by simp [results, Tryd.results66, go_sem]) rfl ⟨rfl, _, S.out⟩
end

theorem scdone_s (c : Nat → Nat) (ao : Option Addr) (n cap : Nat) (m : Int) (w : World) {b : Bool} (hb : ((n : Int) == 0) = b) :
    Calls Tryd.prog 68 #[.agg #[.slice ao n cap, .int .i64 m]] w fun e w' => e = .returned (.bool b) ∧ ∃ c', Stp (fun _ => False) c c' w w' := by
  refine (scdone ao n cap m w).mono ?_
  rintro e w' ⟨rfl, rfl⟩
  exact ⟨by rw [hb], _, (Stp.refl _ c w).alloc _ 0⟩
theorem scleast_s (c : Nat → Nat) (ao : Option Addr) (n cap : Nat) (m : Int) (w : World) :
    Calls Tryd.prog 70 #[.agg #[.slice ao n cap, .int .i64 m]] w fun e w' => e = .returned (.int .i64 m) ∧ ∃ c', Stp (fun _ => False) c c' w w' := by
  refine (scleast ao n cap m w).mono ?_
  rintro e w' ⟨rfl, rfl⟩
  exact ⟨rfl, _, (Stp.refl _ c w).alloc _ 0⟩
end Go.Proofs.YtoifknfmamcimaaDoor
