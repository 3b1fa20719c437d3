/- Contract of Span of package slots, and of Fill and Span where they are refused. No condition beyond each contract's own. -/
import Derived.Test.YteicmmgpkhmlbaaDoorSlotsPlays
namespace Go.Proofs.YteicmmgpkhmlbaaDoor
open Go.RowKit

theorem slspan_bad {w : World} (c : Nat → Nat) (p : Nat) (lo hi : Int) (h : lo < 0 ∨ 4611686018427387904 < lo) :
    Calls Tryd.prog 41 #[.pointer (some ⟨p, 0, none⟩), .int .i64 lo, .int .i64 hi] w fun e w' => ∃ ev, e = .returned (.tuple #[.slice none 0 0, ev]) ∧ ∃ c', Stp (fun _ => False) c c' w w' ∧ ErrAt c' w' ev 5 := by
  have H := Lib.hid h
  clear h
  go_enter Tryd.func41, Tryd.ntmps41
  go_wp2_with fail
  refine (slat_bad c p _ _ H.out _).mono ?_
  rintro e w' ⟨t, v, rfl, c1, s1, e1⟩
  have S1 := Lib.hid s1
  have E1 := Lib.hid e1
  clear s1 e1
  go_wp2
  exact bodyPost_ret (v := .tuple #[.slice none 0 0, .iface t v]) (by simp [results, Tryd.results41, go_sem]) rfl ⟨_, rfl, c1, S1.out, E1.out⟩

theorem slfill_bad {w : World} (c : Nat → Nat) (p : Nat) (lo : Int) (v : Value) (h : lo < 0 ∨ 4611686018427387904 < lo) :
    Calls Tryd.prog 40 #[.pointer (some ⟨p, 0, none⟩), .int .i64 lo, v] w fun e w' => ∃ ev, e = .returned (.tuple #[.int .i64 0, ev]) ∧ ∃ c', Stp (fun _ => False) c c' w w' ∧ ErrAt c' w' ev 5 := by
  have H := Lib.hid h
  clear h
  go_enter Tryd.func40, Tryd.ntmps40
  go_wp2_with fail
  refine (slat_bad c p _ _ H.out _).mono ?_
  rintro e w' ⟨t, v, rfl, c1, s1, e1⟩
  have S1 := Lib.hid s1
  have E1 := Lib.hid e1
  clear s1 e1
  go_wp2
  exact bodyPost_ret (v := .tuple #[.int .i64 0, .iface t v]) (by simp [results, Tryd.results40, go_sem]) rfl ⟨_, rfl, c1, S1.out, E1.out⟩

theorem slfill_full {w : World} (c : Nat → Nat) (p : Nat) (lo : Int) (ao : Option Addr) (n cap : Nat) (h0 : 0 ≤ lo) (h1 : lo ≤ 4611686018427387904) (h2 : 4611686018427387904 - lo < (n : Int)) :
    Calls Tryd.prog 40 #[.pointer (some ⟨p, 0, none⟩), .int .i64 lo, .slice ao n cap] w fun e w' => ∃ ev, e = .returned (.tuple #[.int .i64 0, ev]) ∧ ∃ c', Stp (fun _ => False) c c' w w' ∧ ErrAt c' w' ev 15 := by
  have W1 : wrap64 (4611686018427387904 - lo) = 4611686018427387904 - lo := IntWalk.wrap64_in _ ⟨by omega, by omega⟩
  have t0 : decide ((4611686018427387904 - lo) < (n : Int)) = true := by simpa using h2
  clear h2
  go_enter Tryd.func40, Tryd.ntmps40
  go_wp2_with (go_at_call 70; refine (slat_ok _ _ _ h0 h1 _).mono ?_; rintro e w' ⟨rfl, rfl⟩)
  refine (wrap_some _ _ _ _ _).mono ?_
  rintro e w' ⟨rfl, rfl⟩
  go_wp2
  exact bodyPost_ret (v := .tuple #[.int .i64 0, .iface _ _]) (by simp [results, Tryd.results40, go_sem]) rfl ⟨_, rfl, _, (Stp.refl _ c w).alloc _ 1, ErrAt.new _ _ _ _ _⟩
end Go.Proofs.YteicmmgpkhmlbaaDoor
