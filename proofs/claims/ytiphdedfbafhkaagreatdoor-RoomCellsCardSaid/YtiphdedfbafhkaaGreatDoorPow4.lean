/- Contracts of Next and Room of package pow, and of the document's Room. No condition beyond each contract's own. -/
import Derived.Test.YtiphdedfbafhkaaGreatDoorPow3
namespace Go.Proofs.YtiphdedfbafhkaaGreatDoor
open Go.RowKit

theorem pnext_ok (seq n : Int) (h : nextErr seq n = 0) (w : World) :
    Calls Tryz.prog 105 #[.int .i64 seq, .int .i64 n] w fun e w' => e = .returned (.tuple #[.int .i64 (seq + n), .nilIface]) ∧ w = w' := by
  have h1 : ¬ n < 1 := fun h1 => by simp [nextErr, h1] at h
  have h2 : ¬ 1048576 < n := fun h2 => by simp [nextErr, h2] at h
  have h3 : ¬ seq < -1 := fun h3 => by simp [nextErr, h1, h2, h3] at h
  have h4 : ¬ 4611686018427387904 - n < seq := fun h4 => by simp [nextErr, h1, h2, h3, h4] at h
  have t1 : decide (n < 1) = false := by simpa using h1
  have t2 : decide ((1048576 : Int) < n) = false := by simpa using h2
  have t3 : decide (seq < -1) = false := by simpa using h3
  have t4 : decide (4611686018427387904 - n < seq) = false := by simpa using h4
  clear h
  go_enter Tryz.func105, Tryz.ntmps105
  go_wp2
  go_ret2
  exact ⟨rfl, rfl⟩

theorem pnext_bad (seq n : Int) (h : nextErr seq n ≠ 0) (c : Nat → Nat) (w : World) :
    Calls Tryz.prog 105 #[.int .i64 seq, .int .i64 n] w fun e w' => ∃ ev, e = .returned (.tuple #[.int .i64 0, ev]) ∧ ∃ c', Stp (fun _ => False) c c' w w' ∧ ErrAt c' w' ev (nextErr seq n) := by
  by_cases h1 : n < 1
  · have t1 : decide (n < 1) = true := by simpa using h1
    have e : nextErr seq n = 1 := by simp [nextErr, h1]
    rw [e]
    clear h1 e h
    go_enter Tryz.func105, Tryz.ntmps105
    go_wp2_with (go_at_call 50; refine (wrap_some _ _ _ _ _).mono ?_; rintro e w' ⟨rfl, rfl⟩)
    go_ret2
    exact ⟨_, rfl, _, (Stp.refl _ c w).alloc _ 1, ErrAt.new _ _ _ _ _⟩
  · have t1 : decide (n < 1) = false := by simpa using h1
    by_cases h2 : 1048576 < n
    · have t2 : decide ((1048576 : Int) < n) = true := by simpa using h2
      have e : nextErr seq n = 1 := by simp [nextErr, h2]
      rw [e]
      clear e h
      go_enter Tryz.func105, Tryz.ntmps105
      go_wp2_with (go_at_call 50; refine (wrap_some _ _ _ _ _).mono ?_; rintro e w' ⟨rfl, rfl⟩)
      go_ret2
      exact ⟨_, rfl, _, (Stp.refl _ c w).alloc _ 1, ErrAt.new _ _ _ _ _⟩
    · have t2 : decide ((1048576 : Int) < n) = false := by simpa using h2
      by_cases h3 : seq < -1
      · have t3 : decide (seq < -1) = true := by simpa using h3
        have e : nextErr seq n = 5 := by simp [nextErr, h1, h2, h3]
        rw [e]
        clear e h
        go_enter Tryz.func105, Tryz.ntmps105
        go_wp2_with (go_at_call 50; refine (wrap_some _ _ _ _ _).mono ?_; rintro e w' ⟨rfl, rfl⟩)
        go_ret2
        exact ⟨_, rfl, _, (Stp.refl _ c w).alloc _ 1, ErrAt.new _ _ _ _ _⟩
      · have t3 : decide (seq < -1) = false := by simpa using h3
        by_cases h4 : 4611686018427387904 - n < seq
        · have t4 : decide (4611686018427387904 - n < seq) = true := by simpa using h4
          have e : nextErr seq n = 15 := by simp [nextErr, h1, h2, h3, h4]
          rw [e]
          clear e h
          go_enter Tryz.func105, Tryz.ntmps105
          go_wp2_with (go_at_call 50; refine (wrap_some _ _ _ _ _).mono ?_; rintro e w' ⟨rfl, rfl⟩)
          go_ret2
          exact ⟨_, rfl, _, (Stp.refl _ c w).alloc _ 1, ErrAt.new _ _ _ _ _⟩
        · exact absurd (by simp [nextErr, h1, h2, h3, h4]) h

/-- How many may be claimed yet. -/
def roomOf (m cl le : Int) : Int := if cl < -1 ∨ 4611686018427387904 < cl ∨ le < -1 ∨ cl < le then 0 else if m ≤ cl - le then 0 else m - (cl - le)

end Go.Proofs.YtiphdedfbafhkaaGreatDoor
