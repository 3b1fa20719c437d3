/- Contracts of Next and Room of package pow, and of the document's Room. No condition beyond each contract's own. -/
import Derived.Test.YtoifknfmamcimaaDoorPow3
namespace Go.Proofs.YtoifknfmamcimaaDoor
open Go.RowKit

theorem pnext_ok (seq n : Int) (h : nextErr seq n = 0) (w : World) :
    Calls Tryd.prog 80 #[.int .i64 seq, .int .i64 n] w fun e w' => e = .returned (.tuple #[.int .i64 (seq + n), .nilIface]) ∧ w = w' := by
  have h1 : ¬ n < 1 := fun h1 => by simp [nextErr, h1] at h
  have h2 : ¬ 1048576 < n := fun h2 => by simp [nextErr, h2] at h
  have h3 : ¬ seq < -1 := fun h3 => by simp [nextErr, h1, h2, h3] at h
  have h4 : ¬ 4611686018427387904 - n < seq := fun h4 => by simp [nextErr, h1, h2, h3, h4] at h
  have t1 : decide (n < 1) = false := by simpa using h1
  have t2 : decide ((1048576 : Int) < n) = false := by simpa using h2
  have t3 : decide (seq < -1) = false := by simpa using h3
  have t4 : decide (4611686018427387904 - n < seq) = false := by simpa using h4
  clear h
  go_enter Tryd.func80, Tryd.ntmps80
  go_wp2
  go_ret2
  exact ⟨rfl, rfl⟩

theorem pnext_bad (seq n : Int) (h : nextErr seq n ≠ 0) (c : Nat → Nat) (w : World) :
    Calls Tryd.prog 80 #[.int .i64 seq, .int .i64 n] w fun e w' => ∃ ev, e = .returned (.tuple #[.int .i64 0, ev]) ∧ ∃ c', Stp (fun _ => False) c c' w w' ∧ ErrAt c' w' ev (nextErr seq n) := by
  by_cases h1 : n < 1
  · have t1 : decide (n < 1) = true := by simpa using h1
    have e : nextErr seq n = 1 := by simp [nextErr, h1]
    rw [e]
    clear h1 e h
    go_enter Tryd.func80, Tryd.ntmps80
    go_wp2_with (go_at_call 65; refine (wrap_some _ _ _ _ _).mono ?_; rintro e w' ⟨rfl, rfl⟩)
    go_ret2
    exact ⟨_, rfl, _, (Stp.refl _ c w).alloc _ 1, ErrAt.new _ _ _ _ _⟩
  · have t1 : decide (n < 1) = false := by simpa using h1
    by_cases h2 : 1048576 < n
    · have t2 : decide ((1048576 : Int) < n) = true := by simpa using h2
      have e : nextErr seq n = 1 := by simp [nextErr, h2]
      rw [e]
      clear e h
      go_enter Tryd.func80, Tryd.ntmps80
      go_wp2_with (go_at_call 65; refine (wrap_some _ _ _ _ _).mono ?_; rintro e w' ⟨rfl, rfl⟩)
      go_ret2
      exact ⟨_, rfl, _, (Stp.refl _ c w).alloc _ 1, ErrAt.new _ _ _ _ _⟩
    · have t2 : decide ((1048576 : Int) < n) = false := by simpa using h2
      by_cases h3 : seq < -1
      · have t3 : decide (seq < -1) = true := by simpa using h3
        have e : nextErr seq n = 5 := by simp [nextErr, h1, h2, h3]
        rw [e]
        clear e h
        go_enter Tryd.func80, Tryd.ntmps80
        go_wp2_with (go_at_call 65; refine (wrap_some _ _ _ _ _).mono ?_; rintro e w' ⟨rfl, rfl⟩)
        go_ret2
        exact ⟨_, rfl, _, (Stp.refl _ c w).alloc _ 1, ErrAt.new _ _ _ _ _⟩
      · have t3 : decide (seq < -1) = false := by simpa using h3
        by_cases h4 : 4611686018427387904 - n < seq
        · have t4 : decide (4611686018427387904 - n < seq) = true := by simpa using h4
          have e : nextErr seq n = 15 := by simp [nextErr, h1, h2, h3, h4]
          rw [e]
          clear e h
          go_enter Tryd.func80, Tryd.ntmps80
          go_wp2_with (go_at_call 65; refine (wrap_some _ _ _ _ _).mono ?_; rintro e w' ⟨rfl, rfl⟩)
          go_ret2
          exact ⟨_, rfl, _, (Stp.refl _ c w).alloc _ 1, ErrAt.new _ _ _ _ _⟩
        · exact absurd (by simp [nextErr, h1, h2, h3, h4]) h

/-- How many may be claimed yet. -/
def roomOf (m cl le : Int) : Int := if cl < -1 ∨ 4611686018427387904 < cl ∨ le < -1 ∨ cl < le then 0 else if m ≤ cl - le then 0 else m - (cl - le)

theorem proom_in (k : Nat) (hk : k < 21) (cl le : Int) (h1 : ¬ cl < -1) (h2 : ¬ 4611686018427387904 < cl) (h3 : ¬ le < -1) (h4 : ¬ cl < le) (w : World) :
    Calls Tryd.prog 79 #[.agg #[.int .i64 k], .int .i64 cl, .int .i64 le] w fun e w' => e = .returned (.int .i64 (roomOf (2 ^ k) cl le)) ∧ Below w.heap.size w w' := by
  have hb := two_pow_bd k hk
  have t1 : decide (cl < -1) = false := by simpa using h1
  have t2 : decide ((4611686018427387904 : Int) < cl) = false := by simpa using h2
  have t3 : decide (le < -1) = false := by simpa using h3
  have t4 : decide (cl < le) = false := by simpa using h4
  have hr : roomOf (2 ^ k) cl le = max 0 (2 ^ k - (cl - le)) := by
    unfold roomOf
    rw [if_neg (by omega)]
    split <;> omega
  have Hr := Lib.hid hr
  clear hr
  go_enter Tryd.func79, Tryd.ntmps79
  go_wp2_with (go_at_call 73; refine (slots_k k hk _).mono ?_; rintro e w' ⟨rfl, rfl⟩)
  all_goals
    go_ret
    refine ⟨?_, ((Below.refl _ _).alloc (Nat.le_refl _) _).alloc (by simp) _⟩
    rw [Hr.out]
    simp
    omega

theorem proom_out (k : Nat) (cl le : Int) (h : cl < -1 ∨ 4611686018427387904 < cl ∨ le < -1 ∨ cl < le) (w : World) :
    Calls Tryd.prog 79 #[.agg #[.int .i64 k], .int .i64 cl, .int .i64 le] w fun e w' => e = .returned (.int .i64 0) ∧ Below w.heap.size w w' := by
  by_cases h1 : cl < -1
  · have t1 : decide (cl < -1) = true := by simpa using h1
    clear h
    go_enter Tryd.func79, Tryd.ntmps79
    go_wp2
    go_ret
    exact ⟨rfl, (Below.refl _ _).alloc (Nat.le_refl _) _⟩
  · have t1 : decide (cl < -1) = false := by simpa using h1
    by_cases h2 : 4611686018427387904 < cl
    · have t2 : decide ((4611686018427387904 : Int) < cl) = true := by simpa using h2
      clear h
      go_enter Tryd.func79, Tryd.ntmps79
      go_wp2
      go_ret
      exact ⟨rfl, (Below.refl _ _).alloc (Nat.le_refl _) _⟩
    · have t2 : decide ((4611686018427387904 : Int) < cl) = false := by simpa using h2
      by_cases h3 : le < -1
      · have t3 : decide (le < -1) = true := by simpa using h3
        clear h
        go_enter Tryd.func79, Tryd.ntmps79
        go_wp2
        go_ret
        exact ⟨rfl, (Below.refl _ _).alloc (Nat.le_refl _) _⟩
      · have t3 : decide (le < -1) = false := by simpa using h3
        have h4 : cl < le := by omega
        have t4 : decide (cl < le) = true := by simpa using h4
        clear h
        go_enter Tryd.func79, Tryd.ntmps79
        go_wp2
        go_ret
        exact ⟨rfl, (Below.refl _ _).alloc (Nat.le_refl _) _⟩
end Go.Proofs.YtoifknfmamcimaaDoor
