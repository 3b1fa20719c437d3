/- Contracts of the document's Place, and of Wrap, Next, Room of package pow and of the document. -/
import Derived.Test.YteicmmgpkhmlbaaDoorPow2
import Derived.Test.YteicmmgpkhmlbaaDoorErrs2
namespace Go.Proofs.YteicmmgpkhmlbaaDoor
open Go.RowKit

theorem tmod_neg (s m : Int) (hs : s < 0) (hm : 0 < m) : s.tmod m = if s % m = 0 then 0 else s % m - m := by
  have h := Int.tmod_eq_emod (a := s) (b := m)
  rw [h]
  split <;> rename_i h1 <;> split <;> rename_i h2
  · simpa using h2
  · rcases h1 with h1 | h1
    · omega
    · exact absurd (Int.emod_eq_zero_of_dvd h1) h2
  · simp only [not_or] at h1
    exact absurd (Int.dvd_of_emod_eq_zero h2) h1.2
  · omega
theorem tdiv_neg (s m : Int) (hs : s < 0) (hm : 0 < m) : s.tdiv m = if s % m = 0 then s / m else s / m + 1 := by
  have h := Int.tdiv_eq_ediv (a := s) (b := m)
  rw [h]
  split <;> rename_i h1 <;> split <;> rename_i h2
  · simp
  · rcases h1 with h1 | h1
    · omega
    · exact absurd (Int.emod_eq_zero_of_dvd h1) h2
  · simp only [not_or] at h1
    exact absurd (Int.dvd_of_emod_eq_zero h2) h1.2
  · rw [Int.sign_eq_one_of_pos hm]

/-- The document's slot and round of an index, by division. -/
theorem place_any (seq m : Int) (h0 : -9223372036854775808 ≤ seq) (h1 : seq ≤ 9223372036854775807) (m1 : 1 ≤ m) (m2 : m ≤ 1048576) (w : World) :
    Calls Tryd.prog 21 #[.int .i64 seq, .int .i64 m] w fun e w' => e = .returned (.tuple #[.int .i64 (seq % m), .int .i64 (seq / m)]) ∧ w = w' := by
  have d2 : 0 ≤ seq % m := Int.emod_nonneg _ (by omega)
  have d3 : seq % m < m := Int.emod_lt_of_pos _ (by omega)
  have hz : (m == 0) = false := by simp; omega
  have hz1 : (m == -1) = false := by simp; omega
  by_cases hs : 0 ≤ seq
  · have t : decide (seq % m < 0) = false := by simp; omega
    go_enter Tryd.func21, Tryd.ntmps21
    go_wp2
    go_ret2
    exact ⟨rfl, rfl⟩
  · have ht := tmod_neg seq m (by omega) (by omega)
    have hd := tdiv_neg seq m (by omega) (by omega)
    have q0 : seq / m < 0 := Int.ediv_neg_of_neg_of_pos (by omega) (by omega)
    have q1 : -9223372036854775808 ≤ seq / m := by
      have h3 : seq ≤ seq / m := by
        have := Int.le_ediv_of_mul_le (a := seq) (b := seq) (c := m) (by omega) (by
          have : seq * m ≤ seq * 1 := Int.mul_le_mul_of_nonpos_left (by omega) (by omega)
          omega)
        exact this
      omega
    have hw : wrap64 (seq / m) = seq / m := IntWalk.wrap64_in _ ⟨by omega, by omega⟩
    by_cases hr : seq % m = 0
    · rw [if_pos hr] at ht hd
      rw [hr]
      clear d2 d3 hr
      go_enter Tryd.func21, Tryd.ntmps21
      go_wp2
      go_ret2
      exact ⟨by simp, rfl⟩
    · rw [if_neg hr] at ht hd
      have t : decide (seq % m - m < 0) = true := by simp; omega
      clear hr
      go_enter Tryd.func21, Tryd.ntmps21
      go_wp2
      go_ret2
      exact ⟨by simp, rfl⟩

/-- Wrap of an index that may be. -/
theorem pwrap_ok (k : Nat) (hk : k < 21) (seq : Int) (h0 : -1 ≤ seq) (h1 : seq ≤ 4611686018427387904) (c : Nat → Nat) (w : World) :
    Calls Tryd.prog 22 #[.agg #[.int .i64 k], .int .i64 seq] w fun e w' => e = .returned (.tuple #[.int .i64 (seq - 2 ^ k), .nilIface]) ∧ ∃ c', Stp (fun _ => False) c c' w w' := by
  have hb := two_pow_bd k hk
  have t1 : decide (seq < -1) = false := by simp; omega
  have t2 : decide ((4611686018427387904 : Int) < seq) = false := by simp; omega
  go_enter Tryd.func22, Tryd.ntmps22
  go_wp2_with (go_at_call 18; refine (slots_k k hk _).mono ?_; rintro e w' ⟨rfl, rfl⟩)
  go_ret2
  exact ⟨rfl, _, ((Stp.refl _ c w).alloc _ 2).alloc _ 2⟩

theorem pwrap_bad (k : Nat) (seq : Int) (h : seq < -1 ∨ 4611686018427387904 < seq) (c : Nat → Nat) (w : World) :
    Calls Tryd.prog 22 #[.agg #[.int .i64 k], .int .i64 seq] w fun e w' => ∃ ev, e = .returned (.tuple #[.int .i64 0, ev]) ∧ ∃ c', Stp (fun _ => False) c c' w w' ∧ ErrAt c' w' ev 5 := by
  by_cases h0 : seq < -1
  · have t1 : decide (seq < -1) = true := by simpa using h0
    clear h
    go_enter Tryd.func22, Tryd.ntmps22
    go_wp2_with (go_at_call 58; refine (wrap_some _ _ _ _ _).mono ?_; rintro e w' ⟨rfl, rfl⟩)
    go_ret2
    exact ⟨_, rfl, paint (paint c w.heap.size 2) (w.heap.size + 1) 1, Stp.allocG (Stp.allocG (Stp.refl _ c w) rfl) (by simp), ErrAt.newAt (by simp) (by simp)⟩
  · have t1 : decide (seq < -1) = false := by simpa using h0
    have t2 : decide ((4611686018427387904 : Int) < seq) = true := by simp; omega
    clear h h0
    go_enter Tryd.func22, Tryd.ntmps22
    go_wp2_with (go_at_call 58; refine (wrap_some _ _ _ _ _).mono ?_; rintro e w' ⟨rfl, rfl⟩)
    go_ret2
    exact ⟨_, rfl, paint (paint c w.heap.size 2) (w.heap.size + 1) 1, Stp.allocG (Stp.allocG (Stp.refl _ c w) rfl) (by simp), ErrAt.newAt (by simp) (by simp)⟩

/-- What is wrong with a step of n on from an index, 0: nothing. -/
def nextErr (seq n : Int) : Int := if n < 1 ∨ 1048576 < n then 1 else if seq < -1 then 5 else if 4611686018427387904 - n < seq then 15 else 0

theorem rnext_any (seq n : Int) (hs : -9223372036854775808 ≤ seq) (hs1 : seq ≤ 9223372036854775807) (w : World) :
    Calls Tryd.prog 25 #[.int .i64 seq, .int .i64 n] w fun e w' => e = .returned (.tuple #[.int .i64 (if nextErr seq n = 0 then seq + n else 0), .int .i64 (nextErr seq n)]) ∧ w = w' := by
  by_cases h1 : n < 1
  · have t1 : decide (n < 1) = true := by simpa using h1
    have e : nextErr seq n = 1 := by simp [nextErr, h1]
    rw [e]
    clear h1 e
    go_enter Tryd.func25, Tryd.ntmps25
    go_wp2
    go_ret2
    exact ⟨rfl, rfl⟩
  · have t1 : decide (n < 1) = false := by simpa using h1
    by_cases h2 : 1048576 < n
    · have t2 : decide ((1048576 : Int) < n) = true := by simpa using h2
      have e : nextErr seq n = 1 := by simp [nextErr, h2]
      rw [e]
      clear e
      go_enter Tryd.func25, Tryd.ntmps25
      go_wp2
      go_ret2
      exact ⟨rfl, rfl⟩
    · have t2 : decide ((1048576 : Int) < n) = false := by simpa using h2
      by_cases h3 : seq < -1
      · have t3 : decide (seq < -1) = true := by simpa using h3
        have e : nextErr seq n = 5 := by simp [nextErr, h1, h2, h3]
        rw [e]
        clear e
        go_enter Tryd.func25, Tryd.ntmps25
        go_wp2
        go_ret2
        exact ⟨rfl, rfl⟩
      · have t3 : decide (seq < -1) = false := by simpa using h3
        by_cases h4 : 4611686018427387904 - n < seq
        · have t4 : decide (4611686018427387904 - n < seq) = true := by simpa using h4
          have e : nextErr seq n = 15 := by simp [nextErr, h1, h2, h3, h4]
          rw [e]
          clear e
          go_enter Tryd.func25, Tryd.ntmps25
          go_wp2
          go_ret2
          exact ⟨rfl, rfl⟩
        · have t4 : decide (4611686018427387904 - n < seq) = false := by simpa using h4
          have e : nextErr seq n = 0 := by simp [nextErr, h1, h2, h3, h4]
          rw [e]
          clear e
          go_enter Tryd.func25, Tryd.ntmps25
          go_wp2
          go_ret2
          exact ⟨by simp, rfl⟩
end Go.Proofs.YteicmmgpkhmlbaaDoor
