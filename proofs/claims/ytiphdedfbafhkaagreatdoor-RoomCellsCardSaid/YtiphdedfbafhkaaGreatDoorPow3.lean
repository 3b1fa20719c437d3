/- Contracts of the document's Place, and of Wrap, Next, Room of package pow and of the document. -/
import Derived.Test.YtiphdedfbafhkaaGreatDoorPow2
import Derived.Test.YtiphdedfbafhkaaGreatDoorErrs2
namespace Go.Proofs.YtiphdedfbafhkaaGreatDoor
open Go.RowKit

theorem tmod_neg (s m : Int) (hs : s < 0) (hm : 0 < m) : s.tmod m = if s % m = 0 then 0 else s % m - m := by
  have h := Int.tmod_eq_emod (a := s) (b := m)
  rw [h]
  split <;> rename_i h1 <;> split <;> rename_i h2
  · simpa using h2
  · rcases h1 with h1 | h1
    · omega
    · exact absurd (Int.emod_eq_zero_of_dvd h1) h2
  · simp only [not_or] at h1
    exact absurd (Int.dvd_of_emod_eq_zero h2) h1.2
  · omega
theorem tdiv_neg (s m : Int) (hs : s < 0) (hm : 0 < m) : s.tdiv m = if s % m = 0 then s / m else s / m + 1 := by
  have h := Int.tdiv_eq_ediv (a := s) (b := m)
  rw [h]
  split <;> rename_i h1 <;> split <;> rename_i h2
  · simp
  · rcases h1 with h1 | h1
    · omega
    · exact absurd (Int.emod_eq_zero_of_dvd h1) h2
  · simp only [not_or] at h1
    exact absurd (Int.dvd_of_emod_eq_zero h2) h1.2
  · rw [Int.sign_eq_one_of_pos hm]

/-- What is wrong with a step of n on from an index, 0: nothing. -/
def nextErr (seq n : Int) : Int := if n < 1 ∨ 1048576 < n then 1 else if seq < -1 then 5 else if 4611686018427387904 - n < seq then 15 else 0

end Go.Proofs.YtiphdedfbafhkaaGreatDoor
