/- Contracts of the methods of a size of package pow: of every size of 2^k slots, k below 21, and every number. -/
import Derived.Test.YtiphdedfbafhkaaGreatDoorPow
namespace Go.Proofs.YtiphdedfbafhkaaGreatDoor
open Go.RowKit

theorem two_pow_cast (k : Nat) : ((2 ^ k : Nat) : Int) = 2 ^ k := by simp
theorem two_pow_bd (k : Nat) (hk : k < 21) : (1 : Int) ≤ 2 ^ k ∧ (2 : Int) ^ k ≤ 1048576 := by
  have h1 : 1 ≤ 2 ^ k := Nat.one_le_two_pow
  have h2 : 2 ^ k ≤ 2 ^ 20 := Nat.pow_le_pow_right (by decide) (by omega)
  rw [← two_pow_cast]
  omega
theorem wrap_two_pow (k : Nat) (hk : k < 21) : wrap64 (2 ^ k) = 2 ^ k := by
  have := two_pow_bd k hk
  exact IntWalk.wrap64_in _ ⟨by omega, by omega⟩
theorem wrap_mask (k : Nat) (hk : k < 21) : wrap64 (2 ^ k - 1) = 2 ^ k - 1 := by
  have := two_pow_bd k hk
  exact IntWalk.wrap64_in _ ⟨by omega, by omega⟩

/-- The low bits of any number are its rest by a power of two. -/
theorem and_mask (seq : Int) (k : Nat) (hk : k < 21) : bits BinOp.and IntKind.i64 seq (2 ^ k - 1) = seq % 2 ^ k := by
  have hb := two_pow_bd k hk
  have hm : (2 : Int) ^ k - 1 = ((2 ^ k - 1 : Nat) : Int) := by
    have h1 : 1 ≤ 2 ^ k := Nat.one_le_two_pow
    rw [← two_pow_cast]; omega
  show IntKind.i64.wrap ((BitVec.ofInt 64 seq &&& BitVec.ofInt 64 (2 ^ k - 1)).toNat : Int) = _
  rw [BitVec.toNat_and, hm, BitVec.ofInt_natCast, BitVec.toNat_ofNat, BitVec.toNat_ofInt]
  have h2 : 2 ^ k - 1 < 2 ^ 64 := by
    have : 2 ^ k ≤ 2 ^ 20 := Nat.pow_le_pow_right (by decide) (by omega)
    omega
  rw [Nat.mod_eq_of_lt h2, Nat.and_two_pow_sub_one_eq_mod]
  have h3 : 0 ≤ seq % 2 ^ k := Int.emod_nonneg _ (by omega)
  have h4 : seq % 2 ^ k < 2 ^ k := Int.emod_lt_of_pos _ (by omega)
  have e : (((seq % ((2 ^ 64 : Nat) : Int)).toNat % 2 ^ k : Nat) : Int) = seq % 2 ^ k := by
    rw [Int.natCast_emod, Int.toNat_of_nonneg (Int.emod_nonneg _ (by decide)), two_pow_cast]
    refine Int.emod_emod_of_dvd _ ?_
    have : (2 : Int) ^ k ∣ 2 ^ 64 := ⟨2 ^ (64 - k), by rw [← Int.pow_add, show k + (64 - k) = 64 by omega]⟩
    simpa using this
  rw [e, IntKind.wrap_i64]
  omega

theorem slots_k (k : Nat) (hk : k < 21) (w : World) : Calls Tryz.prog 30 #[.agg #[.int .i64 k]] w (fun e w' => e = .returned (.int .i64 (2 ^ k)) ∧ w.alloc (.cells #[.int .i64 k] 65) = w') := by
  have h := wrap_two_pow k hk
  go_enter Tryz.func30, Tryz.ntmps30
  go_wp2
  go_ret
  exact ⟨by simp [h], rfl⟩
theorem round_k (k : Nat) (hk : k < 21) (seq : Int) (w : World) : Calls Tryz.prog 151 #[.agg #[.int .i64 k], .int .i64 seq] w (fun e w' => e = .returned (.int .i64 (seq / 2 ^ k)) ∧ w.alloc (.cells #[.int .i64 k] 65) = w') := by
  go_enter Tryz.func151, Tryz.ntmps151
  go_wp2
  go_ret
  exact ⟨rfl, rfl⟩
theorem index_k (k : Nat) (hk : k < 21) (seq : Int) (w : World) : Calls Tryz.prog 88 #[.agg #[.int .i64 k], .int .i64 seq] w (fun e w' => e = .returned (.int .i64 (seq % 2 ^ k)) ∧
    ((w.alloc (.cells #[.int .i64 k] 65)).alloc (.cells #[.int .i64 k] 65)).alloc (.cells #[.int .i64 k] 65) = w') := by
  have h1 := wrap_two_pow k hk
  have h2 := wrap_mask k hk
  have h3 := and_mask seq k hk
  go_enter Tryz.func88, Tryz.ntmps88
  go_wp2
  go_ret
  exact ⟨rfl, rfl⟩

end Go.Proofs.YtiphdedfbafhkaaGreatDoor
