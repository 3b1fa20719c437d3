/- Contracts of package pow. -/
import Derived.Test.YtiphdedfbafhkaaGreatDoorMem2
import Derived.Test.YtiphdedfbafhkaaGreatDoorRows
namespace Go.Proofs.YtiphdedfbafhkaaGreatDoor
open Go.RowKit

theorem tz_gen (x : Int) (i : Nat) (v : Int) (w : World) (hx : (x == 0) = false) (hidx : IntKind.u64.wrap (bits BinOp.and IntKind.u64 x (IntKind.u64.wrap (-x)) * 285870213051353865) / 288230376151711744 = (i : Int)) (hi : i < 64)
    (ht : w.cell? ⟨1, i, none⟩ = some (.int .u8 v)) (h0 : 0 ≤ v) (h1 : v ≤ 64) :
    Calls Tryz.prog 103 #[.int .u64 x] w fun e w' => e = .returned (.int .i64 v) ∧ w = w' := by
  go_enter Tryz.func103, Tryz.ntmps103
  go_wp2
  go_ret
  exact ⟨rfl, rfl⟩

/-- The table of math/bits.deBruijn64tab. -/
def deb64 : List Int := [0, 1, 56, 2, 57, 49, 28, 3, 61, 58, 42, 50, 38, 29, 17, 4, 62, 47, 59, 36, 45, 43, 51, 22, 53, 39, 33, 30, 24, 18, 12, 5, 63, 55, 48, 27, 60, 41, 37, 16, 46, 35, 44, 21, 52, 32, 23, 11, 54, 26, 40, 15, 34, 20, 31, 10, 25, 14, 19, 9, 13, 8, 7, 6]
def deb32 : List Int := [0, 1, 28, 2, 29, 14, 24, 3, 30, 22, 20, 15, 25, 17, 4, 8, 31, 27, 13, 23, 21, 19, 16, 7, 26, 12, 18, 6, 11, 5, 10, 9]

/-- The place in the table of a power of two. -/
def debAt (k : Nat) : Nat := (2 ^ k * 285870213051353865 % 18446744073709551616) / 288230376151711744

/-- What of the tables a walk wants: the cells of deBruijn64tab. -/
def Tab (w : World) : Prop := ∀ i, i < 64 → w.cell? ⟨1, i, none⟩ = some (.int .u8 (deb64.getD i 0))

theorem deb_facts : ∀ k : Nat, k < 21 → (((2 ^ k : Nat) : Int) == 0) = false ∧ IntKind.u64.wrap (bits BinOp.and IntKind.u64 ((2 ^ k : Nat) : Int) (IntKind.u64.wrap (-((2 ^ k : Nat) : Int))) * 285870213051353865) / 288230376151711744 = (debAt k : Int) ∧ debAt k < 64 ∧ deb64.getD (debAt k) 0 = (k : Int) ∧
    (1 : Int) ≤ ((2 ^ k : Nat) : Int) ∧ ((2 ^ k : Nat) : Int) ≤ 1048576 ∧ (bits BinOp.and IntKind.i64 ((2 ^ k : Nat) : Int) (((2 ^ k : Nat) : Int) - 1) != 0) = false := by decide +kernel

theorem of_gen (c : Nat → Nat) (n : Int) (i : Nat) (v : Int) (w : World) (hx : (n == 0) = false) (hidx : IntKind.u64.wrap (bits BinOp.and IntKind.u64 n (IntKind.u64.wrap (-n)) * 285870213051353865) / 288230376151711744 = (i : Int)) (hi : i < 64)
    (ht : w.cell? ⟨1, i, none⟩ = some (.int .u8 v)) (hlt : 1 < w.heap.size) (h0 : 0 ≤ v) (h1 : v ≤ 64) (n0 : 1 ≤ n) (n1 : n ≤ 1048576) (hand : (bits BinOp.and IntKind.i64 n (n - 1) != 0) = false) :
    Calls Tryz.prog 51 #[.int .i64 n] w fun e w' => e = .returned (.tuple #[.agg #[.int .i64 v], .nilIface]) ∧ ∃ c', Stp (fun _ => False) c c' w w' := by
  have Hidx := Lib.hid hidx
  have ht' : ∀ o, (w.alloc o).cell? ⟨1, i, none⟩ = some (.int .u8 v) := fun o => by rw [World.cell?_alloc_past _ _ _ hlt]; exact ht
  have Ht := Lib.hid ht'
  have t1 : decide (n < 1) = false := by simp; omega
  have t2 : decide ((1048576 : Int) < n) = false := by simp; omega
  clear hidx ht hlt ht'
  go_enter Tryz.func51, Tryz.ntmps51
  go_wp2_with (go_at_call 103; refine (tz_gen _ i v _ hx Hidx.out hi (Ht.out _) h0 h1).mono ?_; rintro e w' ⟨rfl, rfl⟩)
  exact bodyPost_ret (v := .tuple #[.agg #[.int .i64 v], .nilIface]) (by simp [results, Tryz.results51, go_sem]) rfl ⟨rfl, _, (Stp.refl _ c w).alloc _ 2⟩

/-- Of a power of two that is a size. -/
theorem of_pow (c : Nat → Nat) (k : Nat) (hk : k < 21) (w : World) (ht : Tab w) :
    Calls Tryz.prog 51 #[.int .i64 ((2 ^ k : Nat) : Int)] w fun e w' => e = .returned (.tuple #[.agg #[.int .i64 k], .nilIface]) ∧ ∃ c', Stp (fun _ => False) c c' w w' := by
  obtain ⟨h1, h2, h3, h4, h5, h6, h7⟩ := deb_facts k hk
  have := ht (debAt k) h3
  rw [h4] at this
  exact of_gen c _ (debAt k) k w h1 h2 h3 this (World.block_lt_of_cell? w _ (ht 0 (by decide))) (by omega) (by omega) h5 h6 h7

theorem Tab.stp {J : Nat → Prop} {c c' : Nat → Nat} {w w' : World} (h : Tab w) (s : Stp J c c' w w') (hj : ¬ J (c 1)) : Tab w' := fun i hi =>
  (World.cell?_of_block (s.block 1 (World.block_lt_of_cell? w _ (h 0 (by decide))) hj)).trans (h i hi)
end Go.Proofs.YtiphdedfbafhkaaGreatDoor
