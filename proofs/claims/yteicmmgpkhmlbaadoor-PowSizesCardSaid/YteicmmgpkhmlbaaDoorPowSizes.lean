/- The walk of the law PowSizes: it returns true for all numbers, and turns nothing that was there. No condition but that the table of math/bits holds what the program lays there. -/
import Derived.Test.YteicmmgpkhmlbaaDoorPow5
import Derived.Test.YteicmmgpkhmlbaaDoorMem3
namespace Go.Proofs.YteicmmgpkhmlbaaDoor
open Go.RowKit

set_option maxRecDepth 100000 in
set_option maxHeartbeats 1000000 in
theorem sizes_pow (k : Nat) (hk : k < 21) (w : World) (ht : Tab w) :
    Calls Tryd.prog 7 #[.int .i64 ((2 ^ k : Nat) : Int)] w fun e w' => e = .returned (.bool true) ∧ Below w.heap.size w w' := by
  have Ht := Lib.hid ht
  have hb := pow_le20 k hk
  have hwm := wrap_mask k hk
  clear ht
  go_enter Tryd.func7, Tryd.ntmps7
  go_wp2_with fail
  refine (of_pow (fun _ => 0) k hk _ Ht.out).mono ?_
  rintro e w1 ⟨rfl, c1, s1⟩
  go_wp2_with fail
  refine (rshift_yes k hk _).mono ?_
  rintro e w2 ⟨rfl, rfl⟩
  go_wp2_with (first
    | (go_at_call 36; refine (shift_k _ _).mono ?_; rintro e w' ⟨rfl, rfl⟩)
    | (go_at_call 18; refine (slots_k k hk _).mono ?_; rintro e w' ⟨rfl, rfl⟩)
    | (go_at_call 37; refine (mask_k k hk _).mono ?_; rintro e w' ⟨rfl, rfl⟩))
  obtain ⟨c2, -, S2⟩ := (((((s1.alloc (.cells #[.int .i64 k] 24) 2).alloc (.cells #[.int .i64 k] 24) 2).alloc (.cells #[.int .i64 k] 24) 2).alloc (.cells #[.int .i64 k] 24) 2).alloc (.cells #[.int .i64 k] 24) 2).name
  rw [← two_pow_cast]
  refine (up_any c2 _ k (upTo_pow k hk) hb.2 _).mono ?_
  rintro e w3 ⟨rfl, c3, s3⟩
  have S3 := Lib.hid (S2.out.trans s3)
  clear s1 s3 S2
  go_wp2_with fail
  rw [← two_pow_cast]
  refine (rup_yes _ k (upTo_pow k hk) _).mono ?_
  rintro e w4 ⟨rfl, rfl⟩
  go_wp2_with fail
  obtain ⟨c4, -, S4⟩ := (S3.out.alloc (.cells #[.int .i64 k] 24) 2).name
  refine (awake2 c4 _ (Ht.out.stp S4.out id)).mono ?_
  rintro e w5 ⟨rfl, c5, s5⟩
  have S5 := Lib.hid (S4.out.trans s5)
  have hcell : w5.cell? ⟨w3.heap.size, 0, none⟩ = some (.int .i64 k) := by
    rw [World.cell?_of_block (w := w3.alloc (.cells #[.int .i64 k] 24)) (s5.block w3.heap.size (by simp) id)]; simp
  clear S4 s5 S3
  go_wp2_with (go_at_call 36; refine (shift_k _ _).mono ?_; rintro e w' ⟨rfl, rfl⟩)
  go_ret
  exact ⟨by simp, (S5.out.alloc _ 2).below (Nat.le_refl _) (fun _ _ h => h)⟩

set_option maxRecDepth 100000 in
set_option maxHeartbeats 1000000 in
theorem sizes_mid (n : Int) (hn : NoPow n) (h1 : n ≤ 1048576) (w : World) (ht : Tab w) :
    Calls Tryd.prog 7 #[.int .i64 n] w fun e w' => e = .returned (.bool true) ∧ Below w.heap.size w w' := by
  have Ht := Lib.hid ht
  have Hn := Lib.hid hn
  clear ht hn
  obtain ⟨v, hv⟩ := upTo_ex n h1
  have Hv := Lib.hid hv
  clear hv
  go_enter Tryd.func7, Tryd.ntmps7
  go_wp2_with fail
  refine (of_bad (fun _ => 0) n Hn.out _).mono ?_
  rintro e w1 ⟨ev, rfl, c1, s1, he1⟩
  obtain ⟨c2, -, S2⟩ := (s1.alloc (.cells #[.int .i64 0] 24) 2).name
  have He := Lib.hid ((he1.stp ((Stp.refl (fun _ => False) c1 w1).alloc (.cells #[.int .i64 0] 24) 2) id).err (by decide))
  clear s1 he1
  go_wp2_with fail
  refine (rshift_no n Hn.out _).mono ?_
  rintro e w2 ⟨rfl, rfl⟩
  go_wp2_with (go_at_call 23; refine (lawis He.out 7).mono ?_; rintro e w' ⟨rfl, rfl⟩)
  refine (up_any c2 n v Hv.out h1 _).mono ?_
  rintro e w3 ⟨rfl, c3, s3⟩
  have S3 := Lib.hid (S2.out.trans s3)
  clear s3 S2
  go_wp2_with fail
  refine (rup_yes _ v Hv.out _).mono ?_
  rintro e w4 ⟨rfl, rfl⟩
  go_wp2_with fail
  obtain ⟨c4, -, S4⟩ := (S3.out.alloc (.cells #[.int .i64 v] 24) 2).name
  refine (awake2 c4 _ (Ht.out.stp S4.out id)).mono ?_
  rintro e w5 ⟨rfl, c5, s5⟩
  have S5 := Lib.hid (S4.out.trans s5)
  have hcell : w5.cell? ⟨w3.heap.size, 0, none⟩ = some (.int .i64 v) := by
    rw [World.cell?_of_block (w := w3.alloc (.cells #[.int .i64 v] 24)) (s5.block w3.heap.size (by simp) id)]; simp
  clear S4 s5 S3
  go_wp2_with (go_at_call 36; refine (shift_k _ _).mono ?_; rintro e w' ⟨rfl, rfl⟩)
  go_ret
  exact ⟨by simp, (S5.out.alloc _ 2).below (Nat.le_refl _) (fun _ _ h => h)⟩

set_option maxRecDepth 100000 in
set_option maxHeartbeats 1000000 in
theorem sizes_big (n : Int) (hn : NoPow n) (h1 : 1048576 < n) (w : World) (ht : Tab w) :
    Calls Tryd.prog 7 #[.int .i64 n] w fun e w' => e = .returned (.bool true) ∧ Below w.heap.size w w' := by
  have Ht := Lib.hid ht
  have Hn := Lib.hid hn
  clear ht hn
  go_enter Tryd.func7, Tryd.ntmps7
  go_wp2_with fail
  refine (of_bad (fun _ => 0) n Hn.out _).mono ?_
  rintro e w1 ⟨ev, rfl, c1, s1, he1⟩
  obtain ⟨c2, -, S2⟩ := (s1.alloc (.cells #[.int .i64 0] 24) 2).name
  have He := Lib.hid ((he1.stp ((Stp.refl (fun _ => False) c1 w1).alloc (.cells #[.int .i64 0] 24) 2) id).err (by decide))
  clear s1 he1
  go_wp2_with fail
  refine (rshift_no n Hn.out _).mono ?_
  rintro e w2 ⟨rfl, rfl⟩
  go_wp2_with (go_at_call 23; refine (lawis He.out 7).mono ?_; rintro e w' ⟨rfl, rfl⟩)
  refine (up_big c2 n h1 _).mono ?_
  rintro e w3 ⟨ev3, rfl, c3, s3, he3⟩
  have S3 := Lib.hid (S2.out.trans s3)
  have He3 := Lib.hid he3
  clear s3 S2 He he3
  go_wp2_with fail
  refine (rup_no _ h1 _).mono ?_
  rintro e w4 ⟨rfl, rfl⟩
  go_wp2_with fail
  obtain ⟨c4, -, A4⟩ := ((Stp.refl (fun _ => False) c3 w3).alloc (.cells #[.int .i64 0] 24) 2).name
  have S4 := Lib.hid (S3.out.trans A4.out)
  refine (awake2 c4 _ (Ht.out.stp S4.out id)).mono ?_
  rintro e w5 ⟨rfl, c5, s5⟩
  have S5 := Lib.hid (S4.out.trans s5)
  have hcell : w5.cell? ⟨w3.heap.size, 0, none⟩ = some (.int .i64 0) := by
    rw [World.cell?_of_block (w := w3.alloc (.cells #[.int .i64 0] 24)) (s5.block w3.heap.size (by simp) id)]; simp
  have He5 := Lib.hid (((He3.out.stp A4.out id).stp s5 id).err (by decide))
  clear S4 S3 A4 s5
  go_wp2_with (go_at_call 23; refine (lawis He5.out 7).mono ?_; rintro e w' ⟨rfl, rfl⟩)
  go_ret
  exact ⟨by simp, S5.out.below (Nat.le_refl _) (fun _ _ h => h)⟩

theorem sizes_walk (n : Int) (w : World) (ht : Tab w) :
    Calls Tryd.prog 7 #[.int .i64 n] w fun e w' => e = .returned (.bool true) ∧ Below w.heap.size w w' := by
  by_cases h : NoPow n
  · by_cases h1 : n ≤ 1048576
    · exact sizes_mid n h h1 w ht
    · exact sizes_big n h (by omega) w ht
  · unfold NoPow at h
    obtain ⟨k, hk⟩ := Classical.not_forall.1 h
    obtain ⟨hk21, hn⟩ := Classical.not_imp.1 hk
    obtain rfl : n = ((2 ^ k : Nat) : Int) := Classical.not_not.1 hn
    exact sizes_pow k hk21 w ht
end Go.Proofs.YteicmmgpkhmlbaaDoor
