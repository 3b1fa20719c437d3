/- The walk of the law PowRooms: it returns true for all numbers, and turns nothing that was there. No condition but that the table of math/bits holds what the program lays there. -/
import Derived.Test.YteicmmgpkhmlbaaDoorPow4
namespace Go.Proofs.YteicmmgpkhmlbaaDoor
open Go.RowKit

theorem proom_any (k : Nat) (hk : k < 21) (cl le : Int) (w : World) :
    Calls Tryd.prog 26 #[.agg #[.int .i64 k], .int .i64 cl, .int .i64 le] w fun e w' => e = .returned (.int .i64 (roomOf (2 ^ k) cl le)) ∧ Below w.heap.size w w' := by
  by_cases h : cl < -1 ∨ 4611686018427387904 < cl ∨ le < -1 ∨ cl < le
  · refine (proom_out k cl le h w).mono fun e w' ⟨he, hb⟩ => ⟨?_, hb⟩
    rw [he, roomOf, if_pos h]
  · exact proom_in k hk cl le (by omega) (by omega) (by omega) (by omega) w

set_option maxRecDepth 100000 in
set_option maxHeartbeats 1000000 in
theorem rooms_ok (seq le n : Int) (s k : Nat) (hs : s % 21 = k) (h0 : -9223372036854775808 ≤ seq) (h1 : seq ≤ 9223372036854775807) (hn : nextErr seq n = 0) (w : World) (ht : Tab w) :
    Calls Tryd.prog 5 #[.int .i64 seq, .int .i64 le, .int .i64 n, .int .u8 s] w fun e w' => e = .returned (.bool true) ∧ Below w.heap.size w w' := by
  have hk : k < 21 := by omega
  have hw := wrap_two_pow k hk
  have hbd := two_pow_bd k hk
  have Ht := Lib.hid ht
  have Hn := Lib.hid hn
  have hN : wrap64 (2 ^ (s % 21)) = 2 ^ k := by rw [hs, hw]
  clear hs ht hw hn
  go_enter Tryd.func5, Tryd.ntmps5
  go_wp2_with fail
  refine (of_pow (fun _ => 0) k (by omega) _ Ht.out).mono ?_
  rintro e w1 ⟨rfl, c1, s1⟩
  go_wp2_with fail
  refine (pnext_ok seq n Hn.out _).mono ?_
  rintro e w2 ⟨rfl, rfl⟩
  go_wp2_with fail
  refine (rnext_any seq n h0 h1 _).mono ?_
  rintro e w2 ⟨rfl, rfl⟩
  rw [Hn.out, if_pos rfl]
  go_wp2_with fail
  have Ht3 := Lib.hid ((Ht.out.stp s1 id).stp ((Stp.refl (fun _ => False) c1 w1).alloc (.cells #[.int .i64 k] 24) 2) id)
  refine (awake2 (paint c1 w1.heap.size 2) _ Ht3.out).mono ?_
  rintro e w4 ⟨rfl, c4, s4⟩
  have hcell4 : w4.cell? ⟨w1.heap.size, 0, none⟩ = some (.int .i64 k) := by
    rw [World.cell?_of_block (w := w1.alloc (.cells #[.int .i64 k] 24)) (s4.block w1.heap.size (by simp) id)]; simp
  have S4 := Lib.hid ((s1.alloc (.cells #[.int .i64 k] 24) 2).trans s4)
  clear s1 s4
  go_wp2_with (first
    | (go_at_call 23; refine (lawis (Err.nil c4 w4) 0).mono ?_; rintro e w' ⟨rfl, rfl⟩)
    | (go_at_call 26; refine (proom_any k hk _ _ _).mono ?_; rintro e w5 ⟨rfl, hb5⟩)
    | (go_at_call 27; refine (rroom_any _ _ _ hbd.1 hbd.2 _).mono ?_; rintro e w' ⟨rfl, rfl⟩))
  go_ret
  exact ⟨by simp, (S4.out.below (Nat.le_refl _) (fun _ _ h => h)).trans (hb5.mono S4.out.size)⟩
set_option maxRecDepth 100000 in
set_option maxHeartbeats 1000000 in
theorem rooms_bad (seq le n : Int) (s k : Nat) (hs : s % 21 = k) (h0 : -9223372036854775808 ≤ seq) (h1 : seq ≤ 9223372036854775807) (hn : nextErr seq n ≠ 0) (w : World) (ht : Tab w) :
    Calls Tryd.prog 5 #[.int .i64 seq, .int .i64 le, .int .i64 n, .int .u8 s] w fun e w' => e = .returned (.bool true) ∧ Below w.heap.size w w' := by
  have hk : k < 21 := by omega
  have hw := wrap_two_pow k hk
  have hbd := two_pow_bd k hk
  have Ht := Lib.hid ht
  have Hn := Lib.hid hn
  have hN : wrap64 (2 ^ (s % 21)) = 2 ^ k := by rw [hs, hw]
  clear hs ht hw hn
  go_enter Tryd.func5, Tryd.ntmps5
  go_wp2_with fail
  refine (of_pow (fun _ => 0) k (by omega) _ Ht.out).mono ?_
  rintro e w1 ⟨rfl, c1, s1⟩
  go_wp2_with fail
  refine (pnext_bad seq n Hn.out (paint c1 w1.heap.size 2) _).mono ?_
  rintro e w2 ⟨ev, rfl, c2, s2, he2⟩
  go_wp2_with fail
  refine (rnext_any seq n h0 h1 _).mono ?_
  rintro e w2 ⟨rfl, rfl⟩
  rw [if_neg Hn.out]
  have Hn' := Hn
  go_wp2_with fail
  have Ht3 := Lib.hid ((Ht.out.stp s1 id).stp ((Stp.refl (fun _ => False) c1 w1).alloc (.cells #[.int .i64 k] 24) 2) id |>.stp s2 id)
  refine (awake2 c2 _ Ht3.out).mono ?_
  rintro e w4 ⟨rfl, c4, s4⟩
  have hcell4 : w4.cell? ⟨w1.heap.size, 0, none⟩ = some (.int .i64 k) := by
    rw [World.cell?_of_block (w := w1.alloc (.cells #[.int .i64 k] 24)) ((s2.trans s4).block w1.heap.size (by simp) id)]; simp
  have S4 := Lib.hid (((s1.alloc (.cells #[.int .i64 k] 24) 2).trans s2).trans s4)
  have He := Lib.hid ((he2.stp s4 id).err Hn.out)
  generalize nextErr seq n = ne at *
  clear s1 s2 s4 he2
  go_wp2_with (first
    | (go_at_call 23; refine (lawis He.out _).mono ?_; rintro e w' ⟨rfl, rfl⟩)
    | (go_at_call 26; refine (proom_any k hk _ _ _).mono ?_; rintro e w5 ⟨rfl, hb5⟩)
    | (go_at_call 27; refine (rroom_any _ _ _ hbd.1 hbd.2 _).mono ?_; rintro e w' ⟨rfl, rfl⟩))
  go_ret
  exact ⟨by simp, (S4.out.below (Nat.le_refl _) (fun _ _ h => h)).trans (hb5.mono S4.out.size)⟩

theorem rooms_walk (seq le n s : Int) (h0 : -9223372036854775808 ≤ seq) (h1 : seq ≤ 9223372036854775807) (hs : 0 ≤ s ∧ s ≤ 255) (w : World) (ht : Tab w) :
    Calls Tryd.prog 5 #[.int .i64 seq, .int .i64 le, .int .i64 n, .int .u8 s] w fun e w' => e = .returned (.bool true) ∧ Below w.heap.size w w' := by
  obtain ⟨s, rfl⟩ := Int.eq_ofNat_of_zero_le hs.1
  by_cases h : nextErr seq n = 0
  · exact rooms_ok seq le n s (s % 21) rfl h0 h1 h w ht
  · exact rooms_bad seq le n s (s % 21) rfl h0 h1 h w ht
end Go.Proofs.YteicmmgpkhmlbaaDoor
