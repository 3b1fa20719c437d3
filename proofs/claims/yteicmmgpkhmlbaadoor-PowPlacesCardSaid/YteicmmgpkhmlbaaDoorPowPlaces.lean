/- The walk of the law PowPlaces: it returns true for all numbers and shifts, and turns nothing that was there. No condition but that the table of math/bits holds what the program lays there. -/
import Derived.Test.YteicmmgpkhmlbaaDoorPow4
namespace Go.Proofs.YteicmmgpkhmlbaaDoor
open Go.RowKit

set_option maxRecDepth 100000 in
set_option maxHeartbeats 1000000 in
theorem places_in (seq : Int) (s k : Nat) (hs : s % 21 = k) (h0 : -1 ≤ seq) (h1 : seq ≤ 4611686018427387904) (w : World) (ht : Tab w) :
    Calls Tryd.prog 4 #[.int .i64 seq, .int .u8 s] w fun e w' => e = .returned (.bool true) ∧ Below w.heap.size w w' := by
  have hk : k < 21 := by omega
  have hw := wrap_two_pow k hk
  have hbd := two_pow_bd k hk
  have Ht := Lib.hid ht
  have hN : wrap64 (2 ^ (s % 21)) = 2 ^ k := by rw [hs, hw]
  clear hs ht hw
  have t1 : decide (seq < -1) = false := by simp; omega
  have t2 : decide ((4611686018427387904 : Int) < seq) = false := by simp; omega
  go_enter Tryd.func4, Tryd.ntmps4
  go_wp2_with fail
  refine (of_pow (fun _ => 0) k (by omega) _ Ht.out).mono ?_
  rintro e w1 ⟨rfl, c1, s1⟩
  go_wp2_with fail
  try simp only [hN]
  refine (place_any seq (2 ^ k) (by omega) (by omega) hbd.1 hbd.2 _).mono ?_
  rintro e w2 ⟨rfl, rfl⟩
  go_wp2_with fail
  refine (pwrap_ok k hk seq h0 h1 (paint c1 w1.heap.size 2) _).mono ?_
  rintro e w3 ⟨rfl, c3, s3⟩
  have hcell : w3.cell? ⟨w1.heap.size, 0, none⟩ = some (.int .i64 k) := by
    rw [World.cell?_of_block (w := w1.alloc (.cells #[.int .i64 k] 24)) (s3.block w1.heap.size (by simp) id)]; simp
  have hsz : w1.heap.size < w3.heap.size := by have := s3.size; simp at this; omega
  go_wp2_with fail
  have Ht3 := Lib.hid (((Ht.out.stp s1 id).stp ((Stp.refl (fun _ => False) c1 w1).alloc (.cells #[.int .i64 k] 24) 2) id).stp s3 id)
  refine (awake2 c3 _ Ht3.out).mono ?_
  rintro e w4 ⟨rfl, c4, s4⟩
  have hcell4 : w4.cell? ⟨w1.heap.size, 0, none⟩ = some (.int .i64 k) := by
    rw [World.cell?_of_block (w := w3) (s4.block w1.heap.size hsz id)]; exact hcell
  have S4 := Lib.hid (((s1.alloc (.cells #[.int .i64 k] 24) 2).trans s3).trans s4)
  have hsz4 : w1.heap.size < w4.heap.size := Nat.lt_of_lt_of_le hsz s4.size
  have hsz5 : w1.heap.size < w4.heap.size + 1 := by omega
  have hsz6 : w1.heap.size < w4.heap.size + 1 + 1 := by omega
  have hsz7 : w1.heap.size < w4.heap.size + 1 + 1 + 1 := by omega
  clear s1 s3 s4 hcell hsz
  go_wp2_with (first
    | (go_at_call 19; refine (index_k k hk _ _).mono ?_; rintro e w' ⟨rfl, rfl⟩)
    | (go_at_call 20; refine (round_k k hk _ _).mono ?_; rintro e w' ⟨rfl, rfl⟩))
  go_ret
  exact ⟨by simp, ((((S4.out.below (Nat.le_refl _) (fun _ _ h => h)).alloc S4.out.size _).alloc (by have := S4.out.size; simp; omega) _).alloc (by have := S4.out.size; simp; omega) _).alloc (by have := S4.out.size; simp; omega) _⟩
set_option maxRecDepth 100000 in
set_option maxHeartbeats 1000000 in
theorem places_low (seq : Int) (s k : Nat) (hs : s % 21 = k) (h0 : -9223372036854775808 ≤ seq) (h1 : seq ≤ 9223372036854775807) (hlo : seq < -1) (w : World) (ht : Tab w) :
    Calls Tryd.prog 4 #[.int .i64 seq, .int .u8 s] w fun e w' => e = .returned (.bool true) ∧ Below w.heap.size w w' := by
  have hk : k < 21 := by omega
  have hw := wrap_two_pow k hk
  have hbd := two_pow_bd k hk
  have Ht := Lib.hid ht
  have hN : wrap64 (2 ^ (s % 21)) = 2 ^ k := by rw [hs, hw]
  clear hs ht hw
  have t1 : decide (seq < -1) = true := by simpa using hlo
  have H := Lib.hid (show seq < -1 ∨ 4611686018427387904 < seq from .inl hlo)
  go_enter Tryd.func4, Tryd.ntmps4
  go_wp2_with fail
  refine (of_pow (fun _ => 0) k (by omega) _ Ht.out).mono ?_
  rintro e w1 ⟨rfl, c1, s1⟩
  go_wp2_with fail
  try simp only [hN]
  refine (place_any seq (2 ^ k) (by omega) (by omega) hbd.1 hbd.2 _).mono ?_
  rintro e w2 ⟨rfl, rfl⟩
  go_wp2_with fail
  refine (pwrap_bad k seq H.out (paint c1 w1.heap.size 2) _).mono ?_
  rintro e w3 ⟨ev, rfl, c3, s3, he3⟩
  have hcell : w3.cell? ⟨w1.heap.size, 0, none⟩ = some (.int .i64 k) := by
    rw [World.cell?_of_block (w := w1.alloc (.cells #[.int .i64 k] 24)) (s3.block w1.heap.size (by simp) id)]; simp
  have hsz : w1.heap.size < w3.heap.size := by have := s3.size; simp at this; omega
  go_wp2_with fail
  have He := Lib.hid he3
  clear he3
  have Ht3 := Lib.hid (((Ht.out.stp s1 id).stp ((Stp.refl (fun _ => False) c1 w1).alloc (.cells #[.int .i64 k] 24) 2) id).stp s3 id)
  refine (awake2 c3 _ Ht3.out).mono ?_
  rintro e w4 ⟨rfl, c4, s4⟩
  have hcell4 : w4.cell? ⟨w1.heap.size, 0, none⟩ = some (.int .i64 k) := by
    rw [World.cell?_of_block (w := w3) (s4.block w1.heap.size hsz id)]; exact hcell
  have He4 := Lib.hid (ErrAt.stp He.out s4 id)
  have S4 := Lib.hid (((s1.alloc (.cells #[.int .i64 k] 24) 2).trans s3).trans s4)
  have hsz4 : w1.heap.size < w4.heap.size := Nat.lt_of_lt_of_le hsz s4.size
  have hsz5 : w1.heap.size < w4.heap.size + 1 := by omega
  have hsz6 : w1.heap.size < w4.heap.size + 1 + 1 := by omega
  have hsz7 : w1.heap.size < w4.heap.size + 1 + 1 + 1 := by omega
  clear s1 s3 s4 hcell hsz
  go_wp2_with (first
    | (go_at_call 19; refine (index_k k hk _ _).mono ?_; rintro e w' ⟨rfl, rfl⟩)
    | (go_at_call 20; refine (round_k k hk _ _).mono ?_; rintro e w' ⟨rfl, rfl⟩)
    | (go_at_call 23; refine (lawis (ErrAt.err (ErrAt.stp He4.out ((((Stp.refl (fun _ => False) c4 w4).alloc _ 2).alloc _ 2).alloc _ 2 |>.alloc _ 2) id) (by decide)) 5).mono ?_; rintro e w' ⟨rfl, rfl⟩))
  go_ret
  exact ⟨by simp, ((((S4.out.below (Nat.le_refl _) (fun _ _ h => h)).alloc S4.out.size _).alloc (by have := S4.out.size; simp; omega) _).alloc (by have := S4.out.size; simp; omega) _).alloc (by have := S4.out.size; simp; omega) _⟩
set_option maxRecDepth 100000 in
set_option maxHeartbeats 1000000 in
theorem places_high (seq : Int) (s k : Nat) (hs : s % 21 = k) (h0 : -9223372036854775808 ≤ seq) (h1 : seq ≤ 9223372036854775807) (hhi : 4611686018427387904 < seq) (w : World) (ht : Tab w) :
    Calls Tryd.prog 4 #[.int .i64 seq, .int .u8 s] w fun e w' => e = .returned (.bool true) ∧ Below w.heap.size w w' := by
  have hk : k < 21 := by omega
  have hw := wrap_two_pow k hk
  have hbd := two_pow_bd k hk
  have Ht := Lib.hid ht
  have hN : wrap64 (2 ^ (s % 21)) = 2 ^ k := by rw [hs, hw]
  clear hs ht hw
  have t1 : decide (seq < -1) = false := by simp; omega
  have t2 : decide ((4611686018427387904 : Int) < seq) = true := by simpa using hhi
  have H := Lib.hid (show seq < -1 ∨ 4611686018427387904 < seq from .inr hhi)
  go_enter Tryd.func4, Tryd.ntmps4
  go_wp2_with fail
  refine (of_pow (fun _ => 0) k (by omega) _ Ht.out).mono ?_
  rintro e w1 ⟨rfl, c1, s1⟩
  go_wp2_with fail
  try simp only [hN]
  refine (place_any seq (2 ^ k) (by omega) (by omega) hbd.1 hbd.2 _).mono ?_
  rintro e w2 ⟨rfl, rfl⟩
  go_wp2_with fail
  refine (pwrap_bad k seq H.out (paint c1 w1.heap.size 2) _).mono ?_
  rintro e w3 ⟨ev, rfl, c3, s3, he3⟩
  have hcell : w3.cell? ⟨w1.heap.size, 0, none⟩ = some (.int .i64 k) := by
    rw [World.cell?_of_block (w := w1.alloc (.cells #[.int .i64 k] 24)) (s3.block w1.heap.size (by simp) id)]; simp
  have hsz : w1.heap.size < w3.heap.size := by have := s3.size; simp at this; omega
  go_wp2_with fail
  have He := Lib.hid he3
  clear he3
  have Ht3 := Lib.hid (((Ht.out.stp s1 id).stp ((Stp.refl (fun _ => False) c1 w1).alloc (.cells #[.int .i64 k] 24) 2) id).stp s3 id)
  refine (awake2 c3 _ Ht3.out).mono ?_
  rintro e w4 ⟨rfl, c4, s4⟩
  have hcell4 : w4.cell? ⟨w1.heap.size, 0, none⟩ = some (.int .i64 k) := by
    rw [World.cell?_of_block (w := w3) (s4.block w1.heap.size hsz id)]; exact hcell
  have He4 := Lib.hid (ErrAt.stp He.out s4 id)
  have S4 := Lib.hid (((s1.alloc (.cells #[.int .i64 k] 24) 2).trans s3).trans s4)
  have hsz4 : w1.heap.size < w4.heap.size := Nat.lt_of_lt_of_le hsz s4.size
  have hsz5 : w1.heap.size < w4.heap.size + 1 := by omega
  have hsz6 : w1.heap.size < w4.heap.size + 1 + 1 := by omega
  have hsz7 : w1.heap.size < w4.heap.size + 1 + 1 + 1 := by omega
  clear s1 s3 s4 hcell hsz
  go_wp2_with (first
    | (go_at_call 19; refine (index_k k hk _ _).mono ?_; rintro e w' ⟨rfl, rfl⟩)
    | (go_at_call 20; refine (round_k k hk _ _).mono ?_; rintro e w' ⟨rfl, rfl⟩)
    | (go_at_call 23; refine (lawis (ErrAt.err (ErrAt.stp He4.out ((((Stp.refl (fun _ => False) c4 w4).alloc _ 2).alloc _ 2).alloc _ 2 |>.alloc _ 2) id) (by decide)) 5).mono ?_; rintro e w' ⟨rfl, rfl⟩))
  go_ret
  exact ⟨by simp, ((((S4.out.below (Nat.le_refl _) (fun _ _ h => h)).alloc S4.out.size _).alloc (by have := S4.out.size; simp; omega) _).alloc (by have := S4.out.size; simp; omega) _).alloc (by have := S4.out.size; simp; omega) _⟩
theorem places_walk (seq s : Int) (h0 : -9223372036854775808 ≤ seq) (h1 : seq ≤ 9223372036854775807) (hs : 0 ≤ s ∧ s ≤ 255) (w : World) (ht : Tab w) :
    Calls Tryd.prog 4 #[.int .i64 seq, .int .u8 s] w fun e w' => e = .returned (.bool true) ∧ Below w.heap.size w w' := by
  obtain ⟨s, rfl⟩ := Int.eq_ofNat_of_zero_le hs.1
  by_cases h : seq < -1
  · exact places_low seq s (s % 21) rfl h0 h1 h w ht
  · by_cases h' : 4611686018427387904 < seq
    · exact places_high seq s (s % 21) rfl h0 h1 h' w ht
    · exact places_in seq s (s % 21) rfl (by omega) (by omega) w ht
end Go.Proofs.YteicmmgpkhmlbaaDoor
