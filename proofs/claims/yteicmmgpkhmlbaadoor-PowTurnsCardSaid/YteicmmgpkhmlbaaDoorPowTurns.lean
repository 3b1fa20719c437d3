/- The walk of the law PowTurns. -/
import Derived.Test.YteicmmgpkhmlbaaDoorPow2
import Derived.Deep.RegionHeld3
import Derived.BigQuiet
import Derived.Deep.QuietTactic
namespace Go.Proofs.YteicmmgpkhmlbaaDoor
open Go.RowKit

theorem Tab.heap {w w' : World} (h : Tab w) (e : w'.heap = w.heap) : Tab w' := fun i hi => by
  have := h i hi
  simp only [World.cell?, e] at this ⊢
  exact this

theorem awake2b (w : World) (ht : Tab w) : Calls Tryd.prog 16 #[] w fun e w' => e = .returned (.bool true) ∧ Below w.heap.size w w' :=
  (awake2 (fun _ => 0) w ht).mono fun _ _ ⟨he, _, hs⟩ => ⟨he, hs.below (Nat.le_refl _) (fun _ _ h => h)⟩

/-- A callee that turns nothing old, met in a region: a cell that the region loads, and what is old, stay. -/
theorem withS {P : Program} {f : FuncId} {args : Array Value} {w wb : World} {v x : Value} {a : Addr} (h : Calls P f args w fun e w' => e = .returned v ∧ Below w.heap.size w w') (hc : w.cell? a = some x) (hb : Below wb.heap.size wb w) :
    Calls P f args w fun e w' => e = .returned v ∧ w'.cell? a = some x ∧ Below wb.heap.size wb w' :=
  h.mono fun _ _ ⟨he, hl⟩ => ⟨he, (hl.cell (World.block_lt_of_cell? w _ hc)).trans hc, hb.trans (hl.mono hb.size)⟩

theorem slots_b (k : Nat) (hk : k < 21) (w : World) : Calls Tryd.prog 18 #[.agg #[.int .i64 k]] w (fun e w' => e = .returned (.int .i64 (2 ^ k)) ∧ Below w.heap.size w w') :=
  (slots_k k hk w).mono fun _ _ ⟨he, hw⟩ => ⟨he, by subst hw; exact (Below.refl _ _).alloc (Nat.le_refl _) _⟩
theorem round_b (k : Nat) (hk : k < 21) (seq : Int) (w : World) : Calls Tryd.prog 20 #[.agg #[.int .i64 k], .int .i64 seq] w (fun e w' => e = .returned (.int .i64 (seq / 2 ^ k)) ∧ Below w.heap.size w w') :=
  (round_k k hk seq w).mono fun _ _ ⟨he, hw⟩ => ⟨he, by subst hw; exact (Below.refl _ _).alloc (Nat.le_refl _) _⟩
theorem index_b (k : Nat) (hk : k < 21) (seq : Int) (w : World) : Calls Tryd.prog 19 #[.agg #[.int .i64 k], .int .i64 seq] w (fun e w' => e = .returned (.int .i64 (seq % 2 ^ k)) ∧ Below w.heap.size w w') :=
  (index_k k hk seq w).mono fun _ _ ⟨he, hw⟩ => ⟨he, by subst hw; exact (((Below.refl _ _).alloc (Nat.le_refl _) _).alloc (by simp) _).alloc (by simp; omega) _⟩

set_option maxRecDepth 100000 in
set_option maxHeartbeats 1000000 in
theorem turns_in (seq : Int) (s b k : Nat) (hs : s % 12 = k) (hb : b ≤ 255) (h0 : -1 ≤ seq) (h1 : seq ≤ 4611686018425290752) (w : World) (ht : Tab w) :
    Calls Tryd.prog 3 #[.int .i64 seq, .int .u8 s, .int .u8 b] w fun e w' => e = .returned (.bool true) ∧ Below w.heap.size w w' := by
  have hk : k < 12 := by omega
  have hw := wrap_two_pow k (by omega)
  have hbd := two_pow_bd k (by omega)
  have Ht := Lib.hid ht
  have hN : wrap64 (2 ^ (s % 12)) = 2 ^ k := by rw [hs, hw]
  clear hs ht hw
  have t1 : decide (seq < -1) = false := by simp; omega
  have t2 : decide ((4611686018425290752 : Int) < seq) = false := by simp; omega
  go_enter Tryd.func3, Tryd.ntmps3
  go_wp2_with fail
  refine (of_pow (fun _ => 0) k (by omega) _ Ht.out).mono ?_
  rintro e w1 ⟨rfl, c1, s1⟩
  go_wp2_with fail
  simp only [hN]
  have hz : ((2 : Int) ^ k == 0) = false := by simp; omega
  have hz2 : (2 : Int) ^ k ≠ 0 := by omega
  have hm : (2 : Int) ^ k ≤ 2048 := by
    have : 2 ^ k ≤ 2 ^ 11 := Nat.pow_le_pow_right (by decide) (by omega)
    rw [← two_pow_cast]; omega
  go_region
  go_wp2
  have q1 : ((2 : Int) ^ k == 2 ^ k) = true := by simp
  have q2 : (seq % 2 ^ k == (seq + 2 ^ k) % 2 ^ k) = true := by simp
  have q3 : (seq + 2 ^ k) / 2 ^ k = seq / 2 ^ k + 1 := Int.add_ediv_of_dvd_right ⟨1, by simp⟩ |>.trans (by rw [Int.ediv_self hz2])
  have d1 : seq / 2 ^ k * 2 ^ k + seq % 2 ^ k = seq := by rw [Int.mul_comm]; exact Int.mul_ediv_add_emod _ _
  have d2 : 0 ≤ seq % 2 ^ k := Int.emod_nonneg _ hz2
  have d3 : seq % 2 ^ k < 2 ^ k := Int.emod_lt_of_pos _ (by omega)
  have r0 : 0 ≤ (b : Int) % 2 ^ k := Int.emod_nonneg _ hz2
  have r1 : (b : Int) % 2 ^ k < 2 ^ k := Int.emod_lt_of_pos _ (by omega)
  have e1 : IntKind.i64.wrap (seq / 2 ^ k * 2 ^ k) = seq / 2 ^ k * 2 ^ k := IntWalk.i64_in _ (by omega)
  have e2 : IntKind.i64.wrap (seq / 2 ^ k * 2 ^ k + seq % 2 ^ k) = seq := by rw [d1]; exact IntWalk.i64_in _ (by omega)
  have q0 : -1 ≤ seq / 2 ^ k := by
    have := Int.le_ediv_of_mul_le (a := -1) (b := seq) (c := 2 ^ k) (by omega) (by omega)
    exact this
  have q9 : seq / 2 ^ k ≤ 4611686018425290752 := by
    by_cases h : 0 ≤ seq
    · have := Int.ediv_le_self (2 ^ k) h
      omega
    · have := Int.ediv_neg_of_neg_of_pos (show seq < 0 by omega) (show (0 : Int) < 2 ^ k by omega)
      omega
  have e3 : IntKind.i64.wrap (seq / 2 ^ k + 1) = seq / 2 ^ k + 1 := IntWalk.i64_in _ (by omega)
  have e4 : IntKind.i64.wrap (seq + (b : Int) % 2 ^ k) = seq + (b : Int) % 2 ^ k := IntWalk.i64_in _ (by omega)
  clear d1 d2 d3 hbd h0 h1 hm q0 q9 t1 t2 hN
  have Ht1 := Lib.hid ((Ht.out.stp s1 id).stp (((Stp.refl (fun _ => False) c1 w1).alloc (.cells #[.int .i64 k] 24) 2).drew) id)
  have Hbw := Lib.hid (((s1.below (Nat.le_refl _) (fun _ _ h => h)).alloc s1.size (.cells #[.int .i64 k] 24)))
  clear s1
  obtain ⟨t, f1, f3⟩ : ∃ t : Bool, ((b : Int) % 2 ^ k == 0) = t ∧ ((seq + (b : Int)) % 2 ^ k == seq % 2 ^ k) = t := by
    refine ⟨_, rfl, ?_⟩
    rw [Bool.eq_iff_iff]
    simp only [beq_iff_eq]
    rw [Int.emod_eq_emod_iff_emod_sub_eq_zero, show seq + (b : Int) - seq = b by omega]
  clear r0 r1
  obtain ⟨wb, hwb⟩ : ∃ wb : World, wb = w1.alloc (.cells #[.int .i64 k] 24) := ⟨_, rfl⟩
  have hc0 : wb.cell? ⟨w1.heap.size, 0, none⟩ = some (.int .i64 k) := by subst hwb; simp
  have hb0 := Below.refl wb.heap.size wb
  rw [← hwb] at Hbw ⊢
  have Htb : Hid (Tab wb) := Tab.heap Ht1.out (by rw [hwb]; rfl)
  clear hwb Ht1
  go_region_held3 (fun w' => w'.cell? ⟨w1.heap.size, 0, none⟩ = some (.int .i64 k) ∧ Below wb.heap.size wb w')
    (first | assumption | (exact ⟨by assumption, by assumption⟩) | (exact ⟨by assumption, ((Below.refl _ _).drew).drew⟩) | go_keep)
    (first
      | (go_at_call 16; refine (withS (wb := wb) (a := ⟨w1.heap.size, 0, none⟩) (x := .int .i64 k) (awake2b _ (Tab.heap Htb.out (by exact rfl))) (by first | assumption | exact hc0) (by first | assumption | exact ((Below.refl _ _).drew).drew)).mono ?_; rintro e w2 ⟨rfl, hS1, hS2⟩)
      | (go_at_call 18; refine (withS (wb := wb) (a := ⟨w1.heap.size, 0, none⟩) (x := .int .i64 k) (slots_b k (by omega) _) (by assumption) (by assumption)).mono ?_; rintro e w2 ⟨rfl, hS1, hS2⟩)
      | (go_at_call 19; refine (withS (wb := wb) (a := ⟨w1.heap.size, 0, none⟩) (x := .int .i64 k) (index_b k (by omega) _ _) (by assumption) (by assumption)).mono ?_; rintro e w2 ⟨rfl, hS1, hS2⟩)
      | (go_at_call 20; refine (withS (wb := wb) (a := ⟨w1.heap.size, 0, none⟩) (x := .int .i64 k) (round_b k (by omega) _ _) (by assumption) (by assumption)).mono ?_; rintro e w2 ⟨rfl, hS1, hS2⟩))
  go_wp2
  go_ret
  exact ⟨by simp, Hbw.out.trans (Below.mono (by assumption) Hbw.out.size)⟩

theorem turns_out (seq : Int) (s b : Nat) (h : seq < -1 ∨ 4611686018425290752 < seq) (w : World) (ht : Tab w) :
    Calls Tryd.prog 3 #[.int .i64 seq, .int .u8 s, .int .u8 b] w fun e w' => e = .returned (.bool true) ∧ Below w.heap.size w w' := by
  have Ht := Lib.hid ht
  clear ht
  by_cases h0 : seq < -1
  · have t1 : decide (seq < -1) = true := by simpa using h0
    clear h
    go_enter Tryd.func3, Tryd.ntmps3
    go_wp2_with (go_at_call 16; refine (awake2b _ Ht.out).mono ?_; rintro e w2 ⟨rfl, hb2⟩)
    go_ret
    exact ⟨rfl, hb2⟩
  · have t1 : decide (seq < -1) = false := by simpa using h0
    have t2 : decide ((4611686018425290752 : Int) < seq) = true := by simp; omega
    clear h h0
    go_enter Tryd.func3, Tryd.ntmps3
    go_wp2_with (go_at_call 16; refine (awake2b _ Ht.out).mono ?_; rintro e w2 ⟨rfl, hb2⟩)
    go_ret
    exact ⟨rfl, hb2⟩

theorem turns_walk (seq s b : Int) (hs : 0 ≤ s ∧ s ≤ 255) (hb : 0 ≤ b ∧ b ≤ 255) (w : World) (ht : Tab w) :
    Calls Tryd.prog 3 #[.int .i64 seq, .int .u8 s, .int .u8 b] w fun e w' => e = .returned (.bool true) ∧ Below w.heap.size w w' := by
  obtain ⟨s, rfl⟩ := Int.eq_ofNat_of_zero_le hs.1
  obtain ⟨b, rfl⟩ := Int.eq_ofNat_of_zero_le hb.1
  by_cases h : seq < -1 ∨ 4611686018425290752 < seq
  · exact turns_out seq s b h w ht
  · exact turns_in seq s b (s % 12) rfl (by omega) (by omega) (by omega) w ht
end Go.Proofs.YteicmmgpkhmlbaaDoor
