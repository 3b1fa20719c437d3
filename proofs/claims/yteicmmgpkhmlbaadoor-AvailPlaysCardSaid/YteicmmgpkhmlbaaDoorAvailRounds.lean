/- The walk of the law AvailRounds. No condition but that the table of math/bits holds what the program lays there. -/
import Derived.Test.YteicmmgpkhmlbaaDoorAvailNil
namespace Go.Proofs.YteicmmgpkhmlbaaDoor
open Go.RowKit

theorem div_mod_eq {a b n : Int} (h1 : a / n = b / n) (h2 : a % n = b % n) : a = b := by
  have e1 := Int.mul_ediv_add_emod a n
  have e2 := Int.mul_ediv_add_emod b n
  rw [h1, h2] at e1
  omega

theorem slotOf_eq {sh : Nat} (hsh : sh < 21) {a b : Int} (h : slotOf sh a = slotOf sh b) : a % 2 ^ sh = b % 2 ^ sh := by
  rw [← (slotOf_lt sh a hsh).2, ← (slotOf_lt sh b hsh).2, h]

theorem mod_far {a b n : Int} (hn : 0 < n) (h : a % n = b % n) (hne : a < b) : a + n ≤ b := by
  have h1 : (b - a) % n = 0 := Int.emod_eq_emod_iff_emod_sub_eq_zero.1 h.symm
  obtain ⟨q, hq⟩ := Int.dvd_of_emod_eq_zero h1
  have hq0 : 0 < q := by
    rcases Int.lt_trichotomy q 0 with h2 | h2 | h2
    · have : n * q < 0 := Int.mul_neg_of_pos_of_neg hn h2
      omega
    · subst h2; simp at hq; omega
    · exact h2
  have : n * 1 ≤ n * q := Int.mul_le_mul_of_nonneg_left (by omega) (by omega)
  omega

/-- Which indexes are shown, where from lo on so many were, one behind the other. -/
theorem shown_run (sh : Nat) (hsh : sh < 21) (lo : Int) (h0 : 0 ≤ lo) : ∀ (j : Nat) (seq : Int), 0 ≤ seq →
    (shownAt (showAll (List.replicate (2 ^ sh) (-1)) 0 sh lo j) 0 sh seq = true ↔ lo ≤ seq ∧ seq < lo + j ∧ lo + j ≤ seq + 2 ^ sh)
  | 0, seq, hs => by
    have hb := two_pow_bd sh hsh
    have hq : 0 ≤ seq / 2 ^ sh := Int.ediv_nonneg hs (by omega)
    have hv : (showAll (List.replicate (2 ^ sh) (-1)) 0 sh lo 0).getD (0 + slotOf sh seq) 0 = -1 := by
      have := (slotOf_lt sh seq hsh).1
      simp [showAll, List.getD, this]
    unfold shownAt
    rw [hv, beq_iff_eq]
    omega
  | j + 1, seq, hs => by
    have hb := two_pow_bd sh hsh
    have ih := shown_run sh hsh lo h0 j seq hs
    have hl : slotOf sh (lo + j) < (showAll (List.replicate (2 ^ sh) (-1)) 0 sh lo j).length := by
      rw [showAll_len]
      simpa using (slotOf_lt sh (lo + j) hsh).1
    rw [showAll_succ]
    by_cases he : slotOf sh (lo + j) = slotOf sh seq
    · have hm := slotOf_eq hsh he
      have hv : shownAt ((showAll (List.replicate (2 ^ sh) (-1)) 0 sh lo j).set (0 + slotOf sh (lo + j)) ((lo + j) / 2 ^ sh)) 0 sh seq = true ↔ seq = lo + j := by
        unfold shownAt
        rw [he, Nat.zero_add, List.getD_eq_getElem?_getD, List.getElem?_set_self (by rw [← he]; exact hl), Option.getD_some, beq_iff_eq]
        constructor
        · intro h; exact (div_mod_eq h hm).symm
        · rintro rfl; rfl
      rw [hv]
      constructor
      · rintro rfl; omega
      · rintro ⟨a1, a2, a3⟩
        rcases Int.lt_trichotomy seq (lo + j) with h | h | h
        · have := mod_far (by omega) hm.symm h; omega
        · exact h
        · omega
    · have hv : shownAt ((showAll (List.replicate (2 ^ sh) (-1)) 0 sh lo j).set (0 + slotOf sh (lo + j)) ((lo + j) / 2 ^ sh)) 0 sh seq = shownAt (showAll (List.replicate (2 ^ sh) (-1)) 0 sh lo j) 0 sh seq := by
        unfold shownAt
        rw [Nat.zero_add, Nat.zero_add, List.getD_eq_getElem?_getD, List.getElem?_set_ne he, List.getD_eq_getElem?_getD]
      rw [hv, ih]
      have n1 : seq ≠ lo + j := by rintro rfl; exact he rfl
      have n2 : lo + j ≠ seq + 2 ^ sh := by
        intro h
        apply he
        unfold slotOf
        rw [h, Int.add_emod_right]
      omega

theorem hi_run (sh : Nat) (hsh : sh < 21) (lo : Int) (h0 : 0 ≤ lo) (j : Nat) (f : Int) (h1 : lo ≤ f) (h2 : lo + j - 2 ^ sh ≤ f) (h3 : f ≤ lo + j) :
    HiAt (showAll (List.replicate (2 ^ sh) (-1)) 0 sh lo j) 0 sh f (lo + j + 5) (lo + j - 1) := by
  refine ⟨by omega, .inl (by omega), fun s a b => (shown_run sh hsh lo h0 j s (by omega)).2 ⟨by omega, by omega, by omega⟩, fun _ => ?_⟩
  rw [← Bool.not_eq_true, shown_run sh hsh lo h0 j _ (by omega)]
  omega

def RoundsRel (c : Nat → Nat) (w : World) (q p sh many : Nat) (lo : Int) (i : Value) (wr : World) : Prop :=
  ∃ (c' : Nat → Nat) (j : Nat), i = .int .i64 (lo + j) ∧ j ≤ many ∧ Stp (2 ≤ ·) c c' w wr ∧ ArenaS c' 2 wr q (showAll (List.replicate (2 ^ sh) (-1)) 0 sh lo j) ∧ BufAt c' 3 wr p sh 0

set_option maxRecDepth 100000 in
set_option maxHeartbeats 2000000 in
theorem rounds_k (s sh : Nat) (lo : Int) (many : Nat) (hs : s % 5 = sh) (h0 : 0 ≤ lo) (h1 : lo ≤ 4294967295) (hm : many ≤ 255) (w : World) (ht : Tab w) :
    Calls Tryd.prog 10 #[.int .u8 s, .int .u32 lo, .int .u8 many] w fun e w' => e = .returned (.bool true) ∧ Below w.heap.size w w' := by
  have hsh : sh < 5 := by omega
  have hw := wrap_two_pow sh (by omega)
  have hbd := two_pow_bd sh (by omega)
  have b1 := hbd.1
  have b2 : (2 : Int) ^ sh ≤ 16 := by
    have : 2 ^ sh ≤ 2 ^ 4 := Nat.pow_le_pow_right (by decide) (by omega)
    have := two_pow_cast sh
    omega
  have Ht := Lib.hid ht
  have Hg := Lib.hid (World.block_lt_of_cell? w _ (ht 0 (by decide)))
  have hN : wrap64 (2 ^ (s % 5)) = 2 ^ sh := by rw [hs, hw]
  clear hs ht hw hbd
  go_enter Tryd.func10, Tryd.ntmps10
  go_wp2_with fail
  refine (new_any (fun _ => 0) 2 _).mono ?_
  rintro e w1 ⟨rfl, c1, s1, h1⟩
  have S1 := Lib.hid (s1.up (by decide))
  have H1 := Lib.hid h1
  clear s1 h1
  go_wp2_with fail
  try simp only [hN]
  refine (of_pow c1 sh (by omega) _ (Ht.out.stp S1.out (by decide))).mono ?_
  rintro e w2 ⟨rfl, c2, s2⟩
  obtain ⟨c3, -, A3⟩ := (s2.alloc (.cells #[.int .i64 sh] 24) 2).name
  have S3 := Lib.hid (S1.out.trans (A3.out.mono (fun _ h => h.elim)))
  have H3 := Lib.hid (H1.out.stp A3.out (fun h => h))
  clear s2 A3 S1 H1
  go_wp2_with fail
  refine (avnew_ok H3.out 3 sh (by decide) (by omega) (by simp; omega)).mono ?_
  rintro e w4 ⟨p, rfl, c4, s4, h4, b4⟩
  have S4 := Lib.hid (S3.out.trans (s4.up (by decide)))
  have H4 := Lib.hid (show ArenaS c4 2 w4 w.heap.size (List.replicate (2 ^ sh) (-1)) from ⟨_, h4⟩)
  have B4 := Lib.hid (show BufAt c4 3 w4 p sh 0 from b4)
  clear s4 h4 b4 S3 H3
  go_wp2_with fail
  try simp only [hN]
  go_loopw [14] (fun i wr => RoundsRel (fun _ => 0) w w.heap.size p sh many lo i wr) (fun i _ => (lo + many - intOf i).toNat)
  case atStart => exact ⟨c4, 0, by simp, Nat.zero_le _, S4.out, H4.out, B4.out⟩
  case round =>
    obtain ⟨c', j, rfl, hj, st, hat, hbf⟩ := hrel
    have St := Lib.hid st
    have Hat := Lib.hid hat
    have Hbf := Lib.hid hbf
    clear st hat hbf S4 H4 B4
    have hlen : 0 + 2 ^ sh ≤ (showAll (List.replicate (2 ^ sh) (-1)) 0 sh lo j).length := by rw [showAll_len]; simp
    have Hlen := Lib.hid hlen
    clear hlen
    by_cases hlt : j < many
    · have k0 : 0 ≤ lo + (j : Int) := by omega
      have k1 : lo + (j : Int) ≤ 4294967550 := by omega
      have t1 : decide (lo + (j : Int) < lo + (many : Int)) = true := by simp; omega
      go_wp2_with fail
      refine (avshow_ok Hbf.out Hat.out (by decide) Hlen.out (lo + j) (lo + j) k0 (Int.le_refl _) (by omega) (by omega)).mono ?_
      rintro e w5 ⟨rfl, c5, s5, h5⟩
      have h5' : ArenaS c5 2 w5 w.heap.size (showAll (List.replicate (2 ^ sh) (-1)) 0 sh lo (j + 1)) := by
        rw [show (lo + (j : Int) - (lo + (j : Int)) + 1).toNat = 1 by omega, showAll_succ, Int.natCast_zero, Int.add_zero] at h5
        rw [showAll_succ]
        exact h5
      have S5 := Lib.hid (St.out.trans (s5.up (by decide)))
      have H5 := Lib.hid h5'
      have B5 := Lib.hid (Hbf.out.stp s5 (by decide))
      have Hlen5 := Lib.hid (show 0 + 2 ^ sh ≤ (showAll (List.replicate (2 ^ sh) (-1)) 0 sh lo (j + 1)).length by rw [showAll_len]; simp)
      clear s5 h5 h5' St Hat Hbf Hlen
      go_wp2_with fail
      refine (avis_ok B5.out H5.out (by decide) Hlen5.out (lo + j) k0 (by omega)).mono ?_
      rintro e w6 ⟨rfl, c6, s6, h6⟩
      rw [(shown_run sh (by omega) lo h0 (j + 1) (lo + j) k0).2 ⟨by omega, by omega, by omega⟩]
      have S6 := Lib.hid (S5.out.trans (s6.up (by decide)))
      have H6 := Lib.hid h6
      have B6 := Lib.hid (B5.out.stp s6 (by decide))
      clear s6 h6 S5 H5 B5
      obtain ⟨m, was, hm0, hm1, hmm, hwas⟩ : ∃ (m : Int) (was : Bool), 0 ≤ m ∧ m ≤ 4294967550 ∧ (if lo + (j : Int) - 2 ^ sh < 0 then 0 else lo + (j : Int) - 2 ^ sh) = m ∧ Hid (shownAt (showAll (List.replicate (2 ^ sh) (-1)) 0 sh lo (j + 1)) 0 sh m = was ∧ (2 ^ sh ≤ lo + (j : Int) → was = false)) := by
        refine ⟨_, _, ?_, ?_, rfl, Lib.hid ⟨rfl, fun h => ?_⟩⟩
        · split <;> omega
        · split <;> omega
        · rw [if_neg (by omega)]
          have := shown_run sh (by omega) lo h0 (j + 1) (lo + j - 2 ^ sh) (by omega)
          rw [← Bool.not_eq_true, this]
          omega
      go_wp2_with fail
      refine (avis_ok B6.out H6.out (by decide) Hlen5.out m hm0 (by omega)).mono ?_
      rintro e w7 ⟨rfl, c7, s7, h7⟩
      rw [hwas.out.1]
      have S7 := Lib.hid (S6.out.trans (s7.up (by decide)))
      have H7 := Lib.hid h7
      have B7 := Lib.hid (B6.out.stp s7 (by decide))
      clear s7 h7 S6 H6 B6 hmm hm0 hm1
      obtain ⟨ge, hge, hgw⟩ : ∃ ge : Bool, decide ((2 : Int) ^ sh ≤ lo + (j : Int)) = ge ∧ (ge = true → was = false) := ⟨_, rfl, fun h => hwas.out.2 (by simpa using h)⟩
      obtain ⟨rfl | rfl, rfl | rfl, hgw⟩ : (ge = true ∨ ge = false) ∧ (was = true ∨ was = false) ∧ (ge = true → was = false) := ⟨by cases ge <;> simp, by cases was <;> simp, hgw⟩
      · exact absurd (hgw rfl) (by decide)
      all_goals
        clear hgw hwas
        go_wp2_with fail
        refine (avcell_any B7.out (lo + j)).mono ?_
        rintro e w8 ⟨rfl, b8⟩
        have st8 := Stp.ofBelow (c := c7) b8 2
        have S8 := Lib.hid (S7.out.trans (st8.mono (fun _ h => h.elim)))
        have H8 := Lib.hid (H7.out.stp st8 id)
        have B8 := Lib.hid (B7.out.stp st8 id)
        clear b8 st8 S7 H7 B7
        go_wp2_with fail
        refine (avcell_any B8.out (lo + j + 2 ^ sh)).mono ?_
        rintro e w9 ⟨rfl, b9⟩
        rw [show slotOf sh (lo + j + 2 ^ sh) = slotOf sh (lo + j) by unfold slotOf; rw [Int.add_emod_right]]
        have st9 := Stp.ofBelow (c := paint c7 w7.heap.size 2) b9 2
        have S9 := Lib.hid (S8.out.trans (st9.mono (fun _ h => h.elim)))
        have H9 := Lib.hid (H8.out.stp st9 id)
        have B9 := Lib.hid (B8.out.stp st9 id)
        clear b9 st9 S8 H8 B8
        go_wp2_with fail
        refine (avround_any B9.out (lo + j + 2 ^ sh)).mono ?_
        rintro e w10 ⟨rfl, b10⟩
        have hq0 : 0 ≤ (lo + (j : Int)) / 2 ^ sh := Int.ediv_nonneg k0 (by omega)
        have hq1 : (lo + (j : Int)) / 2 ^ sh ≤ 4294967550 := by have := Int.ediv_le_self (2 ^ sh) k0; omega
        rw [show (lo + (j : Int) + 2 ^ sh) / 2 ^ sh = (lo + (j : Int)) / 2 ^ sh + 1 from Int.add_ediv_of_dvd_right ⟨1, by simp⟩ |>.trans (by rw [Int.ediv_self (by omega)])]
        obtain ⟨c10, -, st10⟩ := (Stp.ofBelow (c := paint (paint c7 w7.heap.size 2) w8.heap.size 2) b10 2).name
        have S10 := Lib.hid (S9.out.trans (st10.out.mono (fun _ h => h.elim)))
        have H10 := Lib.hid (H9.out.stp st10.out (fun h => h))
        have B10 := Lib.hid (B9.out.stp st10.out (fun h => h))
        clear b10 st10 S9 H9 B9
        go_wp2_with fail
        refine (avround_any B10.out (lo + j)).mono ?_
        rintro e w11 ⟨rfl, b11⟩
        have st11 := Stp.ofBelow (c := c10) b11 2
        have S11 := Lib.hid (S10.out.trans (st11.mono (fun _ h => h.elim)))
        have H11 := Lib.hid (H10.out.stp st11 (fun h => h))
        have B11 := Lib.hid (B10.out.stp st11 (fun h => h))
        clear b11 st11 S10 H10 B10
        generalize (lo + (j : Int)) / 2 ^ sh = q at *
        go_wp2
        go_roundw
        case rel => exact ⟨_, j + 1, by rw [Int.natCast_add, ← Int.add_assoc]; go_num, by omega, S11.out, H11.out, B11.out⟩
        case measure => simp [intOf]; omega
    · have hjn : j = many := by omega
      have t1 : decide (lo + (j : Int) < lo + (many : Int)) = false := by simp; omega
      have Hj := Lib.hid hjn
      clear hjn hj
      go_wp2_with fail
      all_goals
        refine (avhigh_ok Hbf.out Hat.out (by decide) Hlen.out _ (lo + (many : Int) + 5) (by omega) (by omega) (by omega) (by omega)).mono ?_
        rintro e w5 ⟨x, rfl, hx, c5, s5, h5⟩
        rw [Hj.out] at hx
        obtain rfl : x = lo + (many : Int) - 1 := hx.uniq (hi_run sh (by omega) lo h0 many _ (by omega) (by omega) (by omega))
        have S5 := Lib.hid (St.out.trans (s5.up (by decide)))
        clear s5 h5 hx
        go_wp2_with fail
        refine (awake7 c5 _ (Ht.out.stp S5.out (by decide)) (S5.out.col _ Hg.out)).mono ?_
        rintro e w6 ⟨rfl, c6, s6⟩
        have S6 := Lib.hid (S5.out.trans s6)
        clear s6 S5
        go_wp2
        go_ret
        exact ⟨by simp, S6.out.fin⟩

theorem rounds_walk (s lo m : Int) (hs : 0 ≤ s ∧ s ≤ 255) (hl : 0 ≤ lo ∧ lo ≤ 4294967295) (hm : 0 ≤ m ∧ m ≤ 255) (w : World) (ht : Tab w) :
    Calls Tryd.prog 10 #[.int .u8 s, .int .u32 lo, .int .u8 m] w fun e w' => e = .returned (.bool true) ∧ Below w.heap.size w w' := by
  obtain ⟨s, rfl⟩ := Int.eq_ofNat_of_zero_le hs.1
  obtain ⟨m, rfl⟩ := Int.eq_ofNat_of_zero_le hm.1
  exact rounds_k s (s % 5) lo m rfl hl.1 hl.2 (by omega) w ht
end Go.Proofs.YteicmmgpkhmlbaaDoor
