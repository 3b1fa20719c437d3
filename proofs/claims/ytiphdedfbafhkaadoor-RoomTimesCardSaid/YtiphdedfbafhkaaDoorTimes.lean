/- The walk of the law RoomTimes. No condition but that the table of math/bits holds what the program lays there. -/
import Derived.Test.YtiphdedfbafhkaaDoorRoom4
import Derived.Test.YtiphdedfbafhkaaDoorRoom5
namespace Go.Proofs.YtiphdedfbafhkaaDoor
open Go.RowKit

/-- Who waits: still parked with the deadline, or woken. -/
def TSt (dl now : Int) (woken : Bool) (tl : List Tm) (l : List One) : Prop :=
  (woken = false ∧ now < dl ∧ tl = [⟨dl, 0⟩] ∧ l = [⟨1, false, 0⟩]) ∨ (woken = true ∧ tl = [] ∧ ∃ x : One, l = [x] ∧ x.state = 0 ∧ x.token = false)

set_option maxRecDepth 100000 in
set_option maxHeartbeats 8000000 in
theorem times_walk (dl : Int) (ao : Option Addr) (n cap : Nat) (ticks : List Int) (wk : Int) (hwk : 0 ≤ wk ∧ wk ≤ 255) {W : World} (h : In (fun _ => 0) 0 W 1 ao n cap (ticks.map (Value.int .u8))) (hr : ∀ x ∈ ticks, 0 ≤ x ∧ x ≤ 255) (ht : Tab W) :
    Calls Tryd.prog 3 #[.int .i64 dl, .slice ao n cap, .int .u8 wk] W fun e W' => e = .returned (.bool true) ∧ Below W.heap.size W W' := by
  have H := Lib.hid h
  have Hr := Lib.hid hr
  have Ht := Lib.hid ht
  have Hwk := Lib.hid hwk
  have Hln := Lib.hid (show ticks.length = n by simpa using h.1)
  clear h hr ht hwk
  by_cases hok : 1 ≤ dl ∧ dl ≤ 5000 ∧ n ≤ 50
  · obtain ⟨h1, h2, h3⟩ := hok
    have g0 : decide (dl < 1) = false := by simp; omega
    have g1 : decide ((5000 : Int) < dl) = false := by simp; omega
    have g2 : decide ((50 : Int) < n) = false := by simp; omega
    have Hdl := Lib.hid (And.intro h1 h2)
    have Hn50 := Lib.hid h3
    have k1 : wk.tmod 60 = wk % 60 := Int.tmod_eq_emod_of_nonneg Hwk.out.1
    have k2 : IntKind.u8.wrap (wk % 60) = wk % 60 := by have := Hwk.out; simp [IntKind.wrap, IntKind.bits, IntKind.signed]; omega
    clear h1 h2 h3
    go_enter Tryd.func3, Tryd.ntmps3
    go_wp2_with fail
    refine (rmnew_c (fun _ => 0) 2 W).mono ?_
    rintro e w1 ⟨r, ar, ck, tb, rfl, c1, s1, m1⟩
    have S1 := Lib.hid s1
    have M1 := Lib.hid m1
    clear s1 m1
    go_wp2_with fail
    refine (rmact_c M1.out).mono ?_
    rintro e w2 ⟨rfl, rfl⟩
    go_wp2_with fail
    refine (aadd_ok M1.out.ta (by decide)).mono ?_
    rintro e w2 ⟨rfl, c2, s2, t2⟩
    have M2 := Lib.hid (M1.out.table s2 t2)
    have S2 := Lib.hid (S1.out.trans (s2.mono (fun j hj => by omega)))
    clear s2 t2
    go_wp2_with fail
    refine (rmpark_d (j := 0) M2.out rfl (by decide) rfl dl Hdl.out.1 (by have := Hdl.out; omega) (by have := Hdl.out; omega) (by simp) (by decide)).mono ?_
    rintro e w3 ⟨rfl, c3, s3, m3⟩
    have M3 := Lib.hid (show RM c3 2 w3 r ar ck tb (.slice none 0 0) [] 0 [⟨dl, 0⟩] [⟨1, false, 0⟩] from m3)
    have S3 := Lib.hid (S2.out.trans (s3.mono (fun j hj => by unfold JR at hj; omega)))
    clear s3 m3
    go_wp2_with fail
    refine (rmclk_c M3.out).mono ?_
    rintro e w4 ⟨rfl, rfl⟩
    go_wp2_with fail
    refine (kwait_any M3.out.ca).mono ?_
    rintro e w4 ⟨rfl, rfl⟩
    go_wp2
    go_loopg [12, 13, 64] n (fun gh wv nv i wr => ∃ (c' : Nat → Nat) (j : Nat) (woken : Bool) (now : Int) (tl : List Tm) (l : List One), wv = .bool woken ∧ nv = .int .i64 now ∧ i = .int .i64 j ∧ j + gh = n ∧ Hid (TSt dl now woken tl l) ∧ Hid (0 ≤ now ∧ now ≤ 256 * j ∧ (j : Int) ≤ now) ∧ Hid (RM c' 2 wr r ar ck tb (.slice none 0 0) [] now tl l) ∧ Hid (Stp (2 ≤ ·) (fun _ => 0) c' W wr))
    case atStart => exact ⟨c3, 0, false, 0, _, _, rfl, rfl, rfl, by omega, Lib.hid (.inl ⟨rfl, by have := Hdl.out; omega, rfl, rfl⟩), Lib.hid (by simp), M3, S3⟩
    case round =>
      obtain ⟨c', j, woken, now, tl, l, rfl, rfl, rfl, hj, HS, HNow, HM, HW⟩ := hrel
      by_cases hlt : j < n
      · have hjl : j < ticks.length := by rw [Hln.out]; exact hlt
        obtain ⟨a, ha, y0⟩ := (H.out.stp HW.out (by decide)).ints (j := j) hlt
        subst ha
        have HT := Lib.hid (Hr.out (ticks.getD j 0) (by simp [List.getD, hjl]))
        generalize ticks.getD j 0 = t at *
        have W1 := Lib.hid (show wrap64 ((j : Int) + 1) = ((j + 1 : Nat) : Int) by rw [IntWalk.wrap64_in _ ⟨by have := Hn50.out; omega, by have := Hn50.out; omega⟩]; omega)
        have Hb1 := Lib.hid (show 0 ≤ now ∧ 1 ≤ t + 1 ∧ t + 1 ≤ 1099511627776 - now by have := HT.out; have := HNow.out; have := Hn50.out; omega)
        have Hb2 := Lib.hid (show 0 ≤ now + (t + 1) ∧ now + (t + 1) ≤ 256 * ((j + 1 : Nat) : Int) ∧ ((j + 1 : Nat) : Int) ≤ now + (t + 1) by have := HT.out; have := HNow.out; omega)
        have Hb3 := Lib.hid (show j + 1 + (gk - 1) = n ∧ gk - 1 < gk by omega)
        have hw2 := (show -9223372036854775808 ≤ now + (t + 1) ∧ now + (t + 1) ≤ 9223372036854775807 by have := HT.out; have := HNow.out; have := Hn50.out; omega)
        have g3 : (j : Int) < (n : Int) := by omega
        have hw3 := (show -9223372036854775808 ≤ t + 1 ∧ t + 1 ≤ 9223372036854775807 by have := HT.out; omega)
        have w1 : wrap64 t = t := IntWalk.wrap64_in _ ⟨by have := HT.out; omega, by have := HT.out; omega⟩
        have w2 : wrap64 (t + 1) = t + 1 := IntWalk.wrap64_in _ hw3
        have w3 : wrap64 (now + (t + 1)) = now + (t + 1) := IntWalk.wrap64_in _ hw2
        clear hj hjl hw2 hw3
        rcases HS.out with ⟨rfl, hnow, rfl, rfl⟩ | ⟨rfl, rfl, x, rfl, hx0, hxt⟩
        · have Hnow := Lib.hid hnow
          clear hnow
          by_cases hw : (j : Int) = wk % 60
          · have k3 : ((j : Int) == wk % 60) = true := by simpa using hw
            clear hw
            go_wp2_with fail
            refine (rmwake_parked (j := 0) HM.out rfl rfl (by decide) (by decide) (by simp)).mono ?_
            rintro e w5 ⟨rfl, c5, s5, m5⟩
            have M1 := Lib.hid (show RM c5 2 w5 r ar ck tb (.slice none 0 0) [] now [] [⟨0, false, 1⟩] from m5)
            have S1 := Lib.hid (HW.out.trans (s5.mono (fun j hj => by unfold JR at hj; omega)))
            clear s5 m5 y0
            go_wp2_with fail
            refine (rmclk_c M1.out).mono ?_
            rintro e w6 ⟨rfl, rfl⟩
            go_wp2_with fail
            refine (kwait_any M1.out.ca).mono ?_
            rintro e w6 ⟨rfl, rfl⟩
            go_wp2_with fail
            refine (rmtick0_c M1.out (t + 1) Hb1.out.1 Hb1.out.2.1 Hb1.out.2.2 (by simp) (rfl) (rfl)).mono ?_
            rintro e w4 ⟨oo, oc, rfl, c4, s4, m4⟩
            have S3 := Lib.hid (S1.out.trans (s4.mono (fun j hj => by unfold JR at hj; omega)))
            have M3 := Lib.hid m4
            clear s4 m4
            go_wp2_with fail
            refine (rmact_c M3.out).mono ?_
            rintro e w8 ⟨rfl, rfl⟩
            go_wp2_with fail
            refine (astate_in M3.out.ta 0 rfl).mono ?_
            rintro e w8 ⟨rfl, rfl⟩
            go_wp2
            go_roundg (gk - 1)
            case rel => exact ⟨_, j + 1, _, _, _, _, rfl, rfl, by rw [W1.out], Hb3.out.1, Lib.hid (.inr ⟨rfl, rfl, _, rfl, rfl, rfl⟩), Hb2, M3, S3⟩
            case measure => exact Hb3.out.2
          · have k3 : ((j : Int) == wk % 60) = false := by simpa using hw
            clear hw
            have M1 := HM
            have S1 := HW
            by_cases hd : dl ≤ now + (t + 1)
            · have k4 : decide (dl ≤ now + (t + 1)) = true := by simpa using hd
              have Hdl := Lib.hid hd
              clear hd
              go_wp2_with fail
              refine (rmtick1_c M1.out (t + 1) Hb1.out.1 Hb1.out.2.1 Hb1.out.2.2 Hdl.out).mono ?_
              rintro e w4 ⟨oo, oc, rfl, c4, s4, m4⟩
              have S3 := Lib.hid (S1.out.trans (s4.mono (fun j hj => by unfold JR at hj; omega)))
              have M3 := Lib.hid m4
              clear s4 m4
              go_wp2_with fail
              refine (rmact_c M3.out).mono ?_
              rintro e w8 ⟨rfl, rfl⟩
              go_wp2_with fail
              refine (astate_in M3.out.ta 0 rfl).mono ?_
              rintro e w8 ⟨rfl, rfl⟩
              go_wp2
              go_roundg (gk - 1)
              case rel => exact ⟨_, j + 1, _, _, _, _, rfl, rfl, by rw [W1.out], Hb3.out.1, Lib.hid (.inr ⟨rfl, rfl, _, rfl, rfl, rfl⟩), Hb2, M3, S3⟩
              case measure => exact Hb3.out.2
            · have k4 : decide (dl ≤ now + (t + 1)) = false := by simpa using hd
              have Hdd := Lib.hid hd
              clear hd
              go_wp2_with fail
              refine (rmtick0_c M1.out (t + 1) Hb1.out.1 Hb1.out.2.1 Hb1.out.2.2 (by simp) (by simp [List.takeWhile, k4]) (by simp [List.dropWhile, k4])).mono ?_
              rintro e w4 ⟨oo, oc, rfl, c4, s4, m4⟩
              have S3 := Lib.hid (S1.out.trans (s4.mono (fun j hj => by unfold JR at hj; omega)))
              have M3 := Lib.hid m4
              clear s4 m4
              go_wp2_with fail
              refine (rmact_c M3.out).mono ?_
              rintro e w8 ⟨rfl, rfl⟩
              go_wp2_with fail
              refine (astate_in M3.out.ta 0 rfl).mono ?_
              rintro e w8 ⟨rfl, rfl⟩
              go_wp2
              go_roundg (gk - 1)
              case rel => exact ⟨_, j + 1, _, _, _, _, rfl, rfl, by rw [W1.out], Hb3.out.1, Lib.hid (.inl ⟨rfl, by first | exact Hdd.out | exact Int.not_le.1 Hdd.out, rfl, rfl⟩), Hb2, M3, S3⟩
              case measure => exact Hb3.out.2
        · have hx1 : (x.state == 1) = false := by rw [hx0]; rfl
          have Hxx := Lib.hid (And.intro hx0 hxt)
          have M1 := HM
          have S1 := HW
          clear hx0 hxt
          rcases Bool.eq_false_or_eq_true ((j : Int) == wk % 60) with k3 | k3
          all_goals
            go_wp2_with fail
            refine (rmtick0_c M1.out (t + 1) Hb1.out.1 Hb1.out.2.1 Hb1.out.2.2 (by simp) (rfl) (rfl)).mono ?_
            rintro e w4 ⟨oo, oc, rfl, c4, s4, m4⟩
            have S3 := Lib.hid (S1.out.trans (s4.mono (fun j hj => by unfold JR at hj; omega)))
            have M3 := Lib.hid m4
            clear s4 m4
            go_wp2_with fail
            refine (rmact_c M3.out).mono ?_
            rintro e w8 ⟨rfl, rfl⟩
            go_wp2_with fail
            refine (astate_in M3.out.ta 0 rfl).mono ?_
            rintro e w8 ⟨rfl, rfl⟩
            go_wp2
            go_roundg (gk - 1)
            case rel => exact ⟨_, j + 1, _, _, _, _, rfl, rfl, by rw [W1.out], Hb3.out.1, Lib.hid (.inr ⟨rfl, rfl, x, rfl, Hxx.out.1, Hxx.out.2⟩), Hb2, M3, S3⟩
            case measure => exact Hb3.out.2
      · obtain rfl : j = n := by omega
        have g3 : ¬ (j : Int) < j := by omega
        clear hlt
        go_wp2_with fail
        refine (rmclk_c HM.out).mono ?_
        rintro e w4 ⟨rfl, rfl⟩
        go_wp2_with fail
        refine (know_any HM.out.ca).mono ?_
        rintro e w4 ⟨rfl, rfl⟩
        have hx : ∃ x : One, l = [x] ∧ x.state ≠ 2 ∧ x.token = false ∧ tl.length ≤ 1 := by
          rcases HS.out with ⟨_, _, h3, h4⟩ | ⟨_, h3, x, h4, h5, h6⟩
          · exact ⟨_, h4, by decide, rfl, by rw [h3]; simp⟩
          · exact ⟨x, h4, by rw [h5]; decide, h6, by rw [h3]; simp⟩
        obtain ⟨x, rfl, x1, x2, x3⟩ := hx
        have HX := Lib.hid (And.intro x1 (And.intro x2 x3))
        have T1 := Lib.hid (Ht.out.stp HW.out (by decide))
        clear x1 x2 x3
        by_cases h0 : now = 0
        · subst h0
          go_wp2_with fail
          refine (rmpark_d (j := 0) HM.out rfl HX.out.1 HX.out.2.1 1 (by decide) (by decide) (by decide) (by have := HX.out.2.2; omega) (by decide)).mono ?_
          rintro e w5 ⟨rfl, c5, s5, m5⟩
          have M5 := Lib.hid m5
          have S5 := Lib.hid (HW.out.trans (s5.mono (J' := (2 ≤ ·)) (fun j hj => by unfold JR at hj; omega)))
          have T5 := Lib.hid (Ht.out.stp S5.out (by decide))
          have HC5 := Lib.hid (show c5 1 = 0 from S5.out.col _ (World.block_lt_of_cell? W _ (Ht.out 0 (by decide))))
          clear s5 m5
          go_wp2_with fail
          refine (awake14k 20 (by decide) c5 _ T5.out HC5.out).mono ?_
          rintro e w6 ⟨rfl, c6, s6⟩
          have M6 := Lib.hid (M5.out.stp s6 (by decide) (by decide) (by decide) (by decide) (by decide))
          have S6 := Lib.hid (S5.out.trans (s6.mono (fun j hj => by omega)))
          clear s6
          go_wp2_with fail
          refine (rmclk_c M6.out).mono ?_
          rintro e w7 ⟨rfl, rfl⟩
          go_wp2_with fail
          refine (know_any M6.out.ca).mono ?_
          rintro e w7 ⟨rfl, rfl⟩
          go_wp2
          go_ret
          exact ⟨rfl, S6.out.below (Nat.le_refl _) (fun _ _ => by decide)⟩
        · have HC := Lib.hid (show c' 1 = 0 from HW.out.col _ (World.block_lt_of_cell? W _ (Ht.out 0 (by decide))))
          by_cases h1 : now = 1
          · subst h1
            go_wp2_with fail
            refine (rmpark_past (j := 0) HM.out rfl HX.out.1 _ (by decide) (by decide) (Int.le_refl _)).mono ?_
            rintro e w5 ⟨rfl, rfl⟩
            go_wp2_with fail
            refine (awake14k 20 (by decide) c' _ T1.out (HC.out)).mono ?_
            rintro e w6 ⟨rfl, c6, s6⟩
            have M6 := Lib.hid (HM.out.stp s6 (by decide) (by decide) (by decide) (by decide) (by decide))
            have S6 := Lib.hid (HW.out.trans (s6.mono (fun j hj => by omega)))
            clear s6
            go_wp2_with fail
            refine (rmclk_c M6.out).mono ?_
            rintro e w7 ⟨rfl, rfl⟩
            go_wp2_with fail
            refine (know_any M6.out.ca).mono ?_
            rintro e w7 ⟨rfl, rfl⟩
            go_wp2
            go_ret
            exact ⟨rfl, S6.out.below (Nat.le_refl _) (fun _ _ => by decide)⟩
          · have hb := Lib.hid (show 1 ≤ now ∧ now ≤ 1099511627776 by have := HNow.out; have := Hn50.out; omega)
            have p1 : (1 : Int) < now := by have := hb.out; omega
            have p2 : decide (now < 1) = false := by simp; omega
            have p3 : decide (now ≤ 1) = false := by simp; omega
            have p4 : decide ((1 : Int) < now) = true := by simp; omega
            have p5 : (now == 0) = false := by simp; omega
            have p6 : ¬ now ≤ 1 := by omega
            have p7 : ¬ now < 1 := by omega
            clear h0 h1
            go_wp2_with fail
            refine (rmpark_past (j := 0) HM.out rfl HX.out.1 _ (hb.out.1) (hb.out.2) (Int.le_refl _)).mono ?_
            rintro e w5 ⟨rfl, rfl⟩
            go_wp2_with fail
            refine (awake14k 20 (by decide) c' _ T1.out (HC.out)).mono ?_
            rintro e w6 ⟨rfl, c6, s6⟩
            have M6 := Lib.hid (HM.out.stp s6 (by decide) (by decide) (by decide) (by decide) (by decide))
            have S6 := Lib.hid (HW.out.trans (s6.mono (fun j hj => by omega)))
            clear s6
            go_wp2_with fail
            refine (rmclk_c M6.out).mono ?_
            rintro e w7 ⟨rfl, rfl⟩
            go_wp2_with fail
            refine (know_any M6.out.ca).mono ?_
            rintro e w7 ⟨rfl, rfl⟩
            go_wp2
            go_ret
            exact ⟨rfl, S6.out.below (Nat.le_refl _) (fun _ _ => by decide)⟩
  · go_enter Tryd.func3, Tryd.ntmps3
    have hbad : (decide (dl < 1) = true) ∨ (decide (dl < 1) = false ∧ decide ((5000 : Int) < dl) = true) ∨ (decide (dl < 1) = false ∧ decide ((5000 : Int) < dl) = false ∧ decide ((50 : Int) < n) = true) := by
      simp only [decide_eq_true_eq, decide_eq_false_iff_not]; omega
    clear hok
    rcases hbad with b0 | ⟨b0, b1⟩ | ⟨b0, b1, b2⟩
    all_goals
      go_wp2_with fail
      refine (awake14k 2 (by decide) (fun _ => 0) W Ht.out rfl).mono ?_
      rintro e w1 ⟨rfl, c1, s1⟩
      have S1 := Lib.hid s1
      clear s1
      go_wp2
      go_ret
      exact ⟨rfl, S1.out.below (Nat.le_refl _) (fun _ _ => by decide)⟩
end Go.Proofs.YtiphdedfbafhkaaDoor
