/- The contract of play of norialaw03 at Add, and at what is nothing. No condition but that both arenas hold the same numbers, and not too many. -/
import Derived.Test.YtmhhhiegioniaaaCells6
namespace Go.Proofs.Ytmhhhiegioniaaa
open Go.RowKit

theorem r03sum_okq {a b V : Int} (hb : I64 b) (hV : a + b = V) (h : I64 V) (w : World) (n : Nat) :
    Calls Try.prog 109 #[.int .i64 a, .int .i64 b] (w.drewN n) fun e w' => e = .returned (.tuple #[.int .i64 V, .bool true]) ∧ ∃ k, w' = w.drewN k := by
  subst hV
  exact (r03sum_ok a b hb h _).mono fun _ _ ⟨he, hw⟩ => ⟨he, n, hw.symm⟩

theorem r03sum_noq {a b : Int} (ha : I64 a) (hb : I64 b) (h : ¬ I64 (a + b)) (w : World) (n : Nat) :
    Calls Try.prog 109 #[.int .i64 a, .int .i64 b] (w.drewN n) fun e w' => e = .returned (.tuple #[.int .i64 0, .bool false]) ∧ ∃ k, w' = w.drewN k :=
  (r03sum_no a b ha hb (by unfold I64 at h; omega) _).mono fun _ _ ⟨he, hw⟩ => ⟨he, n, hw.symm⟩

set_option maxRecDepth 100000 in
set_option maxHeartbeats 2000000 in
theorem play_add_y {c : Nat → Nat} {w : World} {a m : Nat} {l : List Int} {s : Int} (h : Both c w a m l s) (j : Nat) (hj : j < l.length) (old v : Int) (hv : I64 v) (hs : s < 1000) (V : Int) (hV : l.getD j 0 + v = V) (hVV : I64 V) (hl : (l.length : Int) ≤ 1000000) :
    Calls Try.prog 43 #[.pointer (some ⟨a, 0, none⟩), .pointer (some ⟨m, 0, none⟩), .agg #[.int .i64 4, .int .i64 j, .int .i64 old, .int .i64 v]] w fun e w' => e = .returned (.bool true) ∧ Played c w w' a m l.length s := by
  have HVV := Lib.hid hVV
  have HV2 := Lib.hid hV
  have Hvv := Lib.hid hv
  clear hV hVV
  obtain ⟨c1, hc1, A1⟩ := ((Stp.refl (fun _ => False) c w).alloc (.cells #[.int .i64 4, .int .i64 j, .int .i64 old, .int .i64 v] 66) 0).name
  have B1 := Lib.hid (h.stp A1.out id id)
  have X1 := Lib.hid (show Blk c1 0 _ w.heap.size [.int .i64 4, .int .i64 j, .int .i64 old, .int .i64 v] 66 by rw [hc1.out]; exact Blk.new c 0 w _ _)
  have Hj := Lib.hid hj
  have Hs := Lib.hid hs
  have Hl := Lib.hid hl
  have HV := HVV
  have W := IntWalk.wrap64_in (s + 1) ⟨by have := h.s0; omega, by omega⟩
  obtain ⟨ao, cap, hb, hr⟩ := B1.out.rf
  have k0 := hb.cell 0
  have k1 := hb.cell 1
  have x1 := X1.out.cell 1
  simp at k0 k1 x1
  clear h hc1 hv hb hr hs hl
  go_enter Try.func43, Try.ntmps43
  go_wp2_with fail
  go_region_with ((go_at_call 107; refine (r03right_in _ _ _ _ _ hj _).mono ?_; rintro e w2 ⟨rfl, hB2⟩))
  all_goals
    obtain ⟨c2, hc2, A2⟩ := (((Stp.refl (fun _ => False) c1 _).drew).trans (Stp.ofBelow hB2 0)).name
    have B2 := Lib.hid (B1.out.stp A2.out id id)
    have X2 := Lib.hid (X1.out.stp A2.out id)
    have S2 := Lib.hid ((A1.out.trans A2.out).mono (J' := (2 ≤ ·)) (fun _ h => h.elim))
    clear hB2 hc2 A2 k0 k1 x1
    obtain ⟨ao, cap, hb, hr⟩ := B2.out.rf
    have k1 := hb.cell 1
    have f1 := hb.free 1
    have x0 := X2.out.cell 0
    simp at k1 x0
    have S3 := Lib.hid ((Stp.refl (· = 3) c2 w2).setCell (p := ⟨m, 1, none⟩) (.int .i64 (s + 1)) hb.1)
    have A3 := Lib.hid (B2.out.ar.stp S3.out (by decide))
    have R3 := Lib.hid (B2.out.rf.step (s + 1))
    have X3 := Lib.hid (X2.out.stp S3.out (by decide))
    have S4 := Lib.hid (S2.out.trans (S3.out.up (by decide)))
    have Hok := Lib.hid B2.out.ok
    have Hs0 := Lib.hid B2.out.s0
    have y0 := X3.out.cell 0
    have y1 := X3.out.cell 1
    have y2 := X3.out.cell 2
    have y3 := X3.out.cell 3
    simp at y0 y1 y2 y3
    clear hb hr S2 S3
    go_wp2_with fail
    refine (add_ok A3.out j v V Hj.out HV2.out HVV.out.1 HVV.out.2 Hs0.out (by have := Hs.out; omega)).mono ?_
    rintro e w4 ⟨rfl, c4, s4, a4⟩
    have T4 := Lib.hid (S4.out.trans (s4.up (by decide)))
    have A4 := Lib.hid a4
    have R4 := Lib.hid (R3.out.stp s4 (by decide))
    have E4 := Lib.hid (Err.nil c4 w4)
    have X4 := Lib.hid (X3.out.stp s4 (by decide))
    clear a4 s4
    have x1 := X4.out.cell 1
    have x3 := X4.out.cell 3
    simp at x1 x3
    obtain ⟨g, off, cap', hb, hr, hc, hf, hne⟩ := R4.out.open_cell Hj.out
    have k0 := hb.cell 0
    simp at k0
    clear hb hr hf hne
    have Hsum := Lib.hid HV2.out
    generalize l.getD j 0 = xv at hc Hsum
    go_wp2_with fail
    go_quiet ((go_at_call 109; exact r03sum_okq Hvv.out Hsum.out HVV.out _ _))
    clear hc k0 x1 x3
    obtain ⟨wq, hwq⟩ : ∃ wq : World, wq = w4.drewN nq := ⟨_, rfl⟩
    have R5 := Lib.hid (show RefAt c4 3 wq m l (s + 1) by rw [hwq]; exact R4.out)
    have A5 := Lib.hid (show ArenaAt c4 2 wq a (l.set j V) (s + 1) by rw [hwq]; exact A4.out)
    have T5 := Lib.hid (show Stp (2 ≤ ·) c c4 w wq by rw [hwq]; exact T4.out.drewN _)
    have X5 := Lib.hid (show Blk c4 0 wq w.heap.size _ 66 by rw [hwq]; exact X4.out)
    have E5 := Lib.hid (show Err c4 wq .nilIface 0 by rw [hwq]; exact E4.out)
    clear R4 A4 T4 X4 E4
    have R4 := R5
    have A4 := A5
    have T4 := T5
    have X4 := X5
    have E4 := E5
    clear R5 A5 T5 X5 E5
    rw [← hwq]
    clear hwq
    obtain ⟨aos, caps, hb, hr⟩ := R4.out
    have k0 := hb.cell 0
    have k1 := hb.cell 1
    have x1 := (X4.out).cell 1
    have x3 := (X4.out).cell 3
    have f0 := hb.free 0
    have f1 := hb.free 1
    simp at k0 k1 x1 x3
    have Hb := Lib.hid hb
    have Hr := Lib.hid hr
    clear hb hr
    go_wp2_with fail
    go_region_with ((go_at_call 108; refine (r03set_ok (c := c4) (s + 1) Hr.out.drew.toIn 3 j V Hj.out Hl.out).mono ?_; rintro e w5 ⟨ao5, cap5, rfl, c5, s5, r5⟩; have hb5 := Hb.out.drew.stp s5 id; have k2 := hb5.cell 0; have k3 := hb5.cell 1; have f2 := hb5.free 0; have f3 := hb5.free 1; simp at k2 k3))
    all_goals
      have hb6 := (hb5.set 0 (.slice ao5 l.length cap5)).set 1 (.int .i64 (s + 1))
      have S5 := Lib.hid ((((Stp.refl (fun _ => False) c4 wq).drew.trans s5).mono (J' := (· = 3)) (fun _ h => h.elim) |>.setCell (p := ⟨m, 0, none⟩) (.slice ao5 l.length cap5) hb5.1).setCell (p := ⟨m, 1, none⟩) (.int .i64 (s + 1)) hb5.1)
      have T5 := Lib.hid (T4.out.trans (S5.out.up (by decide)))
      have A5 := Lib.hid (A4.out.stp S5.out (by decide))
      have E5 := Lib.hid (E4.out.stp S5.out (by decide))
      have R5 := Lib.hid (show RefAt c5 3 ((w5.setCell ⟨m, 0, none⟩ (.slice ao5 l.length cap5)).setCell ⟨m, 1, none⟩ (.int .i64 (s + 1))) m (l.set j V) (s + 1) from ⟨ao5, cap5, by simpa using hb6, by
        have q := (r5.other (p := ⟨m, 0, none⟩) (.slice ao5 l.length cap5) (r5.ne_blk hb5 (by decide)) rfl).other (p := ⟨m, 1, none⟩) (.int .i64 (s + 1)) (r5.ne_blk hb5 (by decide)) rfl
        simpa using q⟩)
      have X5 := Lib.hid (X4.out.stp S5.out (by decide))
      clear hb5 hb6 s5 r5 k0 k1 x1 x3 f0 f1 k2 k3 f2 f3
      go_wp2
      go_ret
      exact ⟨rfl, _, l.set j V, s + 1, T5.out, ⟨A5.out, R5.out, fun x hx => (List.mem_or_eq_of_mem_set hx).elim (Hok.out x) (fun e => e ▸ HV.out), by have := Hs0.out; omega⟩, by simp, by omega⟩

set_option maxRecDepth 100000 in
set_option maxHeartbeats 2000000 in
theorem play_add_o {c : Nat → Nat} {w : World} {a m : Nat} {l : List Int} {s : Int} (h : Both c w a m l s) (j : Nat) (hj : j < l.length) (old v : Int) (hv : I64 v) (hs : s < 1000) (hV : ¬ I64 (l.getD j 0 + v)) (hx : I64 (l.getD j 0)) (hl : (l.length : Int) ≤ 1000000) :
    Calls Try.prog 43 #[.pointer (some ⟨a, 0, none⟩), .pointer (some ⟨m, 0, none⟩), .agg #[.int .i64 4, .int .i64 j, .int .i64 old, .int .i64 v]] w fun e w' => e = .returned (.bool true) ∧ Played c w w' a m l.length s := by
  have HVV := Lib.hid hV
  have Hxx := Lib.hid hx
  have Hvv := Lib.hid hv
  clear hV hx
  obtain ⟨c1, hc1, A1⟩ := ((Stp.refl (fun _ => False) c w).alloc (.cells #[.int .i64 4, .int .i64 j, .int .i64 old, .int .i64 v] 66) 0).name
  have B1 := Lib.hid (h.stp A1.out id id)
  have X1 := Lib.hid (show Blk c1 0 _ w.heap.size [.int .i64 4, .int .i64 j, .int .i64 old, .int .i64 v] 66 by rw [hc1.out]; exact Blk.new c 0 w _ _)
  have Hj := Lib.hid hj
  have Hs := Lib.hid hs
  have Hl := Lib.hid hl
  have W := IntWalk.wrap64_in (s + 1) ⟨by have := h.s0; omega, by omega⟩
  obtain ⟨ao, cap, hb, hr⟩ := B1.out.rf
  have k0 := hb.cell 0
  have k1 := hb.cell 1
  have x1 := X1.out.cell 1
  simp at k0 k1 x1
  clear h hc1 hv hb hr hs hl
  go_enter Try.func43, Try.ntmps43
  go_wp2_with fail
  go_region_with ((go_at_call 107; refine (r03right_in _ _ _ _ _ hj _).mono ?_; rintro e w2 ⟨rfl, hB2⟩))
  all_goals
    obtain ⟨c2, hc2, A2⟩ := (((Stp.refl (fun _ => False) c1 _).drew).trans (Stp.ofBelow hB2 0)).name
    have B2 := Lib.hid (B1.out.stp A2.out id id)
    have X2 := Lib.hid (X1.out.stp A2.out id)
    have S2 := Lib.hid ((A1.out.trans A2.out).mono (J' := (2 ≤ ·)) (fun _ h => h.elim))
    clear hB2 hc2 A2 k0 k1 x1
    obtain ⟨ao, cap, hb, hr⟩ := B2.out.rf
    have k1 := hb.cell 1
    have f1 := hb.free 1
    have x0 := X2.out.cell 0
    simp at k1 x0
    have S3 := Lib.hid ((Stp.refl (· = 3) c2 w2).setCell (p := ⟨m, 1, none⟩) (.int .i64 (s + 1)) hb.1)
    have A3 := Lib.hid (B2.out.ar.stp S3.out (by decide))
    have R3 := Lib.hid (B2.out.rf.step (s + 1))
    have X3 := Lib.hid (X2.out.stp S3.out (by decide))
    have S4 := Lib.hid (S2.out.trans (S3.out.up (by decide)))
    have Hok := Lib.hid B2.out.ok
    have Hs0 := Lib.hid B2.out.s0
    have y0 := X3.out.cell 0
    have y1 := X3.out.cell 1
    have y2 := X3.out.cell 2
    have y3 := X3.out.cell 3
    simp at y0 y1 y2 y3
    clear hb hr S2 S3
    go_wp2_with fail
    refine (add_over A3.out j v Hj.out Hxx.out Hvv.out (by have := HVV.out; unfold I64 at this; omega) Hs0.out (by have := Hs.out; omega)).mono ?_
    rintro e w4 ⟨ev, rfl, c4, s4, a4, e4⟩
    have T4 := Lib.hid (S4.out.trans (s4.up (by decide)))
    have A4 := Lib.hid a4
    have R4 := Lib.hid (R3.out.stp s4 (by decide))
    have E4 := Lib.hid (e4.err (by decide))
    have X4 := Lib.hid (X3.out.stp s4 (by decide))
    clear a4 s4 e4
    have x1 := X4.out.cell 1
    have x3 := X4.out.cell 3
    simp at x1 x3
    obtain ⟨g, off, cap', hb, hr, hc, hf, hne⟩ := R4.out.open_cell Hj.out
    have k0 := hb.cell 0
    simp at k0
    clear hb hr hf hne
    generalize l.getD j 0 = xv at hc HVV Hxx
    go_wp2_with fail
    go_quiet ((go_at_call 109; exact r03sum_noq Hxx.out Hvv.out HVV.out _ _))
    have E4' := Lib.hid (E4.out.stp ((Stp.refl (fun _ => False) c4 w4).drewN nq) id)
    go_wp2_with (go_at_call 49; refine (lawis_true E4'.out).mono ?_; rintro e w9 ⟨rfl, rfl⟩)
    go_ret
    exact ⟨rfl, _, l, s + 1, T4.out.drewN _, (Both.mk A4.out R4.out Hok.out (by have := Hs0.out; omega)).stp ((Stp.refl (fun _ => False) _ _).drewN _) id id, by omega, by omega⟩

set_option maxRecDepth 100000 in
set_option maxHeartbeats 2000000 in
theorem play_add_w {c : Nat → Nat} {w : World} {a m : Nat} {l : List Int} {s : Int} (h : Both c w a m l s) (ix : Int) (hi : ix < 0 ∨ (l.length : Int) ≤ ix) (old v : Int) :
    Calls Try.prog 43 #[.pointer (some ⟨a, 0, none⟩), .pointer (some ⟨m, 0, none⟩), .agg #[.int .i64 4, .int .i64 ix, .int .i64 old, .int .i64 v]] w fun e w' => e = .returned (.bool true) ∧ Played c w w' a m l.length s := by
  obtain ⟨c1, hc1, A1⟩ := ((Stp.refl (fun _ => False) c w).alloc (.cells #[.int .i64 4, .int .i64 ix, .int .i64 old, .int .i64 v] 66) 0).name
  have B1 := Lib.hid (h.stp A1.out id id)
  have X1 := Lib.hid (show Blk c1 0 _ w.heap.size [.int .i64 4, .int .i64 ix, .int .i64 old, .int .i64 v] 66 by rw [hc1.out]; exact Blk.new c 0 w _ _)
  have Hi := Lib.hid hi
  obtain ⟨ao, cap, hb, hr⟩ := B1.out.rf
  have k0 := hb.cell 0
  have k1 := hb.cell 1
  have x1 := X1.out.cell 1
  simp at k0 k1 x1
  clear h hc1 hb hr hi
  go_enter Try.func43, Try.ntmps43
  go_wp2_with fail
  go_region_with ((go_at_call 107; refine (r03right_out _ _ _ _ _ Hi.out _).mono ?_; rintro e w2 ⟨rfl, hB2⟩))
  all_goals
    obtain ⟨c2, hc2, A2⟩ := (((Stp.refl (fun _ => False) c1 _).drew).trans (Stp.ofBelow hB2 0)).name
    have B2 := Lib.hid (B1.out.stp A2.out id id)
    have X2 := Lib.hid (X1.out.stp A2.out id)
    have S2 := Lib.hid ((A1.out.trans A2.out).mono (J' := (2 ≤ ·)) (fun _ h => h.elim))
    clear hB2 hc2 A2 k0 k1 x1
    have y0 := X2.out.cell 0
    have y1 := X2.out.cell 1
    have y2 := X2.out.cell 2
    have y3 := X2.out.cell 3
    simp at y0 y1 y2 y3
    go_wp2_with fail
    refine (add_bad B2.out.ar ix v Hi.out).mono ?_
    rintro e w4 ⟨ev, rfl, c4, s4, e4⟩
    have T4 := Lib.hid (S2.out.trans (s4.mono (fun _ h => h.elim)))
    have B4 := Lib.hid (B2.out.stp s4 id id)
    have E4 := Lib.hid (e4.err (by decide))
    clear e4 s4
    go_wp2_with (go_at_call 49; refine (lawis_true E4.out).mono ?_; rintro e w9 ⟨rfl, rfl⟩)
    go_ret
    exact ⟨rfl, _, l, s, T4.out, B4.out, by omega, by omega⟩

set_option maxRecDepth 100000 in
set_option maxHeartbeats 2000000 in
theorem play_other_r {c : Nat → Nat} {w : World} {a m : Nat} {l : List Int} {s : Int} (h : Both c w a m l s) (j : Nat) (hj : j < l.length) (old v kd : Int) (hk : kd < 0 ∨ 4 < kd) :
    Calls Try.prog 43 #[.pointer (some ⟨a, 0, none⟩), .pointer (some ⟨m, 0, none⟩), .agg #[.int .i64 kd, .int .i64 j, .int .i64 old, .int .i64 v]] w fun e w' => e = .returned (.bool true) ∧ Played c w w' a m l.length s := by
  have t0 : (kd == 0) = false := by simp; omega
  have t1 : (kd == 1) = false := by simp; omega
  have t2 : (kd == 2) = false := by simp; omega
  have t3 : (kd == 3) = false := by simp; omega
  have t4 : (kd == 4) = false := by simp; omega
  have t5 : (decide (1 ≤ kd) = false) ∨ (decide (1 ≤ kd) = true ∧ decide (kd ≤ 4) = false) := by
    by_cases h1 : 1 ≤ kd
    · exact .inr ⟨by simpa using h1, by simp; omega⟩
    · exact .inl (by simpa using h1)
  clear hk
  obtain ⟨c1, hc1, A1⟩ := ((Stp.refl (fun _ => False) c w).alloc (.cells #[.int .i64 kd, .int .i64 j, .int .i64 old, .int .i64 v] 66) 0).name
  have B1 := Lib.hid (h.stp A1.out id id)
  have X1 := Lib.hid (show Blk c1 0 _ w.heap.size [.int .i64 kd, .int .i64 j, .int .i64 old, .int .i64 v] 66 by rw [hc1.out]; exact Blk.new c 0 w _ _)
  obtain ⟨ao, cap, hb, hr⟩ := B1.out.rf
  have k0 := hb.cell 0
  have k1 := hb.cell 1
  have x1 := X1.out.cell 1
  simp at k0 k1 x1
  clear h hc1 hb hr
  go_enter Try.func43, Try.ntmps43
  go_wp2_with fail
  go_region_with ((go_at_call 107; refine (r03right_in _ _ _ _ _ hj _).mono ?_; rintro e w2 ⟨rfl, hB2⟩))
  all_goals
    obtain ⟨c2, hc2, A2⟩ := (((Stp.refl (fun _ => False) c1 _).drew).trans (Stp.ofBelow hB2 0)).name
    have B2 := Lib.hid (B1.out.stp A2.out id id)
    have X2 := Lib.hid (X1.out.stp A2.out id)
    have S2 := Lib.hid ((A1.out.trans A2.out).mono (J' := (2 ≤ ·)) (fun _ h => h.elim))
    clear hB2 hc2 A2 k0 k1 x1
    have y0 := X2.out.cell 0
    simp at y0
    rcases t5 with t5 | ⟨t5, t6⟩
    all_goals
      go_wp2
      go_ret
      exact ⟨rfl, _, l, s, S2.out, B2.out, by omega, by omega⟩

set_option maxRecDepth 100000 in
set_option maxHeartbeats 2000000 in
theorem play_other_w {c : Nat → Nat} {w : World} {a m : Nat} {l : List Int} {s : Int} (h : Both c w a m l s) (ix : Int) (hi : ix < 0 ∨ (l.length : Int) ≤ ix) (old v kd : Int) (hk : kd < 0 ∨ 4 < kd) :
    Calls Try.prog 43 #[.pointer (some ⟨a, 0, none⟩), .pointer (some ⟨m, 0, none⟩), .agg #[.int .i64 kd, .int .i64 ix, .int .i64 old, .int .i64 v]] w fun e w' => e = .returned (.bool true) ∧ Played c w w' a m l.length s := by
  have t0 : (kd == 0) = false := by simp; omega
  have t1 : (kd == 1) = false := by simp; omega
  have t2 : (kd == 2) = false := by simp; omega
  have t3 : (kd == 3) = false := by simp; omega
  have t4 : (kd == 4) = false := by simp; omega
  have t5 : (decide (1 ≤ kd) = false) ∨ (decide (1 ≤ kd) = true ∧ decide (kd ≤ 4) = false) := by
    by_cases h1 : 1 ≤ kd
    · exact .inr ⟨by simpa using h1, by simp; omega⟩
    · exact .inl (by simpa using h1)
  clear hk
  obtain ⟨c1, hc1, A1⟩ := ((Stp.refl (fun _ => False) c w).alloc (.cells #[.int .i64 kd, .int .i64 ix, .int .i64 old, .int .i64 v] 66) 0).name
  have B1 := Lib.hid (h.stp A1.out id id)
  have X1 := Lib.hid (show Blk c1 0 _ w.heap.size [.int .i64 kd, .int .i64 ix, .int .i64 old, .int .i64 v] 66 by rw [hc1.out]; exact Blk.new c 0 w _ _)
  have Hi := Lib.hid hi
  obtain ⟨ao, cap, hb, hr⟩ := B1.out.rf
  have k0 := hb.cell 0
  have k1 := hb.cell 1
  have x1 := X1.out.cell 1
  simp at k0 k1 x1
  clear h hc1 hb hr hi
  go_enter Try.func43, Try.ntmps43
  go_wp2_with fail
  go_region_with ((go_at_call 107; refine (r03right_out _ _ _ _ _ Hi.out _).mono ?_; rintro e w2 ⟨rfl, hB2⟩))
  all_goals
    obtain ⟨c2, hc2, A2⟩ := (((Stp.refl (fun _ => False) c1 _).drew).trans (Stp.ofBelow hB2 0)).name
    have B2 := Lib.hid (B1.out.stp A2.out id id)
    have X2 := Lib.hid (X1.out.stp A2.out id)
    have S2 := Lib.hid ((A1.out.trans A2.out).mono (J' := (2 ≤ ·)) (fun _ h => h.elim))
    clear hB2 hc2 A2 k0 k1 x1
    have y0 := X2.out.cell 0
    simp at y0
    rcases t5 with t5 | ⟨t5, t6⟩
    all_goals
      go_wp2
      go_ret
      exact ⟨rfl, _, l, s, S2.out, B2.out, by omega, by omega⟩

theorem play_any {c : Nat → Nat} {w : World} {a m : Nat} {l : List Int} {s : Int} (h : Both c w a m l s) (kd ix old v : Int) (hv : I64 v) (hs : s < 1000) (hl : (l.length : Int) ≤ 1000) :
    Calls Try.prog 43 #[.pointer (some ⟨a, 0, none⟩), .pointer (some ⟨m, 0, none⟩), .agg #[.int .i64 kd, .int .i64 ix, .int .i64 old, .int .i64 v]] w fun e w' => e = .returned (.bool true) ∧ Played c w w' a m l.length s := by
  have hl6 : (l.length : Int) ≤ 1000000 := by omega
  by_cases k0 : kd = 0
  · subst k0; exact play_alloc h hl ix old v hv
  by_cases hi : ix < 0 ∨ (l.length : Int) ≤ ix
  · by_cases k1 : kd = 1
    · subst k1; exact play_load_w h ix hi old v
    by_cases k2 : kd = 2
    · subst k2; exact play_store_w h ix hi old v
    by_cases k3 : kd = 3
    · subst k3; exact play_swap_w h ix hi old v
    by_cases k4 : kd = 4
    · subst k4; exact play_add_w h ix hi old v
    exact play_other_w h ix hi old v kd (by omega)
  · obtain ⟨j, rfl⟩ := Int.eq_ofNat_of_zero_le (show 0 ≤ ix by omega)
    have hj : j < l.length := by omega
    have hx : I64 (l.getD j 0) := h.ok _ (by simp [List.getD, hj])
    by_cases k1 : kd = 1
    · subst k1; exact play_load_r h j hj old v hv hs hl6
    by_cases k2 : kd = 2
    · subst k2; exact play_store_r h j hj old v hv hs hl6
    by_cases k3 : kd = 3
    · subst k3
      by_cases ho : l.getD j 0 = old
      · exact play_swap_y h j hj old v hv hs ho hl6
      · exact play_swap_n h j hj old v hv hs ho hl6
    by_cases k4 : kd = 4
    · subst k4
      by_cases hV : I64 (l.getD j 0 + v)
      · exact play_add_y h j hj old v hv hs _ rfl hV hl6
      · exact play_add_o h j hj old v hv hs hV hx hl6
    exact play_other_r h j hj old v kd (by omega)

end Go.Proofs.Ytmhhhiegioniaaa
