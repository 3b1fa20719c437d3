/- Contracts of the clock's Set in general, refused too, and of Next. No condition beyond each contract's own. -/
import Derived.Test.YtiphdedfbafhkaaGreatDoorClock4
import Derived.Test.YtiphdedfbafhkaaGreatDoorClock7
namespace Go.Proofs.YtiphdedfbafhkaaGreatDoor
open Go.RowKit

/-- A timer put in, behind those that are not later. -/
def insT (y : Tm) (l : List Tm) : List Tm := l.take (l.findIdx (fun t => decide (y.at_ < t.at_))) ++ y :: l.drop (l.findIdx (fun t => decide (y.at_ < t.at_)))

set_option maxRecDepth 100000 in
set_option maxHeartbeats 2000000 in
theorem kset_any {c : Nat → Nat} {k : Nat} {w : World} {p : Nat} {now : Int} {l : List Tm} (h : ClockAt c k w p now l) (at_ who : Int) (h0 : now < at_) (h1 : at_ ≤ 1099511627776) (h2 : 0 ≤ who) (h3 : who < 64) (h4 : l.length < 64) :
    Calls Tryz.prog 63 #[.pointer (some ⟨p, 0, none⟩), .int .i64 at_, .int .i64 who] w fun e w' => e = .returned .nilIface ∧ ∃ c', Stp (KJ2 k) c c' w w' ∧ ClockAt c' k w' p now (insT ⟨at_, who⟩ l) := by
  obtain ⟨n, ao, cap, hc⟩ := h
  obtain ⟨c1, hc1, A1⟩ := ((Stp.refl (fun _ => False) c w).alloc (.cells #[.int .i64 at_] 2) 0).name
  have C1 := Lib.hid (show ClockIs c1 k (w.alloc (.cells #[.int .i64 at_] 2)) p now l n ao cap from ⟨hc.hb.stp A1.out id, hc.hr.stp A1.out id, hc.len⟩)
  have X1 := Lib.hid (show Blk c1 0 (w.alloc (.cells #[.int .i64 at_] 2)) w.heap.size [.int .i64 at_] 2 by rw [hc1.out]; exact Blk.new c 0 w _ _)
  have t0 : decide (at_ ≤ now) = false := by simp; omega
  have t1 : decide ((1099511627776 : Int) < at_) = false := by simp; omega
  have t2 : decide (who < 0) = false := by simp; omega
  have t3 : decide ((64 : Int) ≤ who) = false := by simp; omega
  have t4 : decide ((64 : Int) ≤ (n : Int)) = false := by have := hc.len; simp; omega
  have Hn := Lib.hid (show (n : Int) ≤ 1000 by have := hc.len; omega)
  clear hc hc1 h0 h1 h2 h3 h4
  go_enter Tryz.func63, Tryz.ntmps63
  go_wp2_with fail
  obtain ⟨w1, hw1⟩ : ∃ w1 : World, w1 = w.alloc (.cells #[.int .i64 at_] 2) := ⟨_, rfl⟩
  rw [← hw1] at A1 C1 X1 ⊢
  clear hw1
  have b0 := C1.out.hb.cell 0
  have b1 := C1.out.hb.cell 1
  have x0 := X1.out.cell 0
  simp at b0 b1 x0
  go_quiet (fail)
  clear b0 b1
  have D2 := Lib.hid (show Stp (fun _ => False) c1 c1 w1 (w1.drewN nq) from (Stp.refl _ _ _).drewN nq)
  obtain ⟨w2, hw2⟩ : ∃ w2 : World, w2 = w1.drewN nq := ⟨_, rfl⟩
  rw [← hw2] at D2 ⊢
  have C2 := Lib.hid (show ClockIs c1 k w2 p now l n ao cap from ⟨C1.out.hb.stp D2.out id, C1.out.hr.stp D2.out id, C1.out.len⟩)
  have X2 := Lib.hid (X1.out.stp D2.out id)
  have S2 := Lib.hid (A1.out.trans D2.out)
  have b1 := C2.out.hb.cell 1
  simp at b1
  clear hw2 x0 A1 C1 X1 D2
  go_wp2_with fail
  refine (kindex_set (x := at_) C2.out.hr.toIn C2.out.len (by simpa using X2.out.cell 0)).mono ?_
  rintro e w3 ⟨rfl, c3, s3⟩
  have C3 := Lib.hid (show ClockIs c3 k w3 p now l n ao cap from ⟨C2.out.hb.stp s3 id, C2.out.hr.stp s3 id, C2.out.len⟩)
  have X3 := Lib.hid (X2.out.stp s3 id)
  have S3 := Lib.hid (S2.out.trans s3)
  have b3 := C3.out.hb.cell 1
  have x3 := X3.out.cell 0
  have f3 := C3.out.hb.free 1
  have hp := C3.out.hb.lt
  simp at b3 x3
  clear s3 b1 C2 X2 S2
  obtain ⟨ix, hix⟩ : ∃ ix, ix = l.findIdx (fun t => decide (at_ < t.at_)) := ⟨_, rfl⟩
  have Hie := Lib.hid hix
  have Hix := Lib.hid (show ix ≤ n by rw [hix, ← C3.out.len]; exact List.findIdx_le_length)
  rcases (show (ixOfP l (fun t => decide (at_ < t.at_)) = -1 ∧ n = ix) ∨ ixOfP l (fun t => decide (at_ < t.at_)) = (ix : Int) by
    by_cases ha : l.any (fun t => decide (at_ < t.at_)) = true
    · exact .inr (by rw [ixOfP, if_pos ha, hix])
    · refine .inl ⟨by rw [ixOfP, if_neg ha], ?_⟩
      rw [hix, ← C3.out.len]
      refine Eq.symm ?_
      rw [List.findIdx_eq_length]
      intro x hx
      have hb : l.any (fun t => decide (at_ < t.at_)) = false := by simpa using ha
      exact (List.any_eq_false.1 hb x hx) |> fun h => by simpa using h) with ⟨hv, hixn⟩ | hv
  · rw [hv]
    subst hixn
    clear hix hv
    go_wp2_with fail
    go_region_with ((go_at_call 113; refine (kinsert_any (k := k + 1) (i := n) (C3.out.hr.drew.alloc (.cells #[.int .i64 at_, .int .i64 who] 196) 0) C3.out.len (y := ⟨at_, who⟩) (Blk.new c3 0 w3.drew [.int .i64 at_, .int .i64 who] 196) (Nat.succ_ne_zero _) Hix.out Hn.out).mono ?_; rintro e w4 ⟨ao4, cap4, rfl, c4, s4, r4⟩; have hb4 := (C3.out.hb.drew.alloc (.cells #[.int .i64 at_, .int .i64 who] 196) 0).stp s4 (show k ≠ k + 1 by omega); have k0 := hb4.cell 0; have k1 := hb4.cell 1; have g1 := hb4.free 1; simp at k0 k1))
    all_goals
      have S4 := Lib.hid (((S3.out.mono (J' := KJ2 k) (fun _ h => h.elim)).drew.alloc (.cells #[.int .i64 at_, .int .i64 who] 196) 0).trans (s4.mono (J' := KJ2 k) (fun _ h => .inr h)))
      have Hb4 := Lib.hid hb4
      have R4 := Lib.hid r4
      clear s4 r4 hb4 k0 k1 g1 b3 x3 f3
      go_wp2
      go_ret
      refine ⟨rfl, c4, S4.out.setCell _ (.inl Hb4.out.1), n + 1, ao4, cap4, by simpa using Hb4.out.set 1 (.slice ao4 (n + 1) cap4), ?_, by rw [insT, List.length_append, List.length_cons, List.length_take, List.length_drop, ← Hie.out, C3.out.len]; have := Hix.out; omega⟩
      rw [insT, ← Hie.out]
      exact R4.out.other _ (R4.out.ne_blk Hb4.out (by decide)) rfl
  · rw [hv]
    clear hix hv
    go_wp2_with fail
    go_region_with ((go_at_call 113; refine (kinsert_any (k := k + 1) (i := ix) (C3.out.hr.drew.alloc (.cells #[.int .i64 at_, .int .i64 who] 196) 0) C3.out.len (y := ⟨at_, who⟩) (Blk.new c3 0 w3.drew [.int .i64 at_, .int .i64 who] 196) (Nat.succ_ne_zero _) Hix.out Hn.out).mono ?_; rintro e w4 ⟨ao4, cap4, rfl, c4, s4, r4⟩; have hb4 := (C3.out.hb.drew.alloc (.cells #[.int .i64 at_, .int .i64 who] 196) 0).stp s4 (show k ≠ k + 1 by omega); have k0 := hb4.cell 0; have k1 := hb4.cell 1; have g1 := hb4.free 1; simp at k0 k1))
    all_goals
      have S4 := Lib.hid (((S3.out.mono (J' := KJ2 k) (fun _ h => h.elim)).drew.alloc (.cells #[.int .i64 at_, .int .i64 who] 196) 0).trans (s4.mono (J' := KJ2 k) (fun _ h => .inr h)))
      have Hb4 := Lib.hid hb4
      have R4 := Lib.hid r4
      clear s4 r4 hb4 k0 k1 g1 b3 x3 f3
      go_wp2
      go_ret
      refine ⟨rfl, c4, S4.out.setCell _ (.inl Hb4.out.1), n + 1, ao4, cap4, by simpa using Hb4.out.set 1 (.slice ao4 (n + 1) cap4), ?_, by rw [insT, List.length_append, List.length_cons, List.length_take, List.length_drop, ← Hie.out, C3.out.len]; have := Hix.out; omega⟩
      rw [insT, ← Hie.out]
      exact R4.out.other _ (R4.out.ne_blk Hb4.out (by decide)) rfl

set_option maxRecDepth 100000 in
theorem kset_bad {c : Nat → Nat} {k : Nat} {w : World} {p : Nat} {now : Int} {l : List Tm} (h : ClockAt c k w p now l) (at_ who er : Int)
    (he : ((at_ ≤ now ∨ 1099511627776 < at_) ∧ er = 5) ∨ ((now < at_ ∧ at_ ≤ 1099511627776) ∧ (who < 0 ∨ 64 ≤ who) ∧ er = 1) ∨ ((now < at_ ∧ at_ ≤ 1099511627776) ∧ (0 ≤ who ∧ who < 64) ∧ 64 ≤ l.length ∧ er = 8)) :
    Calls Tryz.prog 63 #[.pointer (some ⟨p, 0, none⟩), .int .i64 at_, .int .i64 who] w fun e w' => ∃ ev, e = .returned ev ∧ ∃ c', Stp (fun _ => False) c c' w w' ∧ ErrAt c' w' ev er := by
  obtain ⟨n, ao, cap, hc⟩ := h
  obtain ⟨c1, hc1, A1⟩ := ((Stp.refl (fun _ => False) c w).alloc (.cells #[.int .i64 at_] 2) 0).name
  have C1 := Lib.hid (show ClockIs c1 k (w.alloc (.cells #[.int .i64 at_] 2)) p now l n ao cap from ⟨hc.hb.stp A1.out id, hc.hr.stp A1.out id, hc.len⟩)
  have X1 := Lib.hid (show Blk c1 0 (w.alloc (.cells #[.int .i64 at_] 2)) w.heap.size [.int .i64 at_] 2 by rw [hc1.out]; exact Blk.new c 0 w _ _)
  rcases (show (decide (at_ ≤ now) = true ∧ er = 5) ∨ (decide (at_ ≤ now) = false ∧ decide ((1099511627776 : Int) < at_) = true ∧ er = 5) ∨
      (decide (at_ ≤ now) = false ∧ decide ((1099511627776 : Int) < at_) = false ∧ decide (who < 0) = true ∧ er = 1) ∨
      (decide (at_ ≤ now) = false ∧ decide ((1099511627776 : Int) < at_) = false ∧ decide (who < 0) = false ∧ decide ((64 : Int) ≤ who) = true ∧ er = 1) ∨
      (decide (at_ ≤ now) = false ∧ decide ((1099511627776 : Int) < at_) = false ∧ decide (who < 0) = false ∧ decide ((64 : Int) ≤ who) = false ∧ decide ((64 : Int) ≤ (n : Int)) = true ∧ er = 8) by
    have hl := hc.len
    rcases he with ⟨h1 | h1, h2⟩ | ⟨⟨h1, h2⟩, h3 | h3, h4⟩ | ⟨⟨h1, h2⟩, ⟨h3, h4⟩, h5, h6⟩
    · exact .inl ⟨by simpa using h1, h2⟩
    · by_cases h0 : at_ ≤ now
      · exact .inl ⟨by simpa using h0, h2⟩
      · exact .inr (.inl ⟨by simpa using h0, by simpa using h1, h2⟩)
    · exact .inr (.inr (.inl ⟨by simp; omega, by simp; omega, by simpa using h3, h4⟩))
    · exact .inr (.inr (.inr (.inl ⟨by simp; omega, by simp; omega, by simp; omega, by simpa using h3, h4⟩)))
    · exact .inr (.inr (.inr (.inr ⟨by simp; omega, by simp; omega, by simp; omega, by simp; omega, by simp; omega, h6⟩)))) with ⟨t0, e⟩ | ⟨t0, t1, e⟩ | ⟨t0, t1, t2, e⟩ | ⟨t0, t1, t2, t3, e⟩ | ⟨t0, t1, t2, t3, t4, e⟩
  all_goals
    subst e
    clear hc hc1 he
    go_enter Tryz.func63, Tryz.ntmps63
    go_wp2_with fail
    obtain ⟨w1, hw1⟩ : ∃ w1 : World, w1 = w.alloc (.cells #[.int .i64 at_] 2) := ⟨_, rfl⟩
    rw [← hw1] at A1 C1 X1 ⊢
    clear hw1
    have b0 := C1.out.hb.cell 0
    have b1 := C1.out.hb.cell 1
    have x0 := X1.out.cell 0
    simp at b0 b1 x0
    go_quiet (fail)
    have D2 := Lib.hid (show Stp (fun _ => False) c1 c1 w1 (w1.drewN nq) from (Stp.refl _ _ _).drewN nq)
    go_wp2_with (go_at_call 50; refine (wrap_some _ _ _ _ _).mono ?_; rintro e w' ⟨rfl, rfl⟩)
    go_ret
    exact ⟨_, rfl, _, (A1.out.trans D2.out).alloc _ 1, ErrAt.new _ _ _ _ _⟩

end Go.Proofs.YtiphdedfbafhkaaGreatDoor
