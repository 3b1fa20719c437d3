/- Contracts of the clock's Set: refused, and behind all others. No condition beyond each contract's own. -/
import Derived.Test.YtiphdedfbafhkaaGreatDoorClock3
namespace Go.Proofs.YtiphdedfbafhkaaGreatDoor
open Go.RowKit

def KJ2 (k : Nat) (j : Nat) : Prop := j = k ∨ j = k + 1

set_option maxRecDepth 100000 in
set_option maxHeartbeats 2000000 in
theorem kset_end {c : Nat → Nat} {k : Nat} {w : World} {p : Nat} {now : Int} {l : List Tm} (h : ClockAt c k w p now l) (at_ who : Int) (h0 : now < at_) (h1 : at_ ≤ 1099511627776) (h2 : 0 ≤ who) (h3 : who < 64) (h4 : l.length < 64) (hno : ∀ t ∈ l, decide (at_ < t.at_) = false) :
    Calls Tryz.prog 63 #[.pointer (some ⟨p, 0, none⟩), .int .i64 at_, .int .i64 who] w fun e w' => e = .returned .nilIface ∧ ∃ c', Stp (KJ2 k) c c' w w' ∧ ClockAt c' k w' p now (l ++ [⟨at_, who⟩]) := by
  obtain ⟨n, ao, cap, hc⟩ := h
  obtain ⟨c1, hc1, A1⟩ := ((Stp.refl (fun _ => False) c w).alloc (.cells #[.int .i64 at_] 2) 0).name
  have C1 := Lib.hid (show ClockIs c1 k (w.alloc (.cells #[.int .i64 at_] 2)) p now l n ao cap from ⟨hc.hb.stp A1.out id, hc.hr.stp A1.out id, hc.len⟩)
  have X1 := Lib.hid (show Blk c1 0 (w.alloc (.cells #[.int .i64 at_] 2)) w.heap.size [.int .i64 at_] 2 by rw [hc1.out]; exact Blk.new c 0 w _ _)
  have t0 : decide (at_ ≤ now) = false := by simp; omega
  have t1 : decide ((1099511627776 : Int) < at_) = false := by simp; omega
  have t2 : decide (who < 0) = false := by simp; omega
  have t3 : decide ((64 : Int) ≤ who) = false := by simp; omega
  have t4 : decide ((64 : Int) ≤ (n : Int)) = false := by have := hc.len; simp; omega
  have Hn := Lib.hid (show (n : Int) ≤ 1000 by have := hc.len; omega)
  have Hno := Lib.hid hno
  clear hc hc1 h0 h1 h2 h3 h4 hno
  go_enter Tryz.func63, Tryz.ntmps63
  go_wp2_with fail
  obtain ⟨w1, hw1⟩ : ∃ w1 : World, w1 = w.alloc (.cells #[.int .i64 at_] 2) := ⟨_, rfl⟩
  rw [← hw1] at A1 C1 X1 ⊢
  clear hw1
  have b0 := C1.out.hb.cell 0
  have b1 := C1.out.hb.cell 1
  have x0 := X1.out.cell 0
  simp at b0 b1 x0
  go_quiet (fail)
  clear b0 b1
  have D2 := Lib.hid (show Stp (fun _ => False) c1 c1 w1 (w1.drewN nq) from (Stp.refl _ _ _).drewN nq)
  obtain ⟨w2, hw2⟩ : ∃ w2 : World, w2 = w1.drewN nq := ⟨_, rfl⟩
  rw [← hw2] at D2 ⊢
  have C2 := Lib.hid (show ClockIs c1 k w2 p now l n ao cap from ⟨C1.out.hb.stp D2.out id, C1.out.hr.stp D2.out id, C1.out.len⟩)
  have X2 := Lib.hid (X1.out.stp D2.out id)
  have S2 := Lib.hid (A1.out.trans D2.out)
  have b1 := C2.out.hb.cell 1
  simp at b1
  clear hw2 x0 A1 C1 X1 D2
  go_wp2_with fail
  refine (kindex_set (x := at_) C2.out.hr.toIn C2.out.len (by simpa using X2.out.cell 0)).mono ?_
  rintro e w3 ⟨rfl, c3, s3⟩
  rw [ixOfP_none Hno.out]
  have C3 := Lib.hid (show ClockIs c3 k w3 p now l n ao cap from ⟨C2.out.hb.stp s3 id, C2.out.hr.stp s3 id, C2.out.len⟩)
  have X3 := Lib.hid (X2.out.stp s3 id)
  have S3 := Lib.hid (S2.out.trans s3)
  have b3 := C3.out.hb.cell 1
  have x3 := X3.out.cell 0
  have f3 := C3.out.hb.free 1
  have hp := C3.out.hb.lt
  simp at b3 x3
  clear s3 b1 C2 X2 S2
  go_wp2_with fail
  go_region_with ((go_at_call 113; refine (kinsert_end (k := k + 1) (C3.out.hr.drew.alloc (.cells #[.int .i64 at_, .int .i64 who] 196) 0) (y := ⟨at_, who⟩) (Blk.new c3 0 w3.drew [.int .i64 at_, .int .i64 who] 196) Hn.out).mono ?_; rintro e w4 ⟨ao4, cap4, rfl, c4, s4, r4⟩; have hb4 := (C3.out.hb.drew.alloc (.cells #[.int .i64 at_, .int .i64 who] 196) 0).stp s4 (show k ≠ k + 1 by omega); have k0 := hb4.cell 0; have k1 := hb4.cell 1; have g1 := hb4.free 1; simp at k0 k1))
  all_goals
    have S4 := Lib.hid (((S3.out.mono (J' := KJ2 k) (fun _ h => h.elim)).drew.alloc (.cells #[.int .i64 at_, .int .i64 who] 196) 0).trans (s4.mono (J' := KJ2 k) (fun _ h => .inr h)))
    have Hb4 := Lib.hid hb4
    have R4 := Lib.hid r4
    clear s4 r4 hb4 k0 k1 g1 b3 x3 f3
    go_wp2
    go_ret
    refine ⟨rfl, c4, S4.out.setCell _ (.inl Hb4.out.1), n + 1, ao4, cap4, by simpa using Hb4.out.set 1 (.slice ao4 (n + 1) cap4), ?_, by simp [C3.out.len]⟩
    exact R4.out.other _ (R4.out.ne_blk Hb4.out (by decide)) rfl
end Go.Proofs.YtiphdedfbafhkaaGreatDoor
