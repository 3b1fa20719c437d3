/- Contracts that the closing theorem wants (Dq1). No condition beyond each law's own. -/
import Derived.Test.YtiphdedfbafhkaaGreatDoorYJq
import Derived.Test.YtiphdedfbafhkaaGreatDoorYLq
import Derived.Test.YtiphdedfbafhkaaGreatDoorZDz6
import Derived.Test.YtiphdedfbafhkaaGreatDoorZDz5
import Derived.Test.YtiphdedfbafhkaaGreatDoorZDoc
import Derived.Test.YtiphdedfbafhkaaGreatDoorZCeX
import Derived.Deep.RegionHeld3
namespace Go.Proofs.YtiphdedfbafhkaaGreatDoor
open Go.RowKit

section
theorem jr_col {j : Nat} (h : JR 300 j) : 301 ≤ j ∧ j ≤ 304 := by unfold JR at h; omega
theorem sj_col {i j : Nat} (h : JR 300 j ∨ j = kb 300 i ∨ j = kb 300 i + 1) : 300 ≤ j ∧ ∀ m, j ≠ kb 300 m + 5 := by
  unfold JR kb at h
  exact ⟨by omega, fun m => by unfold kb; omega⟩
theorem lawis_y {c : Nat → Nat} {w : World} {v : Value} {m : Int} (h : Err c w v m) : Calls Tryz.prog 14 #[v, .int .i64 m] w fun e w' => e = .returned (.bool true) ∧ w = w' := by
  refine (lawis h m).mono ?_
  rintro e w1 ⟨rfl, rfl⟩
  exact ⟨by simp, rfl⟩
variable {c c' : Nat → Nat} {w w' : World} {k r p : Nat}

set_option maxRecDepth 100000 in
set_option maxHeartbeats 4000000 in
theorem do14_wake (h : JE c w k r p) (_hk : k < 150) (a b at0 hi : Int) :
    Calls Tryz.prog 46 #[.pointer (some ⟨r, 0, none⟩), .pointer (some ⟨p, 0, none⟩), .agg #[.int .i64 5, .int .i64 a, .int .i64 b, .int .i64 at0, .int .i64 hi]] w fun e w' => e = .returned (.bool true) ∧ ∃ c', Stp (1 ≤ ·) c c' w w' ∧ JE c' w' (k + 1) r p := by
  obtain ⟨ar, ck, tb, tp, la, now, tl, dl, l, D, ao, cap, ro, rcap, R, h⟩ := h
  have hl := h.law.tllen
  have hl2 := h.law.tlen
  have HW := Lib.hid (h.law.wk.mono (B' := 4611686018427387903) (by omega))
  have HK := Lib.hid (And.intro hl hl2)
  clear hl hl2
  obtain ⟨xb, hxb⟩ : ∃ x, x = w.heap.size := ⟨_, rfl⟩
  obtain ⟨c1, hc1, t1⟩ := ((Stp.refl (fun _ => False) c w).alloc (.cells #[.int .i64 5, .int .i64 a, .int .i64 b, .int .i64 at0, .int .i64 hi] 91) 0).name
  have X1 := Lib.hid (show Blk c1 0 (w.alloc (.cells #[.int .i64 5, .int .i64 a, .int .i64 b, .int .i64 at0, .int .i64 hi] 91)) xb [.int .i64 5, .int .i64 a, .int .i64 b, .int .i64 at0, .int .i64 hi] 91 by rw [hc1.out, hxb]; exact Blk.new c 0 w _ _)
  have H1 := Lib.hid (h.stpF t1.out)
  have S1 := Lib.hid (t1.out.mono (J' := (1 ≤ ·)) (fun _ h => h.elim))
  clear h hc1 t1
  go_enter Tryz.func46, Tryz.ntmps46
  go_upto_region 1 with fail
  rw [← hxb]
  generalize w.alloc (.cells #[.int .i64 5, .int .i64 a, .int .i64 b, .int .i64 at0, .int .i64 hi] 91) = w1 at X1 H1 S1 ⊢
  clear hxb
  obtain ⟨x0, x1, x2, x3, x4, lx⟩ := ro_blk X1.out
  go_wp2_with fail
  refine (rmwake_any H1.out.code.rm a HW.out (by have := HK.out.1; omega)).mono ?_
  rintro e w2 ⟨ev, rfl, c2, t2, m2, e2⟩
  obtain ⟨d2, tab2, deb2, sls2⟩ := H1.out.stepC t2 (fun j hj => by have := jr_col hj; omega) (fun i _ hj => by have := jr_col hj; unfold kb at this; omega)
  have R2 := Lib.hid (H1.out.code.go t2 m2)
  have D2 := Lib.hid d2
  have Z2 := Lib.hid (And.intro tab2 (And.intro deb2 (sls2)))
  have E2 := Lib.hid (e2)
  have X2 := Lib.hid (X1.out.stp t2 (by intro hj; have := jr_col hj; omega))
  have S2 := Lib.hid (S1.out.trans (t2.mono (fun j hj => by have : 300 ≤ j ∨ j = 1 ∨ j = 2 := (by have := jr_col hj; omega); omega)))
  clear t2 d2 tab2 deb2 sls2 x0 x1 x2 x3 x4 lx m2 e2
  obtain ⟨x0, x1, x2, x3, x4, lx⟩ := ro_blk X2.out
  go_wp2_with fail
  refine (D2.out.wd.wake a (by have := HK.out.2; omega) HW.out).mono ?_
  rintro e w3 ⟨rfl, c3, t3, d3⟩
  rw [rwake_same]
  obtain ⟨R3, Z3⟩ := JW.stepD R2.out Z2.out.1 Z2.out.2.1 Z2.out.2.2 t3 (fun j hj => by unfold JD at hj; omega)
  have D3 := Lib.hid (D2.out.go t3 d3)
  have E3 := Lib.hid (E2.out.stp t3 (by intro hj; have : 2 ≤ 1 ∧ 1 < 300 := (by unfold JD at hj; omega); omega))
  have S3 := Lib.hid (S2.out.trans (t3.mono (fun j hj => by have : 1 ≤ j ∧ j < 300 := (by unfold JD at hj; omega); omega)))
  have HJ := Lib.hid (show JE c3 w3 (k + 1) r p from ⟨ar, ck, tb, tp, la, now, _, _, _, D, ao, cap, ro, rcap, R, ⟨R3, D3.out, H1.out.law.wake a, Z3.1, Z3.2.1, Z3.2.2⟩⟩)
  clear t3 R3 Z3 R2 D2 Z2 D3 E2 S2 x0 x1 x2 x3 x4 lx
  go_wp2_with fail
  refine (lawis_y E3.out).mono ?_
  rintro e w4 ⟨rfl, rfl⟩
  go_wp2
  go_ret
  exact ⟨by first | rfl | simp, c3, S3.out, HJ.out⟩

set_option maxRecDepth 100000 in
set_option maxHeartbeats 4000000 in
theorem do14_park (h : JE c w k r p) (_hk : k < 150) (a b at0 hi : Int) :
    Calls Tryz.prog 46 #[.pointer (some ⟨r, 0, none⟩), .pointer (some ⟨p, 0, none⟩), .agg #[.int .i64 4, .int .i64 a, .int .i64 b, .int .i64 at0, .int .i64 hi]] w fun e w' => e = .returned (.bool true) ∧ ∃ c', Stp (1 ≤ ·) c c' w w' ∧ JE c' w' (k + 1) r p := by
  obtain ⟨ar, ck, tb, tp, la, now, tl, dl, l, D, ao, cap, ro, rcap, R, h⟩ := h
  have hl := h.law.tllen
  have hl2 := h.law.tlen
  have HW := Lib.hid (h.law.wk.mono (B' := 4611686018427387903) (by omega))
  have HK := Lib.hid (And.intro hl hl2)
  clear hl hl2
  obtain ⟨xb, hxb⟩ : ∃ x, x = w.heap.size := ⟨_, rfl⟩
  obtain ⟨c1, hc1, t1⟩ := ((Stp.refl (fun _ => False) c w).alloc (.cells #[.int .i64 4, .int .i64 a, .int .i64 b, .int .i64 at0, .int .i64 hi] 91) 0).name
  have X1 := Lib.hid (show Blk c1 0 (w.alloc (.cells #[.int .i64 4, .int .i64 a, .int .i64 b, .int .i64 at0, .int .i64 hi] 91)) xb [.int .i64 4, .int .i64 a, .int .i64 b, .int .i64 at0, .int .i64 hi] 91 by rw [hc1.out, hxb]; exact Blk.new c 0 w _ _)
  have H1 := Lib.hid (h.stpF t1.out)
  have S1 := Lib.hid (t1.out.mono (J' := (1 ≤ ·)) (fun _ h => h.elim))
  clear h hc1 t1
  go_enter Tryz.func46, Tryz.ntmps46
  go_upto_region 1 with fail
  rw [← hxb]
  generalize w.alloc (.cells #[.int .i64 4, .int .i64 a, .int .i64 b, .int .i64 at0, .int .i64 hi] 91) = w1 at X1 H1 S1 ⊢
  clear hxb
  obtain ⟨x0, x1, x2, x3, x4, lx⟩ := ro_blk X1.out
  go_wp2_with fail
  refine (rmpark_any H1.out.code.rm a at0 (by have := HK.out.1; omega) H1.out.law.l64 (fun hw => H1.out.law.fewer2 hw)).mono ?_
  rintro e w2 ⟨ev, rfl, c2, t2, m2, e2⟩
  obtain ⟨Q, hQ⟩ : ∃ Q, Q = (rparkR now dl l a at0).2 := ⟨_, rfl⟩
  rw [(H1.out.law.park a at0).1] at m2 e2 ⊢
  obtain ⟨d2, tab2, deb2, sls2⟩ := H1.out.stepC t2 (fun j hj => by have := jr_col hj; omega) (fun i _ hj => by have := jr_col hj; unfold kb at this; omega)
  have R2 := Lib.hid (H1.out.code.go t2 m2)
  have D2 := Lib.hid d2
  have Z2 := Lib.hid (And.intro tab2 (And.intro deb2 (sls2)))
  have E2 := Lib.hid (e2)
  have X2 := Lib.hid (X1.out.stp t2 (by intro hj; have := jr_col hj; omega))
  have S2 := Lib.hid (S1.out.trans (t2.mono (fun j hj => by have : 300 ≤ j ∨ j = 1 ∨ j = 2 := (by have := jr_col hj; omega); omega)))
  clear t2 d2 tab2 deb2 sls2 x0 x1 x2 x3 x4 lx m2 e2
  obtain ⟨x0, x1, x2, x3, x4, lx⟩ := ro_blk X2.out
  go_wp2_with fail
  refine (r14park_any D2.out.wd a at0 (by have := HK.out.2; omega) H1.out.law.l64 (fun hw => H1.out.law.fewer hw)).mono ?_
  rintro e w3 ⟨rfl, c3, t3, d3⟩
  obtain ⟨R3, Z3⟩ := JW.stepD R2.out Z2.out.1 Z2.out.2.1 Z2.out.2.2 t3 (fun j hj => by unfold JD at hj; omega)
  have D3 := Lib.hid (D2.out.go t3 d3)
  have E3 := Lib.hid (E2.out.stp t3 (by intro hj; have : 2 ≤ 1 ∧ 1 < 300 := (by unfold JD at hj; omega); omega))
  have S3 := Lib.hid (S2.out.trans (t3.mono (fun j hj => by have : 1 ≤ j ∧ j < 300 := (by unfold JD at hj; omega); omega)))
  have HJ := Lib.hid (show JE c3 w3 (k + 1) r p from ⟨ar, ck, tb, tp, la, now, _, _, _, D, ao, cap, ro, rcap, R, ⟨R3, D3.out, (H1.out.law.park a at0).2, Z3.1, Z3.2.1, Z3.2.2⟩⟩)
  clear t3 R3 Z3 R2 D2 Z2 D3 E2 S2 x0 x1 x2 x3 x4 lx
  go_wp2_with fail
  refine (lawis_y E3.out).mono ?_
  rintro e w4 ⟨rfl, rfl⟩
  go_wp2
  go_ret
  exact ⟨by first | rfl | simp, c3, S3.out, HJ.out⟩

set_option maxRecDepth 100000 in
set_option maxHeartbeats 4000000 in
theorem do14_sign0 {ar ck tb tp : Nat} {la : List Int} {now : Int} {tl dl : List Tm} {l : List One} {D : List RD} {ao : Option Addr} {cap : Nat} {ro : Option Addr} {rcap : Nat} {R : List DR} (h : JW c w k r p ar ck tb tp la now tl dl l D ao cap ro rcap R) (_hk : k < 150) (a b at0 hi : Int) (ha : a < 0 ∨ (D.length : Int) ≤ a) :
    Calls Tryz.prog 46 #[.pointer (some ⟨r, 0, none⟩), .pointer (some ⟨p, 0, none⟩), .agg #[.int .i64 3, .int .i64 a, .int .i64 b, .int .i64 at0, .int .i64 hi]] w fun e w' => e = .returned (.bool true) ∧ ∃ c', Stp (1 ≤ ·) c c' w w' ∧ JE c' w' (k + 1) r p := by
  have ha2 : a < 0 ∨ (R.length : Int) ≤ a := by rw [h.law.len]; exact ha
  have HA := Lib.hid ha
  have HA2 := Lib.hid ha2
  clear ha ha2
  obtain ⟨xb, hxb⟩ : ∃ x, x = w.heap.size := ⟨_, rfl⟩
  obtain ⟨c1, hc1, t1⟩ := ((Stp.refl (fun _ => False) c w).alloc (.cells #[.int .i64 3, .int .i64 a, .int .i64 b, .int .i64 at0, .int .i64 hi] 91) 0).name
  have X1 := Lib.hid (show Blk c1 0 (w.alloc (.cells #[.int .i64 3, .int .i64 a, .int .i64 b, .int .i64 at0, .int .i64 hi] 91)) xb [.int .i64 3, .int .i64 a, .int .i64 b, .int .i64 at0, .int .i64 hi] 91 by rw [hc1.out, hxb]; exact Blk.new c 0 w _ _)
  have H1 := Lib.hid (h.stpF t1.out)
  have S1 := Lib.hid (t1.out.mono (J' := (1 ≤ ·)) (fun _ h => h.elim))
  clear h hc1 t1
  go_enter Tryz.func46, Tryz.ntmps46
  go_upto_region 1 with fail
  rw [← hxb]
  generalize w.alloc (.cells #[.int .i64 3, .int .i64 a, .int .i64 b, .int .i64 at0, .int .i64 hi] 91) = w1 at X1 H1 S1 ⊢
  clear hxb
  obtain ⟨x0, x1, x2, x3, x4, lx⟩ := ro_blk X1.out
  go_wp2_with fail
  refine (rsignal_none H1.out.code a HA.out).mono ?_
  rintro e w2 ⟨ev, rfl, c2, t2, e2⟩
  have H2 := Lib.hid (H1.out.stpF t2)
  have X2 := Lib.hid (X1.out.stp t2 id)
  have S2 := Lib.hid (S1.out.trans (t2.mono (fun _ h => h.elim)))
  have E2 := Lib.hid (e2.err (by decide))
  have HJ := Lib.hid (show JE c2 w2 (k + 1) r p from ⟨ar, ck, tb, tp, la, now, tl, dl, l, D, ao, cap, ro, rcap, R, { H2.out with law := H2.out.law.mono (Nat.le_succ k) }⟩)
  clear t2 x0 x1 x2 x3 x4 lx
  obtain ⟨x0, x1, x2, x3, x4, lx⟩ := ro_blk X2.out
  go_wp2_with fail
  refine (r14signal_none H2.out.doc a HA2.out).mono ?_
  rintro e w3 ⟨rfl, rfl⟩
  go_wp2_with fail
  refine (lawis_y (m := 3) E2.out).mono ?_
  rintro e w4 ⟨rfl, rfl⟩
  go_wp2
  go_ret
  exact ⟨by first | rfl | simp, c2, S2.out, HJ.out⟩

set_option maxRecDepth 100000 in
set_option maxHeartbeats 4000000 in
theorem do14_sign1 {ar ck tb tp : Nat} {la : List Int} {now : Int} {tl dl : List Tm} {l : List One} {D : List RD} {ao : Option Addr} {cap : Nat} {ro : Option Addr} {rcap : Nat} {R : List DR} (h : JW c w k r p ar ck tb tp la now tl dl l D ao cap ro rcap R) (_hk : k < 150) (b at0 hi : Int) {i : Nat} {d : RD} {e : DR} (hd : D[i]? = some d) (he : R[i]? = some e) :
    Calls Tryz.prog 46 #[.pointer (some ⟨r, 0, none⟩), .pointer (some ⟨p, 0, none⟩), .agg #[.int .i64 3, .int .i64 (i : Int), .int .i64 b, .int .i64 at0, .int .i64 hi]] w fun e w' => e = .returned (.bool true) ∧ ∃ c', Stp (1 ≤ ·) c c' w w' ∧ JE c' w' (k + 1) r p := by
  have HD := Lib.hid hd
  have HE := Lib.hid he
  have HR := Lib.hid (h.law.rings i d e hd he)
  have HWL := Lib.hid (h.law.wlen hd)
  clear hd he
  have hl := h.law.tllen
  have hl2 := h.law.tlen
  have HW := Lib.hid (h.law.wk.mono (B' := 4611686018427387903) (by omega))
  have HK := Lib.hid (And.intro hl hl2)
  clear hl hl2
  have HQ := Lib.hid (h.law.signal HD.out HE.out none none 0 0)
  obtain ⟨xb, hxb⟩ : ∃ x, x = w.heap.size := ⟨_, rfl⟩
  obtain ⟨c1, hc1, t1⟩ := ((Stp.refl (fun _ => False) c w).alloc (.cells #[.int .i64 3, .int .i64 (i : Int), .int .i64 b, .int .i64 at0, .int .i64 hi] 91) 0).name
  have X1 := Lib.hid (show Blk c1 0 (w.alloc (.cells #[.int .i64 3, .int .i64 (i : Int), .int .i64 b, .int .i64 at0, .int .i64 hi] 91)) xb [.int .i64 3, .int .i64 (i : Int), .int .i64 b, .int .i64 at0, .int .i64 hi] 91 by rw [hc1.out, hxb]; exact Blk.new c 0 w _ _)
  have H1 := Lib.hid (h.stpF t1.out)
  have S1 := Lib.hid (t1.out.mono (J' := (1 ≤ ·)) (fun _ h => h.elim))
  clear h hc1 t1
  go_enter Tryz.func46, Tryz.ntmps46
  go_upto_region 1 with fail
  rw [← hxb]
  generalize w.alloc (.cells #[.int .i64 3, .int .i64 (i : Int), .int .i64 b, .int .i64 at0, .int .i64 hi] 91) = w1 at X1 H1 S1 ⊢
  clear hxb
  obtain ⟨x0, x1, x2, x3, x4, lx⟩ := ro_blk X1.out
  go_wp2_with fail
  refine (rsignal_any H1.out.code HD.out (B := 1000 * (k : Int)) H1.out.law.wk (by omega) (by have := HWL.out; omega) (by have := HK.out.1; omega)).mono ?_
  rintro e w2 ⟨rfl, c2, t2, m2⟩
  obtain ⟨d2, tab2, deb2, sls2⟩ := H1.out.stepC t2 (fun j hj => by have := (sj_col hj).1; omega) (fun i _ hj => by exact (sj_col hj).2 _ rfl)
  have R2 := Lib.hid (m2)
  have D2 := Lib.hid d2
  have Z2 := Lib.hid (And.intro tab2 (And.intro deb2 (sls_set (d' := { d with wl := [], wo := none, wcap := 0 }) sls2 HD.out rfl rfl)))
  have E2 := Lib.hid (Err.nil c2 w2)
  have X2 := Lib.hid (X1.out.stp t2 (by intro hj; have := (sj_col hj).1; omega))
  have S2 := Lib.hid (S1.out.trans (t2.mono (fun j hj => by have : 300 ≤ j ∨ j = 1 ∨ j = 2 := (by have := (sj_col hj).1; omega); omega)))
  clear t2 d2 tab2 deb2 sls2 x0 x1 x2 x3 x4 lx m2
  obtain ⟨x0, x1, x2, x3, x4, lx⟩ := ro_blk X2.out
  go_wp2_with fail
  refine (r14signal_any D2.out HE.out (B := 1000 * (k : Int)) H1.out.law.wk (by omega) (by rw [HR.out.wl]; have := HWL.out; omega) (by have := HK.out.2; omega)).mono ?_
  rintro e w3 ⟨rfl, c3, t3, d3⟩
  rw [rsig_same] at d3 ⊢
  rw [← HQ.out.1] at d3 ⊢
  obtain ⟨R3, Z3⟩ := JW.stepD R2.out Z2.out.1 Z2.out.2.1 Z2.out.2.2 t3 (fun j hj => by unfold JD at hj; omega)
  have D3 := Lib.hid (d3)
  have E3 := Lib.hid (E2.out.stp t3 (by intro hj; have : 2 ≤ 1 ∧ 1 < 300 := (by unfold JD at hj; omega); omega))
  have S3 := Lib.hid (S2.out.trans (t3.mono (fun j hj => by have : 1 ≤ j ∧ j < 300 := (by unfold JD at hj; omega); omega)))
  have HJ := Lib.hid (show JE c3 w3 (k + 1) r p from ⟨ar, ck, tb, tp, la, now, _, _, _, _, ao, cap, ro, rcap, _, ⟨R3, D3.out, HQ.out.2, Z3.1, Z3.2.1, Z3.2.2⟩⟩)
  clear t3 R3 Z3 R2 D2 Z2 D3 E2 S2 x0 x1 x2 x3 x4 lx
  go_wp2_with fail
  refine (lawis_y E3.out).mono ?_
  rintro e w4 ⟨rfl, rfl⟩
  go_wp2
  go_ret
  exact ⟨by first | rfl | simp, c3, S3.out, HJ.out⟩

set_option maxRecDepth 100000 in
set_option maxHeartbeats 4000000 in
theorem do14_show0 {ar ck tb tp : Nat} {la : List Int} {now : Int} {tl dl : List Tm} {l : List One} {D : List RD} {ao : Option Addr} {cap : Nat} {ro : Option Addr} {rcap : Nat} {R : List DR} (h : JW c w k r p ar ck tb tp la now tl dl l D ao cap ro rcap R) (_hk : k < 150) (a b at0 hi : Int) (ha : a < 0 ∨ (D.length : Int) ≤ a) :
    Calls Tryz.prog 46 #[.pointer (some ⟨r, 0, none⟩), .pointer (some ⟨p, 0, none⟩), .agg #[.int .i64 9, .int .i64 a, .int .i64 b, .int .i64 at0, .int .i64 hi]] w fun e w' => e = .returned (.bool true) ∧ ∃ c', Stp (1 ≤ ·) c c' w w' ∧ JE c' w' (k + 1) r p := by
  have ha2 : a < 0 ∨ (R.length : Int) ≤ a := by rw [h.law.len]; exact ha
  have HA := Lib.hid ha
  have HA2 := Lib.hid ha2
  clear ha ha2
  obtain ⟨xb, hxb⟩ : ∃ x, x = w.heap.size := ⟨_, rfl⟩
  obtain ⟨c1, hc1, t1⟩ := ((Stp.refl (fun _ => False) c w).alloc (.cells #[.int .i64 9, .int .i64 a, .int .i64 b, .int .i64 at0, .int .i64 hi] 91) 0).name
  have X1 := Lib.hid (show Blk c1 0 (w.alloc (.cells #[.int .i64 9, .int .i64 a, .int .i64 b, .int .i64 at0, .int .i64 hi] 91)) xb [.int .i64 9, .int .i64 a, .int .i64 b, .int .i64 at0, .int .i64 hi] 91 by rw [hc1.out, hxb]; exact Blk.new c 0 w _ _)
  have H1 := Lib.hid (h.stpF t1.out)
  have S1 := Lib.hid (t1.out.mono (J' := (1 ≤ ·)) (fun _ h => h.elim))
  clear h hc1 t1
  go_enter Tryz.func46, Tryz.ntmps46
  go_upto_region 1 with fail
  rw [← hxb]
  generalize w.alloc (.cells #[.int .i64 9, .int .i64 a, .int .i64 b, .int .i64 at0, .int .i64 hi] 91) = w1 at X1 H1 S1 ⊢
  clear hxb
  obtain ⟨x0, x1, x2, x3, x4, lx⟩ := ro_blk X1.out
  go_wp2_with fail
  refine (rshow_none H1.out.code a at0 hi HA.out).mono ?_
  rintro e w2 ⟨ev, rfl, c2, t2, m2, e2⟩
  obtain ⟨d2, tab2, deb2, sls2⟩ := H1.out.stepC t2 (fun j hj => by omega) (fun i _ hj => by unfold kb at hj; omega)
  have H2 := Lib.hid (show JW c2 w2 k r p ar ck tb tp la now tl dl l D ao cap ro rcap R from ⟨m2, d2, H1.out.law, tab2, deb2, sls2⟩)
  have X2 := Lib.hid (X1.out.stp t2 (by decide))
  have S2 := Lib.hid (S1.out.trans (t2.mono (fun j hj => by omega)))
  have E2 := Lib.hid (e2.err (by decide))
  have HJ := Lib.hid (show JE c2 w2 (k + 1) r p from ⟨ar, ck, tb, tp, la, now, tl, dl, l, D, ao, cap, ro, rcap, R, { H2.out with law := H2.out.law.mono (Nat.le_succ k) }⟩)
  clear t2 x0 x1 x2 x3 x4 lx
  obtain ⟨x0, x1, x2, x3, x4, lx⟩ := ro_blk X2.out
  go_wp2_with fail
  refine (r14show_none H2.out.doc a at0 hi HA2.out).mono ?_
  rintro e w3 ⟨rfl, rfl⟩
  go_wp2_with fail
  refine (lawis_y (m := 3) E2.out).mono ?_
  rintro e w4 ⟨rfl, rfl⟩
  go_wp2
  go_ret
  exact ⟨by first | rfl | simp, c2, S2.out, HJ.out⟩

set_option maxRecDepth 100000 in
set_option maxHeartbeats 4000000 in
theorem do14_showb {ar ck tb tp : Nat} {la : List Int} {now : Int} {tl dl : List Tm} {l : List One} {D : List RD} {ao : Option Addr} {cap : Nat} {ro : Option Addr} {rcap : Nat} {R : List DR} (h : JW c w k r p ar ck tb tp la now tl dl l D ao cap ro rcap R) (_hk : k < 150) (b at0 hi : Int) {i : Nat} {d : RD} {e : DR} (hd : D[i]? = some d) (he : R[i]? = some e) (hb : hi < at0) :
    Calls Tryz.prog 46 #[.pointer (some ⟨r, 0, none⟩), .pointer (some ⟨p, 0, none⟩), .agg #[.int .i64 9, .int .i64 (i : Int), .int .i64 b, .int .i64 at0, .int .i64 hi]] w fun e w' => e = .returned (.bool true) ∧ ∃ c', Stp (1 ≤ ·) c c' w w' ∧ JE c' w' (k + 1) r p := by
  have HD := Lib.hid hd
  have HE := Lib.hid he
  have HR := Lib.hid (h.law.rings i d e hd he)
  have HF := Lib.hid (h.law.fit i d hd)
  have HB := Lib.hid hb
  clear hd he hb
  obtain ⟨xb, hxb⟩ : ∃ x, x = w.heap.size := ⟨_, rfl⟩
  obtain ⟨c1, hc1, t1⟩ := ((Stp.refl (fun _ => False) c w).alloc (.cells #[.int .i64 9, .int .i64 (i : Int), .int .i64 b, .int .i64 at0, .int .i64 hi] 91) 0).name
  have X1 := Lib.hid (show Blk c1 0 (w.alloc (.cells #[.int .i64 9, .int .i64 (i : Int), .int .i64 b, .int .i64 at0, .int .i64 hi] 91)) xb [.int .i64 9, .int .i64 (i : Int), .int .i64 b, .int .i64 at0, .int .i64 hi] 91 by rw [hc1.out, hxb]; exact Blk.new c 0 w _ _)
  have H1 := Lib.hid (h.stpF t1.out)
  have S1 := Lib.hid (t1.out.mono (J' := (1 ≤ ·)) (fun _ h => h.elim))
  clear h hc1 t1
  go_enter Tryz.func46, Tryz.ntmps46
  go_upto_region 1 with fail
  rw [← hxb]
  generalize w.alloc (.cells #[.int .i64 9, .int .i64 (i : Int), .int .i64 b, .int .i64 at0, .int .i64 hi] 91) = w1 at X1 H1 S1 ⊢
  clear hxb
  obtain ⟨x0, x1, x2, x3, x4, lx⟩ := ro_blk X1.out
  go_wp2_with fail
  refine (rshow_back H1.out.code HD.out at0 hi HB.out).mono ?_
  rintro e w2 ⟨ev, rfl, c2, t2, m2, e2⟩
  obtain ⟨d2, tab2, deb2, sls2⟩ := H1.out.stepC t2 (fun j hj => by omega) (fun i _ hj => by unfold kb at hj; omega)
  have H2 := Lib.hid (show JW c2 w2 k r p ar ck tb tp la now tl dl l D ao cap ro rcap R from ⟨m2, d2, H1.out.law, tab2, deb2, sls2⟩)
  have X2 := Lib.hid (X1.out.stp t2 (by decide))
  have S2 := Lib.hid (S1.out.trans (t2.mono (fun j hj => by omega)))
  have E2 := Lib.hid (e2.err (by decide))
  have HJ := Lib.hid (show JE c2 w2 (k + 1) r p from ⟨ar, ck, tb, tp, la, now, tl, dl, l, D, ao, cap, ro, rcap, R, { H2.out with law := H2.out.law.mono (Nat.le_succ k) }⟩)
  clear t2 x0 x1 x2 x3 x4 lx
  obtain ⟨x0, x1, x2, x3, x4, lx⟩ := ro_blk X2.out
  go_wp2_with fail
  refine (r14show_back H2.out.doc HE.out at0 hi HB.out).mono ?_
  rintro e w3 ⟨rfl, rfl⟩
  go_wp2_with fail
  refine (lawis_y (m := 1) E2.out).mono ?_
  rintro e w4 ⟨rfl, rfl⟩
  go_wp2
  go_ret
  exact ⟨by first | rfl | simp, c2, S2.out, HJ.out⟩

set_option maxRecDepth 100000 in
set_option maxHeartbeats 4000000 in
theorem do14_showsb {ar ck tb tp : Nat} {la : List Int} {now : Int} {tl dl : List Tm} {l : List One} {D : List RD} {ao : Option Addr} {cap : Nat} {ro : Option Addr} {rcap : Nat} {R : List DR} (h : JW c w k r p ar ck tb tp la now tl dl l D ao cap ro rcap R) (_hk : k < 150) (b at0 hi : Int) {i : Nat} {d : RD} {e : DR} (hd : D[i]? = some d) (he : R[i]? = some e) (hm : d.many = false) (h0 : at0 ≤ hi) (hb : hi ≤ e.pub ∨ e.cl < hi) :
    Calls Tryz.prog 46 #[.pointer (some ⟨r, 0, none⟩), .pointer (some ⟨p, 0, none⟩), .agg #[.int .i64 9, .int .i64 (i : Int), .int .i64 b, .int .i64 at0, .int .i64 hi]] w fun e w' => e = .returned (.bool true) ∧ ∃ c', Stp (1 ≤ ·) c c' w w' ∧ JE c' w' (k + 1) r p := by
  have HD := Lib.hid hd
  have HE := Lib.hid he
  have HR := Lib.hid (h.law.rings i d e hd he)
  have HF := Lib.hid (h.law.fit i d hd)
  have HM := Lib.hid hm
  have HM2 := Lib.hid (show e.many = d.many from (h.law.rings i d e hd he).many)
  obtain ⟨q1, q2, q3, q4, q5, q6, q7⟩ := (h.law.rings i d e hd he).one hm
  have HC := Lib.hid (show d.cur < la.length by have := HF.out; rw [show d.size = 1 by simp [RD.size, hm]] at this; omega)
  have HB0 := Lib.hid ((h.law.rings i d e hd he).b)
  have HB := Lib.hid (And.intro h0 (And.intro hb (show hi ≤ la.getD d.cur 0 ∨ d.cl < hi by rw [q2, q1]; exact hb)))
  clear hd he hb hm h0 q1 q2 q3 q4 q5 q6 q7
  obtain ⟨xb, hxb⟩ : ∃ x, x = w.heap.size := ⟨_, rfl⟩
  obtain ⟨c1, hc1, t1⟩ := ((Stp.refl (fun _ => False) c w).alloc (.cells #[.int .i64 9, .int .i64 (i : Int), .int .i64 b, .int .i64 at0, .int .i64 hi] 91) 0).name
  have X1 := Lib.hid (show Blk c1 0 (w.alloc (.cells #[.int .i64 9, .int .i64 (i : Int), .int .i64 b, .int .i64 at0, .int .i64 hi] 91)) xb [.int .i64 9, .int .i64 (i : Int), .int .i64 b, .int .i64 at0, .int .i64 hi] 91 by rw [hc1.out, hxb]; exact Blk.new c 0 w _ _)
  have H1 := Lib.hid (h.stpF t1.out)
  have S1 := Lib.hid (t1.out.mono (J' := (1 ≤ ·)) (fun _ h => h.elim))
  clear h hc1 t1
  go_enter Tryz.func46, Tryz.ntmps46
  go_upto_region 1 with fail
  rw [← hxb]
  generalize w.alloc (.cells #[.int .i64 9, .int .i64 (i : Int), .int .i64 b, .int .i64 at0, .int .i64 hi] 91) = w1 at X1 H1 S1 ⊢
  clear hxb
  obtain ⟨x0, x1, x2, x3, x4, lx⟩ := ro_blk X1.out
  go_wp2_with fail
  refine (rshow_sbad H1.out.code HD.out HM.out HC.out at0 hi HB.out.1 HB.out.2.2).mono ?_
  rintro e w2 ⟨ev, rfl, c2, t2, m2, e2⟩
  obtain ⟨d2, tab2, deb2, sls2⟩ := H1.out.stepC t2 (fun j hj => by omega) (fun i _ hj => by unfold kb at hj; omega)
  have H2 := Lib.hid (show JW c2 w2 k r p ar ck tb tp la now tl dl l D ao cap ro rcap R from ⟨m2, d2, H1.out.law, tab2, deb2, sls2⟩)
  have X2 := Lib.hid (X1.out.stp t2 (by decide))
  have S2 := Lib.hid (S1.out.trans (t2.mono (fun j hj => by omega)))
  have E2 := Lib.hid (e2.err (by decide))
  have HJ := Lib.hid (show JE c2 w2 (k + 1) r p from ⟨ar, ck, tb, tp, la, now, tl, dl, l, D, ao, cap, ro, rcap, R, { H2.out with law := H2.out.law.mono (Nat.le_succ k) }⟩)
  clear t2 x0 x1 x2 x3 x4 lx
  obtain ⟨x0, x1, x2, x3, x4, lx⟩ := ro_blk X2.out
  go_wp2_with fail
  refine (r14show_sbad H2.out.doc HE.out (HM2.out.trans HM.out) at0 hi HB.out.1 HB.out.2.1).mono ?_
  rintro e w3 ⟨rfl, rfl⟩
  go_wp2_with fail
  refine (lawis_y (m := 1) E2.out).mono ?_
  rintro e w4 ⟨rfl, rfl⟩
  go_wp2
  go_ret
  exact ⟨by first | rfl | simp, c2, S2.out, HJ.out⟩

set_option maxRecDepth 100000 in
set_option maxHeartbeats 4000000 in
theorem do14_shows {ar ck tb tp : Nat} {la : List Int} {now : Int} {tl dl : List Tm} {l : List One} {D : List RD} {ao : Option Addr} {cap : Nat} {ro : Option Addr} {rcap : Nat} {R : List DR} (h : JW c w k r p ar ck tb tp la now tl dl l D ao cap ro rcap R) (_hk : k < 150) (b at0 hi : Int) {i : Nat} {d : RD} {e : DR} (hd : D[i]? = some d) (he : R[i]? = some e) (hm : d.many = false) (h0 : at0 ≤ hi) (h1 : e.pub < hi) (h2 : hi ≤ e.cl) :
    Calls Tryz.prog 46 #[.pointer (some ⟨r, 0, none⟩), .pointer (some ⟨p, 0, none⟩), .agg #[.int .i64 9, .int .i64 (i : Int), .int .i64 b, .int .i64 at0, .int .i64 hi]] w fun e w' => e = .returned (.bool true) ∧ ∃ c', Stp (1 ≤ ·) c c' w w' ∧ JE c' w' (k + 1) r p := by
  have HD := Lib.hid hd
  have HE := Lib.hid he
  have HR := Lib.hid (h.law.rings i d e hd he)
  have HF := Lib.hid (h.law.fit i d hd)
  have HM := Lib.hid hm
  have HM2 := Lib.hid (show e.many = d.many from (h.law.rings i d e hd he).many)
  obtain ⟨q1, q2, q3, q4, q5, q6, q7⟩ := (h.law.rings i d e hd he).one hm
  have HC := Lib.hid (show d.cur < la.length by have := HF.out; rw [show d.size = 1 by simp [RD.size, hm]] at this; omega)
  have HB0 := Lib.hid ((h.law.rings i d e hd he).b)
  have HB := Lib.hid (And.intro h0 (And.intro h1 (And.intro h2 (And.intro (show la.getD d.cur 0 < hi by rw [q2]; exact h1) (show hi ≤ d.cl by rw [q1]; exact h2)))))
  have HI := Lib.hid (show -9223372036854775808 ≤ hi ∧ hi ≤ 4611686018427387904 by have := HB0.out; omega)
  clear hd he hm h0 h1 h2 q1 q2 q3 q4 q5 q6 q7
  obtain ⟨xb, hxb⟩ : ∃ x, x = w.heap.size := ⟨_, rfl⟩
  obtain ⟨c1, hc1, t1⟩ := ((Stp.refl (fun _ => False) c w).alloc (.cells #[.int .i64 9, .int .i64 (i : Int), .int .i64 b, .int .i64 at0, .int .i64 hi] 91) 0).name
  have X1 := Lib.hid (show Blk c1 0 (w.alloc (.cells #[.int .i64 9, .int .i64 (i : Int), .int .i64 b, .int .i64 at0, .int .i64 hi] 91)) xb [.int .i64 9, .int .i64 (i : Int), .int .i64 b, .int .i64 at0, .int .i64 hi] 91 by rw [hc1.out, hxb]; exact Blk.new c 0 w _ _)
  have H1 := Lib.hid (h.stpF t1.out)
  have S1 := Lib.hid (t1.out.mono (J' := (1 ≤ ·)) (fun _ h => h.elim))
  clear h hc1 t1
  go_enter Tryz.func46, Tryz.ntmps46
  go_upto_region 1 with fail
  rw [← hxb]
  generalize w.alloc (.cells #[.int .i64 9, .int .i64 (i : Int), .int .i64 b, .int .i64 at0, .int .i64 hi] 91) = w1 at X1 H1 S1 ⊢
  clear hxb
  obtain ⟨x0, x1, x2, x3, x4, lx⟩ := ro_blk X1.out
  go_wp2_with fail
  refine (rshow_s H1.out.code HD.out HM.out HC.out at0 hi HB.out.1 HB.out.2.2.2.1 HB.out.2.2.2.2 HI.out).mono ?_
  rintro e w2 ⟨rfl, c2, t2, m2⟩
  obtain ⟨d2, tab2, deb2, sls2⟩ := H1.out.stepC t2 (fun j hj => by omega) (fun i _ hj => by unfold kb at hj; omega)
  have R2 := Lib.hid (m2)
  have D2 := Lib.hid d2
  have Z2 := Lib.hid (And.intro tab2 (And.intro deb2 (sls2)))
  have E2 := Lib.hid (Err.nil c2 w2)
  have X2 := Lib.hid (X1.out.stp t2 (by decide))
  have S2 := Lib.hid (S1.out.trans (t2.mono (fun j hj => by have : 300 ≤ j ∨ j = 1 ∨ j = 2 := (by omega); omega)))
  clear t2 d2 tab2 deb2 sls2 x0 x1 x2 x3 x4 lx m2
  obtain ⟨x0, x1, x2, x3, x4, lx⟩ := ro_blk X2.out
  go_wp2_with fail
  refine ((r14show_s D2.out HE.out (HM2.out.trans HM.out) at0 hi HB.out.1 HB.out.2.1 HB.out.2.2.1 HI.out).mono (fun _ _ h => (show _ ∧ ∃ c', Stp (· = 12) _ c' _ _ ∧ DWR c' _ _ _ _ _ _ _ _ _ from ⟨h.1, _, h.2.1, h.2.2⟩))).mono ?_
  rintro e w3 ⟨rfl, c3, t3, d3⟩
  obtain ⟨R3, Z3⟩ := JW.stepD R2.out Z2.out.1 Z2.out.2.1 Z2.out.2.2 t3 (fun j hj => by omega)
  have D3 := Lib.hid (d3)
  have E3 := Lib.hid (E2.out.stp t3 (by intro hj; have : 2 ≤ 1 ∧ 1 < 300 := (by omega); omega))
  have S3 := Lib.hid (S2.out.trans (t3.mono (fun j hj => by have : 1 ≤ j ∧ j < 300 := (by omega); omega)))
  have HJ := Lib.hid (show JE c3 w3 (k + 1) r p from ⟨ar, ck, tb, tp, _, now, tl, dl, l, D, ao, cap, ro, rcap, _, ⟨R3, D3.out, H1.out.law.show_s HD.out HE.out HM.out hi HB.out.2.1 HB.out.2.2.1, Z3.1, Z3.2.1, Z3.2.2⟩⟩)
  clear t3 R3 Z3 R2 D2 Z2 D3 E2 S2 x0 x1 x2 x3 x4 lx
  go_wp2_with fail
  refine (lawis_y E3.out).mono ?_
  rintro e w4 ⟨rfl, rfl⟩
  go_wp2
  go_ret
  exact ⟨by first | rfl | simp, c3, S3.out, HJ.out⟩

set_option maxRecDepth 100000 in
set_option maxHeartbeats 4000000 in
theorem do14_showmb {ar ck tb tp : Nat} {la : List Int} {now : Int} {tl dl : List Tm} {l : List One} {D : List RD} {ao : Option Addr} {cap : Nat} {ro : Option Addr} {rcap : Nat} {R : List DR} (h : JW c w k r p ar ck tb tp la now tl dl l D ao cap ro rcap R) (_hk : k < 150) (b at0 hi : Int) {i : Nat} {d : RD} {e : DR} (hd : D[i]? = some d) (he : R[i]? = some e) (hm : d.many = true) (h0 : at0 ≤ hi) (hb : at0 < 0 ∨ e.cl < at0) :
    Calls Tryz.prog 46 #[.pointer (some ⟨r, 0, none⟩), .pointer (some ⟨p, 0, none⟩), .agg #[.int .i64 9, .int .i64 (i : Int), .int .i64 b, .int .i64 at0, .int .i64 hi]] w fun e w' => e = .returned (.bool true) ∧ ∃ c', Stp (1 ≤ ·) c c' w w' ∧ JE c' w' (k + 1) r p := by
  have HD := Lib.hid hd
  have HE := Lib.hid he
  have HR := Lib.hid (h.law.rings i d e hd he)
  have HF := Lib.hid (h.law.fit i d hd)
  have HM := Lib.hid hm
  have HM2 := Lib.hid (show e.many = d.many from (h.law.rings i d e hd he).many)
  have hz : d.size = 2 + 2 ^ d.sh := by simp [RD.size, hm]
  obtain ⟨q1, q2, q3, q4, q5, q6⟩ := (h.law.rings i d e hd he).two hm
  have HC := Lib.hid (show d.cur < la.length ∧ d.first + 2 ^ d.sh ≤ la.length by have := HF.out; rw [hz] at this; omega)
  have HB0 := Lib.hid ((h.law.rings i d e hd he).b)
  have HQ := Lib.hid (And.intro q1 q5)
  have HP := Lib.hid (show 0 < 2 ^ d.sh ∧ 2 ^ d.sh ≤ 1048576 by have := (pow64 HR.out.sh).2; have := Nat.two_pow_pos d.sh; omega)
  have HB := Lib.hid (And.intro h0 hb)
  clear hd he hb hm h0 q1 q2 q3 q4 q5 q6 hz
  obtain ⟨xb, hxb⟩ : ∃ x, x = w.heap.size := ⟨_, rfl⟩
  obtain ⟨c1, hc1, t1⟩ := ((Stp.refl (fun _ => False) c w).alloc (.cells #[.int .i64 9, .int .i64 (i : Int), .int .i64 b, .int .i64 at0, .int .i64 hi] 91) 0).name
  have X1 := Lib.hid (show Blk c1 0 (w.alloc (.cells #[.int .i64 9, .int .i64 (i : Int), .int .i64 b, .int .i64 at0, .int .i64 hi] 91)) xb [.int .i64 9, .int .i64 (i : Int), .int .i64 b, .int .i64 at0, .int .i64 hi] 91 by rw [hc1.out, hxb]; exact Blk.new c 0 w _ _)
  have H1 := Lib.hid (h.stpF t1.out)
  have S1 := Lib.hid (t1.out.mono (J' := (1 ≤ ·)) (fun _ h => h.elim))
  clear h hc1 t1
  go_enter Tryz.func46, Tryz.ntmps46
  go_upto_region 1 with fail
  rw [← hxb]
  generalize w.alloc (.cells #[.int .i64 9, .int .i64 (i : Int), .int .i64 b, .int .i64 at0, .int .i64 hi] 91) = w1 at X1 H1 S1 ⊢
  clear hxb
  obtain ⟨x0, x1, x2, x3, x4, lx⟩ := ro_blk X1.out
  go_wp2_with fail
  refine (rshow_mbad H1.out.code HD.out HM.out HC.out.1 HQ.out.1 at0 hi HB.out.1 HB.out.2).mono ?_
  rintro e w2 ⟨ev, rfl, c2, t2, m2, e2⟩
  obtain ⟨d2, tab2, deb2, sls2⟩ := H1.out.stepC t2 (fun j hj => by omega) (fun i _ hj => by unfold kb at hj; omega)
  have H2 := Lib.hid (show JW c2 w2 k r p ar ck tb tp la now tl dl l D ao cap ro rcap R from ⟨m2, d2, H1.out.law, tab2, deb2, sls2⟩)
  have X2 := Lib.hid (X1.out.stp t2 (by decide))
  have S2 := Lib.hid (S1.out.trans (t2.mono (fun j hj => by omega)))
  have E2 := Lib.hid (e2.err (by decide))
  have HJ := Lib.hid (show JE c2 w2 (k + 1) r p from ⟨ar, ck, tb, tp, la, now, tl, dl, l, D, ao, cap, ro, rcap, R, { H2.out with law := H2.out.law.mono (Nat.le_succ k) }⟩)
  clear t2 x0 x1 x2 x3 x4 lx
  obtain ⟨x0, x1, x2, x3, x4, lx⟩ := ro_blk X2.out
  go_wp2_with fail
  refine (r14show_mbad H2.out.doc HE.out (HM2.out.trans HM.out) at0 hi HB.out.1 HB.out.2).mono ?_
  rintro e w3 ⟨rfl, rfl⟩
  go_wp2_with fail
  refine (lawis_y (m := 1) E2.out).mono ?_
  rintro e w4 ⟨rfl, rfl⟩
  go_wp2
  go_ret
  exact ⟨by first | rfl | simp, c2, S2.out, HJ.out⟩

set_option maxRecDepth 100000 in
set_option maxHeartbeats 4000000 in
theorem do14_showm {ar ck tb tp : Nat} {la : List Int} {now : Int} {tl dl : List Tm} {l : List One} {D : List RD} {ao : Option Addr} {cap : Nat} {ro : Option Addr} {rcap : Nat} {R : List DR} (h : JW c w k r p ar ck tb tp la now tl dl l D ao cap ro rcap R) (_hk : k < 150) (b at0 hi : Int) {i : Nat} {d : RD} {e : DR} (hd : D[i]? = some d) (he : R[i]? = some e) (hm : d.many = true) (h0 : at0 ≤ hi) (h1 : 0 ≤ at0) (h2 : at0 ≤ e.cl) :
    Calls Tryz.prog 46 #[.pointer (some ⟨r, 0, none⟩), .pointer (some ⟨p, 0, none⟩), .agg #[.int .i64 9, .int .i64 (i : Int), .int .i64 b, .int .i64 at0, .int .i64 hi]] w fun e w' => e = .returned (.bool true) ∧ ∃ c', Stp (1 ≤ ·) c c' w w' ∧ JE c' w' (k + 1) r p := by
  have HD := Lib.hid hd
  have HE := Lib.hid he
  have HR := Lib.hid (h.law.rings i d e hd he)
  have HF := Lib.hid (h.law.fit i d hd)
  have HM := Lib.hid hm
  have HM2 := Lib.hid (show e.many = d.many from (h.law.rings i d e hd he).many)
  have hz : d.size = 2 + 2 ^ d.sh := by simp [RD.size, hm]
  obtain ⟨q1, q2, q3, q4, q5, q6⟩ := (h.law.rings i d e hd he).two hm
  have HC := Lib.hid (show d.cur < la.length ∧ d.first + 2 ^ d.sh ≤ la.length by have := HF.out; rw [hz] at this; omega)
  have HB0 := Lib.hid ((h.law.rings i d e hd he).b)
  have HQ := Lib.hid (And.intro q1 q5)
  have HP := Lib.hid (show 0 < 2 ^ d.sh ∧ 2 ^ d.sh ≤ 1048576 by have := (pow64 HR.out.sh).2; have := Nat.two_pow_pos d.sh; omega)
  have HB := Lib.hid (And.intro h0 (And.intro h1 h2))
  have HI := Lib.hid (show e.cl ≤ 4611686018427387904 by have := HB0.out; omega)
  clear hd he hm h0 h1 h2 q1 q2 q3 q4 q5 q6 hz
  obtain ⟨xb, hxb⟩ : ∃ x, x = w.heap.size := ⟨_, rfl⟩
  obtain ⟨c1, hc1, t1⟩ := ((Stp.refl (fun _ => False) c w).alloc (.cells #[.int .i64 9, .int .i64 (i : Int), .int .i64 b, .int .i64 at0, .int .i64 hi] 91) 0).name
  have X1 := Lib.hid (show Blk c1 0 (w.alloc (.cells #[.int .i64 9, .int .i64 (i : Int), .int .i64 b, .int .i64 at0, .int .i64 hi] 91)) xb [.int .i64 9, .int .i64 (i : Int), .int .i64 b, .int .i64 at0, .int .i64 hi] 91 by rw [hc1.out, hxb]; exact Blk.new c 0 w _ _)
  have H1 := Lib.hid (h.stpF t1.out)
  have S1 := Lib.hid (t1.out.mono (J' := (1 ≤ ·)) (fun _ h => h.elim))
  clear h hc1 t1
  go_enter Tryz.func46, Tryz.ntmps46
  go_upto_region 1 with fail
  rw [← hxb]
  generalize w.alloc (.cells #[.int .i64 9, .int .i64 (i : Int), .int .i64 b, .int .i64 at0, .int .i64 hi] 91) = w1 at X1 H1 S1 ⊢
  clear hxb
  obtain ⟨x0, x1, x2, x3, x4, lx⟩ := ro_blk X1.out
  go_wp2_with fail
  refine (rshow_m H1.out.code HD.out HM.out HC.out.1 HQ.out.1 HC.out.2 at0 hi HB.out.1 HB.out.2.1 HB.out.2.2 HI.out).mono ?_
  rintro e w2 ⟨rfl, c2, t2, m2⟩
  obtain ⟨d2, tab2, deb2, sls2⟩ := H1.out.stepC t2 (fun j hj => by omega) (fun i _ hj => by unfold kb at hj; omega)
  have R2 := Lib.hid (m2)
  have D2 := Lib.hid d2
  have Z2 := Lib.hid (And.intro tab2 (And.intro deb2 (sls2)))
  have E2 := Lib.hid (Err.nil c2 w2)
  have X2 := Lib.hid (X1.out.stp t2 (by decide))
  have S2 := Lib.hid (S1.out.trans (t2.mono (fun j hj => by have : 300 ≤ j ∨ j = 1 ∨ j = 2 := (by omega); omega)))
  clear t2 d2 tab2 deb2 sls2 x0 x1 x2 x3 x4 lx m2
  obtain ⟨x0, x1, x2, x3, x4, lx⟩ := ro_blk X2.out
  go_wp2_with fail
  refine ((r14show_m D2.out HE.out (HM2.out.trans HM.out) at0 hi HB.out.1 HB.out.2.1 HB.out.2.2 HI.out HR.out.n HP.out.1 HP.out.2 HQ.out.2).mono (fun _ _ h => (show _ ∧ ∃ c', Stp (· = dk i) _ c' _ _ ∧ DWR c' _ _ _ _ _ _ _ _ _ from ⟨h.1, _, h.2.1, h.2.2⟩))).mono ?_
  rintro e w3 ⟨rfl, c3, t3, d3⟩
  rw [slot_nat d.sh at0 HB.out.2.1] at d3
  obtain ⟨R3, Z3⟩ := JW.stepD R2.out Z2.out.1 Z2.out.2.1 Z2.out.2.2 t3 (fun j hj => by have := (List.getElem?_eq_some_iff.1 HD.out).1; have := H1.out.law.d8; unfold dk at hj; omega)
  have D3 := Lib.hid (d3)
  have E3 := Lib.hid (E2.out.stp t3 (by intro hj; have : 2 ≤ 1 ∧ 1 < 300 := (by have := (List.getElem?_eq_some_iff.1 HD.out).1; have := H1.out.law.d8; unfold dk at hj; omega); omega))
  have S3 := Lib.hid (S2.out.trans (t3.mono (fun j hj => by have : 1 ≤ j ∧ j < 300 := (by have := (List.getElem?_eq_some_iff.1 HD.out).1; have := H1.out.law.d8; unfold dk at hj; omega); omega)))
  have HJ := Lib.hid (show JE c3 w3 (k + 1) r p from ⟨ar, ck, tb, tp, _, now, tl, dl, l, D, ao, cap, ro, rcap, _, ⟨R3, D3.out, H1.out.law.show_m HD.out HE.out HM.out at0 HB.out.2.1 HB.out.2.2, Z3.1, Z3.2.1, Z3.2.2⟩⟩)
  clear t3 R3 Z3 R2 D2 Z2 D3 E2 S2 x0 x1 x2 x3 x4 lx
  go_wp2_with fail
  refine (lawis_y E3.out).mono ?_
  rintro e w4 ⟨rfl, rfl⟩
  go_wp2
  go_ret
  exact ⟨by first | rfl | simp, c3, S3.out, HJ.out⟩

set_option maxRecDepth 100000 in
set_option maxHeartbeats 4000000 in
theorem do14_pub0 {ar ck tb tp : Nat} {la : List Int} {now : Int} {tl dl : List Tm} {l : List One} {D : List RD} {ao : Option Addr} {cap : Nat} {ro : Option Addr} {rcap : Nat} {R : List DR} (h : JW c w k r p ar ck tb tp la now tl dl l D ao cap ro rcap R) (_hk : k < 150) (a b at0 hi : Int) (ha : a < 0 ∨ (D.length : Int) ≤ a) :
    Calls Tryz.prog 46 #[.pointer (some ⟨r, 0, none⟩), .pointer (some ⟨p, 0, none⟩), .agg #[.int .i64 10, .int .i64 a, .int .i64 b, .int .i64 at0, .int .i64 hi]] w fun e w' => e = .returned (.bool true) ∧ ∃ c', Stp (1 ≤ ·) c c' w w' ∧ JE c' w' (k + 1) r p := by
  have ha2 : a < 0 ∨ (R.length : Int) ≤ a := by rw [h.law.len]; exact ha
  have HA := Lib.hid ha
  have HA2 := Lib.hid ha2
  clear ha ha2
  obtain ⟨xb, hxb⟩ : ∃ x, x = w.heap.size := ⟨_, rfl⟩
  obtain ⟨c1, hc1, t1⟩ := ((Stp.refl (fun _ => False) c w).alloc (.cells #[.int .i64 10, .int .i64 a, .int .i64 b, .int .i64 at0, .int .i64 hi] 91) 0).name
  have X1 := Lib.hid (show Blk c1 0 (w.alloc (.cells #[.int .i64 10, .int .i64 a, .int .i64 b, .int .i64 at0, .int .i64 hi] 91)) xb [.int .i64 10, .int .i64 a, .int .i64 b, .int .i64 at0, .int .i64 hi] 91 by rw [hc1.out, hxb]; exact Blk.new c 0 w _ _)
  have H1 := Lib.hid (h.stpF t1.out)
  have S1 := Lib.hid (t1.out.mono (J' := (1 ≤ ·)) (fun _ h => h.elim))
  clear h hc1 t1
  go_enter Tryz.func46, Tryz.ntmps46
  go_upto_region 1 with fail
  rw [← hxb]
  generalize w.alloc (.cells #[.int .i64 10, .int .i64 a, .int .i64 b, .int .i64 at0, .int .i64 hi] 91) = w1 at X1 H1 S1 ⊢
  clear hxb
  obtain ⟨x0, x1, x2, x3, x4, lx⟩ := ro_blk X1.out
  go_wp2_with fail
  refine (rpub_none H1.out.code a at0 HA.out).mono ?_
  rintro e w2 ⟨ev, rfl, c2, t2, m2, e2⟩
  obtain ⟨d2, tab2, deb2, sls2⟩ := H1.out.stepC t2 (fun j hj => by omega) (fun i _ hj => by unfold kb at hj; omega)
  have H2 := Lib.hid (show JW c2 w2 k r p ar ck tb tp la now tl dl l D ao cap ro rcap R from ⟨m2, d2, H1.out.law, tab2, deb2, sls2⟩)
  have X2 := Lib.hid (X1.out.stp t2 (by decide))
  have S2 := Lib.hid (S1.out.trans (t2.mono (fun j hj => by omega)))
  have E2 := Lib.hid (e2.err (by decide))
  have HJ := Lib.hid (show JE c2 w2 (k + 1) r p from ⟨ar, ck, tb, tp, la, now, tl, dl, l, D, ao, cap, ro, rcap, R, { H2.out with law := H2.out.law.mono (Nat.le_succ k) }⟩)
  clear t2 x0 x1 x2 x3 x4 lx
  obtain ⟨x0, x1, x2, x3, x4, lx⟩ := ro_blk X2.out
  go_wp2_with fail
  refine (r14pub_none H2.out.doc a at0 HA2.out).mono ?_
  rintro e w3 ⟨rfl, rfl⟩
  go_wp2_with fail
  refine (lawis_y (m := 3) E2.out).mono ?_
  rintro e w4 ⟨rfl, rfl⟩
  go_wp2
  go_ret
  exact ⟨by first | rfl | simp, c2, S2.out, HJ.out⟩

set_option maxRecDepth 100000 in
set_option maxHeartbeats 4000000 in
theorem do14_pubr {ar ck tb tp : Nat} {la : List Int} {now : Int} {tl dl : List Tm} {l : List One} {D : List RD} {ao : Option Addr} {cap : Nat} {ro : Option Addr} {rcap : Nat} {R : List DR} (h : JW c w k r p ar ck tb tp la now tl dl l D ao cap ro rcap R) (_hk : k < 150) (b at0 hi : Int) {i : Nat} {d : RD} {e : DR} (hd : D[i]? = some d) (he : R[i]? = some e) (hb : at0 < 0 ∨ 4611686018427387904 < at0) :
    Calls Tryz.prog 46 #[.pointer (some ⟨r, 0, none⟩), .pointer (some ⟨p, 0, none⟩), .agg #[.int .i64 10, .int .i64 (i : Int), .int .i64 b, .int .i64 at0, .int .i64 hi]] w fun e w' => e = .returned (.bool true) ∧ ∃ c', Stp (1 ≤ ·) c c' w w' ∧ JE c' w' (k + 1) r p := by
  have HD := Lib.hid hd
  have HE := Lib.hid he
  have HR := Lib.hid (h.law.rings i d e hd he)
  have HF := Lib.hid (h.law.fit i d hd)
  have HB := Lib.hid hb
  clear hd he hb
  obtain ⟨xb, hxb⟩ : ∃ x, x = w.heap.size := ⟨_, rfl⟩
  obtain ⟨c1, hc1, t1⟩ := ((Stp.refl (fun _ => False) c w).alloc (.cells #[.int .i64 10, .int .i64 (i : Int), .int .i64 b, .int .i64 at0, .int .i64 hi] 91) 0).name
  have X1 := Lib.hid (show Blk c1 0 (w.alloc (.cells #[.int .i64 10, .int .i64 (i : Int), .int .i64 b, .int .i64 at0, .int .i64 hi] 91)) xb [.int .i64 10, .int .i64 (i : Int), .int .i64 b, .int .i64 at0, .int .i64 hi] 91 by rw [hc1.out, hxb]; exact Blk.new c 0 w _ _)
  have H1 := Lib.hid (h.stpF t1.out)
  have S1 := Lib.hid (t1.out.mono (J' := (1 ≤ ·)) (fun _ h => h.elim))
  clear h hc1 t1
  go_enter Tryz.func46, Tryz.ntmps46
  go_upto_region 1 with fail
  rw [← hxb]
  generalize w.alloc (.cells #[.int .i64 10, .int .i64 (i : Int), .int .i64 b, .int .i64 at0, .int .i64 hi] 91) = w1 at X1 H1 S1 ⊢
  clear hxb
  obtain ⟨x0, x1, x2, x3, x4, lx⟩ := ro_blk X1.out
  go_wp2_with fail
  refine (rpub_range H1.out.code HD.out at0 HB.out).mono ?_
  rintro e w2 ⟨ev, rfl, c2, t2, m2, e2⟩
  obtain ⟨d2, tab2, deb2, sls2⟩ := H1.out.stepC t2 (fun j hj => by omega) (fun i _ hj => by unfold kb at hj; omega)
  have H2 := Lib.hid (show JW c2 w2 k r p ar ck tb tp la now tl dl l D ao cap ro rcap R from ⟨m2, d2, H1.out.law, tab2, deb2, sls2⟩)
  have X2 := Lib.hid (X1.out.stp t2 (by decide))
  have S2 := Lib.hid (S1.out.trans (t2.mono (fun j hj => by omega)))
  have E2 := Lib.hid (e2.err (by decide))
  have HJ := Lib.hid (show JE c2 w2 (k + 1) r p from ⟨ar, ck, tb, tp, la, now, tl, dl, l, D, ao, cap, ro, rcap, R, { H2.out with law := H2.out.law.mono (Nat.le_succ k) }⟩)
  clear t2 x0 x1 x2 x3 x4 lx
  obtain ⟨x0, x1, x2, x3, x4, lx⟩ := ro_blk X2.out
  go_wp2_with fail
  refine (r14pub_range H2.out.doc HE.out at0 HB.out).mono ?_
  rintro e w3 ⟨rfl, rfl⟩
  go_wp2_with fail
  refine (lawis_y (m := 5) E2.out).mono ?_
  rintro e w4 ⟨rfl, rfl⟩
  go_wp2
  go_ret
  exact ⟨by first | rfl | simp, c2, S2.out, HJ.out⟩

set_option maxRecDepth 100000 in
set_option maxHeartbeats 4000000 in
theorem do14_pubslow {ar ck tb tp : Nat} {la : List Int} {now : Int} {tl dl : List Tm} {l : List One} {D : List RD} {ao : Option Addr} {cap : Nat} {ro : Option Addr} {rcap : Nat} {R : List DR} (h : JW c w k r p ar ck tb tp la now tl dl l D ao cap ro rcap R) (_hk : k < 150) (b at0 hi : Int) {i : Nat} {d : RD} {e : DR} (hd : D[i]? = some d) (he : R[i]? = some e) (hm : d.many = false) (h0 : 0 ≤ at0) (h1 : at0 ≤ 4611686018427387904) (h2 : e.pub < at0 - 1) :
    Calls Tryz.prog 46 #[.pointer (some ⟨r, 0, none⟩), .pointer (some ⟨p, 0, none⟩), .agg #[.int .i64 10, .int .i64 (i : Int), .int .i64 b, .int .i64 at0, .int .i64 hi]] w fun e w' => e = .returned (.bool true) ∧ ∃ c', Stp (1 ≤ ·) c c' w w' ∧ JE c' w' (k + 1) r p := by
  have HD := Lib.hid hd
  have HE := Lib.hid he
  have HR := Lib.hid (h.law.rings i d e hd he)
  have HF := Lib.hid (h.law.fit i d hd)
  have HM := Lib.hid hm
  have HM2 := Lib.hid (show e.many = d.many from (h.law.rings i d e hd he).many)
  obtain ⟨q1, q2, q3, q4, q5, q6, q7⟩ := (h.law.rings i d e hd he).one hm
  have HC := Lib.hid (show d.cur < la.length by have := HF.out; rw [show d.size = 1 by simp [RD.size, hm]] at this; omega)
  have HB0 := Lib.hid ((h.law.rings i d e hd he).b)
  have HB := Lib.hid (And.intro h0 (And.intro h1 (show la.getD d.cur 0 < at0 - 1 by rw [q2]; exact h2)))
  have HIF := Lib.hid (show (if e.pub < at0 then at0 - 1 else e.pub) = at0 - 1 by rw [if_pos (by omega)])
  clear hd he hm h0 h1 h2 q1 q2 q3 q4 q5 q6 q7
  obtain ⟨xb, hxb⟩ : ∃ x, x = w.heap.size := ⟨_, rfl⟩
  obtain ⟨c1, hc1, t1⟩ := ((Stp.refl (fun _ => False) c w).alloc (.cells #[.int .i64 10, .int .i64 (i : Int), .int .i64 b, .int .i64 at0, .int .i64 hi] 91) 0).name
  have X1 := Lib.hid (show Blk c1 0 (w.alloc (.cells #[.int .i64 10, .int .i64 (i : Int), .int .i64 b, .int .i64 at0, .int .i64 hi] 91)) xb [.int .i64 10, .int .i64 (i : Int), .int .i64 b, .int .i64 at0, .int .i64 hi] 91 by rw [hc1.out, hxb]; exact Blk.new c 0 w _ _)
  have H1 := Lib.hid (h.stpF t1.out)
  have S1 := Lib.hid (t1.out.mono (J' := (1 ≤ ·)) (fun _ h => h.elim))
  clear h hc1 t1
  go_enter Tryz.func46, Tryz.ntmps46
  go_upto_region 1 with fail
  rw [← hxb]
  generalize w.alloc (.cells #[.int .i64 10, .int .i64 (i : Int), .int .i64 b, .int .i64 at0, .int .i64 hi] 91) = w1 at X1 H1 S1 ⊢
  clear hxb
  obtain ⟨x0, x1, x2, x3, x4, lx⟩ := ro_blk X1.out
  go_wp2_with fail
  refine (rpub_slow H1.out.code HD.out HM.out HC.out at0 HB.out.1 HB.out.2.1 HB.out.2.2).mono ?_
  rintro e w2 ⟨rfl, c2, t2, m2⟩
  obtain ⟨d2, tab2, deb2, sls2⟩ := H1.out.stepC t2 (fun j hj => by omega) (fun i _ hj => by unfold kb at hj; omega)
  have R2 := Lib.hid (m2)
  have D2 := Lib.hid d2
  have Z2 := Lib.hid (And.intro tab2 (And.intro deb2 (sls2)))
  have E2 := Lib.hid (Err.nil c2 w2)
  have X2 := Lib.hid (X1.out.stp t2 (by decide))
  have S2 := Lib.hid (S1.out.trans (t2.mono (fun j hj => by have : 300 ≤ j ∨ j = 1 ∨ j = 2 := (by omega); omega)))
  clear t2 d2 tab2 deb2 sls2 x0 x1 x2 x3 x4 lx m2
  obtain ⟨x0, x1, x2, x3, x4, lx⟩ := ro_blk X2.out
  go_wp2_with fail
  refine (r14pub_s D2.out HE.out (HM2.out.trans HM.out) at0 HB.out.1 HB.out.2.1).mono ?_
  rintro e w3 ⟨rfl, c3, t3⟩
  rw [HIF.out]
  obtain ⟨R3, Z3⟩ := JW.stepD R2.out Z2.out.1 Z2.out.2.1 Z2.out.2.2 t3 (fun j hj => by exact hj.elim)
  have D3 := Lib.hid (D2.out.stpF t3)
  have E3 := Lib.hid (E2.out.stp t3 (by intro hj; have : 2 ≤ 1 ∧ 1 < 300 := (by exact hj.elim); omega))
  have S3 := Lib.hid (S2.out.trans (t3.mono (fun j hj => by have : 1 ≤ j ∧ j < 300 := (by exact hj.elim); omega)))
  have HJ := Lib.hid (show JE c3 w3 (k + 1) r p from ⟨ar, ck, tb, tp, la, now, tl, dl, l, D, ao, cap, ro, rcap, R, ⟨R3, D3.out, H1.out.law.mono (Nat.le_succ k), Z3.1, Z3.2.1, Z3.2.2⟩⟩)
  clear t3 R3 Z3 R2 D2 Z2 D3 E2 S2 x0 x1 x2 x3 x4 lx
  go_wp2_with fail
  refine (lawis_y E3.out).mono ?_
  rintro e w4 ⟨rfl, rfl⟩
  go_wp2
  go_ret
  exact ⟨by first | rfl | simp, c3, S3.out, HJ.out⟩

set_option maxRecDepth 100000 in
set_option maxHeartbeats 4000000 in
theorem do14_pubs {ar ck tb tp : Nat} {la : List Int} {now : Int} {tl dl : List Tm} {l : List One} {D : List RD} {ao : Option Addr} {cap : Nat} {ro : Option Addr} {rcap : Nat} {R : List DR} (h : JW c w k r p ar ck tb tp la now tl dl l D ao cap ro rcap R) (_hk : k < 150) (b at0 hi : Int) {i : Nat} {d : RD} {e : DR} (hd : D[i]? = some d) (he : R[i]? = some e) (hm : d.many = false) (h0 : 0 ≤ at0) (h1 : at0 ≤ 4611686018427387904) (h2 : at0 - 1 ≤ e.pub) :
    Calls Tryz.prog 46 #[.pointer (some ⟨r, 0, none⟩), .pointer (some ⟨p, 0, none⟩), .agg #[.int .i64 10, .int .i64 (i : Int), .int .i64 b, .int .i64 at0, .int .i64 hi]] w fun e w' => e = .returned (.bool true) ∧ ∃ c', Stp (1 ≤ ·) c c' w w' ∧ JE c' w' (k + 1) r p := by
  have HD := Lib.hid hd
  have HE := Lib.hid he
  have HR := Lib.hid (h.law.rings i d e hd he)
  have HF := Lib.hid (h.law.fit i d hd)
  have HM := Lib.hid hm
  have HM2 := Lib.hid (show e.many = d.many from (h.law.rings i d e hd he).many)
  obtain ⟨q1, q2, q3, q4, q5, q6, q7⟩ := (h.law.rings i d e hd he).one hm
  have HC := Lib.hid (show d.cur < la.length by have := HF.out; rw [show d.size = 1 by simp [RD.size, hm]] at this; omega)
  have HB0 := Lib.hid ((h.law.rings i d e hd he).b)
  have HB := Lib.hid (And.intro h0 (And.intro h1 (show at0 - 1 ≤ la.getD d.cur 0 by rw [q2]; exact h2)))
  have HIF := Lib.hid (show (if e.pub < at0 then at0 - 1 else e.pub) = la.getD d.cur 0 by rw [q2]; split <;> omega)
  clear hd he hm h0 h1 h2 q1 q2 q3 q4 q5 q6 q7
  obtain ⟨xb, hxb⟩ : ∃ x, x = w.heap.size := ⟨_, rfl⟩
  obtain ⟨c1, hc1, t1⟩ := ((Stp.refl (fun _ => False) c w).alloc (.cells #[.int .i64 10, .int .i64 (i : Int), .int .i64 b, .int .i64 at0, .int .i64 hi] 91) 0).name
  have X1 := Lib.hid (show Blk c1 0 (w.alloc (.cells #[.int .i64 10, .int .i64 (i : Int), .int .i64 b, .int .i64 at0, .int .i64 hi] 91)) xb [.int .i64 10, .int .i64 (i : Int), .int .i64 b, .int .i64 at0, .int .i64 hi] 91 by rw [hc1.out, hxb]; exact Blk.new c 0 w _ _)
  have H1 := Lib.hid (h.stpF t1.out)
  have S1 := Lib.hid (t1.out.mono (J' := (1 ≤ ·)) (fun _ h => h.elim))
  clear h hc1 t1
  go_enter Tryz.func46, Tryz.ntmps46
  go_upto_region 1 with fail
  rw [← hxb]
  generalize w.alloc (.cells #[.int .i64 10, .int .i64 (i : Int), .int .i64 b, .int .i64 at0, .int .i64 hi] 91) = w1 at X1 H1 S1 ⊢
  clear hxb
  obtain ⟨x0, x1, x2, x3, x4, lx⟩ := ro_blk X1.out
  go_wp2_with fail
  refine (rpub_s H1.out.code HD.out HM.out HC.out at0 HB.out.1 HB.out.2.1 HB.out.2.2).mono ?_
  rintro e w2 ⟨rfl, c2, t2, m2⟩
  obtain ⟨d2, tab2, deb2, sls2⟩ := H1.out.stepC t2 (fun j hj => by omega) (fun i _ hj => by unfold kb at hj; omega)
  have R2 := Lib.hid (m2)
  have D2 := Lib.hid d2
  have Z2 := Lib.hid (And.intro tab2 (And.intro deb2 (sls2)))
  have E2 := Lib.hid (Err.nil c2 w2)
  have X2 := Lib.hid (X1.out.stp t2 (by decide))
  have S2 := Lib.hid (S1.out.trans (t2.mono (fun j hj => by have : 300 ≤ j ∨ j = 1 ∨ j = 2 := (by omega); omega)))
  clear t2 d2 tab2 deb2 sls2 x0 x1 x2 x3 x4 lx m2
  obtain ⟨x0, x1, x2, x3, x4, lx⟩ := ro_blk X2.out
  go_wp2_with fail
  refine (r14pub_s D2.out HE.out (HM2.out.trans HM.out) at0 HB.out.1 HB.out.2.1).mono ?_
  rintro e w3 ⟨rfl, c3, t3⟩
  rw [HIF.out]
  obtain ⟨R3, Z3⟩ := JW.stepD R2.out Z2.out.1 Z2.out.2.1 Z2.out.2.2 t3 (fun j hj => by exact hj.elim)
  have D3 := Lib.hid (D2.out.stpF t3)
  have E3 := Lib.hid (E2.out.stp t3 (by intro hj; have : 2 ≤ 1 ∧ 1 < 300 := (by exact hj.elim); omega))
  have S3 := Lib.hid (S2.out.trans (t3.mono (fun j hj => by have : 1 ≤ j ∧ j < 300 := (by exact hj.elim); omega)))
  have HJ := Lib.hid (show JE c3 w3 (k + 1) r p from ⟨ar, ck, tb, tp, la, now, tl, dl, l, D, ao, cap, ro, rcap, R, ⟨R3, D3.out, H1.out.law.mono (Nat.le_succ k), Z3.1, Z3.2.1, Z3.2.2⟩⟩)
  clear t3 R3 Z3 R2 D2 Z2 D3 E2 S2 x0 x1 x2 x3 x4 lx
  go_wp2_with fail
  refine (lawis_y E3.out).mono ?_
  rintro e w4 ⟨rfl, rfl⟩
  go_wp2
  go_ret
  exact ⟨by first | rfl | simp, c3, S3.out, HJ.out⟩

set_option maxRecDepth 100000 in
set_option maxHeartbeats 4000000 in
theorem do14_pubm {ar ck tb tp : Nat} {la : List Int} {now : Int} {tl dl : List Tm} {l : List One} {D : List RD} {ao : Option Addr} {cap : Nat} {ro : Option Addr} {rcap : Nat} {R : List DR} (h : JW c w k r p ar ck tb tp la now tl dl l D ao cap ro rcap R) (_hk : k < 150) (b at0 hi : Int) {i : Nat} {d : RD} {e : DR} (hd : D[i]? = some d) (he : R[i]? = some e) (hm : d.many = true) (h0 : 0 ≤ at0) (h1 : at0 ≤ 4611686018427387904) :
    Calls Tryz.prog 46 #[.pointer (some ⟨r, 0, none⟩), .pointer (some ⟨p, 0, none⟩), .agg #[.int .i64 10, .int .i64 (i : Int), .int .i64 b, .int .i64 at0, .int .i64 hi]] w fun e w' => e = .returned (.bool true) ∧ ∃ c', Stp (1 ≤ ·) c c' w w' ∧ JE c' w' (k + 1) r p := by
  have HD := Lib.hid hd
  have HE := Lib.hid he
  have HR := Lib.hid (h.law.rings i d e hd he)
  have HF := Lib.hid (h.law.fit i d hd)
  have HM := Lib.hid hm
  have HM2 := Lib.hid (show e.many = d.many from (h.law.rings i d e hd he).many)
  have hz : d.size = 2 + 2 ^ d.sh := by simp [RD.size, hm]
  obtain ⟨q1, q2, q3, q4, q5, q6⟩ := (h.law.rings i d e hd he).two hm
  have HC := Lib.hid (show d.cur < la.length ∧ d.first + 2 ^ d.sh ≤ la.length by have := HF.out; rw [hz] at this; omega)
  have HB0 := Lib.hid ((h.law.rings i d e hd he).b)
  have HQ := Lib.hid (And.intro q1 q5)
  have HP := Lib.hid (show 0 < 2 ^ d.sh ∧ 2 ^ d.sh ≤ 1048576 by have := (pow64 HR.out.sh).2; have := Nat.two_pow_pos d.sh; omega)
  have HB := Lib.hid (And.intro h0 h1)
  have HI := Lib.hid (show e.cl ≤ 4611686018427387904 ∧ -9223372036854775808 ≤ e.cl ∧ -1 ≤ e.cl ∧ e.cl < 4611686018427387904 by have := HB0.out; omega)
  clear hd he hm h0 h1 q1 q2 q3 q4 q5 q6 hz
  obtain ⟨xb, hxb⟩ : ∃ x, x = w.heap.size := ⟨_, rfl⟩
  obtain ⟨c1, hc1, t1⟩ := ((Stp.refl (fun _ => False) c w).alloc (.cells #[.int .i64 10, .int .i64 (i : Int), .int .i64 b, .int .i64 at0, .int .i64 hi] 91) 0).name
  have X1 := Lib.hid (show Blk c1 0 (w.alloc (.cells #[.int .i64 10, .int .i64 (i : Int), .int .i64 b, .int .i64 at0, .int .i64 hi] 91)) xb [.int .i64 10, .int .i64 (i : Int), .int .i64 b, .int .i64 at0, .int .i64 hi] 91 by rw [hc1.out, hxb]; exact Blk.new c 0 w _ _)
  have H1 := Lib.hid (h.stpF t1.out)
  have S1 := Lib.hid (t1.out.mono (J' := (1 ≤ ·)) (fun _ h => h.elim))
  clear h hc1 t1
  go_enter Tryz.func46, Tryz.ntmps46
  go_upto_region 1 with fail
  rw [← hxb]
  generalize w.alloc (.cells #[.int .i64 10, .int .i64 (i : Int), .int .i64 b, .int .i64 at0, .int .i64 hi] 91) = w1 at X1 H1 S1 ⊢
  clear hxb
  obtain ⟨x0, x1, x2, x3, x4, lx⟩ := ro_blk X1.out
  go_wp2_with fail
  refine (rpub_m H1.out.code HD.out HM.out HC.out.1 HQ.out.1 HC.out.2 at0 HB.out.1 HB.out.2 HI.out.1 HI.out.2.1).mono ?_
  rintro e w2 ⟨x, rfl, hx, c2, t2, m2⟩
  obtain ⟨d2, tab2, deb2, sls2⟩ := H1.out.stepC t2 (fun j hj => by omega) (fun i _ hj => by unfold kb at hj; omega)
  have R2 := Lib.hid (m2)
  have D2 := Lib.hid d2
  have Z2 := Lib.hid (And.intro tab2 (And.intro deb2 (sls2)))
  have E2 := Lib.hid (Err.nil c2 w2)
  have X2 := Lib.hid (X1.out.stp t2 (by decide))
  have S2 := Lib.hid (S1.out.trans (t2.mono (fun j hj => by have : 300 ≤ j ∨ j = 1 ∨ j = 2 := (by omega); omega)))
  clear t2 d2 tab2 deb2 sls2 x0 x1 x2 x3 x4 lx m2
  obtain ⟨x0, x1, x2, x3, x4, lx⟩ := ro_blk X2.out
  go_wp2_with fail
  refine (r14pub_m D2.out HE.out (HM2.out.trans HM.out) at0 HB.out.1 HB.out.2 HR.out.n HP.out.1 HP.out.2 HQ.out.2 HI.out.2.2).mono ?_
  rintro e w3 ⟨y, rfl, hy, c3, t3⟩
  obtain rfl := hx.uniq (HR.out.hi HM.out HB.out.1 hy)
  clear hx hy
  obtain ⟨R3, Z3⟩ := JW.stepD R2.out Z2.out.1 Z2.out.2.1 Z2.out.2.2 t3 (fun j hj => by exact hj.elim)
  have D3 := Lib.hid (D2.out.stpF t3)
  have E3 := Lib.hid (E2.out.stp t3 (by intro hj; have : 2 ≤ 1 ∧ 1 < 300 := (by exact hj.elim); omega))
  have S3 := Lib.hid (S2.out.trans (t3.mono (fun j hj => by have : 1 ≤ j ∧ j < 300 := (by exact hj.elim); omega)))
  have HJ := Lib.hid (show JE c3 w3 (k + 1) r p from ⟨ar, ck, tb, tp, la, now, tl, dl, l, D, ao, cap, ro, rcap, R, ⟨R3, D3.out, H1.out.law.mono (Nat.le_succ k), Z3.1, Z3.2.1, Z3.2.2⟩⟩)
  clear t3 R3 Z3 R2 D2 Z2 D3 E2 S2 x0 x1 x2 x3 x4 lx
  go_wp2_with fail
  refine (lawis_y E3.out).mono ?_
  rintro e w4 ⟨rfl, rfl⟩
  go_wp2
  go_ret
  exact ⟨by first | rfl | simp, c3, S3.out, HJ.out⟩

set_option maxRecDepth 100000 in
set_option maxHeartbeats 4000000 in
theorem do14_ringk {ar ck tb tp : Nat} {la : List Int} {now : Int} {tl dl : List Tm} {l : List One} {D : List RD} {ao : Option Addr} {cap : Nat} {ro : Option Addr} {rcap : Nat} {R : List DR} (h : JW c w k r p ar ck tb tp la now tl dl l D ao cap ro rcap R) (_hk : k < 150) (a b at0 hi : Int) (hb : b < 0 ∨ 1 < b) :
    Calls Tryz.prog 46 #[.pointer (some ⟨r, 0, none⟩), .pointer (some ⟨p, 0, none⟩), .agg #[.int .i64 0, .int .i64 a, .int .i64 b, .int .i64 at0, .int .i64 hi]] w fun e w' => e = .returned (.bool true) ∧ ∃ c', Stp (1 ≤ ·) c c' w w' ∧ JE c' w' (k + 1) r p := by
  obtain ⟨xb, hxb⟩ : ∃ x, x = w.heap.size := ⟨_, rfl⟩
  obtain ⟨c1, hc1, t1⟩ := ((Stp.refl (fun _ => False) c w).alloc (.cells #[.int .i64 0, .int .i64 a, .int .i64 b, .int .i64 at0, .int .i64 hi] 91) 0).name
  have X1 := Lib.hid (show Blk c1 0 (w.alloc (.cells #[.int .i64 0, .int .i64 a, .int .i64 b, .int .i64 at0, .int .i64 hi] 91)) xb [.int .i64 0, .int .i64 a, .int .i64 b, .int .i64 at0, .int .i64 hi] 91 by rw [hc1.out, hxb]; exact Blk.new c 0 w _ _)
  have H1 := Lib.hid (h.stpF t1.out)
  have S1 := Lib.hid (t1.out.mono (J' := (1 ≤ ·)) (fun _ h => h.elim))
  clear h hc1 t1
  go_enter Tryz.func46, Tryz.ntmps46
  go_upto_region 1 with fail
  rw [← hxb]
  generalize w.alloc (.cells #[.int .i64 0, .int .i64 a, .int .i64 b, .int .i64 at0, .int .i64 hi] 91) = w1 at X1 H1 S1 ⊢
  clear hxb
  obtain ⟨x0, x1, x2, x3, x4, lx⟩ := ro_blk X1.out
  go_wp2_with fail
  refine (rring_kind H1.out.code a b hb).mono ?_
  rintro e w2 ⟨ev, rfl, c2, t2, -, e2⟩
  have H2 := Lib.hid (H1.out.stpF t2)
  have X2 := Lib.hid (X1.out.stp t2 id)
  have S2 := Lib.hid (S1.out.trans (t2.mono (fun _ h => h.elim)))
  have E2 := Lib.hid (e2.err (by decide))
  have HJ := Lib.hid (show JE c2 w2 (k + 1) r p from ⟨ar, ck, tb, tp, la, now, tl, dl, l, D, ao, cap, ro, rcap, R, { H2.out with law := H2.out.law.mono (Nat.le_succ k) }⟩)
  clear t2 x0 x1 x2 x3 x4 lx
  obtain ⟨x0, x1, x2, x3, x4, lx⟩ := ro_blk X2.out
  go_wp2_with fail
  refine (r14add_kind p _ a b hb).mono ?_
  rintro e w3 ⟨rfl, rfl⟩
  go_wp2_with fail
  refine (lawis_y (m := 1) E2.out).mono ?_
  rintro e w4 ⟨rfl, rfl⟩
  go_wp2
  go_ret
  exact ⟨by first | rfl | simp, c2, S2.out, HJ.out⟩

set_option maxRecDepth 100000 in
set_option maxHeartbeats 4000000 in
theorem do14_rings {ar ck tb tp : Nat} {la : List Int} {now : Int} {tl dl : List Tm} {l : List One} {D : List RD} {ao : Option Addr} {cap : Nat} {ro : Option Addr} {rcap : Nat} {R : List DR} (h : JW c w k r p ar ck tb tp la now tl dl l D ao cap ro rcap R) (_hk : k < 150) (a b at0 hi : Int) (hb : b = 0 ∨ b = 1) (hn : NoPow a) :
    Calls Tryz.prog 46 #[.pointer (some ⟨r, 0, none⟩), .pointer (some ⟨p, 0, none⟩), .agg #[.int .i64 0, .int .i64 a, .int .i64 b, .int .i64 at0, .int .i64 hi]] w fun e w' => e = .returned (.bool true) ∧ ∃ c', Stp (1 ≤ ·) c c' w w' ∧ JE c' w' (k + 1) r p := by
  have HB := Lib.hid (show 0 ≤ b ∧ b ≤ 1 by omega)
  have HB2 := Lib.hid hb
  have HN := Lib.hid hn
  clear hb hn
  obtain ⟨xb, hxb⟩ : ∃ x, x = w.heap.size := ⟨_, rfl⟩
  obtain ⟨c1, hc1, t1⟩ := ((Stp.refl (fun _ => False) c w).alloc (.cells #[.int .i64 0, .int .i64 a, .int .i64 b, .int .i64 at0, .int .i64 hi] 91) 0).name
  have X1 := Lib.hid (show Blk c1 0 (w.alloc (.cells #[.int .i64 0, .int .i64 a, .int .i64 b, .int .i64 at0, .int .i64 hi] 91)) xb [.int .i64 0, .int .i64 a, .int .i64 b, .int .i64 at0, .int .i64 hi] 91 by rw [hc1.out, hxb]; exact Blk.new c 0 w _ _)
  have H1 := Lib.hid (h.stpF t1.out)
  have S1 := Lib.hid (t1.out.mono (J' := (1 ≤ ·)) (fun _ h => h.elim))
  clear h hc1 t1
  go_enter Tryz.func46, Tryz.ntmps46
  go_upto_region 1 with fail
  rw [← hxb]
  generalize w.alloc (.cells #[.int .i64 0, .int .i64 a, .int .i64 b, .int .i64 at0, .int .i64 hi] 91) = w1 at X1 H1 S1 ⊢
  clear hxb
  obtain ⟨x0, x1, x2, x3, x4, lx⟩ := ro_blk X1.out
  go_wp2_with fail
  refine (rring_size H1.out.code a b HB2.out HN.out).mono ?_
  rintro e w2 ⟨ev, rfl, c2, t2, -, e2⟩
  have H2 := Lib.hid (H1.out.stpF t2)
  have X2 := Lib.hid (X1.out.stp t2 id)
  have S2 := Lib.hid (S1.out.trans (t2.mono (fun _ h => h.elim)))
  have E2 := Lib.hid (e2.err (by decide))
  have HJ := Lib.hid (show JE c2 w2 (k + 1) r p from ⟨ar, ck, tb, tp, la, now, tl, dl, l, D, ao, cap, ro, rcap, R, { H2.out with law := H2.out.law.mono (Nat.le_succ k) }⟩)
  clear t2 x0 x1 x2 x3 x4 lx
  obtain ⟨x0, x1, x2, x3, x4, lx⟩ := ro_blk X2.out
  go_wp2_with fail
  refine (r14add_size p _ a b HB.out HN.out).mono ?_
  rintro e w3 ⟨rfl, rfl⟩
  go_wp2_with fail
  refine (lawis_y (m := 7) E2.out).mono ?_
  rintro e w4 ⟨rfl, rfl⟩
  go_wp2
  go_ret
  exact ⟨by first | rfl | simp, c2, S2.out, HJ.out⟩

set_option maxRecDepth 100000 in
set_option maxHeartbeats 4000000 in
theorem do14_ringm {ar ck tb tp : Nat} {la : List Int} {now : Int} {tl dl : List Tm} {l : List One} {D : List RD} {ao : Option Addr} {cap : Nat} {ro : Option Addr} {rcap : Nat} {R : List DR} (h : JW c w k r p ar ck tb tp la now tl dl l D ao cap ro rcap R) (_hk : k < 150) (a b at0 hi : Int) (hb : b = 0 ∨ b = 1) {sh : Nat} (hsh : sh < 21) (hn : a = ((2 ^ sh : Nat) : Int)) (hD : 8 ≤ D.length) :
    Calls Tryz.prog 46 #[.pointer (some ⟨r, 0, none⟩), .pointer (some ⟨p, 0, none⟩), .agg #[.int .i64 0, .int .i64 a, .int .i64 b, .int .i64 at0, .int .i64 hi]] w fun e w' => e = .returned (.bool true) ∧ ∃ c', Stp (1 ≤ ·) c c' w w' ∧ JE c' w' (k + 1) r p := by
  have HB := Lib.hid (show 0 ≤ b ∧ b ≤ 1 by omega)
  have HB2 := Lib.hid hb
  have HN := Lib.hid hn
  have HDD := Lib.hid hD
  have HRL := Lib.hid (show 8 ≤ R.length by rw [h.law.len]; exact hD)
  clear hb hn hD
  obtain ⟨xb, hxb⟩ : ∃ x, x = w.heap.size := ⟨_, rfl⟩
  obtain ⟨c1, hc1, t1⟩ := ((Stp.refl (fun _ => False) c w).alloc (.cells #[.int .i64 0, .int .i64 a, .int .i64 b, .int .i64 at0, .int .i64 hi] 91) 0).name
  have X1 := Lib.hid (show Blk c1 0 (w.alloc (.cells #[.int .i64 0, .int .i64 a, .int .i64 b, .int .i64 at0, .int .i64 hi] 91)) xb [.int .i64 0, .int .i64 a, .int .i64 b, .int .i64 at0, .int .i64 hi] 91 by rw [hc1.out, hxb]; exact Blk.new c 0 w _ _)
  have H1 := Lib.hid (h.stpF t1.out)
  have S1 := Lib.hid (t1.out.mono (J' := (1 ≤ ·)) (fun _ h => h.elim))
  clear h hc1 t1
  go_enter Tryz.func46, Tryz.ntmps46
  go_upto_region 1 with fail
  rw [← hxb]
  generalize w.alloc (.cells #[.int .i64 0, .int .i64 a, .int .i64 b, .int .i64 at0, .int .i64 hi] 91) = w1 at X1 H1 S1 ⊢
  clear hxb
  obtain ⟨x0, x1, x2, x3, x4, lx⟩ := ro_blk X1.out
  go_wp2_with fail
  refine (rring_many H1.out.code a b HB2.out sh hsh HN.out H1.out.tab HDD.out).mono ?_
  rintro e w2 ⟨ev, rfl, c2, t2, -, e2⟩
  have H2 := Lib.hid (H1.out.stpF t2)
  have X2 := Lib.hid (X1.out.stp t2 id)
  have S2 := Lib.hid (S1.out.trans (t2.mono (fun _ h => h.elim)))
  have E2 := Lib.hid (e2.err (by decide))
  have HJ := Lib.hid (show JE c2 w2 (k + 1) r p from ⟨ar, ck, tb, tp, la, now, tl, dl, l, D, ao, cap, ro, rcap, R, { H2.out with law := H2.out.law.mono (Nat.le_succ k) }⟩)
  clear t2 x0 x1 x2 x3 x4 lx
  obtain ⟨x0, x1, x2, x3, x4, lx⟩ := ro_blk X2.out
  go_wp2_with fail
  refine (r14add_many H2.out.doc a b HB.out hsh HN.out HRL.out).mono ?_
  rintro e w3 ⟨rfl, rfl⟩
  go_wp2_with fail
  refine (lawis_y (m := 8) E2.out).mono ?_
  rintro e w4 ⟨rfl, rfl⟩
  go_wp2
  go_ret
  exact ⟨by first | rfl | simp, c2, S2.out, HJ.out⟩

set_option maxRecDepth 100000 in
set_option maxHeartbeats 4000000 in
theorem do14_ringm1 {ar ck tb tp : Nat} {la : List Int} {now : Int} {tl dl : List Tm} {l : List One} {D : List RD} {ao : Option Addr} {cap : Nat} {ro : Option Addr} {rcap : Nat} {R : List DR} (h : JW c w k r p ar ck tb tp la now tl dl l D ao cap ro rcap R) (_hk : k < 150) (a at0 hi : Int) (hD : D.length < 8) {sh : Nat} (hsh : sh ≤ 6) (hn : a = ((2 ^ sh : Nat) : Int)) :
    Calls Tryz.prog 46 #[.pointer (some ⟨r, 0, none⟩), .pointer (some ⟨p, 0, none⟩), .agg #[.int .i64 0, .int .i64 a, .int .i64 1, .int .i64 at0, .int .i64 hi]] w fun e w' => e = .returned (.bool true) ∧ ∃ c', Stp (1 ≤ ·) c c' w w' ∧ JE c' w' (k + 1) r p := by
  have HN := Lib.hid hn
  have HDD := Lib.hid hD
  have HSH := Lib.hid hsh
  have HRL := Lib.hid h.law.len
  have HLL := Lib.hid (show (la.length : Int) + 2 + 2 ^ sh ≤ 2097152 by have := h.law.ll; have := h.law.d8; have := (pow64 hsh).1; omega)
  have g9 : wrap64 ((D.length : Int) + 1 - 1) = D.length := by rw [show (D.length : Int) + 1 - 1 = D.length by omega]; exact IntWalk.wrap64_in _ (by constructor <;> omega)
  have g10 : IntKind.i64.wrap ((D.length : Int) + 1 - 1) = D.length := (IntWalk.i64_left _).trans g9
  have g11 : wrap64 (D.length : Int) = D.length := IntWalk.wrap64_in _ (by constructor <;> omega)
  clear hn hD hsh
  obtain ⟨xb, hxb⟩ : ∃ x, x = w.heap.size := ⟨_, rfl⟩
  obtain ⟨c1, hc1, t1⟩ := ((Stp.refl (fun _ => False) c w).alloc (.cells #[.int .i64 0, .int .i64 a, .int .i64 1, .int .i64 at0, .int .i64 hi] 91) 0).name
  have X1 := Lib.hid (show Blk c1 0 (w.alloc (.cells #[.int .i64 0, .int .i64 a, .int .i64 1, .int .i64 at0, .int .i64 hi] 91)) xb [.int .i64 0, .int .i64 a, .int .i64 1, .int .i64 at0, .int .i64 hi] 91 by rw [hc1.out, hxb]; exact Blk.new c 0 w _ _)
  have H1 := Lib.hid (h.stpF t1.out)
  have S1 := Lib.hid (t1.out.mono (J' := (1 ≤ ·)) (fun _ h => h.elim))
  clear h hc1 t1
  go_enter Tryz.func46, Tryz.ntmps46
  go_upto_region 1 with fail
  rw [← hxb]
  generalize w.alloc (.cells #[.int .i64 0, .int .i64 a, .int .i64 1, .int .i64 at0, .int .i64 hi] 91) = w1 at X1 H1 S1 ⊢
  clear hxb
  obtain ⟨x0, x1, x2, x3, x4, lx⟩ := ro_blk X1.out
  go_wp2_with fail
  refine (rring_m2 H1.out.code HDD.out (j := (D.length : Int)) rfl sh (by have := HSH.out; omega) HLL.out H1.out.tab H1.out.deb (by decide) HN.out).mono ?_
  rintro e w2 ⟨rfl, g, sp, mp, bp, gp, ao', cap', c2, t2, m2, g2⟩
  obtain ⟨d2, tab2, deb2, sls2⟩ := H1.out.stepC t2 (fun j hj => by omega) (fun i _ hj => by unfold kb at hj; omega)
  have R2 := Lib.hid (m2)
  have D2 := Lib.hid d2
  have Z2 := Lib.hid (And.intro tab2 (And.intro deb2 (sls_snoc (d := ⟨true, sh, g, .pointer (some ⟨sp, 0, none⟩), mp, bp, gp, la.length, la.length + 1, la.length + 2, 0, 0, 0, [], [], none, 0⟩) sls2 rfl g2)))
  have E2 := Lib.hid (Err.nil c2 w2)
  have X2 := Lib.hid (X1.out.stp t2 (by omega))
  have S2 := Lib.hid (S1.out.trans (t2.mono (fun j hj => by have : 300 ≤ j ∨ j = 1 ∨ j = 2 := (by omega); omega)))
  clear t2 d2 tab2 deb2 sls2 x0 x1 x2 x3 x4 lx m2 g2
  obtain ⟨x0, x1, x2, x3, x4, lx⟩ := ro_blk X2.out
  go_wp2_with fail
  refine (r14add_ok D2.out (n := a) (kd := 1) (b := true) (by decide) (sh := sh) (by have := HSH.out; omega) rfl HN.out (by rw [HRL.out]; exact HDD.out)).mono ?_
  rintro e w3 ⟨rfl, ro', rcap', so, scap, eb, c3, t3, d3⟩
  rw [HN.out] at d3
  have r4 : w3.cell? ⟨p, 4, none⟩ = some (.slice ro' (D.length + 1) rcap') := by
    have := d3.r4.1
    simpa [HRL.out] using this
  have lp := d3.r4.2
  obtain ⟨R3, Z3⟩ := JW.stepD R2.out Z2.out.1 Z2.out.2.1 Z2.out.2.2 t3 (fun j hj => by have := HRL.out; have := HDD.out; unfold dk at hj; omega)
  have D3 := Lib.hid (d3)
  have E3 := Lib.hid (E2.out.stp t3 (by intro hj; have : 2 ≤ 1 ∧ 1 < 300 := (by have := HRL.out; have := HDD.out; unfold dk at hj; omega); omega))
  have S3 := Lib.hid (S2.out.trans (t3.mono (fun j hj => by have : 1 ≤ j ∧ j < 300 := (by have := HRL.out; have := HDD.out; unfold dk at hj; omega); omega)))
  have HJ := Lib.hid (show JE c3 w3 (k + 1) r p from ⟨ar, ck, tb, tp, _, now, tl, dl, l, _, ao', cap', ro', rcap', _, ⟨R3, D3.out, H1.out.law.ring_m HDD.out HSH.out _ _ _ _ _ _ _ _ _ _ _, Z3.1, Z3.2.1, Z3.2.2⟩⟩)
  clear t3 R3 Z3 R2 D2 Z2 D3 E2 S2 x0 x1 x2 x3 x4 lx
  go_wp2_with fail
  refine (lawis_y E3.out).mono ?_
  rintro e w4 ⟨rfl, rfl⟩
  go_wp2
  go_ret
  exact ⟨by first | rfl | simp, c3, S3.out, HJ.out⟩

set_option maxRecDepth 100000 in
set_option maxHeartbeats 4000000 in
theorem do14_rings1 {ar ck tb tp : Nat} {la : List Int} {now : Int} {tl dl : List Tm} {l : List One} {D : List RD} {ao : Option Addr} {cap : Nat} {ro : Option Addr} {rcap : Nat} {R : List DR} (h : JW c w k r p ar ck tb tp la now tl dl l D ao cap ro rcap R) (_hk : k < 150) (a at0 hi : Int) (hD : D.length < 8) {sh : Nat} (hsh : sh ≤ 6) (hn : a = ((2 ^ sh : Nat) : Int)) :
    Calls Tryz.prog 46 #[.pointer (some ⟨r, 0, none⟩), .pointer (some ⟨p, 0, none⟩), .agg #[.int .i64 0, .int .i64 a, .int .i64 0, .int .i64 at0, .int .i64 hi]] w fun e w' => e = .returned (.bool true) ∧ ∃ c', Stp (1 ≤ ·) c c' w w' ∧ JE c' w' (k + 1) r p := by
  have HN := Lib.hid hn
  have HDD := Lib.hid hD
  have HSH := Lib.hid hsh
  have HRL := Lib.hid h.law.len
  have HLL := Lib.hid (show (la.length : Int) + 2 + 2 ^ sh ≤ 2097152 by have := h.law.ll; have := h.law.d8; have := (pow64 hsh).1; omega)
  have g9 : wrap64 ((D.length : Int) + 1 - 1) = D.length := by rw [show (D.length : Int) + 1 - 1 = D.length by omega]; exact IntWalk.wrap64_in _ (by constructor <;> omega)
  have g10 : IntKind.i64.wrap ((D.length : Int) + 1 - 1) = D.length := (IntWalk.i64_left _).trans g9
  have g11 : wrap64 (D.length : Int) = D.length := IntWalk.wrap64_in _ (by constructor <;> omega)
  clear hn hD hsh
  obtain ⟨xb, hxb⟩ : ∃ x, x = w.heap.size := ⟨_, rfl⟩
  obtain ⟨c1, hc1, t1⟩ := ((Stp.refl (fun _ => False) c w).alloc (.cells #[.int .i64 0, .int .i64 a, .int .i64 0, .int .i64 at0, .int .i64 hi] 91) 0).name
  have X1 := Lib.hid (show Blk c1 0 (w.alloc (.cells #[.int .i64 0, .int .i64 a, .int .i64 0, .int .i64 at0, .int .i64 hi] 91)) xb [.int .i64 0, .int .i64 a, .int .i64 0, .int .i64 at0, .int .i64 hi] 91 by rw [hc1.out, hxb]; exact Blk.new c 0 w _ _)
  have H1 := Lib.hid (h.stpF t1.out)
  have S1 := Lib.hid (t1.out.mono (J' := (1 ≤ ·)) (fun _ h => h.elim))
  clear h hc1 t1
  go_enter Tryz.func46, Tryz.ntmps46
  go_upto_region 1 with fail
  rw [← hxb]
  generalize w.alloc (.cells #[.int .i64 0, .int .i64 a, .int .i64 0, .int .i64 at0, .int .i64 hi] 91) = w1 at X1 H1 S1 ⊢
  clear hxb
  obtain ⟨x0, x1, x2, x3, x4, lx⟩ := ro_blk X1.out
  go_wp2_with fail
  refine (rring_s2 H1.out.code HDD.out (j := (D.length : Int)) rfl sh (by have := HSH.out; omega) (by have := HLL.out; have := two_pow_bd sh (by have := HSH.out; omega); omega) H1.out.tab H1.out.deb (by decide) HN.out).mono ?_
  rintro e w2 ⟨rfl, g, sp, mp, gp, ao', cap', c2, t2, m2, g2⟩
  obtain ⟨d2, tab2, deb2, sls2⟩ := H1.out.stepC t2 (fun j hj => by omega) (fun i _ hj => by unfold kb at hj; omega)
  have R2 := Lib.hid (m2)
  have D2 := Lib.hid d2
  have Z2 := Lib.hid (And.intro tab2 (And.intro deb2 (sls_snoc (d := ⟨false, sh, g, .pointer (some ⟨sp, 0, none⟩), mp, 0, gp, la.length, 0, 0, -1, -1, 0, [], [], none, 0⟩) sls2 rfl g2)))
  have E2 := Lib.hid (Err.nil c2 w2)
  have X2 := Lib.hid (X1.out.stp t2 (by omega))
  have S2 := Lib.hid (S1.out.trans (t2.mono (fun j hj => by have : 300 ≤ j ∨ j = 1 ∨ j = 2 := (by omega); omega)))
  clear t2 d2 tab2 deb2 sls2 x0 x1 x2 x3 x4 lx m2 g2
  obtain ⟨x0, x1, x2, x3, x4, lx⟩ := ro_blk X2.out
  go_wp2_with fail
  refine (r14add_ok D2.out (n := a) (kd := 0) (b := false) (by decide) (sh := sh) (by have := HSH.out; omega) rfl HN.out (by rw [HRL.out]; exact HDD.out)).mono ?_
  rintro e w3 ⟨rfl, ro', rcap', so, scap, eb, c3, t3, d3⟩
  rw [HN.out] at d3
  have r4 : w3.cell? ⟨p, 4, none⟩ = some (.slice ro' (D.length + 1) rcap') := by
    have := d3.r4.1
    simpa [HRL.out] using this
  have lp := d3.r4.2
  obtain ⟨R3, Z3⟩ := JW.stepD R2.out Z2.out.1 Z2.out.2.1 Z2.out.2.2 t3 (fun j hj => by have := HRL.out; have := HDD.out; unfold dk at hj; omega)
  have D3 := Lib.hid (d3)
  have E3 := Lib.hid (E2.out.stp t3 (by intro hj; have : 2 ≤ 1 ∧ 1 < 300 := (by have := HRL.out; have := HDD.out; unfold dk at hj; omega); omega))
  have S3 := Lib.hid (S2.out.trans (t3.mono (fun j hj => by have : 1 ≤ j ∧ j < 300 := (by have := HRL.out; have := HDD.out; unfold dk at hj; omega); omega)))
  have HJ := Lib.hid (show JE c3 w3 (k + 1) r p from ⟨ar, ck, tb, tp, _, now, tl, dl, l, _, ao', cap', ro', rcap', _, ⟨R3, D3.out, H1.out.law.ring_s HDD.out HSH.out _ _ _ _ _ _ _ _ _ _ _, Z3.1, Z3.2.1, Z3.2.2⟩⟩)
  clear t3 R3 Z3 R2 D2 Z2 D3 E2 S2 x0 x1 x2 x3 x4 lx
  go_wp2_with fail
  refine (lawis_y E3.out).mono ?_
  rintro e w4 ⟨rfl, rfl⟩
  go_wp2
  go_ret
  exact ⟨by first | rfl | simp, c3, S3.out, HJ.out⟩

set_option maxRecDepth 100000 in
set_option maxHeartbeats 4000000 in
theorem do14_addf {ar ck tb tp : Nat} {la : List Int} {now : Int} {tl dl : List Tm} {l : List One} {D : List RD} {ao : Option Addr} {cap : Nat} {ro : Option Addr} {rcap : Nat} {R : List DR} (h : JW c w k r p ar ck tb tp la now tl dl l D ao cap ro rcap R) (_hk : k < 150) (a b at0 hi : Int) (hl : 64 ≤ l.length) :
    Calls Tryz.prog 46 #[.pointer (some ⟨r, 0, none⟩), .pointer (some ⟨p, 0, none⟩), .agg #[.int .i64 1, .int .i64 a, .int .i64 b, .int .i64 at0, .int .i64 hi]] w fun e w' => e = .returned (.bool true) ∧ ∃ c', Stp (1 ≤ ·) c c' w w' ∧ JE c' w' (k + 1) r p := by
  have HL := Lib.hid hl
  clear hl
  obtain ⟨xb, hxb⟩ : ∃ x, x = w.heap.size := ⟨_, rfl⟩
  obtain ⟨c1, hc1, t1⟩ := ((Stp.refl (fun _ => False) c w).alloc (.cells #[.int .i64 1, .int .i64 a, .int .i64 b, .int .i64 at0, .int .i64 hi] 91) 0).name
  have X1 := Lib.hid (show Blk c1 0 (w.alloc (.cells #[.int .i64 1, .int .i64 a, .int .i64 b, .int .i64 at0, .int .i64 hi] 91)) xb [.int .i64 1, .int .i64 a, .int .i64 b, .int .i64 at0, .int .i64 hi] 91 by rw [hc1.out, hxb]; exact Blk.new c 0 w _ _)
  have H1 := Lib.hid (h.stpF t1.out)
  have S1 := Lib.hid (t1.out.mono (J' := (1 ≤ ·)) (fun _ h => h.elim))
  clear h hc1 t1
  go_enter Tryz.func46, Tryz.ntmps46
  go_upto_region 1 with fail
  rw [← hxb]
  generalize w.alloc (.cells #[.int .i64 1, .int .i64 a, .int .i64 b, .int .i64 at0, .int .i64 hi] 91) = w1 at X1 H1 S1 ⊢
  clear hxb
  obtain ⟨x0, x1, x2, x3, x4, lx⟩ := ro_blk X1.out
  go_wp2_with fail
  refine (rmact_c H1.out.code.rm).mono ?_
  rintro e wA ⟨rfl, rfl⟩
  go_wp2_with fail
  refine (aadd_full H1.out.code.rm.ta (by have := HL.out; omega)).mono ?_
  rintro e w2 ⟨tt, vv, rfl, c2, t2, e2⟩
  have H2 := Lib.hid (H1.out.stpF t2)
  have X2 := Lib.hid (X1.out.stp t2 id)
  have S2 := Lib.hid (S1.out.trans (t2.mono (fun _ h => h.elim)))
  have E2 := Lib.hid (e2.err (by decide))
  have HJ := Lib.hid (show JE c2 w2 (k + 1) r p from ⟨ar, ck, tb, tp, la, now, tl, dl, l, D, ao, cap, ro, rcap, R, { H2.out with law := H2.out.law.mono (Nat.le_succ k) }⟩)
  clear t2 x0 x1 x2 x3 x4 lx
  obtain ⟨x0, x1, x2, x3, x4, lx⟩ := ro_blk X2.out
  have p2 := H2.out.doc.wd.p2
  have lp := H2.out.doc.r4.2
  go_wp2_with fail
  refine (H2.out.doc.wd.full HL.out).mono ?_
  rintro e w3 ⟨rfl, rfl⟩
  go_wp2_with fail
  refine (lawis_y (m := 8) E2.out).mono ?_
  rintro e w4 ⟨rfl, rfl⟩
  go_wp2
  go_ret
  exact ⟨by first | rfl | simp, c2, S2.out, HJ.out⟩

set_option maxRecDepth 100000 in
set_option maxHeartbeats 4000000 in
theorem do14_addo {ar ck tb tp : Nat} {la : List Int} {now : Int} {tl dl : List Tm} {l : List One} {D : List RD} {ao : Option Addr} {cap : Nat} {ro : Option Addr} {rcap : Nat} {R : List DR} (h : JW c w k r p ar ck tb tp la now tl dl l D ao cap ro rcap R) (_hk : k < 150) (a b at0 hi : Int) (hl : l.length < 64) :
    Calls Tryz.prog 46 #[.pointer (some ⟨r, 0, none⟩), .pointer (some ⟨p, 0, none⟩), .agg #[.int .i64 1, .int .i64 a, .int .i64 b, .int .i64 at0, .int .i64 hi]] w fun e w' => e = .returned (.bool true) ∧ ∃ c', Stp (1 ≤ ·) c c' w w' ∧ JE c' w' (k + 1) r p := by
  have HL := Lib.hid hl
  clear hl
  obtain ⟨xb, hxb⟩ : ∃ x, x = w.heap.size := ⟨_, rfl⟩
  obtain ⟨c1, hc1, t1⟩ := ((Stp.refl (fun _ => False) c w).alloc (.cells #[.int .i64 1, .int .i64 a, .int .i64 b, .int .i64 at0, .int .i64 hi] 91) 0).name
  have X1 := Lib.hid (show Blk c1 0 (w.alloc (.cells #[.int .i64 1, .int .i64 a, .int .i64 b, .int .i64 at0, .int .i64 hi] 91)) xb [.int .i64 1, .int .i64 a, .int .i64 b, .int .i64 at0, .int .i64 hi] 91 by rw [hc1.out, hxb]; exact Blk.new c 0 w _ _)
  have H1 := Lib.hid (h.stpF t1.out)
  have S1 := Lib.hid (t1.out.mono (J' := (1 ≤ ·)) (fun _ h => h.elim))
  clear h hc1 t1
  go_enter Tryz.func46, Tryz.ntmps46
  go_upto_region 1 with fail
  rw [← hxb]
  generalize w.alloc (.cells #[.int .i64 1, .int .i64 a, .int .i64 b, .int .i64 at0, .int .i64 hi] 91) = w1 at X1 H1 S1 ⊢
  clear hxb
  obtain ⟨x0, x1, x2, x3, x4, lx⟩ := ro_blk X1.out
  go_wp2_with fail
  refine (rmact_c H1.out.code.rm).mono ?_
  rintro e wA ⟨rfl, rfl⟩
  go_wp2_with fail
  refine (radd_ok H1.out.code HL.out).mono ?_
  rintro e w2 ⟨rfl, c2, t2, m2⟩
  obtain ⟨d2, tab2, deb2, sls2⟩ := H1.out.stepC t2 (fun j hj => by have := jr_col hj; omega) (fun i _ hj => by have := jr_col hj; unfold kb at this; omega)
  have R2 := Lib.hid (m2)
  have D2 := Lib.hid d2
  have Z2 := Lib.hid (And.intro tab2 (And.intro deb2 (sls2)))
  have E2 := Lib.hid (Err.nil c2 w2)
  have X2 := Lib.hid (X1.out.stp t2 (by intro hj; have := jr_col hj; omega))
  have S2 := Lib.hid (S1.out.trans (t2.mono (fun j hj => by have : 300 ≤ j ∨ j = 1 ∨ j = 2 := (by have := jr_col hj; omega); omega)))
  clear t2 d2 tab2 deb2 sls2 x0 x1 x2 x3 x4 lx m2
  obtain ⟨x0, x1, x2, x3, x4, lx⟩ := ro_blk X2.out
  have p2 := D2.out.wd.p2
  have lp := D2.out.r4.2
  go_wp2_with fail
  refine (D2.out.wd.add HL.out).mono ?_
  rintro e w3 ⟨rfl, c3, t3, d3⟩
  obtain ⟨R3, Z3⟩ := JW.stepD R2.out Z2.out.1 Z2.out.2.1 Z2.out.2.2 t3 (fun j hj => by unfold JD at hj; omega)
  have D3 := Lib.hid (D2.out.go t3 d3)
  have E3 := Lib.hid (E2.out.stp t3 (by intro hj; have : 2 ≤ 1 ∧ 1 < 300 := (by unfold JD at hj; omega); omega))
  have S3 := Lib.hid (S2.out.trans (t3.mono (fun j hj => by have : 1 ≤ j ∧ j < 300 := (by unfold JD at hj; omega); omega)))
  have HJ := Lib.hid (show JE c3 w3 (k + 1) r p from ⟨ar, ck, tb, tp, la, now, tl, dl, _, D, ao, cap, ro, rcap, R, ⟨R3, D3.out, H1.out.law.add HL.out, Z3.1, Z3.2.1, Z3.2.2⟩⟩)
  clear t3 R3 Z3 R2 D2 Z2 D3 E2 S2 x0 x1 x2 x3 x4 lx
  go_wp2_with fail
  refine (lawis_y E3.out).mono ?_
  rintro e w4 ⟨rfl, rfl⟩
  go_wp2
  go_ret
  exact ⟨by first | rfl | simp, c3, S3.out, HJ.out⟩

set_option maxRecDepth 100000 in
set_option maxHeartbeats 4000000 in
theorem do14_tickb {ar ck tb tp : Nat} {la : List Int} {now : Int} {tl dl : List Tm} {l : List One} {D : List RD} {ao : Option Addr} {cap : Nat} {ro : Option Addr} {rcap : Nat} {R : List DR} (h : JW c w k r p ar ck tb tp la now tl dl l D ao cap ro rcap R) (_hk : k < 150) (a b at0 hi : Int) {er : Int} (he : (at0 < 1 ∧ er = 1) ∨ (1 ≤ at0 ∧ 1099511627776 - now < at0 ∧ er = 5)) :
    Calls Tryz.prog 46 #[.pointer (some ⟨r, 0, none⟩), .pointer (some ⟨p, 0, none⟩), .agg #[.int .i64 6, .int .i64 a, .int .i64 b, .int .i64 at0, .int .i64 hi]] w fun e w' => e = .returned (.bool true) ∧ ∃ c', Stp (1 ≤ ·) c c' w w' ∧ JE c' w' (k + 1) r p := by
  have HE := Lib.hid he
  have HEN := Lib.hid (show er ≠ 0 by omega)
  clear he
  obtain ⟨xb, hxb⟩ : ∃ x, x = w.heap.size := ⟨_, rfl⟩
  obtain ⟨c1, hc1, t1⟩ := ((Stp.refl (fun _ => False) c w).alloc (.cells #[.int .i64 6, .int .i64 a, .int .i64 b, .int .i64 at0, .int .i64 hi] 91) 0).name
  have X1 := Lib.hid (show Blk c1 0 (w.alloc (.cells #[.int .i64 6, .int .i64 a, .int .i64 b, .int .i64 at0, .int .i64 hi] 91)) xb [.int .i64 6, .int .i64 a, .int .i64 b, .int .i64 at0, .int .i64 hi] 91 by rw [hc1.out, hxb]; exact Blk.new c 0 w _ _)
  have H1 := Lib.hid (h.stpF t1.out)
  have S1 := Lib.hid (t1.out.mono (J' := (1 ≤ ·)) (fun _ h => h.elim))
  clear h hc1 t1
  go_enter Tryz.func46, Tryz.ntmps46
  go_upto_region 1 with fail
  rw [← hxb]
  generalize w.alloc (.cells #[.int .i64 6, .int .i64 a, .int .i64 b, .int .i64 at0, .int .i64 hi] 91) = w1 at X1 H1 S1 ⊢
  clear hxb
  obtain ⟨x0, x1, x2, x3, x4, lx⟩ := ro_blk X1.out
  go_wp2_with fail
  refine (rtick_bad H1.out.code.rm at0 er H1.out.law.nw HE.out).mono ?_
  rintro e w2 ⟨ev, rfl, c2, t2, e2⟩
  have H2 := Lib.hid (H1.out.stpF t2)
  have X2 := Lib.hid (X1.out.stp t2 id)
  have S2 := Lib.hid (S1.out.trans (t2.mono (fun _ h => h.elim)))
  have E2 := Lib.hid (e2.err HEN.out)
  have HJ := Lib.hid (show JE c2 w2 (k + 1) r p from ⟨ar, ck, tb, tp, la, now, tl, dl, l, D, ao, cap, ro, rcap, R, { H2.out with law := H2.out.law.mono (Nat.le_succ k) }⟩)
  clear t2 x0 x1 x2 x3 x4 lx
  obtain ⟨x0, x1, x2, x3, x4, lx⟩ := ro_blk X2.out
  go_wp2_with fail
  refine (r14tick_bad H2.out.doc.wd at0 er H2.out.law.nw HE.out).mono ?_
  rintro e w3 ⟨rfl, c3, t3⟩
  have E3 := Lib.hid (E2.out.stp t3 id)
  go_wp2_with fail
  refine (lawis_y (m := er) E3.out).mono ?_
  rintro e w4 ⟨rfl, rfl⟩
  go_wp2_with fail
  refine (same14_yes (k := 0) (k' := 0) (l := []) (In.nil c3 _ _ _ _) (In.nil c3 _ _ _ _)).mono ?_
  rintro e w5 ⟨rfl, c5, t5⟩
  go_wp2
  go_ret
  exact ⟨by first | rfl | simp, c5, (S2.out.trans ((t3.trans t5).mono (fun _ h => h.elim))), HJ.out.stpF (t3.trans t5)⟩

set_option maxRecDepth 100000 in
set_option maxHeartbeats 4000000 in
theorem do14_ticko {ar ck tb tp : Nat} {la : List Int} {now : Int} {tl dl : List Tm} {l : List One} {D : List RD} {ao : Option Addr} {cap : Nat} {ro : Option Addr} {rcap : Nat} {R : List DR} (h : JW c w k r p ar ck tb tp la now tl dl l D ao cap ro rcap R) (_hk : k < 150) (a b at0 hi : Int) (h1 : 1 ≤ at0) (h2 : at0 ≤ 1099511627776 - now) :
    Calls Tryz.prog 46 #[.pointer (some ⟨r, 0, none⟩), .pointer (some ⟨p, 0, none⟩), .agg #[.int .i64 6, .int .i64 a, .int .i64 b, .int .i64 at0, .int .i64 hi]] w fun e w' => e = .returned (.bool true) ∧ ∃ c', Stp (1 ≤ ·) c c' w w' ∧ JE c' w' (k + 1) r p := by
  have HA := Lib.hid (And.intro h1 h2)
  clear h1 h2
  have hl := h.law.tllen
  have hl2 := h.law.tlen
  have HW := Lib.hid (h.law.wk.mono (B' := 4611686018427387903) (by omega))
  have HK := Lib.hid (And.intro hl hl2)
  clear hl hl2
  obtain ⟨xb, hxb⟩ : ∃ x, x = w.heap.size := ⟨_, rfl⟩
  obtain ⟨c1, hc1, t1⟩ := ((Stp.refl (fun _ => False) c w).alloc (.cells #[.int .i64 6, .int .i64 a, .int .i64 b, .int .i64 at0, .int .i64 hi] 91) 0).name
  have X1 := Lib.hid (show Blk c1 0 (w.alloc (.cells #[.int .i64 6, .int .i64 a, .int .i64 b, .int .i64 at0, .int .i64 hi] 91)) xb [.int .i64 6, .int .i64 a, .int .i64 b, .int .i64 at0, .int .i64 hi] 91 by rw [hc1.out, hxb]; exact Blk.new c 0 w _ _)
  have H1 := Lib.hid (h.stpF t1.out)
  have S1 := Lib.hid (t1.out.mono (J' := (1 ≤ ·)) (fun _ h => h.elim))
  clear h hc1 t1
  go_enter Tryz.func46, Tryz.ntmps46
  go_upto_region 1 with fail
  rw [← hxb]
  generalize w.alloc (.cells #[.int .i64 6, .int .i64 a, .int .i64 b, .int .i64 at0, .int .i64 hi] 91) = w1 at X1 H1 S1 ⊢
  clear hxb
  obtain ⟨x0, x1, x2, x3, x4, lx⟩ := ro_blk X1.out
  go_wp2_with fail
  refine (rtick_ok H1.out.code.rm at0 H1.out.law.nw.1 HA.out.1 HA.out.2 (by have := HK.out.1; omega) (B := 1000 * (k : Int)) H1.out.law.wk (by omega)).mono ?_
  rintro e w2 ⟨oo, n, oc, rfl, c2, t2, m2, row2⟩
  have W2R := Lib.hid row2.toIn
  clear row2
  obtain ⟨d2, tab2, deb2, sls2⟩ := H1.out.stepC t2 (fun j hj => by have := jr_col hj; omega) (fun i _ hj => by have := jr_col hj; unfold kb at this; omega)
  have R2 := Lib.hid (H1.out.code.go t2 m2)
  have D2 := Lib.hid d2
  have Z2 := Lib.hid (And.intro tab2 (And.intro deb2 (sls2)))
  have E2 := Lib.hid (Err.nil c2 w2)
  have X2 := Lib.hid (X1.out.stp t2 (by intro hj; have := jr_col hj; omega))
  have S2 := Lib.hid (S1.out.trans (t2.mono (fun j hj => by have : 300 ≤ j ∨ j = 1 ∨ j = 2 := (by have := jr_col hj; omega); omega)))
  clear t2 d2 tab2 deb2 sls2 x0 x1 x2 x3 x4 lx m2
  obtain ⟨x0, x1, x2, x3, x4, lx⟩ := ro_blk X2.out
  go_wp2_with fail
  refine (r14tick_ok D2.out.wd at0 (by have := HK.out.2; omega) H1.out.law.nw.1 HA.out.1 HA.out.2 (B := 1000 * (k : Int)) H1.out.law.wk (by omega)).mono ?_
  rintro e w3 ⟨oo', n', oc', rfl, mm, hmm, c3, t3, d3, row3⟩
  rw [rwakes_same, ← H1.out.law.ts] at d3
  rw [← H1.out.law.ts] at row3
  have W3 := Lib.hid (show In c3 304 w3 1 oo n oc (((tl.takeWhile fun x => decide (x.at_ ≤ now + at0)).map Tm.who).map (Value.int .i64)) from W2R.out.stp t3 (by unfold JD; omega))
  have W4 := Lib.hid row3.toIn
  obtain rfl : n = n' := by
    have h1 := W3.out.1
    have h2 := W4.out.1
    simp only [List.length_map] at h1 h2
    omega
  clear row3 W2R
  obtain ⟨R3, Z3⟩ := JW.stepD R2.out Z2.out.1 Z2.out.2.1 Z2.out.2.2 t3 (fun j hj => by unfold JD at hj; omega)
  have D3 := Lib.hid ((show DWR c3 w3 p tp (now + at0) mm (wakesT ((tl.takeWhile fun x => decide (x.at_ ≤ now + at0)).map Tm.who) l) ro rcap R from ⟨d3, D2.out.rs.stp t3 (by unfold JD; omega) (fun i => by unfold JD dk; omega)⟩))
  have E3 := Lib.hid (E2.out.stp t3 (by intro hj; have : 2 ≤ 1 ∧ 1 < 300 := (by unfold JD at hj; omega); omega))
  have S3 := Lib.hid (S2.out.trans (t3.mono (fun j hj => by have : 1 ≤ j ∧ j < 300 := (by unfold JD at hj; omega); omega)))
  have HJ := Lib.hid (show JE c3 w3 (k + 1) r p from ⟨ar, ck, tb, tp, la, _, _, _, _, D, ao, cap, ro, rcap, R, ⟨R3, D3.out, H1.out.law.tick at0 HA.out.1 HA.out.2 mm (fun x => decide (x.at_ ≤ now + at0)) (hmm.trans (by rw [H1.out.law.ts])), Z3.1, Z3.2.1, Z3.2.2⟩⟩)
  clear t3 R3 Z3 R2 D2 Z2 D3 E2 S2 x0 x1 x2 x3 x4 lx
  go_wp2_with fail
  refine (lawis_y E3.out).mono ?_
  rintro e w4 ⟨rfl, rfl⟩
  go_wp2_with fail
  refine (same14_yes W3.out W4.out).mono ?_
  rintro e w5 ⟨rfl, c5, t5⟩
  go_wp2
  go_ret
  exact ⟨by first | rfl | simp, c5, (S3.out.trans (t5.mono (fun _ h => h.elim))), HJ.out.stpF t5⟩
end
end Go.Proofs.YtiphdedfbafhkaaGreatDoor
