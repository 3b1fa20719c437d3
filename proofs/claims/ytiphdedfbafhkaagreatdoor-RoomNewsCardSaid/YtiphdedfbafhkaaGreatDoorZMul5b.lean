/- Contracts that the closing theorem wants (Mul5b). No condition beyond each law's own. -/
import Derived.Test.YtiphdedfbafhkaaGreatDoorZMul4
namespace Go.Proofs.YtiphdedfbafhkaaGreatDoor
open Go.RowKit

section
variable {c : Nat → Nat} {K : Nat} {w : World} {p q bp gp : Nat} {S : Sq} {la : List Int} {ids : List Int}
variable (n claimed hi : Int) {ao : Option Addr} {m cap : Nat} (most : Int)

set_option maxRecDepth 100000 in
set_option maxHeartbeats 1000000 in
theorem ts_store (ha : ArenaS c K w q la) (hB : SeqIs c (K + 1) w p q bp gp S) (hs : In c (K + 4) w 1 ao m cap ((ids).map (Value.int .i64))) (hca : S.cac < la.length) :
    Calls Tryz.prog 83 #[.agg #[.pointer (some ⟨p, 0, none⟩), .int .i64 n, .int .i64 3, .int .i64 claimed, .int .i64 hi, .slice ao m cap, .int .i64 most]] w fun e w' => e = .returned (.tuple #[.agg #[.pointer (some ⟨p, 0, none⟩), .int .i64 n, .int .i64 4, .int .i64 claimed, .int .i64 hi, .slice ao m cap, .int .i64 most], .nilIface]) ∧ ∃ c', Stp (· = K) c c' w w' ∧ ArenaS c' K w' q (la.set S.cac most) ∧ In c' (K + 4) w' 1 ao m cap ((ids).map (Value.int .i64)) := by
  obtain ⟨c1, r1⟩ := TRel.start ha hB hs [.pointer (some ⟨p, 0, none⟩), .int .i64 n, .int .i64 3, .int .i64 claimed, .int .i64 hi, .slice ao m cap, .int .i64 most]
  have R1 := Lib.hid r1
  obtain ⟨x, hx⟩ : ∃ x, x = w.heap.size := ⟨_, rfl⟩
  obtain ⟨y, hy⟩ : ∃ y, y = w.heap.size + 1 := ⟨_, rfl⟩
  have Hca := Lib.hid hca
  clear r1 hB ha hs hca
  go_enter Tryz.func83, Tryz.ntmps83
  go_wp2_with fail
  rw [← hy, ← hx] at R1
  rw [← hy, ← hx]
  clear hx hy
  refine (tdone_any _ _ _ _ _ _ _ _ c1 _ _ (b := false) (by decide)).mono ?_
  rintro e w2 ⟨rfl, c2, t2⟩
  have R2 := Lib.hid (R1.out.stpF t2)
  clear t2 R1
  obtain ⟨x0, x1, x2, x3, x4, x5, x6, lx⟩ := R2.out.xs rfl
  obtain ⟨s0, s1, s2, s3, s4, s5, lp⟩ := R2.out.ss
  go_upto_region 37 with fail
  go_region_held3 (fun w' => w'.cell? ⟨x, 0, none⟩ = some (.pointer (some ⟨p, 0, none⟩)) ∧ w'.cell? ⟨x, 1, none⟩ = some (.int .i64 n) ∧ w'.cell? ⟨x, 2, none⟩ = some (.int .i64 3) ∧ w'.cell? ⟨x, 3, none⟩ = some (.int .i64 claimed) ∧ w'.cell? ⟨x, 4, none⟩ = some (.int .i64 hi) ∧ w'.cell? ⟨x, 5, none⟩ = some (.slice ao m cap) ∧ w'.cell? ⟨x, 6, none⟩ = some (.int .i64 most) ∧ w'.cell? ⟨p, 0, none⟩ = some (.pointer (some ⟨q, 0, none⟩)) ∧ w'.cell? ⟨p, 1, none⟩ = some (.int .i64 S.sh) ∧ w'.cell? ⟨p, 2, none⟩ = some (.int .i64 S.cur) ∧ w'.cell? ⟨p, 3, none⟩ = some (.int .i64 S.cac) ∧ w'.cell? ⟨p, 4, none⟩ = some (.pointer (some ⟨bp, 0, none⟩)) ∧ w'.cell? ⟨p, 5, none⟩ = some (.pointer (some ⟨gp, 0, none⟩)))
    (first | exact ⟨by assumption, by assumption, by assumption, by assumption, by assumption, by assumption, by assumption, by assumption, by assumption, by assumption, by assumption, by assumption, by assumption⟩ | go_keep)
    (first
      | (go_at_call 122; refine (TRel.least_c (by first | exact R2.out | exact R2.out.drew | exact R2.out.stpF ((Stp.refl (fun _ => False) _ _).drewN _)) (by rfl) _ _ _ _).mono ?_; rintro e w4 ⟨rfl, c4, R4, ⟨x0, x1, x2, x3, x4, x5, x6, lx⟩, ⟨s0, s1, s2, s3, s4, s5, lp⟩⟩)
      | (go_at_call 106; refine (TRel.store_c (by first | exact R4.out | exact R4.out.drew | exact R4.out.stpF ((Stp.refl (fun _ => False) _ _).drewN _)) (by rfl) S.cac most (by exact Hca.out)).mono ?_; rintro e w5 ⟨rfl, c5, R5, ⟨x0, x1, x2, x3, x4, x5, x6, lx⟩, ⟨s0, s1, s2, s3, s4, s5, lp⟩⟩))
  obtain ⟨f0, f1, f2, f3, f4, f5, f6⟩ := R5.out.fx
  obtain ⟨y0, y1, y2, y3, y4, y5, y6, ly, nxy⟩ := R5.out.ys
  obtain ⟨g0, g1, g2, g3, g4, g5, g6⟩ := R5.out.fy
  have R6 := Lib.hid (R5.out.put 2 (.int .i64 4))
  clear R5 R4
  go_wp2
  exact bodyPost_ret (v := .tuple #[.agg #[.pointer (some ⟨p, 0, none⟩), .int .i64 n, .int .i64 4, .int .i64 claimed, .int .i64 hi, .slice ao m cap, .int .i64 most], .nilIface]) (by simp [results, Tryz.results83, go_sem, y0, y1, y2, y3, y4, y5, y6]) rfl ⟨rfl, R6.out.res _ _ _ _ _ _ _⟩

set_option maxRecDepth 100000 in
set_option maxHeartbeats 1000000 in
theorem ts_more {i : Int} {r : List Int} (ha : ArenaS c K w q la) (hB : SeqIs c (K + 1) w p q bp gp S) (hs : In c (K + 4) w 1 ao m cap ((i :: r).map (Value.int .i64))) (hix : 0 ≤ i ∧ i < la.length) (hm : 2 ≤ m) :
    Calls Tryz.prog 83 #[.agg #[.pointer (some ⟨p, 0, none⟩), .int .i64 n, .int .i64 2, .int .i64 claimed, .int .i64 hi, .slice ao m cap, .int .i64 most]] w fun e w' => ∃ ao' cap', e = .returned (.tuple #[.agg #[.pointer (some ⟨p, 0, none⟩), .int .i64 n, .int .i64 2, .int .i64 claimed, .int .i64 hi, .slice ao' (m - 1) cap', .int .i64 (min most (valAt la i))], .nilIface]) ∧ ∃ c', Stp (· = K) c c' w w' ∧ ArenaS c' K w' q la ∧ In c' (K + 4) w' 1 ao' (m - 1) cap' ((r).map (Value.int .i64)) := by
  obtain ⟨c1, r1⟩ := TRel.start ha hB hs [.pointer (some ⟨p, 0, none⟩), .int .i64 n, .int .i64 2, .int .i64 claimed, .int .i64 hi, .slice ao m cap, .int .i64 most]
  have R1 := Lib.hid r1
  obtain ⟨x, hx⟩ : ∃ x, x = w.heap.size := ⟨_, rfl⟩
  obtain ⟨y, hy⟩ : ∃ y, y = w.heap.size + 1 := ⟨_, rfl⟩
  have Hix := Lib.hid hix
  obtain ⟨mv, hm2⟩ : ∃ mv, mv = min most (valAt la i) := ⟨_, rfl⟩
  have Hm2 := Lib.hid hm2
  have tN : (((m - 1 : Nat) : Int) == 0) = false := by simp; omega
  clear r1 hB ha hs hix hm hm2
  go_enter Tryz.func83, Tryz.ntmps83
  go_wp2_with fail
  rw [← hy, ← hx] at R1
  rw [← hy, ← hx]
  clear hx hy
  refine (tdone_any _ _ _ _ _ _ _ _ c1 _ _ (b := false) (by decide)).mono ?_
  rintro e w2 ⟨rfl, c2, t2⟩
  have R2 := Lib.hid (R1.out.stpF t2)
  clear t2 R1
  obtain ⟨x0, x1, x2, x3, x4, x5, x6, lx⟩ := R2.out.xs rfl
  obtain ⟨s0, s1, s2, s3, s4, s5, lp⟩ := R2.out.ss
  go_wp2_with fail
  refine (scstep_s R2.out.sc R2.out.ar (by omega) Hix.out _).mono ?_
  rintro e w3 ⟨ao', cap', rfl, c3, t3, a3, r3⟩
  rw [← Hm2.out]
  have R3 := Lib.hid ((R2.out.are t3 a3).scan r3)
  clear t3 a3 r3 R2 x0 x1 x2 x3 x4 x5 x6 lx s0 s1 s2 s3 s4 s5 lp
  obtain ⟨x0, x1, x2, x3, x4, x5, x6, lx⟩ := R3.out.xs rfl
  obtain ⟨s0, s1, s2, s3, s4, s5, lp⟩ := R3.out.ss
  obtain ⟨f0, f1, f2, f3, f4, f5, f6⟩ := R3.out.fx
  go_wp2_with fail
  have R4 := Lib.hid ((R3.out.put 5 (.slice ao' (m - 1) cap')).put 6 (.int .i64 mv))
  obtain ⟨z, hz⟩ : ∃ z, z = w3.heap.size := ⟨_, rfl⟩
  obtain ⟨W, hW⟩ : ∃ W, W = (w3.setCell ⟨x, 5, none⟩ (.slice ao' (m - 1) cap')).setCell ⟨x, 6, none⟩ (.int .i64 mv) := ⟨_, rfl⟩
  rw [← hW] at R4 ⊢
  have hz2 : z = W.heap.size := by rw [hz, hW]; simp
  obtain ⟨c4, hc4, A4⟩ := ((Stp.refl (fun _ => False) c3 W).alloc (.cells #[.slice ao' (m - 1) cap', .int .i64 mv] 31) (K + 5)).name
  have R5 := Lib.hid (R4.out.stpF A4.out)
  clear f0 f1 f2 f3 f4 f5 f6 x0 x1 x2 x3 x4 x5 x6 lx s0 s1 s2 s3 s4 s5 lp R3 R4 hc4 A4 hW hz2
  refine (scdone_s c4 _ _ _ _ _ tN).mono ?_
  rintro e w6 ⟨rfl, c6, t6⟩
  have R6 := Lib.hid (R5.out.stpF t6)
  rw [← hz]
  clear hz t6 R5
  obtain ⟨x0, x1, x2, x3, x4, x5, x6, lx⟩ := R6.out.xs rfl
  obtain ⟨s0, s1, s2, s3, s4, s5, lp⟩ := R6.out.ss
  obtain ⟨y0, y1, y2, y3, y4, y5, y6, ly, nxy⟩ := R6.out.ys
  obtain ⟨g0, g1, g2, g3, g4, g5, g6⟩ := R6.out.fy
  go_wp2
  exact bodyPost_ret (v := .tuple #[.agg #[.pointer (some ⟨p, 0, none⟩), .int .i64 n, .int .i64 2, .int .i64 claimed, .int .i64 hi, .slice ao' (m - 1) cap', .int .i64 (mv)], .nilIface]) (by simp [results, Tryz.results83, go_sem, y0, y1, y2, y3, y4, y5, y6]) rfl ⟨_, _, by rw [Hm2.out], R6.out.res _ _ _ _ _ _ _⟩

set_option maxRecDepth 100000 in
set_option maxHeartbeats 1000000 in
theorem ts_last_full {i : Int} {r : List Int} (ha : ArenaS c K w q la) (hB : SeqIs c (K + 1) w p q bp gp S) (hs : In c (K + 4) w 1 ao m cap ((i :: r).map (Value.int .i64))) (hix : 0 ≤ i ∧ i < la.length) (hm : m = 1) (hj : min most (valAt la i) < hi - 2 ^ S.sh) (hw : wrap64 (hi - 2 ^ S.sh) = hi - 2 ^ S.sh) :
    Calls Tryz.prog 83 #[.agg #[.pointer (some ⟨p, 0, none⟩), .int .i64 n, .int .i64 2, .int .i64 claimed, .int .i64 hi, .slice ao m cap, .int .i64 most]] w fun e w' => ∃ ao' cap', e = .returned (.tuple #[.agg #[.pointer (some ⟨p, 0, none⟩), .int .i64 n, .int .i64 6, .int .i64 claimed, .int .i64 hi, .slice ao' (m - 1) cap', .int .i64 (min most (valAt la i))], .nilIface]) ∧ ∃ c', Stp (· = K) c c' w w' ∧ ArenaS c' K w' q la ∧ In c' (K + 4) w' 1 ao' (m - 1) cap' ((r).map (Value.int .i64)) := by
  obtain ⟨c1, r1⟩ := TRel.start ha hB hs [.pointer (some ⟨p, 0, none⟩), .int .i64 n, .int .i64 2, .int .i64 claimed, .int .i64 hi, .slice ao m cap, .int .i64 most]
  have R1 := Lib.hid r1
  obtain ⟨x, hx⟩ : ∃ x, x = w.heap.size := ⟨_, rfl⟩
  obtain ⟨y, hy⟩ : ∃ y, y = w.heap.size + 1 := ⟨_, rfl⟩
  have Hix := Lib.hid hix
  obtain ⟨mv, hm2⟩ : ∃ mv, mv = min most (valAt la i) := ⟨_, rfl⟩
  have Hm2 := Lib.hid hm2
  have tN : (((m - 1 : Nat) : Int) == 0) = true := by subst hm; rfl
  have HJ := Lib.hid hj
  have HW := Lib.hid hw
  clear r1 hB ha hs hix hm hm2 hj hw
  go_enter Tryz.func83, Tryz.ntmps83
  go_wp2_with fail
  rw [← hy, ← hx] at R1
  rw [← hy, ← hx]
  clear hx hy
  refine (tdone_any _ _ _ _ _ _ _ _ c1 _ _ (b := false) (by decide)).mono ?_
  rintro e w2 ⟨rfl, c2, t2⟩
  have R2 := Lib.hid (R1.out.stpF t2)
  clear t2 R1
  obtain ⟨x0, x1, x2, x3, x4, x5, x6, lx⟩ := R2.out.xs rfl
  obtain ⟨s0, s1, s2, s3, s4, s5, lp⟩ := R2.out.ss
  go_wp2_with fail
  refine (scstep_s R2.out.sc R2.out.ar (by omega) Hix.out _).mono ?_
  rintro e w3 ⟨ao', cap', rfl, c3, t3, a3, r3⟩
  rw [← Hm2.out]
  have R3 := Lib.hid ((R2.out.are t3 a3).scan r3)
  clear t3 a3 r3 R2 x0 x1 x2 x3 x4 x5 x6 lx s0 s1 s2 s3 s4 s5 lp
  obtain ⟨x0, x1, x2, x3, x4, x5, x6, lx⟩ := R3.out.xs rfl
  obtain ⟨s0, s1, s2, s3, s4, s5, lp⟩ := R3.out.ss
  obtain ⟨f0, f1, f2, f3, f4, f5, f6⟩ := R3.out.fx
  go_wp2_with fail
  have R4 := Lib.hid ((R3.out.put 5 (.slice ao' (m - 1) cap')).put 6 (.int .i64 mv))
  obtain ⟨z, hz⟩ : ∃ z, z = w3.heap.size := ⟨_, rfl⟩
  obtain ⟨W, hW⟩ : ∃ W, W = (w3.setCell ⟨x, 5, none⟩ (.slice ao' (m - 1) cap')).setCell ⟨x, 6, none⟩ (.int .i64 mv) := ⟨_, rfl⟩
  rw [← hW] at R4 ⊢
  have hz2 : z = W.heap.size := by rw [hz, hW]; simp
  obtain ⟨c4, hc4, A4⟩ := ((Stp.refl (fun _ => False) c3 W).alloc (.cells #[.slice ao' (m - 1) cap', .int .i64 mv] 31) (K + 5)).name
  have R5 := Lib.hid (R4.out.stpF A4.out)
  clear f0 f1 f2 f3 f4 f5 f6 x0 x1 x2 x3 x4 x5 x6 lx s0 s1 s2 s3 s4 s5 lp R3 R4 hc4 A4 hW hz2
  refine (scdone_s c4 _ _ _ _ _ tN).mono ?_
  rintro e w6 ⟨rfl, c6, t6⟩
  have R6 := Lib.hid (R5.out.stpF t6)
  rw [← hz]
  clear hz t6 R5
  obtain ⟨x0, x1, x2, x3, x4, x5, x6, lx⟩ := R6.out.xs rfl
  obtain ⟨s0, s1, s2, s3, s4, s5, lp⟩ := R6.out.ss
  go_wp2_with fail
  refine (tj_full n claimed hi mv 2 R6.out.ar R6.out.sq R6.out.sc (by have := HJ.out; rw [← Hm2.out] at this; first | exact this | exact Int.not_lt.2 this) HW.out).mono ?_
  rintro e w8 ⟨rfl, c8, t8, a8, i8⟩
  have R8 := Lib.hid ((R6.out.are t8 a8).scan i8)
  clear t8 a8 i8 R6 x0 x1 x2 x3 x4 x5 x6 lx s0 s1 s2 s3 s4 s5 lp
  obtain ⟨y0, y1, y2, y3, y4, y5, y6, ly, nxy⟩ := R8.out.ys
  obtain ⟨g0, g1, g2, g3, g4, g5, g6⟩ := R8.out.fy
  go_wp2
  exact bodyPost_ret (v := .tuple #[.agg #[.pointer (some ⟨p, 0, none⟩), .int .i64 n, .int .i64 6, .int .i64 claimed, .int .i64 hi, .slice ao' (m - 1) cap', .int .i64 (mv)], .nilIface]) (by simp [results, Tryz.results83, go_sem, y0, y1, y2, y3, y4, y5, y6]) rfl ⟨_, _, by rw [Hm2.out], R8.out.res _ _ _ _ _ _ _⟩

set_option maxRecDepth 100000 in
set_option maxHeartbeats 1000000 in
theorem ts_last_keep {i : Int} {r : List Int} (ha : ArenaS c K w q la) (hB : SeqIs c (K + 1) w p q bp gp S) (hs : In c (K + 4) w 1 ao m cap ((i :: r).map (Value.int .i64))) (hix : 0 ≤ i ∧ i < la.length) (hm : m = 1) (hj : ¬ min most (valAt la i) < hi - 2 ^ S.sh) (hw : wrap64 (hi - 2 ^ S.sh) = hi - 2 ^ S.sh) :
    Calls Tryz.prog 83 #[.agg #[.pointer (some ⟨p, 0, none⟩), .int .i64 n, .int .i64 2, .int .i64 claimed, .int .i64 hi, .slice ao m cap, .int .i64 most]] w fun e w' => ∃ ao' cap', e = .returned (.tuple #[.agg #[.pointer (some ⟨p, 0, none⟩), .int .i64 n, .int .i64 3, .int .i64 claimed, .int .i64 hi, .slice ao' (m - 1) cap', .int .i64 (min most (valAt la i))], .nilIface]) ∧ ∃ c', Stp (· = K) c c' w w' ∧ ArenaS c' K w' q la ∧ In c' (K + 4) w' 1 ao' (m - 1) cap' ((r).map (Value.int .i64)) := by
  obtain ⟨c1, r1⟩ := TRel.start ha hB hs [.pointer (some ⟨p, 0, none⟩), .int .i64 n, .int .i64 2, .int .i64 claimed, .int .i64 hi, .slice ao m cap, .int .i64 most]
  have R1 := Lib.hid r1
  obtain ⟨x, hx⟩ : ∃ x, x = w.heap.size := ⟨_, rfl⟩
  obtain ⟨y, hy⟩ : ∃ y, y = w.heap.size + 1 := ⟨_, rfl⟩
  have Hix := Lib.hid hix
  obtain ⟨mv, hm2⟩ : ∃ mv, mv = min most (valAt la i) := ⟨_, rfl⟩
  have Hm2 := Lib.hid hm2
  have tN : (((m - 1 : Nat) : Int) == 0) = true := by subst hm; rfl
  have HJ := Lib.hid hj
  have HW := Lib.hid hw
  clear r1 hB ha hs hix hm hm2 hj hw
  go_enter Tryz.func83, Tryz.ntmps83
  go_wp2_with fail
  rw [← hy, ← hx] at R1
  rw [← hy, ← hx]
  clear hx hy
  refine (tdone_any _ _ _ _ _ _ _ _ c1 _ _ (b := false) (by decide)).mono ?_
  rintro e w2 ⟨rfl, c2, t2⟩
  have R2 := Lib.hid (R1.out.stpF t2)
  clear t2 R1
  obtain ⟨x0, x1, x2, x3, x4, x5, x6, lx⟩ := R2.out.xs rfl
  obtain ⟨s0, s1, s2, s3, s4, s5, lp⟩ := R2.out.ss
  go_wp2_with fail
  refine (scstep_s R2.out.sc R2.out.ar (by omega) Hix.out _).mono ?_
  rintro e w3 ⟨ao', cap', rfl, c3, t3, a3, r3⟩
  rw [← Hm2.out]
  have R3 := Lib.hid ((R2.out.are t3 a3).scan r3)
  clear t3 a3 r3 R2 x0 x1 x2 x3 x4 x5 x6 lx s0 s1 s2 s3 s4 s5 lp
  obtain ⟨x0, x1, x2, x3, x4, x5, x6, lx⟩ := R3.out.xs rfl
  obtain ⟨s0, s1, s2, s3, s4, s5, lp⟩ := R3.out.ss
  obtain ⟨f0, f1, f2, f3, f4, f5, f6⟩ := R3.out.fx
  go_wp2_with fail
  have R4 := Lib.hid ((R3.out.put 5 (.slice ao' (m - 1) cap')).put 6 (.int .i64 mv))
  obtain ⟨z, hz⟩ : ∃ z, z = w3.heap.size := ⟨_, rfl⟩
  obtain ⟨W, hW⟩ : ∃ W, W = (w3.setCell ⟨x, 5, none⟩ (.slice ao' (m - 1) cap')).setCell ⟨x, 6, none⟩ (.int .i64 mv) := ⟨_, rfl⟩
  rw [← hW] at R4 ⊢
  have hz2 : z = W.heap.size := by rw [hz, hW]; simp
  obtain ⟨c4, hc4, A4⟩ := ((Stp.refl (fun _ => False) c3 W).alloc (.cells #[.slice ao' (m - 1) cap', .int .i64 mv] 31) (K + 5)).name
  have R5 := Lib.hid (R4.out.stpF A4.out)
  clear f0 f1 f2 f3 f4 f5 f6 x0 x1 x2 x3 x4 x5 x6 lx s0 s1 s2 s3 s4 s5 lp R3 R4 hc4 A4 hW hz2
  refine (scdone_s c4 _ _ _ _ _ tN).mono ?_
  rintro e w6 ⟨rfl, c6, t6⟩
  have R6 := Lib.hid (R5.out.stpF t6)
  rw [← hz]
  clear hz t6 R5
  obtain ⟨x0, x1, x2, x3, x4, x5, x6, lx⟩ := R6.out.xs rfl
  obtain ⟨s0, s1, s2, s3, s4, s5, lp⟩ := R6.out.ss
  go_wp2_with fail
  refine (tj_keep n claimed hi mv 2 R6.out.ar R6.out.sq R6.out.sc (by have := HJ.out; rw [← Hm2.out] at this; first | exact this | exact Int.not_lt.2 this) HW.out).mono ?_
  rintro e w8 ⟨rfl, c8, t8, a8, i8⟩
  have R8 := Lib.hid ((R6.out.are t8 a8).scan i8)
  clear t8 a8 i8 R6 x0 x1 x2 x3 x4 x5 x6 lx s0 s1 s2 s3 s4 s5 lp
  obtain ⟨y0, y1, y2, y3, y4, y5, y6, ly, nxy⟩ := R8.out.ys
  obtain ⟨g0, g1, g2, g3, g4, g5, g6⟩ := R8.out.fy
  go_wp2
  exact bodyPost_ret (v := .tuple #[.agg #[.pointer (some ⟨p, 0, none⟩), .int .i64 n, .int .i64 3, .int .i64 claimed, .int .i64 hi, .slice ao' (m - 1) cap', .int .i64 (mv)], .nilIface]) (by simp [results, Tryz.results83, go_sem, y0, y1, y2, y3, y4, y5, y6]) rfl ⟨_, _, by rw [Hm2.out], R8.out.res _ _ _ _ _ _ _⟩
end
end Go.Proofs.YtiphdedfbafhkaaGreatDoor
