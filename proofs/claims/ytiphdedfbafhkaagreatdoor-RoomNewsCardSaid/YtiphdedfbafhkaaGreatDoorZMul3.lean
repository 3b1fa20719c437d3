/- Contracts that the closing theorem wants (Mul3). No condition beyond each law's own. -/
import Derived.Test.YtiphdedfbafhkaaGreatDoorZMul2
namespace Go.Proofs.YtiphdedfbafhkaaGreatDoor
open Go.RowKit

section
variable {c : Nat → Nat} {K : Nat} {w : World} {p q bp gp : Nat} {S : Sq} {la : List Int} {ids : List Int}
variable (n claimed hi : Int) {ao : Option Addr} {m cap : Nat} (most : Int)

set_option maxRecDepth 100000 in
set_option maxHeartbeats 1000000 in
theorem ts_cur (ha : ArenaS c K w q la) (hB : SeqIs c (K + 1) w p q bp gp S) (hs : In c (K + 4) w 1 ao m cap ((ids).map (Value.int .i64))) {v : Int} (hcu : S.cur < la.length) (hv : la.getD S.cur 0 = v) (hn : nextErr v n = 0) :
    Calls Tryz.prog 83 #[.agg #[.pointer (some ⟨p, 0, none⟩), .int .i64 n, .int .i64 0, .int .i64 claimed, .int .i64 hi, .slice ao m cap, .int .i64 most]] w fun e w' => e = .returned (.tuple #[.agg #[.pointer (some ⟨p, 0, none⟩), .int .i64 n, .int .i64 1, .int .i64 v, .int .i64 (v + n), .slice ao m cap, .int .i64 most], .nilIface]) ∧ ∃ c', Stp (· = K) c c' w w' ∧ ArenaS c' K w' q la ∧ In c' (K + 4) w' 1 ao m cap ((ids).map (Value.int .i64)) := by
  obtain ⟨c1, r1⟩ := TRel.start ha hB hs [.pointer (some ⟨p, 0, none⟩), .int .i64 n, .int .i64 0, .int .i64 claimed, .int .i64 hi, .slice ao m cap, .int .i64 most]
  have R1 := Lib.hid r1
  obtain ⟨x, hx⟩ : ∃ x, x = w.heap.size := ⟨_, rfl⟩
  obtain ⟨y, hy⟩ : ∃ y, y = w.heap.size + 1 := ⟨_, rfl⟩
  have Hcu := Lib.hid hcu
  have Hv := Lib.hid hv
  have Hn := Lib.hid hn
  clear r1 hB ha hs hcu hv hn
  go_enter Tryz.func83, Tryz.ntmps83
  go_wp2_with fail
  rw [← hy, ← hx] at R1
  rw [← hy, ← hx]
  clear hx hy
  refine (tdone_any _ _ _ _ _ _ _ _ c1 _ _ (b := false) (by decide)).mono ?_
  rintro e w2 ⟨rfl, c2, t2⟩
  have R2 := Lib.hid (R1.out.stpF t2)
  clear t2 R1
  obtain ⟨x0, x1, x2, x3, x4, x5, x6, lx⟩ := R2.out.xs rfl
  obtain ⟨s0, s1, s2, s3, s4, s5, lp⟩ := R2.out.ss
  go_wp2_with fail
  refine (load_s R2.out.ar S.cur Hcu.out).mono ?_
  rintro e w3 ⟨rfl, c3, t3, a3⟩
  rw [Hv.out]
  have R3 := Lib.hid (R2.out.are t3 a3)
  clear t3 a3 x0 x1 x2 x3 x4 x5 x6 lx s0 s1 s2 s3 s4 s5 lp R2
  obtain ⟨x0, x1, x2, x3, x4, x5, x6, lx⟩ := R3.out.xs rfl
  obtain ⟨s0, s1, s2, s3, s4, s5, lp⟩ := R3.out.ss
  go_wp2_with fail
  refine (pnext_ok v n Hn.out _).mono ?_
  rintro e w4 ⟨rfl, rfl⟩
  obtain ⟨f0, f1, f2, f3, f4, f5, f6⟩ := R3.out.fx
  obtain ⟨y0, y1, y2, y3, y4, y5, y6, ly, nxy⟩ := R3.out.ys
  obtain ⟨g0, g1, g2, g3, g4, g5, g6⟩ := R3.out.fy
  have R4 := Lib.hid (((R3.out.put 3 (.int .i64 v)).put 4 (.int .i64 (v + n))).put 2 (.int .i64 1))
  clear R3
  go_wp2
  exact bodyPost_ret (v := .tuple #[.agg #[.pointer (some ⟨p, 0, none⟩), .int .i64 n, .int .i64 1, .int .i64 v, .int .i64 (v + n), .slice ao m cap, .int .i64 most], .nilIface]) (by simp [results, Tryz.results83, go_sem, y0, y1, y2, y3, y4, y5, y6]) rfl ⟨rfl, R4.out.res _ _ _ _ _ _ _⟩

set_option maxRecDepth 100000 in
set_option maxHeartbeats 1000000 in
theorem ts_bad (ha : ArenaS c K w q la) (hB : SeqIs c (K + 1) w p q bp gp S) (hs : In c (K + 4) w 1 ao m cap ((ids).map (Value.int .i64))) {v : Int} (hcu : S.cur < la.length) (hv : la.getD S.cur 0 = v) (hn : nextErr v n ≠ 0) (hK : 2 ≤ K) :
    Calls Tryz.prog 83 #[.agg #[.pointer (some ⟨p, 0, none⟩), .int .i64 n, .int .i64 0, .int .i64 claimed, .int .i64 hi, .slice ao m cap, .int .i64 most]] w fun e w' => ∃ ev, e = .returned (.tuple #[.agg #[.pointer (some ⟨p, 0, none⟩), .int .i64 n, .int .i64 0, .int .i64 claimed, .int .i64 hi, .slice ao m cap, .int .i64 most], ev]) ∧ ∃ c', Stp (· = K) c c' w w' ∧ ArenaS c' K w' q la ∧ In c' (K + 4) w' 1 ao m cap ((ids).map (Value.int .i64)) ∧ ErrAt c' w' ev (nextErr v n) := by
  obtain ⟨c1, r1⟩ := TRel.start ha hB hs [.pointer (some ⟨p, 0, none⟩), .int .i64 n, .int .i64 0, .int .i64 claimed, .int .i64 hi, .slice ao m cap, .int .i64 most]
  have R1 := Lib.hid r1
  obtain ⟨x, hx⟩ : ∃ x, x = w.heap.size := ⟨_, rfl⟩
  obtain ⟨y, hy⟩ : ∃ y, y = w.heap.size + 1 := ⟨_, rfl⟩
  have Hcu := Lib.hid hcu
  have Hv := Lib.hid hv
  have Hn := Lib.hid hn
  have HK := Lib.hid hK
  clear r1 hB ha hs hcu hv hn hK
  go_enter Tryz.func83, Tryz.ntmps83
  go_wp2_with fail
  rw [← hy, ← hx] at R1
  rw [← hy, ← hx]
  clear hx hy
  refine (tdone_any _ _ _ _ _ _ _ _ c1 _ _ (b := false) (by decide)).mono ?_
  rintro e w2 ⟨rfl, c2, t2⟩
  have R2 := Lib.hid (R1.out.stpF t2)
  clear t2 R1
  obtain ⟨x0, x1, x2, x3, x4, x5, x6, lx⟩ := R2.out.xs rfl
  obtain ⟨s0, s1, s2, s3, s4, s5, lp⟩ := R2.out.ss
  go_wp2_with fail
  refine (load_s R2.out.ar S.cur Hcu.out).mono ?_
  rintro e w3 ⟨rfl, c3, t3, a3⟩
  rw [Hv.out]
  have R3 := Lib.hid (R2.out.are t3 a3)
  clear t3 a3 x0 x1 x2 x3 x4 x5 x6 lx s0 s1 s2 s3 s4 s5 lp R2
  obtain ⟨x0, x1, x2, x3, x4, x5, x6, lx⟩ := R3.out.xs rfl
  obtain ⟨s0, s1, s2, s3, s4, s5, lp⟩ := R3.out.ss
  go_wp2_with fail
  refine (pnext_bad v n Hn.out c3 _).mono ?_
  rintro e w4 ⟨ev, rfl, c4, t4, e4⟩
  have R4 := Lib.hid (R3.out.stpF t4)
  have E4 := Lib.hid e4
  obtain ⟨et, eu, rfl⟩ := e4.iface'
  clear t4 e4 R3 x0 x1 x2 x3 x4 x5 x6 lx s0 s1 s2 s3 s4 s5 lp
  obtain ⟨x0, x1, x2, x3, x4, x5, x6, lx⟩ := R4.out.xs rfl
  obtain ⟨s0, s1, s2, s3, s4, s5, lp⟩ := R4.out.ss
  obtain ⟨f0, f1, f2, f3, f4, f5, f6⟩ := R4.out.fx
  obtain ⟨y0, y1, y2, y3, y4, y5, y6, ly, nxy⟩ := R4.out.ys
  obtain ⟨g0, g1, g2, g3, g4, g5, g6⟩ := R4.out.fy
  obtain ⟨c5, q1, q2, q3, q4⟩ := R4.out.res7 E4.out HK.out (.pointer (some ⟨p, 0, none⟩)) (.int .i64 n) (.int .i64 0) (.int .i64 claimed) (.int .i64 hi) (.slice ao m cap) (.int .i64 most)
  have Q := Lib.hid (And.intro q1 (And.intro q2 (And.intro q3 q4)))
  clear q1 q2 q3 q4
  go_wp2
  exact bodyPost_ret (v := .tuple #[.agg #[.pointer (some ⟨p, 0, none⟩), .int .i64 n, .int .i64 0, .int .i64 claimed, .int .i64 hi, .slice ao m cap, .int .i64 most], .iface et eu]) (by simp [results, Tryz.results83, go_sem, y0, y1, y2, y3, y4, y5, y6]) rfl ⟨_, rfl, c5, Q.out⟩

set_option maxRecDepth 100000 in
set_option maxHeartbeats 1000000 in
theorem ts_enough (ha : ArenaS c K w q la) (hB : SeqIs c (K + 1) w p q bp gp S) (hs : In c (K + 4) w 1 ao m cap ((ids).map (Value.int .i64))) {v : Int} (hcu : S.cac < la.length) (hv : la.getD S.cac 0 = v) (h1 : hi - 2 ^ S.sh ≤ v) (h2 : v ≤ claimed) (hw : wrap64 (hi - 2 ^ S.sh) = hi - 2 ^ S.sh) :
    Calls Tryz.prog 83 #[.agg #[.pointer (some ⟨p, 0, none⟩), .int .i64 n, .int .i64 1, .int .i64 claimed, .int .i64 hi, .slice ao m cap, .int .i64 most]] w fun e w' => e = .returned (.tuple #[.agg #[.pointer (some ⟨p, 0, none⟩), .int .i64 n, .int .i64 4, .int .i64 claimed, .int .i64 hi, .slice ao m cap, .int .i64 most], .nilIface]) ∧ ∃ c', Stp (· = K) c c' w w' ∧ ArenaS c' K w' q la ∧ In c' (K + 4) w' 1 ao m cap ((ids).map (Value.int .i64)) := by
  obtain ⟨c1, r1⟩ := TRel.start ha hB hs [.pointer (some ⟨p, 0, none⟩), .int .i64 n, .int .i64 1, .int .i64 claimed, .int .i64 hi, .slice ao m cap, .int .i64 most]
  have R1 := Lib.hid r1
  obtain ⟨x, hx⟩ : ∃ x, x = w.heap.size := ⟨_, rfl⟩
  obtain ⟨y, hy⟩ : ∃ y, y = w.heap.size + 1 := ⟨_, rfl⟩
  have Hcu := Lib.hid hcu
  have Hv := Lib.hid hv
  have t1 : decide (hi - 2 ^ S.sh ≤ v) = true := by simpa using h1
  have t2 : decide (v ≤ claimed) = true := by simpa using h2
  have hw2 : IntKind.i64.wrap (hi - 2 ^ S.sh) = hi - 2 ^ S.sh := (IntWalk.i64_left _).trans hw
  clear r1 hB ha hs hcu hv h1 h2
  go_enter Tryz.func83, Tryz.ntmps83
  go_wp2_with fail
  rw [← hy, ← hx] at R1
  rw [← hy, ← hx]
  clear hx hy
  refine (tdone_any _ _ _ _ _ _ _ _ c1 _ _ (b := false) (by decide)).mono ?_
  rintro e w2 ⟨rfl, c2, t2⟩
  have R2 := Lib.hid (R1.out.stpF t2)
  clear t2 R1
  obtain ⟨x0, x1, x2, x3, x4, x5, x6, lx⟩ := R2.out.xs rfl
  obtain ⟨s0, s1, s2, s3, s4, s5, lp⟩ := R2.out.ss
  go_wp2_with fail
  refine (load_s R2.out.ar S.cac Hcu.out).mono ?_
  rintro e w3 ⟨rfl, c3, t3, a3⟩
  rw [Hv.out]
  have R3 := Lib.hid (R2.out.are t3 a3)
  clear t3 a3 x0 x1 x2 x3 x4 x5 x6 lx s0 s1 s2 s3 s4 s5 lp R2
  obtain ⟨x0, x1, x2, x3, x4, x5, x6, lx⟩ := R3.out.xs rfl
  obtain ⟨s0, s1, s2, s3, s4, s5, lp⟩ := R3.out.ss
  go_upto_region 23 with fail
  go_region_held3 (fun w' => w'.cell? ⟨x, 0, none⟩ = some (.pointer (some ⟨p, 0, none⟩)) ∧ w'.cell? ⟨x, 1, none⟩ = some (.int .i64 n) ∧ w'.cell? ⟨x, 2, none⟩ = some (.int .i64 1) ∧ w'.cell? ⟨x, 3, none⟩ = some (.int .i64 claimed) ∧ w'.cell? ⟨x, 4, none⟩ = some (.int .i64 hi) ∧ w'.cell? ⟨p, 0, none⟩ = some (.pointer (some ⟨q, 0, none⟩)) ∧ w'.cell? ⟨p, 1, none⟩ = some (.int .i64 S.sh) ∧ w'.cell? ⟨p, 2, none⟩ = some (.int .i64 S.cur) ∧ w'.cell? ⟨p, 3, none⟩ = some (.int .i64 S.cac) ∧ w'.cell? ⟨p, 4, none⟩ = some (.pointer (some ⟨bp, 0, none⟩)) ∧ w'.cell? ⟨p, 5, none⟩ = some (.pointer (some ⟨gp, 0, none⟩)))
    (first | exact ⟨by assumption, by assumption, by assumption, by assumption, by assumption, by assumption, by assumption, by assumption, by assumption, by assumption, by assumption⟩ | go_keep)
    (first
      | (go_at_call 30; refine (TRel.slots_c (by first | exact R3.out | exact R3.out.drew | exact R3.out.stpF ((Stp.refl (fun _ => False) _ _).drewN _)) (by rfl)).mono ?_; rintro e w4 ⟨rfl, c4, R4, ⟨x0, x1, x2, x3, x4, x5, x6, lx⟩, ⟨s0, s1, s2, s3, s4, s5, lp⟩⟩))
  obtain ⟨f0, f1, f2, f3, f4, f5, f6⟩ := R4.out.fx
  obtain ⟨y0, y1, y2, y3, y4, y5, y6, ly, nxy⟩ := R4.out.ys
  obtain ⟨g0, g1, g2, g3, g4, g5, g6⟩ := R4.out.fy
  have R5 := Lib.hid (R4.out.put 2 (.int .i64 4))
  clear R4
  go_wp2
  exact bodyPost_ret (v := .tuple #[.agg #[.pointer (some ⟨p, 0, none⟩), .int .i64 n, .int .i64 4, .int .i64 claimed, .int .i64 hi, .slice ao m cap, .int .i64 most], .nilIface]) (by simp [results, Tryz.results83, go_sem, y0, y1, y2, y3, y4, y5, y6]) rfl ⟨rfl, R5.out.res _ _ _ _ _ _ _⟩

set_option maxRecDepth 100000 in
set_option maxHeartbeats 1000000 in
theorem tj_full (st : Int) (ha : ArenaS c K w q la) (hB : SeqIs c (K + 1) w p q bp gp S) (hs : In c (K + 4) w 1 ao m cap ((ids).map (Value.int .i64))) (h1 : most < hi - 2 ^ S.sh) (hw : wrap64 (hi - 2 ^ S.sh) = hi - 2 ^ S.sh) :
    Calls Tryz.prog 120 #[.agg #[.pointer (some ⟨p, 0, none⟩), .int .i64 n, .int .i64 st, .int .i64 claimed, .int .i64 hi, .slice ao m cap, .int .i64 most]] w fun e w' => e = .returned (.agg #[.pointer (some ⟨p, 0, none⟩), .int .i64 n, .int .i64 6, .int .i64 claimed, .int .i64 hi, .slice ao m cap, .int .i64 most]) ∧ ∃ c', Stp (· = K) c c' w w' ∧ ArenaS c' K w' q la ∧ In c' (K + 4) w' 1 ao m cap ((ids).map (Value.int .i64)) := by
  obtain ⟨c1, r1⟩ := TRel.start ha hB hs [.pointer (some ⟨p, 0, none⟩), .int .i64 n, .int .i64 st, .int .i64 claimed, .int .i64 hi, .slice ao m cap, .int .i64 most]
  have R1 := Lib.hid r1
  obtain ⟨x, hx⟩ : ∃ x, x = w.heap.size := ⟨_, rfl⟩
  obtain ⟨y, hy⟩ : ∃ y, y = w.heap.size + 1 := ⟨_, rfl⟩
  have t1 : decide (most < hi - 2 ^ S.sh) = true := by simpa using h1
  have hw2 : IntKind.i64.wrap (hi - 2 ^ S.sh) = hi - 2 ^ S.sh := (IntWalk.i64_left _).trans hw
  clear r1 hB ha hs h1
  go_enter Tryz.func120, Tryz.ntmps120
  go_upto_region 1 with fail
  rw [← hy, ← hx] at R1
  rw [← hy, ← hx]
  clear hx hy
  obtain ⟨x0, x1, x2, x3, x4, x5, x6, lx⟩ := R1.out.xs rfl
  obtain ⟨s0, s1, s2, s3, s4, s5, lp⟩ := R1.out.ss
  obtain ⟨f0, f1, f2, f3, f4, f5, f6⟩ := R1.out.fx
  have R2 := Lib.hid (R1.out.put 2 (.int .i64 3))
  go_upto_region 2 with fail
  clear f0 f1 f2 f3 f4 f5 f6 x0 x1 x2 x3 x4 x5 x6 lx s0 s1 s2 s3 s4 s5 lp R1
  generalize World.setCell _ _ _ = W2 at R2 ⊢
  obtain ⟨x0, x1, x2, x3, x4, x5, x6, lx⟩ := R2.out.xs rfl
  obtain ⟨s0, s1, s2, s3, s4, s5, lp⟩ := R2.out.ss
  go_region_held3 (fun w' => w'.cell? ⟨x, 0, none⟩ = some (.pointer (some ⟨p, 0, none⟩)) ∧ w'.cell? ⟨x, 1, none⟩ = some (.int .i64 n) ∧ w'.cell? ⟨x, 2, none⟩ = some (.int .i64 3) ∧ w'.cell? ⟨x, 3, none⟩ = some (.int .i64 claimed) ∧ w'.cell? ⟨x, 4, none⟩ = some (.int .i64 hi) ∧ w'.cell? ⟨x, 5, none⟩ = some (.slice ao m cap) ∧ w'.cell? ⟨x, 6, none⟩ = some (.int .i64 most) ∧ w'.cell? ⟨p, 0, none⟩ = some (.pointer (some ⟨q, 0, none⟩)) ∧ w'.cell? ⟨p, 1, none⟩ = some (.int .i64 S.sh) ∧ w'.cell? ⟨p, 2, none⟩ = some (.int .i64 S.cur) ∧ w'.cell? ⟨p, 3, none⟩ = some (.int .i64 S.cac) ∧ w'.cell? ⟨p, 4, none⟩ = some (.pointer (some ⟨bp, 0, none⟩)) ∧ w'.cell? ⟨p, 5, none⟩ = some (.pointer (some ⟨gp, 0, none⟩)))
    (first | exact ⟨by assumption, by assumption, by assumption, by assumption, by assumption, by assumption, by assumption, by assumption, by assumption, by assumption, by assumption, by assumption, by assumption⟩ | go_keep)
    (first
      | (go_at_call 30; refine (TRel.slots_c (by first | exact R2.out | exact R2.out.drew | exact R2.out.stpF ((Stp.refl (fun _ => False) _ _).drewN _)) (by rfl)).mono ?_; rintro e w4 ⟨rfl, c4, R2, ⟨x0, x1, x2, x3, x4, x5, x6, lx⟩, ⟨s0, s1, s2, s3, s4, s5, lp⟩⟩)
      | (go_at_call 122; refine (TRel.least_c (by first | exact R2.out | exact R2.out.drew | exact R2.out.stpF ((Stp.refl (fun _ => False) _ _).drewN _)) (by rfl) _ _ _ _).mono ?_; rintro e w4 ⟨rfl, c4, R2, ⟨x0, x1, x2, x3, x4, x5, x6, lx⟩, ⟨s0, s1, s2, s3, s4, s5, lp⟩⟩))
  obtain ⟨f0, f1, f2, f3, f4, f5, f6⟩ := R2.out.fx
  obtain ⟨y0, y1, y2, y3, y4, y5, y6, ly, nxy⟩ := R2.out.ys
  obtain ⟨g0, g1, g2, g3, g4, g5, g6⟩ := R2.out.fy
  have R5 := Lib.hid (R2.out.put 2 (.int .i64 6))
  clear R2
  go_wp2
  exact bodyPost_ret (v := .agg #[.pointer (some ⟨p, 0, none⟩), .int .i64 n, .int .i64 6, .int .i64 claimed, .int .i64 hi, .slice ao m cap, .int .i64 most]) (by simp [results, Tryz.results120, go_sem, y0, y1, y2, y3, y4, y5, y6]) rfl ⟨rfl, R5.out.res _ _ _ _ _ _ _⟩

set_option maxRecDepth 100000 in
set_option maxHeartbeats 1000000 in
theorem tj_keep (st : Int) (ha : ArenaS c K w q la) (hB : SeqIs c (K + 1) w p q bp gp S) (hs : In c (K + 4) w 1 ao m cap ((ids).map (Value.int .i64))) (h1 : ¬ most < hi - 2 ^ S.sh) (hw : wrap64 (hi - 2 ^ S.sh) = hi - 2 ^ S.sh) :
    Calls Tryz.prog 120 #[.agg #[.pointer (some ⟨p, 0, none⟩), .int .i64 n, .int .i64 st, .int .i64 claimed, .int .i64 hi, .slice ao m cap, .int .i64 most]] w fun e w' => e = .returned (.agg #[.pointer (some ⟨p, 0, none⟩), .int .i64 n, .int .i64 3, .int .i64 claimed, .int .i64 hi, .slice ao m cap, .int .i64 most]) ∧ ∃ c', Stp (· = K) c c' w w' ∧ ArenaS c' K w' q la ∧ In c' (K + 4) w' 1 ao m cap ((ids).map (Value.int .i64)) := by
  obtain ⟨c1, r1⟩ := TRel.start ha hB hs [.pointer (some ⟨p, 0, none⟩), .int .i64 n, .int .i64 st, .int .i64 claimed, .int .i64 hi, .slice ao m cap, .int .i64 most]
  have R1 := Lib.hid r1
  obtain ⟨x, hx⟩ : ∃ x, x = w.heap.size := ⟨_, rfl⟩
  obtain ⟨y, hy⟩ : ∃ y, y = w.heap.size + 1 := ⟨_, rfl⟩
  have t1 : decide (most < hi - 2 ^ S.sh) = false := by simpa using h1
  have hw2 : IntKind.i64.wrap (hi - 2 ^ S.sh) = hi - 2 ^ S.sh := (IntWalk.i64_left _).trans hw
  clear r1 hB ha hs h1
  go_enter Tryz.func120, Tryz.ntmps120
  go_upto_region 1 with fail
  rw [← hy, ← hx] at R1
  rw [← hy, ← hx]
  clear hx hy
  obtain ⟨x0, x1, x2, x3, x4, x5, x6, lx⟩ := R1.out.xs rfl
  obtain ⟨s0, s1, s2, s3, s4, s5, lp⟩ := R1.out.ss
  obtain ⟨f0, f1, f2, f3, f4, f5, f6⟩ := R1.out.fx
  have R2 := Lib.hid (R1.out.put 2 (.int .i64 3))
  go_upto_region 2 with fail
  clear f0 f1 f2 f3 f4 f5 f6 x0 x1 x2 x3 x4 x5 x6 lx s0 s1 s2 s3 s4 s5 lp R1
  generalize World.setCell _ _ _ = W2 at R2 ⊢
  obtain ⟨x0, x1, x2, x3, x4, x5, x6, lx⟩ := R2.out.xs rfl
  obtain ⟨s0, s1, s2, s3, s4, s5, lp⟩ := R2.out.ss
  go_region_held3 (fun w' => w'.cell? ⟨x, 0, none⟩ = some (.pointer (some ⟨p, 0, none⟩)) ∧ w'.cell? ⟨x, 1, none⟩ = some (.int .i64 n) ∧ w'.cell? ⟨x, 2, none⟩ = some (.int .i64 3) ∧ w'.cell? ⟨x, 3, none⟩ = some (.int .i64 claimed) ∧ w'.cell? ⟨x, 4, none⟩ = some (.int .i64 hi) ∧ w'.cell? ⟨x, 5, none⟩ = some (.slice ao m cap) ∧ w'.cell? ⟨x, 6, none⟩ = some (.int .i64 most) ∧ w'.cell? ⟨p, 0, none⟩ = some (.pointer (some ⟨q, 0, none⟩)) ∧ w'.cell? ⟨p, 1, none⟩ = some (.int .i64 S.sh) ∧ w'.cell? ⟨p, 2, none⟩ = some (.int .i64 S.cur) ∧ w'.cell? ⟨p, 3, none⟩ = some (.int .i64 S.cac) ∧ w'.cell? ⟨p, 4, none⟩ = some (.pointer (some ⟨bp, 0, none⟩)) ∧ w'.cell? ⟨p, 5, none⟩ = some (.pointer (some ⟨gp, 0, none⟩)))
    (first | exact ⟨by assumption, by assumption, by assumption, by assumption, by assumption, by assumption, by assumption, by assumption, by assumption, by assumption, by assumption, by assumption, by assumption⟩ | go_keep)
    (first
      | (go_at_call 30; refine (TRel.slots_c (by first | exact R2.out | exact R2.out.drew | exact R2.out.stpF ((Stp.refl (fun _ => False) _ _).drewN _)) (by rfl)).mono ?_; rintro e w4 ⟨rfl, c4, R2, ⟨x0, x1, x2, x3, x4, x5, x6, lx⟩, ⟨s0, s1, s2, s3, s4, s5, lp⟩⟩)
      | (go_at_call 122; refine (TRel.least_c (by first | exact R2.out | exact R2.out.drew | exact R2.out.stpF ((Stp.refl (fun _ => False) _ _).drewN _)) (by rfl) _ _ _ _).mono ?_; rintro e w4 ⟨rfl, c4, R2, ⟨x0, x1, x2, x3, x4, x5, x6, lx⟩, ⟨s0, s1, s2, s3, s4, s5, lp⟩⟩))
  obtain ⟨f0, f1, f2, f3, f4, f5, f6⟩ := R2.out.fx
  obtain ⟨y0, y1, y2, y3, y4, y5, y6, ly, nxy⟩ := R2.out.ys
  obtain ⟨g0, g1, g2, g3, g4, g5, g6⟩ := R2.out.fy
  go_wp2
  exact bodyPost_ret (v := .agg #[.pointer (some ⟨p, 0, none⟩), .int .i64 n, .int .i64 3, .int .i64 claimed, .int .i64 hi, .slice ao m cap, .int .i64 most]) (by simp [results, Tryz.results120, go_sem, y0, y1, y2, y3, y4, y5, y6]) rfl ⟨rfl, R2.out.res _ _ _ _ _ _ _⟩
end
end Go.Proofs.YtiphdedfbafhkaaGreatDoor
