/- Contracts that the closing theorem wants (Mul4). No condition beyond each law's own. -/
import Derived.Test.YtiphdedfbafhkaaGreatDoorZMul3
namespace Go.Proofs.YtiphdedfbafhkaaGreatDoor
open Go.RowKit

section
variable {c : Nat → Nat} {K : Nat} {w : World} {p q bp gp : Nat} {S : Sq} {la : List Int} {ids : List Int}
variable (n claimed hi : Int) {ao : Option Addr} {m cap : Nat} (most : Int)

set_option maxRecDepth 100000 in
set_option maxHeartbeats 1000000 in
theorem ts_swapy (ha : ArenaS c K w q la) (hB : SeqIs c (K + 1) w p q bp gp S) (hs : In c (K + 4) w 1 ao m cap ((ids).map (Value.int .i64))) (hcu : S.cur < la.length) (ho : la.getD S.cur 0 = claimed) :
    Calls Tryz.prog 83 #[.agg #[.pointer (some ⟨p, 0, none⟩), .int .i64 n, .int .i64 4, .int .i64 claimed, .int .i64 hi, .slice ao m cap, .int .i64 most]] w fun e w' => e = .returned (.tuple #[.agg #[.pointer (some ⟨p, 0, none⟩), .int .i64 n, .int .i64 5, .int .i64 claimed, .int .i64 hi, .slice ao m cap, .int .i64 most], .nilIface]) ∧ ∃ c', Stp (· = K) c c' w w' ∧ ArenaS c' K w' q (la.set S.cur hi) ∧ In c' (K + 4) w' 1 ao m cap ((ids).map (Value.int .i64)) := by
  obtain ⟨c1, r1⟩ := TRel.start ha hB hs [.pointer (some ⟨p, 0, none⟩), .int .i64 n, .int .i64 4, .int .i64 claimed, .int .i64 hi, .slice ao m cap, .int .i64 most]
  have R1 := Lib.hid r1
  obtain ⟨x, hx⟩ : ∃ x, x = w.heap.size := ⟨_, rfl⟩
  obtain ⟨y, hy⟩ : ∃ y, y = w.heap.size + 1 := ⟨_, rfl⟩
  have Hcu := Lib.hid hcu
  have Ho := Lib.hid ho
  clear r1 hB ha hs hcu ho
  go_enter Tryz.func83, Tryz.ntmps83
  go_wp2_with fail
  rw [← hy, ← hx] at R1
  rw [← hy, ← hx]
  clear hx hy
  refine (tdone_any _ _ _ _ _ _ _ _ c1 _ _ (b := false) (by decide)).mono ?_
  rintro e w2 ⟨rfl, c2, t2⟩
  have R2 := Lib.hid (R1.out.stpF t2)
  clear t2 R1
  obtain ⟨x0, x1, x2, x3, x4, x5, x6, lx⟩ := R2.out.xs rfl
  obtain ⟨s0, s1, s2, s3, s4, s5, lp⟩ := R2.out.ss
  go_upto_region 5 with fail
  go_region_held3 (fun w' => w'.cell? ⟨x, 0, none⟩ = some (.pointer (some ⟨p, 0, none⟩)) ∧ w'.cell? ⟨x, 1, none⟩ = some (.int .i64 n) ∧ w'.cell? ⟨x, 2, none⟩ = some (.int .i64 4) ∧ w'.cell? ⟨x, 3, none⟩ = some (.int .i64 claimed) ∧ w'.cell? ⟨x, 4, none⟩ = some (.int .i64 hi) ∧ w'.cell? ⟨p, 0, none⟩ = some (.pointer (some ⟨q, 0, none⟩)) ∧ w'.cell? ⟨p, 1, none⟩ = some (.int .i64 S.sh) ∧ w'.cell? ⟨p, 2, none⟩ = some (.int .i64 S.cur) ∧ w'.cell? ⟨p, 3, none⟩ = some (.int .i64 S.cac) ∧ w'.cell? ⟨p, 4, none⟩ = some (.pointer (some ⟨bp, 0, none⟩)) ∧ w'.cell? ⟨p, 5, none⟩ = some (.pointer (some ⟨gp, 0, none⟩)))
    (first | exact ⟨by assumption, by assumption, by assumption, by assumption, by assumption, by assumption, by assumption, by assumption, by assumption, by assumption, by assumption⟩ | go_keep)
    (first
      | (go_at_call 123; refine (TRel.swapy_c (by first | exact R2.out | exact R2.out.drew | exact R2.out.stpF ((Stp.refl (fun _ => False) _ _).drewN _)) (by rfl) S.cur claimed hi (by exact Hcu.out) (by exact Ho.out)).mono ?_; rintro e w4 ⟨rfl, c4, R4, ⟨x0, x1, x2, x3, x4, x5, x6, lx⟩, ⟨s0, s1, s2, s3, s4, s5, lp⟩⟩))
  obtain ⟨f0, f1, f2, f3, f4, f5, f6⟩ := R4.out.fx
  obtain ⟨y0, y1, y2, y3, y4, y5, y6, ly, nxy⟩ := R4.out.ys
  obtain ⟨g0, g1, g2, g3, g4, g5, g6⟩ := R4.out.fy
  have R5 := Lib.hid ((R4.out.put 2 (.int .i64 0)).put 2 (.int .i64 5))
  clear R4
  go_wp2
  exact bodyPost_ret (v := .tuple #[.agg #[.pointer (some ⟨p, 0, none⟩), .int .i64 n, .int .i64 5, .int .i64 claimed, .int .i64 hi, .slice ao m cap, .int .i64 most], .nilIface]) (by simp [results, Tryz.results83, go_sem, y0, y1, y2, y3, y4, y5, y6]) rfl ⟨rfl, R5.out.res _ _ _ _ _ _ _⟩

set_option maxRecDepth 100000 in
set_option maxHeartbeats 1000000 in
theorem ts_swapn (ha : ArenaS c K w q la) (hB : SeqIs c (K + 1) w p q bp gp S) (hs : In c (K + 4) w 1 ao m cap ((ids).map (Value.int .i64))) (hcu : S.cur < la.length) (ho : la.getD S.cur 0 ≠ claimed) :
    Calls Tryz.prog 83 #[.agg #[.pointer (some ⟨p, 0, none⟩), .int .i64 n, .int .i64 4, .int .i64 claimed, .int .i64 hi, .slice ao m cap, .int .i64 most]] w fun e w' => e = .returned (.tuple #[.agg #[.pointer (some ⟨p, 0, none⟩), .int .i64 n, .int .i64 0, .int .i64 claimed, .int .i64 hi, .slice ao m cap, .int .i64 most], .nilIface]) ∧ ∃ c', Stp (· = K) c c' w w' ∧ ArenaS c' K w' q la ∧ In c' (K + 4) w' 1 ao m cap ((ids).map (Value.int .i64)) := by
  obtain ⟨c1, r1⟩ := TRel.start ha hB hs [.pointer (some ⟨p, 0, none⟩), .int .i64 n, .int .i64 4, .int .i64 claimed, .int .i64 hi, .slice ao m cap, .int .i64 most]
  have R1 := Lib.hid r1
  obtain ⟨x, hx⟩ : ∃ x, x = w.heap.size := ⟨_, rfl⟩
  obtain ⟨y, hy⟩ : ∃ y, y = w.heap.size + 1 := ⟨_, rfl⟩
  have Hcu := Lib.hid hcu
  have Ho := Lib.hid ho
  clear r1 hB ha hs hcu ho
  go_enter Tryz.func83, Tryz.ntmps83
  go_wp2_with fail
  rw [← hy, ← hx] at R1
  rw [← hy, ← hx]
  clear hx hy
  refine (tdone_any _ _ _ _ _ _ _ _ c1 _ _ (b := false) (by decide)).mono ?_
  rintro e w2 ⟨rfl, c2, t2⟩
  have R2 := Lib.hid (R1.out.stpF t2)
  clear t2 R1
  obtain ⟨x0, x1, x2, x3, x4, x5, x6, lx⟩ := R2.out.xs rfl
  obtain ⟨s0, s1, s2, s3, s4, s5, lp⟩ := R2.out.ss
  go_upto_region 5 with fail
  go_region_held3 (fun w' => w'.cell? ⟨x, 0, none⟩ = some (.pointer (some ⟨p, 0, none⟩)) ∧ w'.cell? ⟨x, 1, none⟩ = some (.int .i64 n) ∧ w'.cell? ⟨x, 2, none⟩ = some (.int .i64 4) ∧ w'.cell? ⟨x, 3, none⟩ = some (.int .i64 claimed) ∧ w'.cell? ⟨x, 4, none⟩ = some (.int .i64 hi) ∧ w'.cell? ⟨p, 0, none⟩ = some (.pointer (some ⟨q, 0, none⟩)) ∧ w'.cell? ⟨p, 1, none⟩ = some (.int .i64 S.sh) ∧ w'.cell? ⟨p, 2, none⟩ = some (.int .i64 S.cur) ∧ w'.cell? ⟨p, 3, none⟩ = some (.int .i64 S.cac) ∧ w'.cell? ⟨p, 4, none⟩ = some (.pointer (some ⟨bp, 0, none⟩)) ∧ w'.cell? ⟨p, 5, none⟩ = some (.pointer (some ⟨gp, 0, none⟩)))
    (first | exact ⟨by assumption, by assumption, by assumption, by assumption, by assumption, by assumption, by assumption, by assumption, by assumption, by assumption, by assumption⟩ | go_keep)
    (first
      | (go_at_call 123; refine (TRel.swapn_c (by first | exact R2.out | exact R2.out.drew | exact R2.out.stpF ((Stp.refl (fun _ => False) _ _).drewN _)) (by rfl) S.cur claimed hi (by exact Hcu.out) (by exact Ho.out)).mono ?_; rintro e w4 ⟨rfl, c4, R4, ⟨x0, x1, x2, x3, x4, x5, x6, lx⟩, ⟨s0, s1, s2, s3, s4, s5, lp⟩⟩))
  obtain ⟨f0, f1, f2, f3, f4, f5, f6⟩ := R4.out.fx
  obtain ⟨y0, y1, y2, y3, y4, y5, y6, ly, nxy⟩ := R4.out.ys
  obtain ⟨g0, g1, g2, g3, g4, g5, g6⟩ := R4.out.fy
  have R5 := Lib.hid (R4.out.put 2 (.int .i64 0))
  clear R4
  go_wp2
  exact bodyPost_ret (v := .tuple #[.agg #[.pointer (some ⟨p, 0, none⟩), .int .i64 n, .int .i64 0, .int .i64 claimed, .int .i64 hi, .slice ao m cap, .int .i64 most], .nilIface]) (by simp [results, Tryz.results83, go_sem, y0, y1, y2, y3, y4, y5, y6]) rfl ⟨rfl, R5.out.res _ _ _ _ _ _ _⟩
end
end Go.Proofs.YtiphdedfbafhkaaGreatDoor
