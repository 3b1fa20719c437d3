/- The document's Step of layer 10, a further case. No condition beyond each contract's own. -/
import Derived.Test.YtoifknfmamcimaaDoorMPb
import Derived.Deep.RegionLaw
namespace Go.Proofs.YtoifknfmamcimaaDoor
open Go.RowKit

set_option maxRecDepth 100000 in
set_option maxHeartbeats 16000000 in
theorem r2full (c : Nat → Nat) (w : World) (sl cl pb sn sc n claimed hi least g y : Int) (a o : Nat) (go : Option Addr) (ng gcap : Nat) (so : Option Addr) (ns scap : Nat) (hgo : ∃ ga : Addr, go = some ga ∧ (ga.block < w.heap.size ∧ w.cell? (ga.add a) = some (.int .i64 g))) (ha : a < ng) (hy : (g < least ∧ y = g) ∨ (¬ g < least ∧ y = least)) (hw8 : wrap64 ((a : Int) + 1) = (a : Int) + 1) (ho : ((a : Int) + 1 == (o : Int)) = true) (hw : wrap64 (hi - sl) = hi - sl) (hb : decide (y < hi - sl) = true) :
    Calls Tryd.prog 50 #[.agg #[.int .i64 sl, .int .i64 cl, .int .i64 pb, .slice go ng gcap, .int .i64 sn, .int .i64 sc, .slice so ns scap], .agg #[.int .i64 n, .int .i64 2, .int .i64 claimed, .int .i64 hi, .int .i64 least, .int .i64 a, .int .i64 o]] w fun e w' => e = .returned (.tuple #[.agg #[.int .i64 sl, .int .i64 cl, .int .i64 pb, .slice go ng gcap, .int .i64 sn, .int .i64 sc, .slice so ns scap], .agg #[.int .i64 n, .int .i64 6, .int .i64 claimed, .int .i64 hi, .int .i64 y, .int .i64 ((a : Int) + 1), .int .i64 o], .int .i64 0]) ∧ ∃ c', Stp (fun _ => False) c c' w w' := by
  obtain ⟨ga, rfl, hgb, hgc⟩ := hgo
  obtain ⟨c1, r1⟩ := SB.start c w 9 [.int .i64 sl, .int .i64 cl, .int .i64 pb, .slice (some ga) ng gcap, .int .i64 sn, .int .i64 sc, .slice so ns scap] [.int .i64 n, .int .i64 2, .int .i64 claimed, .int .i64 hi, .int .i64 least, .int .i64 a, .int .i64 o]
  have R1 := Lib.hid r1
  obtain ⟨x2, hx2⟩ : ∃ x, x = w.heap.size := ⟨_, rfl⟩
  obtain ⟨x3, hx3⟩ : ∃ x, x = w.heap.size + 1 := ⟨_, rfl⟩
  obtain ⟨x4, hx4⟩ : ∃ x, x = w.heap.size + 2 := ⟨_, rfl⟩
  obtain ⟨x5, hx5⟩ : ∃ x, x = w.heap.size + 3 := ⟨_, rfl⟩
  clear r1
  go_enter Tryd.func50, Tryd.ntmps50
  go_upto_region 1 with fail
  rw [← hx5, ← hx4, ← hx3, ← hx2] at R1
  rw [← hx5, ← hx4, ← hx3, ← hx2]
  clear hx2 hx3 hx4 hx5
  obtain ⟨wb, hwb⟩ : ∃ wb : World, wb = (((w.alloc (.cells #[.int .i64 sl, .int .i64 cl, .int .i64 pb, .slice (some ga) ng gcap, .int .i64 sn, .int .i64 sc, .slice so ns scap] 67)).alloc (.cells #[.int .i64 n, .int .i64 2, .int .i64 claimed, .int .i64 hi, .int .i64 least, .int .i64 a, .int .i64 o] 90)).alloc (.cells #[.int .i64 0, .int .i64 0, .int .i64 0, .slice none 0 0, .int .i64 0, .int .i64 0, .slice none 0 0] 67)).alloc (.cells #[.int .i64 0, .int .i64 0, .int .i64 0, .int .i64 0, .int .i64 0, .int .i64 0, .int .i64 0] 90) := ⟨_, rfl⟩
  have R2 := Lib.hid (show SB c w 9 x2 x3 x4 x5 [.int .i64 sl, .int .i64 cl, .int .i64 pb, .slice (some ga) ng gcap, .int .i64 sn, .int .i64 sc, .slice so ns scap] [.int .i64 n, .int .i64 2, .int .i64 claimed, .int .i64 hi, .int .i64 least, .int .i64 a, .int .i64 o] c1 wb by rw [hwb]; exact R1.out)
  rw [← hwb]
  clear hwb R1
  obtain ⟨s0, s1, s2, s3, s4, s5, s6⟩ := blk_7 R2.out.b2
  obtain ⟨t0, t1, t2, t3, t4, t5, t6⟩ := blk_7 R2.out.b3
  obtain ⟨e0, e1, e2, e3, e4, e5, e6⟩ := (blk_f7 R2.out.b2).1
  obtain ⟨h0, h1, h2, h3, h4, h5, h6⟩ := (blk_f7 R2.out.b3).1
  obtain ⟨⟨f0, f1, f2, f3, f4, f5, f6⟩, l4⟩ := blk_f7 R2.out.b4
  obtain ⟨⟨g0, g1, g2, g3, g4, g5, g6⟩, l5⟩ := blk_f7 R2.out.b5
  have l2 := (blk_f7 R2.out.b2).2
  have l3 := (blk_f7 R2.out.b3).2
  obtain ⟨u0, u1, u2, u3, u4, u5, u6⟩ := blk_7 R2.out.b4
  obtain ⟨v0, v1, v2, v3, v4, v5, v6⟩ := blk_7 R2.out.b5
  obtain ⟨⟨d23, d24, d25⟩, d34, d35, d45⟩ := R2.out.d
  have d32 : x3 ≠ x2 := d23.symm
  have d54 : x5 ≠ x4 := d45.symm
  have d42 : x4 ≠ x2 := d24.symm
  have d52 : x5 ≠ x2 := d25.symm
  have d43 : x4 ≠ x3 := d34.symm
  have d53 : x5 ≠ x3 := d35.symm
  have hgw : wb.cell? (ga.add a) = some (.int .i64 g) := (World.cell?_of_block (by rw [add_block]; exact R2.out.st.block _ hgb id)).trans hgc
  rcases hy with ⟨k1, rfl⟩ | ⟨k1, rfl⟩
  · go_upto_region 16 with fail
    go_region
    go_upto_region 20 with fail
    obtain ⟨wc, hwc⟩ : ∃ wc : World, wc = ((wb.setCell ⟨x3, 4, none⟩ (.int .i64 y)).setCell ⟨x3, 5, none⟩ (.int .i64 ((a : Int) + 1))).drew := ⟨_, rfl⟩
    have R3 := Lib.hid (show SB c w 9 x2 x3 x4 x5 [.int .i64 sl, .int .i64 cl, .int .i64 pb, .slice (some ga) ng gcap, .int .i64 sn, .int .i64 sc, .slice so ns scap] [.int .i64 n, .int .i64 2, .int .i64 claimed, .int .i64 hi, .int .i64 y, .int .i64 ((a : Int) + 1), .int .i64 o] c1 wc by rw [hwc]; exact ((R2.out.put3 4 (.int .i64 y)).put3 5 (.int .i64 ((a : Int) + 1))).drew)
    rw [← hwc]
    clear hwc s0 s1 s2 s3 s4 s5 s6 t0 t1 t2 t3 t4 t5 t6 e0 e1 e2 e3 e4 e5 e6 h0 h1 h2 h3 h4 h5 h6 f0 f1 f2 f3 f4 f5 f6 l4 g0 g1 g2 g3 g4 g5 g6 l5 l2 l3 u0 u1 u2 u3 u4 u5 u6 v0 v1 v2 v3 v4 v5 v6 R2
    obtain ⟨s0, s1, s2, s3, s4, s5, s6⟩ := blk_7 R3.out.b2
    obtain ⟨t0, t1, t2, t3, t4, t5, t6⟩ := blk_7 R3.out.b3
    obtain ⟨e0, e1, e2, e3, e4, e5, e6⟩ := (blk_f7 R3.out.b2).1
    obtain ⟨h0, h1, h2, h3, h4, h5, h6⟩ := (blk_f7 R3.out.b3).1
    obtain ⟨⟨f0, f1, f2, f3, f4, f5, f6⟩, l4⟩ := blk_f7 R3.out.b4
    obtain ⟨⟨g0, g1, g2, g3, g4, g5, g6⟩, l5⟩ := blk_f7 R3.out.b5
    have l2 := (blk_f7 R3.out.b2).2
    have l3 := (blk_f7 R3.out.b3).2
    obtain ⟨u0, u1, u2, u3, u4, u5, u6⟩ := blk_7 R3.out.b4
    obtain ⟨v0, v1, v2, v3, v4, v5, v6⟩ := blk_7 R3.out.b5
    have n21 : x2 < wc.heap.size + 1 := by omega
    have n22 : x2 < wc.heap.size + 1 + 1 := by omega
    have n31 : x3 < wc.heap.size + 1 := by omega
    have n32 : x3 < wc.heap.size + 1 + 1 := by omega
    have n41 : x4 < wc.heap.size + 1 := by omega
    have n42 : x4 < wc.heap.size + 1 + 1 := by omega
    have n51 : x5 < wc.heap.size + 1 := by omega
    have n52 : x5 < wc.heap.size + 1 + 1 := by omega
    have N4 := Lib.hid R3.out.n.2.1
    have N5 := Lib.hid R3.out.n.2.2
    have RS := Lib.hid (show SF c w wc from ⟨_, R3.out.st⟩)
    go_region_law (go_simp; go_at_call 84; refine (r10judge_full _ _ _ _ _ _ _ _ _ _ _ _ _ _ _ _ _ _ _ hw hb).mono ?_; rintro e w7 ⟨rfl, rfl⟩)
    all_goals
      go_wp2
      refine bodyPost_ret (v := .tuple #[.agg #[.int .i64 sl, .int .i64 cl, .int .i64 pb, .slice (some ga) ng gcap, .int .i64 sn, .int .i64 sc, .slice so ns scap], .agg #[.int .i64 n, .int .i64 6, .int .i64 claimed, .int .i64 hi, .int .i64 y, .int .i64 ((a : Int) + 1), .int .i64 o], .int .i64 0]) ?_ rfl ?_
      · simp [results, Tryd.results50, go_sem, *]
      · refine ⟨rfl, show SF _ _ _ from ?_⟩
        repeat' first
          | with_reducible exact RS.out
          | with_reducible apply SF.drew
          | with_reducible apply SF.set N4.out
          | with_reducible apply SF.set N5.out
          | with_reducible apply SF.alloc
  · go_upto_region 16 with fail
    go_region
    go_upto_region 20 with fail
    obtain ⟨wc, hwc⟩ : ∃ wc : World, wc = (wb.setCell ⟨x3, 5, none⟩ (.int .i64 ((a : Int) + 1))).drew := ⟨_, rfl⟩
    have R3 := Lib.hid (show SB c w 9 x2 x3 x4 x5 [.int .i64 sl, .int .i64 cl, .int .i64 pb, .slice (some ga) ng gcap, .int .i64 sn, .int .i64 sc, .slice so ns scap] [.int .i64 n, .int .i64 2, .int .i64 claimed, .int .i64 hi, .int .i64 y, .int .i64 ((a : Int) + 1), .int .i64 o] c1 wc by rw [hwc]; exact (R2.out.put3 5 (.int .i64 ((a : Int) + 1))).drew)
    rw [← hwc]
    clear hwc s0 s1 s2 s3 s4 s5 s6 t0 t1 t2 t3 t4 t5 t6 e0 e1 e2 e3 e4 e5 e6 h0 h1 h2 h3 h4 h5 h6 f0 f1 f2 f3 f4 f5 f6 l4 g0 g1 g2 g3 g4 g5 g6 l5 l2 l3 u0 u1 u2 u3 u4 u5 u6 v0 v1 v2 v3 v4 v5 v6 R2
    obtain ⟨s0, s1, s2, s3, s4, s5, s6⟩ := blk_7 R3.out.b2
    obtain ⟨t0, t1, t2, t3, t4, t5, t6⟩ := blk_7 R3.out.b3
    obtain ⟨e0, e1, e2, e3, e4, e5, e6⟩ := (blk_f7 R3.out.b2).1
    obtain ⟨h0, h1, h2, h3, h4, h5, h6⟩ := (blk_f7 R3.out.b3).1
    obtain ⟨⟨f0, f1, f2, f3, f4, f5, f6⟩, l4⟩ := blk_f7 R3.out.b4
    obtain ⟨⟨g0, g1, g2, g3, g4, g5, g6⟩, l5⟩ := blk_f7 R3.out.b5
    have l2 := (blk_f7 R3.out.b2).2
    have l3 := (blk_f7 R3.out.b3).2
    obtain ⟨u0, u1, u2, u3, u4, u5, u6⟩ := blk_7 R3.out.b4
    obtain ⟨v0, v1, v2, v3, v4, v5, v6⟩ := blk_7 R3.out.b5
    have n21 : x2 < wc.heap.size + 1 := by omega
    have n22 : x2 < wc.heap.size + 1 + 1 := by omega
    have n31 : x3 < wc.heap.size + 1 := by omega
    have n32 : x3 < wc.heap.size + 1 + 1 := by omega
    have n41 : x4 < wc.heap.size + 1 := by omega
    have n42 : x4 < wc.heap.size + 1 + 1 := by omega
    have n51 : x5 < wc.heap.size + 1 := by omega
    have n52 : x5 < wc.heap.size + 1 + 1 := by omega
    have N4 := Lib.hid R3.out.n.2.1
    have N5 := Lib.hid R3.out.n.2.2
    have RS := Lib.hid (show SF c w wc from ⟨_, R3.out.st⟩)
    go_region_law (go_simp; go_at_call 84; refine (r10judge_full _ _ _ _ _ _ _ _ _ _ _ _ _ _ _ _ _ _ _ hw hb).mono ?_; rintro e w7 ⟨rfl, rfl⟩)
    all_goals
      go_wp2
      refine bodyPost_ret (v := .tuple #[.agg #[.int .i64 sl, .int .i64 cl, .int .i64 pb, .slice (some ga) ng gcap, .int .i64 sn, .int .i64 sc, .slice so ns scap], .agg #[.int .i64 n, .int .i64 6, .int .i64 claimed, .int .i64 hi, .int .i64 y, .int .i64 ((a : Int) + 1), .int .i64 o], .int .i64 0]) ?_ rfl ?_
      · simp [results, Tryd.results50, go_sem, *]
      · refine ⟨rfl, show SF _ _ _ from ?_⟩
        repeat' first
          | with_reducible exact RS.out
          | with_reducible apply SF.drew
          | with_reducible apply SF.set N4.out
          | with_reducible apply SF.set N5.out
          | with_reducible apply SF.alloc
end Go.Proofs.YtoifknfmamcimaaDoor

/- The document's Step of layer 10, a further case. No condition beyond each contract's own. -/
namespace Go.Proofs.YtoifknfmamcimaaDoor
open Go.RowKit

set_option maxRecDepth 100000 in
set_option maxHeartbeats 16000000 in
theorem r2keep (c : Nat → Nat) (w : World) (sl cl pb sn sc n claimed hi least g y : Int) (a o : Nat) (go : Option Addr) (ng gcap : Nat) (so : Option Addr) (ns scap : Nat) (hgo : ∃ ga : Addr, go = some ga ∧ (ga.block < w.heap.size ∧ w.cell? (ga.add a) = some (.int .i64 g))) (ha : a < ng) (hy : (g < least ∧ y = g) ∨ (¬ g < least ∧ y = least)) (hw8 : wrap64 ((a : Int) + 1) = (a : Int) + 1) (ho : ((a : Int) + 1 == (o : Int)) = true) (hw : wrap64 (hi - sl) = hi - sl) (hb : decide (y < hi - sl) = false) :
    Calls Tryd.prog 50 #[.agg #[.int .i64 sl, .int .i64 cl, .int .i64 pb, .slice go ng gcap, .int .i64 sn, .int .i64 sc, .slice so ns scap], .agg #[.int .i64 n, .int .i64 2, .int .i64 claimed, .int .i64 hi, .int .i64 least, .int .i64 a, .int .i64 o]] w fun e w' => e = .returned (.tuple #[.agg #[.int .i64 sl, .int .i64 cl, .int .i64 pb, .slice go ng gcap, .int .i64 sn, .int .i64 sc, .slice so ns scap], .agg #[.int .i64 n, .int .i64 3, .int .i64 claimed, .int .i64 hi, .int .i64 y, .int .i64 ((a : Int) + 1), .int .i64 o], .int .i64 0]) ∧ ∃ c', Stp (fun _ => False) c c' w w' := by
  obtain ⟨ga, rfl, hgb, hgc⟩ := hgo
  obtain ⟨c1, r1⟩ := SB.start c w 9 [.int .i64 sl, .int .i64 cl, .int .i64 pb, .slice (some ga) ng gcap, .int .i64 sn, .int .i64 sc, .slice so ns scap] [.int .i64 n, .int .i64 2, .int .i64 claimed, .int .i64 hi, .int .i64 least, .int .i64 a, .int .i64 o]
  have R1 := Lib.hid r1
  obtain ⟨x2, hx2⟩ : ∃ x, x = w.heap.size := ⟨_, rfl⟩
  obtain ⟨x3, hx3⟩ : ∃ x, x = w.heap.size + 1 := ⟨_, rfl⟩
  obtain ⟨x4, hx4⟩ : ∃ x, x = w.heap.size + 2 := ⟨_, rfl⟩
  obtain ⟨x5, hx5⟩ : ∃ x, x = w.heap.size + 3 := ⟨_, rfl⟩
  clear r1
  go_enter Tryd.func50, Tryd.ntmps50
  go_upto_region 1 with fail
  rw [← hx5, ← hx4, ← hx3, ← hx2] at R1
  rw [← hx5, ← hx4, ← hx3, ← hx2]
  clear hx2 hx3 hx4 hx5
  obtain ⟨wb, hwb⟩ : ∃ wb : World, wb = (((w.alloc (.cells #[.int .i64 sl, .int .i64 cl, .int .i64 pb, .slice (some ga) ng gcap, .int .i64 sn, .int .i64 sc, .slice so ns scap] 67)).alloc (.cells #[.int .i64 n, .int .i64 2, .int .i64 claimed, .int .i64 hi, .int .i64 least, .int .i64 a, .int .i64 o] 90)).alloc (.cells #[.int .i64 0, .int .i64 0, .int .i64 0, .slice none 0 0, .int .i64 0, .int .i64 0, .slice none 0 0] 67)).alloc (.cells #[.int .i64 0, .int .i64 0, .int .i64 0, .int .i64 0, .int .i64 0, .int .i64 0, .int .i64 0] 90) := ⟨_, rfl⟩
  have R2 := Lib.hid (show SB c w 9 x2 x3 x4 x5 [.int .i64 sl, .int .i64 cl, .int .i64 pb, .slice (some ga) ng gcap, .int .i64 sn, .int .i64 sc, .slice so ns scap] [.int .i64 n, .int .i64 2, .int .i64 claimed, .int .i64 hi, .int .i64 least, .int .i64 a, .int .i64 o] c1 wb by rw [hwb]; exact R1.out)
  rw [← hwb]
  clear hwb R1
  obtain ⟨s0, s1, s2, s3, s4, s5, s6⟩ := blk_7 R2.out.b2
  obtain ⟨t0, t1, t2, t3, t4, t5, t6⟩ := blk_7 R2.out.b3
  obtain ⟨e0, e1, e2, e3, e4, e5, e6⟩ := (blk_f7 R2.out.b2).1
  obtain ⟨h0, h1, h2, h3, h4, h5, h6⟩ := (blk_f7 R2.out.b3).1
  obtain ⟨⟨f0, f1, f2, f3, f4, f5, f6⟩, l4⟩ := blk_f7 R2.out.b4
  obtain ⟨⟨g0, g1, g2, g3, g4, g5, g6⟩, l5⟩ := blk_f7 R2.out.b5
  have l2 := (blk_f7 R2.out.b2).2
  have l3 := (blk_f7 R2.out.b3).2
  obtain ⟨u0, u1, u2, u3, u4, u5, u6⟩ := blk_7 R2.out.b4
  obtain ⟨v0, v1, v2, v3, v4, v5, v6⟩ := blk_7 R2.out.b5
  obtain ⟨⟨d23, d24, d25⟩, d34, d35, d45⟩ := R2.out.d
  have d32 : x3 ≠ x2 := d23.symm
  have d54 : x5 ≠ x4 := d45.symm
  have d42 : x4 ≠ x2 := d24.symm
  have d52 : x5 ≠ x2 := d25.symm
  have d43 : x4 ≠ x3 := d34.symm
  have d53 : x5 ≠ x3 := d35.symm
  have hgw : wb.cell? (ga.add a) = some (.int .i64 g) := (World.cell?_of_block (by rw [add_block]; exact R2.out.st.block _ hgb id)).trans hgc
  rcases hy with ⟨k1, rfl⟩ | ⟨k1, rfl⟩
  · go_upto_region 16 with fail
    go_region
    go_upto_region 20 with fail
    obtain ⟨wc, hwc⟩ : ∃ wc : World, wc = ((wb.setCell ⟨x3, 4, none⟩ (.int .i64 y)).setCell ⟨x3, 5, none⟩ (.int .i64 ((a : Int) + 1))).drew := ⟨_, rfl⟩
    have R3 := Lib.hid (show SB c w 9 x2 x3 x4 x5 [.int .i64 sl, .int .i64 cl, .int .i64 pb, .slice (some ga) ng gcap, .int .i64 sn, .int .i64 sc, .slice so ns scap] [.int .i64 n, .int .i64 2, .int .i64 claimed, .int .i64 hi, .int .i64 y, .int .i64 ((a : Int) + 1), .int .i64 o] c1 wc by rw [hwc]; exact ((R2.out.put3 4 (.int .i64 y)).put3 5 (.int .i64 ((a : Int) + 1))).drew)
    rw [← hwc]
    clear hwc s0 s1 s2 s3 s4 s5 s6 t0 t1 t2 t3 t4 t5 t6 e0 e1 e2 e3 e4 e5 e6 h0 h1 h2 h3 h4 h5 h6 f0 f1 f2 f3 f4 f5 f6 l4 g0 g1 g2 g3 g4 g5 g6 l5 l2 l3 u0 u1 u2 u3 u4 u5 u6 v0 v1 v2 v3 v4 v5 v6 R2
    obtain ⟨s0, s1, s2, s3, s4, s5, s6⟩ := blk_7 R3.out.b2
    obtain ⟨t0, t1, t2, t3, t4, t5, t6⟩ := blk_7 R3.out.b3
    obtain ⟨e0, e1, e2, e3, e4, e5, e6⟩ := (blk_f7 R3.out.b2).1
    obtain ⟨h0, h1, h2, h3, h4, h5, h6⟩ := (blk_f7 R3.out.b3).1
    obtain ⟨⟨f0, f1, f2, f3, f4, f5, f6⟩, l4⟩ := blk_f7 R3.out.b4
    obtain ⟨⟨g0, g1, g2, g3, g4, g5, g6⟩, l5⟩ := blk_f7 R3.out.b5
    have l2 := (blk_f7 R3.out.b2).2
    have l3 := (blk_f7 R3.out.b3).2
    obtain ⟨u0, u1, u2, u3, u4, u5, u6⟩ := blk_7 R3.out.b4
    obtain ⟨v0, v1, v2, v3, v4, v5, v6⟩ := blk_7 R3.out.b5
    have n21 : x2 < wc.heap.size + 1 := by omega
    have n22 : x2 < wc.heap.size + 1 + 1 := by omega
    have n31 : x3 < wc.heap.size + 1 := by omega
    have n32 : x3 < wc.heap.size + 1 + 1 := by omega
    have n41 : x4 < wc.heap.size + 1 := by omega
    have n42 : x4 < wc.heap.size + 1 + 1 := by omega
    have n51 : x5 < wc.heap.size + 1 := by omega
    have n52 : x5 < wc.heap.size + 1 + 1 := by omega
    have N4 := Lib.hid R3.out.n.2.1
    have N5 := Lib.hid R3.out.n.2.2
    have RS := Lib.hid (show SF c w wc from ⟨_, R3.out.st⟩)
    go_region_law (go_simp; go_at_call 84; refine (r10judge_keep _ _ _ _ _ _ _ _ _ _ _ _ _ _ _ _ _ _ _ hw hb).mono ?_; rintro e w7 ⟨rfl, rfl⟩)
    all_goals
      go_wp2
      refine bodyPost_ret (v := .tuple #[.agg #[.int .i64 sl, .int .i64 cl, .int .i64 pb, .slice (some ga) ng gcap, .int .i64 sn, .int .i64 sc, .slice so ns scap], .agg #[.int .i64 n, .int .i64 3, .int .i64 claimed, .int .i64 hi, .int .i64 y, .int .i64 ((a : Int) + 1), .int .i64 o], .int .i64 0]) ?_ rfl ?_
      · simp [results, Tryd.results50, go_sem, *]
      · refine ⟨rfl, show SF _ _ _ from ?_⟩
        repeat' first
          | with_reducible exact RS.out
          | with_reducible apply SF.drew
          | with_reducible apply SF.set N4.out
          | with_reducible apply SF.set N5.out
          | with_reducible apply SF.alloc
  · go_upto_region 16 with fail
    go_region
    go_upto_region 20 with fail
    obtain ⟨wc, hwc⟩ : ∃ wc : World, wc = (wb.setCell ⟨x3, 5, none⟩ (.int .i64 ((a : Int) + 1))).drew := ⟨_, rfl⟩
    have R3 := Lib.hid (show SB c w 9 x2 x3 x4 x5 [.int .i64 sl, .int .i64 cl, .int .i64 pb, .slice (some ga) ng gcap, .int .i64 sn, .int .i64 sc, .slice so ns scap] [.int .i64 n, .int .i64 2, .int .i64 claimed, .int .i64 hi, .int .i64 y, .int .i64 ((a : Int) + 1), .int .i64 o] c1 wc by rw [hwc]; exact (R2.out.put3 5 (.int .i64 ((a : Int) + 1))).drew)
    rw [← hwc]
    clear hwc s0 s1 s2 s3 s4 s5 s6 t0 t1 t2 t3 t4 t5 t6 e0 e1 e2 e3 e4 e5 e6 h0 h1 h2 h3 h4 h5 h6 f0 f1 f2 f3 f4 f5 f6 l4 g0 g1 g2 g3 g4 g5 g6 l5 l2 l3 u0 u1 u2 u3 u4 u5 u6 v0 v1 v2 v3 v4 v5 v6 R2
    obtain ⟨s0, s1, s2, s3, s4, s5, s6⟩ := blk_7 R3.out.b2
    obtain ⟨t0, t1, t2, t3, t4, t5, t6⟩ := blk_7 R3.out.b3
    obtain ⟨e0, e1, e2, e3, e4, e5, e6⟩ := (blk_f7 R3.out.b2).1
    obtain ⟨h0, h1, h2, h3, h4, h5, h6⟩ := (blk_f7 R3.out.b3).1
    obtain ⟨⟨f0, f1, f2, f3, f4, f5, f6⟩, l4⟩ := blk_f7 R3.out.b4
    obtain ⟨⟨g0, g1, g2, g3, g4, g5, g6⟩, l5⟩ := blk_f7 R3.out.b5
    have l2 := (blk_f7 R3.out.b2).2
    have l3 := (blk_f7 R3.out.b3).2
    obtain ⟨u0, u1, u2, u3, u4, u5, u6⟩ := blk_7 R3.out.b4
    obtain ⟨v0, v1, v2, v3, v4, v5, v6⟩ := blk_7 R3.out.b5
    have n21 : x2 < wc.heap.size + 1 := by omega
    have n22 : x2 < wc.heap.size + 1 + 1 := by omega
    have n31 : x3 < wc.heap.size + 1 := by omega
    have n32 : x3 < wc.heap.size + 1 + 1 := by omega
    have n41 : x4 < wc.heap.size + 1 := by omega
    have n42 : x4 < wc.heap.size + 1 + 1 := by omega
    have n51 : x5 < wc.heap.size + 1 := by omega
    have n52 : x5 < wc.heap.size + 1 + 1 := by omega
    have N4 := Lib.hid R3.out.n.2.1
    have N5 := Lib.hid R3.out.n.2.2
    have RS := Lib.hid (show SF c w wc from ⟨_, R3.out.st⟩)
    go_region_law (go_simp; go_at_call 84; refine (r10judge_keep _ _ _ _ _ _ _ _ _ _ _ _ _ _ _ _ _ _ _ hw hb).mono ?_; rintro e w7 ⟨rfl, rfl⟩)
    all_goals
      go_wp2
      refine bodyPost_ret (v := .tuple #[.agg #[.int .i64 sl, .int .i64 cl, .int .i64 pb, .slice (some ga) ng gcap, .int .i64 sn, .int .i64 sc, .slice so ns scap], .agg #[.int .i64 n, .int .i64 3, .int .i64 claimed, .int .i64 hi, .int .i64 y, .int .i64 ((a : Int) + 1), .int .i64 o], .int .i64 0]) ?_ rfl ?_
      · simp [results, Tryd.results50, go_sem, *]
      · refine ⟨rfl, show SF _ _ _ from ?_⟩
        repeat' first
          | with_reducible exact RS.out
          | with_reducible apply SF.drew
          | with_reducible apply SF.set N4.out
          | with_reducible apply SF.set N5.out
          | with_reducible apply SF.alloc
end Go.Proofs.YtoifknfmamcimaaDoor
