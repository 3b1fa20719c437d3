/- The document's Step and judge of layer 10. No condition beyond each contract's own. -/
import Derived.Test.YtoifknfmamcimaaDoorMul14
import Derived.Deep.RegionLaw
namespace Go.Proofs.YtoifknfmamcimaaDoor
open Go.RowKit

@[reducible] def zSq : List Value := [.int .i64 0, .int .i64 0, .int .i64 0, .slice none 0 0, .int .i64 0, .int .i64 0, .slice none 0 0]
@[reducible] def zTr : List Value := [.int .i64 0, .int .i64 0, .int .i64 0, .int .i64 0, .int .i64 0, .int .i64 0, .int .i64 0]

/-- The document's Step's own boxes: what it is given, and the results'. -/
structure SB (c0 : Nat → Nat) (w0 : World) (k x2 x3 x4 x5 : Nat) (cs ct : List Value) (c : Nat → Nat) (w : World) : Prop where
  st : Stp (fun _ => False) c0 c w0 w
  b2 : Blk c k w x2 cs 67
  b3 : Blk c k w x3 ct 90
  b4 : Blk c k w x4 [.int .i64 0, .int .i64 0, .int .i64 0, .slice none 0 0, .int .i64 0, .int .i64 0, .slice none 0 0] 67
  b5 : Blk c k w x5 [.int .i64 0, .int .i64 0, .int .i64 0, .int .i64 0, .int .i64 0, .int .i64 0, .int .i64 0] 90
  d : (x2 ≠ x3 ∧ x2 ≠ x4 ∧ x2 ≠ x5) ∧ x3 ≠ x4 ∧ x3 ≠ x5 ∧ x4 ≠ x5
  n : (w0.heap.size ≤ x2 ∧ w0.heap.size ≤ x3) ∧ w0.heap.size ≤ x4 ∧ w0.heap.size ≤ x5

theorem SB.start (c : Nat → Nat) (w : World) (k : Nat) (cs ct : List Value) :
    ∃ c', SB c w k w.heap.size (w.heap.size + 1) (w.heap.size + 2) (w.heap.size + 3) cs ct c' ((((w.alloc (.cells cs.toArray 67)).alloc (.cells ct.toArray 90)).alloc (.cells #[.int .i64 0, .int .i64 0, .int .i64 0, .slice none 0 0, .int .i64 0, .int .i64 0, .slice none 0 0] 67)).alloc (.cells #[.int .i64 0, .int .i64 0, .int .i64 0, .int .i64 0, .int .i64 0, .int .i64 0, .int .i64 0] 90)) := by
  obtain ⟨w1, hw1⟩ : ∃ w1, w1 = w.alloc (.cells cs.toArray 67) := ⟨_, rfl⟩
  have z1 : w.heap.size + 1 = w1.heap.size := by rw [hw1]; simp
  have s1 : Stp (fun _ => False) c (paint c w.heap.size k) w w1 := by rw [hw1]; exact (Stp.refl _ c w).alloc _ _
  have b1 : Blk (paint c w.heap.size k) k w1 w.heap.size cs 67 := by rw [hw1]; exact Blk.new c k w cs _
  rw [← hw1]
  obtain ⟨c1, hc1⟩ : ∃ c1, c1 = paint c w.heap.size k := ⟨_, rfl⟩
  rw [← hc1] at s1 b1
  obtain ⟨w2, hw2⟩ : ∃ w2, w2 = w1.alloc (.cells ct.toArray 90) := ⟨_, rfl⟩
  have z2 : w.heap.size + 2 = w2.heap.size := by rw [hw2]; simp; omega
  have s2 : Stp (fun _ => False) c1 (paint c1 w1.heap.size k) w1 w2 := by rw [hw2]; exact (Stp.refl _ c1 w1).alloc _ _
  have b2 : Blk (paint c1 w1.heap.size k) k w2 (w.heap.size + 1) ct 90 := by rw [hw2, z1]; exact Blk.new c1 k w1 ct _
  rw [← hw2]
  obtain ⟨c2, hc2⟩ : ∃ c2, c2 = paint c1 w1.heap.size k := ⟨_, rfl⟩
  rw [← hc2] at s2 b2
  obtain ⟨w3, hw3⟩ : ∃ w3, w3 = w2.alloc (.cells #[.int .i64 0, .int .i64 0, .int .i64 0, .slice none 0 0, .int .i64 0, .int .i64 0, .slice none 0 0] 67) := ⟨_, rfl⟩
  have z3 : w.heap.size + 3 = w3.heap.size := by rw [hw3]; simp; omega
  have s3 : Stp (fun _ => False) c2 (paint c2 w2.heap.size k) w2 w3 := by rw [hw3]; exact (Stp.refl _ c2 w2).alloc _ _
  have b3 : Blk (paint c2 w2.heap.size k) k w3 (w.heap.size + 2) [.int .i64 0, .int .i64 0, .int .i64 0, .slice none 0 0, .int .i64 0, .int .i64 0, .slice none 0 0] 67 := by rw [hw3, z2]; exact Blk.new c2 k w2 [.int .i64 0, .int .i64 0, .int .i64 0, .slice none 0 0, .int .i64 0, .int .i64 0, .slice none 0 0] _
  rw [← hw3]
  obtain ⟨c3, hc3⟩ : ∃ c3, c3 = paint c2 w2.heap.size k := ⟨_, rfl⟩
  rw [← hc3] at s3 b3
  have s4 := (Stp.refl (fun _ => False) c3 w3).alloc (.cells #[.int .i64 0, .int .i64 0, .int .i64 0, .int .i64 0, .int .i64 0, .int .i64 0, .int .i64 0] 90) k
  refine ⟨_, ((s1.trans s2).trans s3).trans s4, ((b1.stp s2 id).stp s3 id).stp s4 id, (b2.stp s3 id).stp s4 id, b3.stp s4 id, by rw [z3]; exact Blk.new c3 k w3 [.int .i64 0, .int .i64 0, .int .i64 0, .int .i64 0, .int .i64 0, .int .i64 0, .int .i64 0] _, by omega, by omega⟩

section
variable {c0 : Nat → Nat} {w0 : World} {k x2 x3 x4 x5 : Nat} {cs ct : List Value} {c c' : Nat → Nat} {w w' : World}
theorem SB.put2 (h : SB c0 w0 k x2 x3 x4 x5 cs ct c w) (j : Nat) (v : Value) : SB c0 w0 k x2 x3 x4 x5 (cs.set j v) ct c (w.setCell ⟨x2, j, none⟩ v) :=
  ⟨h.st.setNew (p := ⟨x2, j, none⟩) v h.n.1.1, h.b2.set j v, h.b3.other _ (fun e => h.d.1.1 e), h.b4.other _ (fun e => h.d.1.2.1 e), h.b5.other _ (fun e => h.d.1.2.2 e), h.d, h.n⟩
theorem SB.put3 (h : SB c0 w0 k x2 x3 x4 x5 cs ct c w) (j : Nat) (v : Value) : SB c0 w0 k x2 x3 x4 x5 cs (ct.set j v) c (w.setCell ⟨x3, j, none⟩ v) :=
  ⟨h.st.setNew (p := ⟨x3, j, none⟩) v h.n.1.2, h.b2.other _ (fun e => h.d.1.1 e.symm), h.b3.set j v, h.b4.other _ (fun e => h.d.2.1 e), h.b5.other _ (fun e => h.d.2.2.1 e), h.d, h.n⟩
theorem SB.stpF (h : SB c0 w0 k x2 x3 x4 x5 cs ct c w) (t : Stp (fun _ => False) c c' w w') : SB c0 w0 k x2 x3 x4 x5 cs ct c' w' :=
  ⟨h.st.trans t, h.b2.stp t id, h.b3.stp t id, h.b4.stp t id, h.b5.stp t id, h.d, h.n⟩
theorem SB.res (h : SB c0 w0 k x2 x3 x4 x5 cs ct c w) (s0 s1 s2 s3 s4 s5 s6 t0 t1 t2 t3 t4 t5 t6 : Value) : Stp (fun _ => False) c0 c w0 ((((((((((((((w.setCell ⟨x4, 0, none⟩ s0).setCell ⟨x4, 1, none⟩ s1).setCell ⟨x4, 2, none⟩ s2).setCell ⟨x4, 3, none⟩ s3).setCell ⟨x4, 4, none⟩ s4).setCell ⟨x4, 5, none⟩ s5).setCell ⟨x4, 6, none⟩ s6).setCell ⟨x5, 0, none⟩ t0).setCell ⟨x5, 1, none⟩ t1).setCell ⟨x5, 2, none⟩ t2).setCell ⟨x5, 3, none⟩ t3).setCell ⟨x5, 4, none⟩ t4).setCell ⟨x5, 5, none⟩ t5).setCell ⟨x5, 6, none⟩ t6).drew :=
  ((((((((((((((h.st.setNew (p := ⟨x4, 0, none⟩) s0 h.n.2.1).setNew (p := ⟨x4, 1, none⟩) s1 h.n.2.1).setNew (p := ⟨x4, 2, none⟩) s2 h.n.2.1).setNew (p := ⟨x4, 3, none⟩) s3 h.n.2.1).setNew (p := ⟨x4, 4, none⟩) s4 h.n.2.1).setNew (p := ⟨x4, 5, none⟩) s5 h.n.2.1).setNew (p := ⟨x4, 6, none⟩) s6 h.n.2.1).setNew (p := ⟨x5, 0, none⟩) t0 h.n.2.2).setNew (p := ⟨x5, 1, none⟩) t1 h.n.2.2).setNew (p := ⟨x5, 2, none⟩) t2 h.n.2.2).setNew (p := ⟨x5, 3, none⟩) t3 h.n.2.2).setNew (p := ⟨x5, 4, none⟩) t4 h.n.2.2).setNew (p := ⟨x5, 5, none⟩) t5 h.n.2.2).setNew (p := ⟨x5, 6, none⟩) t6 h.n.2.2).drew
theorem SB.drew (h : SB c0 w0 k x2 x3 x4 x5 cs ct c w) : SB c0 w0 k x2 x3 x4 x5 cs ct c w.drew := h.stpF (Stp.refl (fun _ => False) _ _).drew
theorem blk_7 {p : Nat} {ty : TypeId} {v0 v1 v2 v3 v4 v5 v6 : Value} (h : Blk c k w p [v0, v1, v2, v3, v4, v5, v6] ty) : w.cell? ⟨p, 0, none⟩ = some v0 ∧ w.cell? ⟨p, 1, none⟩ = some v1 ∧ w.cell? ⟨p, 2, none⟩ = some v2 ∧ w.cell? ⟨p, 3, none⟩ = some v3 ∧ w.cell? ⟨p, 4, none⟩ = some v4 ∧ w.cell? ⟨p, 5, none⟩ = some v5 ∧ w.cell? ⟨p, 6, none⟩ = some v6 :=
  ⟨by simpa using h.cell 0, by simpa using h.cell 1, by simpa using h.cell 2, by simpa using h.cell 3, by simpa using h.cell 4, by simpa using h.cell 5, by simpa using h.cell 6⟩
theorem blk_f7 {p : Nat} {ty : TypeId} (h : Blk c k w p cs ty) : (w.frozen? ⟨p, 0, none⟩ = false ∧ w.frozen? ⟨p, 1, none⟩ = false ∧ w.frozen? ⟨p, 2, none⟩ = false ∧ w.frozen? ⟨p, 3, none⟩ = false ∧ w.frozen? ⟨p, 4, none⟩ = false ∧ w.frozen? ⟨p, 5, none⟩ = false ∧ w.frozen? ⟨p, 6, none⟩ = false) ∧ p < w.heap.size :=
  ⟨⟨h.free 0, h.free 1, h.free 2, h.free 3, h.free 4, h.free 5, h.free 6⟩, h.lt⟩
end

set_option maxRecDepth 100000 in
theorem r10judge_full (w : World) (sl cl pb sn sc n st claimed hi least a o : Int) (go : Option Addr) (ng gcap : Nat) (so : Option Addr) (ns scap : Nat) (hw : wrap64 (hi - sl) = hi - sl) (hb : decide (least < hi - sl) = true) :
    Calls Tryd.prog 84 #[.agg #[.int .i64 sl, .int .i64 cl, .int .i64 pb, .slice go ng gcap, .int .i64 sn, .int .i64 sc, .slice so ns scap], .agg #[.int .i64 n, .int .i64 st, .int .i64 claimed, .int .i64 hi, .int .i64 least, .int .i64 a, .int .i64 o]] w fun e w' => e = .returned (.agg #[.int .i64 n, .int .i64 6, .int .i64 claimed, .int .i64 hi, .int .i64 least, .int .i64 a, .int .i64 o]) ∧ w' = ((w.alloc (.cells #[.int .i64 sl, .int .i64 cl, .int .i64 pb, .slice go ng gcap, .int .i64 sn, .int .i64 sc, .slice so ns scap] 67)).alloc (.cells #[.int .i64 n, .int .i64 6, .int .i64 claimed, .int .i64 hi, .int .i64 least, .int .i64 a, .int .i64 o] 90)).alloc (.cells #[.int .i64 n, .int .i64 6, .int .i64 claimed, .int .i64 hi, .int .i64 least, .int .i64 a, .int .i64 o] 90) := by
  go_enter Tryd.func84, Tryd.ntmps84
  go_wp2
  exact bodyPost_ret (v := .agg #[.int .i64 n, .int .i64 6, .int .i64 claimed, .int .i64 hi, .int .i64 least, .int .i64 a, .int .i64 o]) (by simp [results, Tryd.results84, go_sem]) rfl ⟨rfl, rfl⟩

set_option maxRecDepth 100000 in
theorem r10judge_keep (w : World) (sl cl pb sn sc n st claimed hi least a o : Int) (go : Option Addr) (ng gcap : Nat) (so : Option Addr) (ns scap : Nat) (hw : wrap64 (hi - sl) = hi - sl) (hb : decide (least < hi - sl) = false) :
    Calls Tryd.prog 84 #[.agg #[.int .i64 sl, .int .i64 cl, .int .i64 pb, .slice go ng gcap, .int .i64 sn, .int .i64 sc, .slice so ns scap], .agg #[.int .i64 n, .int .i64 st, .int .i64 claimed, .int .i64 hi, .int .i64 least, .int .i64 a, .int .i64 o]] w fun e w' => e = .returned (.agg #[.int .i64 n, .int .i64 3, .int .i64 claimed, .int .i64 hi, .int .i64 least, .int .i64 a, .int .i64 o]) ∧ w' = ((w.alloc (.cells #[.int .i64 sl, .int .i64 cl, .int .i64 pb, .slice go ng gcap, .int .i64 sn, .int .i64 sc, .slice so ns scap] 67)).alloc (.cells #[.int .i64 n, .int .i64 3, .int .i64 claimed, .int .i64 hi, .int .i64 least, .int .i64 a, .int .i64 o] 90)).alloc (.cells #[.int .i64 n, .int .i64 3, .int .i64 claimed, .int .i64 hi, .int .i64 least, .int .i64 a, .int .i64 o] 90) := by
  go_enter Tryd.func84, Tryd.ntmps84
  go_wp2
  exact bodyPost_ret (v := .agg #[.int .i64 n, .int .i64 3, .int .i64 claimed, .int .i64 hi, .int .i64 least, .int .i64 a, .int .i64 o]) (by simp [results, Tryd.results84, go_sem]) rfl ⟨rfl, rfl⟩

set_option maxRecDepth 100000 in
set_option maxHeartbeats 16000000 in
theorem r0bad (c : Nat → Nat) (w : World) (sl cl pb sn sc n claimed hi least a o : Int) (go : Option Addr) (ng gcap : Nat) (so : Option Addr) (ns scap : Nat) (h : 4611686018427387904 - n < cl) (hw : wrap64 (4611686018427387904 - n) = 4611686018427387904 - n) :
    Calls Tryd.prog 50 #[.agg #[.int .i64 sl, .int .i64 cl, .int .i64 pb, .slice go ng gcap, .int .i64 sn, .int .i64 sc, .slice so ns scap], .agg #[.int .i64 n, .int .i64 0, .int .i64 claimed, .int .i64 hi, .int .i64 least, .int .i64 a, .int .i64 o]] w fun e w' => e = .returned (.tuple #[.agg #[.int .i64 sl, .int .i64 cl, .int .i64 pb, .slice go ng gcap, .int .i64 sn, .int .i64 sc, .slice so ns scap], .agg #[.int .i64 n, .int .i64 0, .int .i64 claimed, .int .i64 hi, .int .i64 least, .int .i64 a, .int .i64 o], .int .i64 15]) ∧ ∃ c', Stp (fun _ => False) c c' w w' := by
  obtain ⟨c1, r1⟩ := SB.start c w 9 [.int .i64 sl, .int .i64 cl, .int .i64 pb, .slice go ng gcap, .int .i64 sn, .int .i64 sc, .slice so ns scap] [.int .i64 n, .int .i64 0, .int .i64 claimed, .int .i64 hi, .int .i64 least, .int .i64 a, .int .i64 o]
  have R1 := Lib.hid r1
  obtain ⟨x2, hx2⟩ : ∃ x, x = w.heap.size := ⟨_, rfl⟩
  obtain ⟨x3, hx3⟩ : ∃ x, x = w.heap.size + 1 := ⟨_, rfl⟩
  obtain ⟨x4, hx4⟩ : ∃ x, x = w.heap.size + 2 := ⟨_, rfl⟩
  obtain ⟨x5, hx5⟩ : ∃ x, x = w.heap.size + 3 := ⟨_, rfl⟩
  clear r1
  go_enter Tryd.func50, Tryd.ntmps50
  go_upto_region 1 with fail
  rw [← hx5, ← hx4, ← hx3, ← hx2] at R1
  rw [← hx5, ← hx4, ← hx3, ← hx2]
  clear hx2 hx3 hx4 hx5
  obtain ⟨wb, hwb⟩ : ∃ wb : World, wb = (((w.alloc (.cells #[.int .i64 sl, .int .i64 cl, .int .i64 pb, .slice go ng gcap, .int .i64 sn, .int .i64 sc, .slice so ns scap] 67)).alloc (.cells #[.int .i64 n, .int .i64 0, .int .i64 claimed, .int .i64 hi, .int .i64 least, .int .i64 a, .int .i64 o] 90)).alloc (.cells #[.int .i64 0, .int .i64 0, .int .i64 0, .slice none 0 0, .int .i64 0, .int .i64 0, .slice none 0 0] 67)).alloc (.cells #[.int .i64 0, .int .i64 0, .int .i64 0, .int .i64 0, .int .i64 0, .int .i64 0, .int .i64 0] 90) := ⟨_, rfl⟩
  have R2 := Lib.hid (show SB c w 9 x2 x3 x4 x5 [.int .i64 sl, .int .i64 cl, .int .i64 pb, .slice go ng gcap, .int .i64 sn, .int .i64 sc, .slice so ns scap] [.int .i64 n, .int .i64 0, .int .i64 claimed, .int .i64 hi, .int .i64 least, .int .i64 a, .int .i64 o] c1 wb by rw [hwb]; exact R1.out)
  rw [← hwb]
  clear hwb R1
  obtain ⟨s0, s1, s2, s3, s4, s5, s6⟩ := blk_7 R2.out.b2
  obtain ⟨t0, t1, t2, t3, t4, t5, t6⟩ := blk_7 R2.out.b3
  obtain ⟨e0, e1, e2, e3, e4, e5, e6⟩ := (blk_f7 R2.out.b2).1
  obtain ⟨h0, h1, h2, h3, h4, h5, h6⟩ := (blk_f7 R2.out.b3).1
  obtain ⟨⟨f0, f1, f2, f3, f4, f5, f6⟩, l4⟩ := blk_f7 R2.out.b4
  obtain ⟨⟨g0, g1, g2, g3, g4, g5, g6⟩, l5⟩ := blk_f7 R2.out.b5
  have l2 := (blk_f7 R2.out.b2).2
  have l3 := (blk_f7 R2.out.b3).2
  obtain ⟨u0, u1, u2, u3, u4, u5, u6⟩ := blk_7 R2.out.b4
  obtain ⟨v0, v1, v2, v3, v4, v5, v6⟩ := blk_7 R2.out.b5
  obtain ⟨⟨d23, d24, d25⟩, d34, d35, d45⟩ := R2.out.d
  have d32 : x3 ≠ x2 := d23.symm
  have d54 : x5 ≠ x4 := d45.symm
  have d42 : x4 ≠ x2 := d24.symm
  have d52 : x5 ≠ x2 := d25.symm
  have d43 : x4 ≠ x3 := d34.symm
  have d53 : x5 ≠ x3 := d35.symm
  go_upto_region 4 with fail
  go_region
  go_wp2
  exact bodyPost_ret (v := .tuple #[.agg #[.int .i64 sl, .int .i64 cl, .int .i64 pb, .slice go ng gcap, .int .i64 sn, .int .i64 sc, .slice so ns scap], .agg #[.int .i64 n, .int .i64 0, .int .i64 claimed, .int .i64 hi, .int .i64 least, .int .i64 a, .int .i64 o], .int .i64 15]) (by simp [results, Tryd.results50, go_sem, *]) rfl ⟨rfl, _, R2.out.res _ _ _ _ _ _ _ _ _ _ _ _ _ _⟩

set_option maxRecDepth 100000 in
set_option maxHeartbeats 16000000 in
theorem r0ok (c : Nat → Nat) (w : World) (sl cl pb sn sc n claimed hi least a o : Int) (go : Option Addr) (ng gcap : Nat) (so : Option Addr) (ns scap : Nat) (h : ¬ 4611686018427387904 - n < cl) (hw : wrap64 (4611686018427387904 - n) = 4611686018427387904 - n) (hw2 : wrap64 (cl + n) = cl + n) :
    Calls Tryd.prog 50 #[.agg #[.int .i64 sl, .int .i64 cl, .int .i64 pb, .slice go ng gcap, .int .i64 sn, .int .i64 sc, .slice so ns scap], .agg #[.int .i64 n, .int .i64 0, .int .i64 claimed, .int .i64 hi, .int .i64 least, .int .i64 a, .int .i64 o]] w fun e w' => e = .returned (.tuple #[.agg #[.int .i64 sl, .int .i64 cl, .int .i64 pb, .slice go ng gcap, .int .i64 sn, .int .i64 sc, .slice so ns scap], .agg #[.int .i64 n, .int .i64 1, .int .i64 cl, .int .i64 (cl + n), .int .i64 least, .int .i64 a, .int .i64 o], .int .i64 0]) ∧ ∃ c', Stp (fun _ => False) c c' w w' := by
  obtain ⟨c1, r1⟩ := SB.start c w 9 [.int .i64 sl, .int .i64 cl, .int .i64 pb, .slice go ng gcap, .int .i64 sn, .int .i64 sc, .slice so ns scap] [.int .i64 n, .int .i64 0, .int .i64 claimed, .int .i64 hi, .int .i64 least, .int .i64 a, .int .i64 o]
  have R1 := Lib.hid r1
  obtain ⟨x2, hx2⟩ : ∃ x, x = w.heap.size := ⟨_, rfl⟩
  obtain ⟨x3, hx3⟩ : ∃ x, x = w.heap.size + 1 := ⟨_, rfl⟩
  obtain ⟨x4, hx4⟩ : ∃ x, x = w.heap.size + 2 := ⟨_, rfl⟩
  obtain ⟨x5, hx5⟩ : ∃ x, x = w.heap.size + 3 := ⟨_, rfl⟩
  clear r1
  go_enter Tryd.func50, Tryd.ntmps50
  go_upto_region 1 with fail
  rw [← hx5, ← hx4, ← hx3, ← hx2] at R1
  rw [← hx5, ← hx4, ← hx3, ← hx2]
  clear hx2 hx3 hx4 hx5
  obtain ⟨wb, hwb⟩ : ∃ wb : World, wb = (((w.alloc (.cells #[.int .i64 sl, .int .i64 cl, .int .i64 pb, .slice go ng gcap, .int .i64 sn, .int .i64 sc, .slice so ns scap] 67)).alloc (.cells #[.int .i64 n, .int .i64 0, .int .i64 claimed, .int .i64 hi, .int .i64 least, .int .i64 a, .int .i64 o] 90)).alloc (.cells #[.int .i64 0, .int .i64 0, .int .i64 0, .slice none 0 0, .int .i64 0, .int .i64 0, .slice none 0 0] 67)).alloc (.cells #[.int .i64 0, .int .i64 0, .int .i64 0, .int .i64 0, .int .i64 0, .int .i64 0, .int .i64 0] 90) := ⟨_, rfl⟩
  have R2 := Lib.hid (show SB c w 9 x2 x3 x4 x5 [.int .i64 sl, .int .i64 cl, .int .i64 pb, .slice go ng gcap, .int .i64 sn, .int .i64 sc, .slice so ns scap] [.int .i64 n, .int .i64 0, .int .i64 claimed, .int .i64 hi, .int .i64 least, .int .i64 a, .int .i64 o] c1 wb by rw [hwb]; exact R1.out)
  rw [← hwb]
  clear hwb R1
  obtain ⟨s0, s1, s2, s3, s4, s5, s6⟩ := blk_7 R2.out.b2
  obtain ⟨t0, t1, t2, t3, t4, t5, t6⟩ := blk_7 R2.out.b3
  obtain ⟨e0, e1, e2, e3, e4, e5, e6⟩ := (blk_f7 R2.out.b2).1
  obtain ⟨h0, h1, h2, h3, h4, h5, h6⟩ := (blk_f7 R2.out.b3).1
  obtain ⟨⟨f0, f1, f2, f3, f4, f5, f6⟩, l4⟩ := blk_f7 R2.out.b4
  obtain ⟨⟨g0, g1, g2, g3, g4, g5, g6⟩, l5⟩ := blk_f7 R2.out.b5
  have l2 := (blk_f7 R2.out.b2).2
  have l3 := (blk_f7 R2.out.b3).2
  obtain ⟨u0, u1, u2, u3, u4, u5, u6⟩ := blk_7 R2.out.b4
  obtain ⟨v0, v1, v2, v3, v4, v5, v6⟩ := blk_7 R2.out.b5
  obtain ⟨⟨d23, d24, d25⟩, d34, d35, d45⟩ := R2.out.d
  have d32 : x3 ≠ x2 := d23.symm
  have d54 : x5 ≠ x4 := d45.symm
  have d42 : x4 ≠ x2 := d24.symm
  have d52 : x5 ≠ x2 := d25.symm
  have d43 : x4 ≠ x3 := d34.symm
  have d53 : x5 ≠ x3 := d35.symm
  go_upto_region 30 with fail
  obtain ⟨wc, hwc⟩ : ∃ wc : World, wc = (((wb.setCell ⟨x3, 2, none⟩ (.int .i64 cl)).setCell ⟨x3, 3, none⟩ (.int .i64 (cl + n))).setCell ⟨x3, 1, none⟩ (.int .i64 1)) := ⟨_, rfl⟩
  have R3 := Lib.hid (show SB c w 9 x2 x3 x4 x5 [.int .i64 sl, .int .i64 cl, .int .i64 pb, .slice go ng gcap, .int .i64 sn, .int .i64 sc, .slice so ns scap] [.int .i64 n, .int .i64 1, .int .i64 cl, .int .i64 (cl + n), .int .i64 least, .int .i64 a, .int .i64 o] c1 wc by rw [hwc]; exact (((R2.out.put3 2 (.int .i64 cl)).put3 3 (.int .i64 (cl + n))).put3 1 (.int .i64 1)))
  rw [← hwc]
  clear hwc s0 s1 s2 s3 s4 s5 s6 t0 t1 t2 t3 t4 t5 t6 e0 e1 e2 e3 e4 e5 e6 h0 h1 h2 h3 h4 h5 h6 f0 f1 f2 f3 f4 f5 f6 l4 g0 g1 g2 g3 g4 g5 g6 l5 l2 l3 u0 u1 u2 u3 u4 u5 u6 v0 v1 v2 v3 v4 v5 v6 R2
  obtain ⟨s0, s1, s2, s3, s4, s5, s6⟩ := blk_7 R3.out.b2
  obtain ⟨t0, t1, t2, t3, t4, t5, t6⟩ := blk_7 R3.out.b3
  obtain ⟨e0, e1, e2, e3, e4, e5, e6⟩ := (blk_f7 R3.out.b2).1
  obtain ⟨h0, h1, h2, h3, h4, h5, h6⟩ := (blk_f7 R3.out.b3).1
  obtain ⟨⟨f0, f1, f2, f3, f4, f5, f6⟩, l4⟩ := blk_f7 R3.out.b4
  obtain ⟨⟨g0, g1, g2, g3, g4, g5, g6⟩, l5⟩ := blk_f7 R3.out.b5
  have l2 := (blk_f7 R3.out.b2).2
  have l3 := (blk_f7 R3.out.b3).2
  obtain ⟨u0, u1, u2, u3, u4, u5, u6⟩ := blk_7 R3.out.b4
  obtain ⟨v0, v1, v2, v3, v4, v5, v6⟩ := blk_7 R3.out.b5
  go_region
  go_wp2
  exact bodyPost_ret (v := .tuple #[.agg #[.int .i64 sl, .int .i64 cl, .int .i64 pb, .slice go ng gcap, .int .i64 sn, .int .i64 sc, .slice so ns scap], .agg #[.int .i64 n, .int .i64 1, .int .i64 cl, .int .i64 (cl + n), .int .i64 least, .int .i64 a, .int .i64 o], .int .i64 0]) (by simp [results, Tryd.results50, go_sem, *]) rfl ⟨rfl, _, R3.out.res _ _ _ _ _ _ _ _ _ _ _ _ _ _⟩

set_option maxRecDepth 100000 in
set_option maxHeartbeats 16000000 in
theorem r1en (c : Nat → Nat) (w : World) (sl cl pb sn sc n claimed hi least a o : Int) (go : Option Addr) (ng gcap : Nat) (so : Option Addr) (ns scap : Nat) (h : hi - sl ≤ sn) (h' : sn ≤ claimed) (hw : wrap64 (hi - sl) = hi - sl) :
    Calls Tryd.prog 50 #[.agg #[.int .i64 sl, .int .i64 cl, .int .i64 pb, .slice go ng gcap, .int .i64 sn, .int .i64 sc, .slice so ns scap], .agg #[.int .i64 n, .int .i64 1, .int .i64 claimed, .int .i64 hi, .int .i64 least, .int .i64 a, .int .i64 o]] w fun e w' => e = .returned (.tuple #[.agg #[.int .i64 sl, .int .i64 cl, .int .i64 pb, .slice go ng gcap, .int .i64 sn, .int .i64 sc, .slice so ns scap], .agg #[.int .i64 n, .int .i64 4, .int .i64 claimed, .int .i64 hi, .int .i64 least, .int .i64 a, .int .i64 o], .int .i64 0]) ∧ ∃ c', Stp (fun _ => False) c c' w w' := by
  obtain ⟨c1, r1⟩ := SB.start c w 9 [.int .i64 sl, .int .i64 cl, .int .i64 pb, .slice go ng gcap, .int .i64 sn, .int .i64 sc, .slice so ns scap] [.int .i64 n, .int .i64 1, .int .i64 claimed, .int .i64 hi, .int .i64 least, .int .i64 a, .int .i64 o]
  have R1 := Lib.hid r1
  obtain ⟨x2, hx2⟩ : ∃ x, x = w.heap.size := ⟨_, rfl⟩
  obtain ⟨x3, hx3⟩ : ∃ x, x = w.heap.size + 1 := ⟨_, rfl⟩
  obtain ⟨x4, hx4⟩ : ∃ x, x = w.heap.size + 2 := ⟨_, rfl⟩
  obtain ⟨x5, hx5⟩ : ∃ x, x = w.heap.size + 3 := ⟨_, rfl⟩
  clear r1
  go_enter Tryd.func50, Tryd.ntmps50
  go_upto_region 1 with fail
  rw [← hx5, ← hx4, ← hx3, ← hx2] at R1
  rw [← hx5, ← hx4, ← hx3, ← hx2]
  clear hx2 hx3 hx4 hx5
  obtain ⟨wb, hwb⟩ : ∃ wb : World, wb = (((w.alloc (.cells #[.int .i64 sl, .int .i64 cl, .int .i64 pb, .slice go ng gcap, .int .i64 sn, .int .i64 sc, .slice so ns scap] 67)).alloc (.cells #[.int .i64 n, .int .i64 1, .int .i64 claimed, .int .i64 hi, .int .i64 least, .int .i64 a, .int .i64 o] 90)).alloc (.cells #[.int .i64 0, .int .i64 0, .int .i64 0, .slice none 0 0, .int .i64 0, .int .i64 0, .slice none 0 0] 67)).alloc (.cells #[.int .i64 0, .int .i64 0, .int .i64 0, .int .i64 0, .int .i64 0, .int .i64 0, .int .i64 0] 90) := ⟨_, rfl⟩
  have R2 := Lib.hid (show SB c w 9 x2 x3 x4 x5 [.int .i64 sl, .int .i64 cl, .int .i64 pb, .slice go ng gcap, .int .i64 sn, .int .i64 sc, .slice so ns scap] [.int .i64 n, .int .i64 1, .int .i64 claimed, .int .i64 hi, .int .i64 least, .int .i64 a, .int .i64 o] c1 wb by rw [hwb]; exact R1.out)
  rw [← hwb]
  clear hwb R1
  obtain ⟨s0, s1, s2, s3, s4, s5, s6⟩ := blk_7 R2.out.b2
  obtain ⟨t0, t1, t2, t3, t4, t5, t6⟩ := blk_7 R2.out.b3
  obtain ⟨e0, e1, e2, e3, e4, e5, e6⟩ := (blk_f7 R2.out.b2).1
  obtain ⟨h0, h1, h2, h3, h4, h5, h6⟩ := (blk_f7 R2.out.b3).1
  obtain ⟨⟨f0, f1, f2, f3, f4, f5, f6⟩, l4⟩ := blk_f7 R2.out.b4
  obtain ⟨⟨g0, g1, g2, g3, g4, g5, g6⟩, l5⟩ := blk_f7 R2.out.b5
  have l2 := (blk_f7 R2.out.b2).2
  have l3 := (blk_f7 R2.out.b3).2
  obtain ⟨u0, u1, u2, u3, u4, u5, u6⟩ := blk_7 R2.out.b4
  obtain ⟨v0, v1, v2, v3, v4, v5, v6⟩ := blk_7 R2.out.b5
  obtain ⟨⟨d23, d24, d25⟩, d34, d35, d45⟩ := R2.out.d
  have d32 : x3 ≠ x2 := d23.symm
  have d54 : x5 ≠ x4 := d45.symm
  have d42 : x4 ≠ x2 := d24.symm
  have d52 : x5 ≠ x2 := d25.symm
  have d43 : x4 ≠ x3 := d34.symm
  have d53 : x5 ≠ x3 := d35.symm
  go_upto_region 11 with fail
  obtain ⟨wc, hwc⟩ : ∃ wc : World, wc = (wb.setCell ⟨x3, 1, none⟩ (.int .i64 4)) := ⟨_, rfl⟩
  have R3 := Lib.hid (show SB c w 9 x2 x3 x4 x5 [.int .i64 sl, .int .i64 cl, .int .i64 pb, .slice go ng gcap, .int .i64 sn, .int .i64 sc, .slice so ns scap] [.int .i64 n, .int .i64 4, .int .i64 claimed, .int .i64 hi, .int .i64 least, .int .i64 a, .int .i64 o] c1 wc by rw [hwc]; exact (R2.out.put3 1 (.int .i64 4)))
  rw [← hwc]
  clear hwc s0 s1 s2 s3 s4 s5 s6 t0 t1 t2 t3 t4 t5 t6 e0 e1 e2 e3 e4 e5 e6 h0 h1 h2 h3 h4 h5 h6 f0 f1 f2 f3 f4 f5 f6 l4 g0 g1 g2 g3 g4 g5 g6 l5 l2 l3 u0 u1 u2 u3 u4 u5 u6 v0 v1 v2 v3 v4 v5 v6 R2
  obtain ⟨s0, s1, s2, s3, s4, s5, s6⟩ := blk_7 R3.out.b2
  obtain ⟨t0, t1, t2, t3, t4, t5, t6⟩ := blk_7 R3.out.b3
  obtain ⟨e0, e1, e2, e3, e4, e5, e6⟩ := (blk_f7 R3.out.b2).1
  obtain ⟨h0, h1, h2, h3, h4, h5, h6⟩ := (blk_f7 R3.out.b3).1
  obtain ⟨⟨f0, f1, f2, f3, f4, f5, f6⟩, l4⟩ := blk_f7 R3.out.b4
  obtain ⟨⟨g0, g1, g2, g3, g4, g5, g6⟩, l5⟩ := blk_f7 R3.out.b5
  have l2 := (blk_f7 R3.out.b2).2
  have l3 := (blk_f7 R3.out.b3).2
  obtain ⟨u0, u1, u2, u3, u4, u5, u6⟩ := blk_7 R3.out.b4
  obtain ⟨v0, v1, v2, v3, v4, v5, v6⟩ := blk_7 R3.out.b5
  go_region
  go_wp2
  exact bodyPost_ret (v := .tuple #[.agg #[.int .i64 sl, .int .i64 cl, .int .i64 pb, .slice go ng gcap, .int .i64 sn, .int .i64 sc, .slice so ns scap], .agg #[.int .i64 n, .int .i64 4, .int .i64 claimed, .int .i64 hi, .int .i64 least, .int .i64 a, .int .i64 o], .int .i64 0]) (by simp [results, Tryd.results50, go_sem, *]) rfl ⟨rfl, _, R3.out.res _ _ _ _ _ _ _ _ _ _ _ _ _ _⟩

set_option maxRecDepth 100000 in
set_option maxHeartbeats 16000000 in
theorem r3any (c : Nat → Nat) (w : World) (sl cl pb sn sc n claimed hi least a o : Int) (go : Option Addr) (ng gcap : Nat) (so : Option Addr) (ns scap : Nat)  :
    Calls Tryd.prog 50 #[.agg #[.int .i64 sl, .int .i64 cl, .int .i64 pb, .slice go ng gcap, .int .i64 sn, .int .i64 sc, .slice so ns scap], .agg #[.int .i64 n, .int .i64 3, .int .i64 claimed, .int .i64 hi, .int .i64 least, .int .i64 a, .int .i64 o]] w fun e w' => e = .returned (.tuple #[.agg #[.int .i64 sl, .int .i64 cl, .int .i64 pb, .slice go ng gcap, .int .i64 least, .int .i64 sc, .slice so ns scap], .agg #[.int .i64 n, .int .i64 4, .int .i64 claimed, .int .i64 hi, .int .i64 least, .int .i64 a, .int .i64 o], .int .i64 0]) ∧ ∃ c', Stp (fun _ => False) c c' w w' := by
  obtain ⟨c1, r1⟩ := SB.start c w 9 [.int .i64 sl, .int .i64 cl, .int .i64 pb, .slice go ng gcap, .int .i64 sn, .int .i64 sc, .slice so ns scap] [.int .i64 n, .int .i64 3, .int .i64 claimed, .int .i64 hi, .int .i64 least, .int .i64 a, .int .i64 o]
  have R1 := Lib.hid r1
  obtain ⟨x2, hx2⟩ : ∃ x, x = w.heap.size := ⟨_, rfl⟩
  obtain ⟨x3, hx3⟩ : ∃ x, x = w.heap.size + 1 := ⟨_, rfl⟩
  obtain ⟨x4, hx4⟩ : ∃ x, x = w.heap.size + 2 := ⟨_, rfl⟩
  obtain ⟨x5, hx5⟩ : ∃ x, x = w.heap.size + 3 := ⟨_, rfl⟩
  clear r1
  go_enter Tryd.func50, Tryd.ntmps50
  go_upto_region 1 with fail
  rw [← hx5, ← hx4, ← hx3, ← hx2] at R1
  rw [← hx5, ← hx4, ← hx3, ← hx2]
  clear hx2 hx3 hx4 hx5
  obtain ⟨wb, hwb⟩ : ∃ wb : World, wb = (((w.alloc (.cells #[.int .i64 sl, .int .i64 cl, .int .i64 pb, .slice go ng gcap, .int .i64 sn, .int .i64 sc, .slice so ns scap] 67)).alloc (.cells #[.int .i64 n, .int .i64 3, .int .i64 claimed, .int .i64 hi, .int .i64 least, .int .i64 a, .int .i64 o] 90)).alloc (.cells #[.int .i64 0, .int .i64 0, .int .i64 0, .slice none 0 0, .int .i64 0, .int .i64 0, .slice none 0 0] 67)).alloc (.cells #[.int .i64 0, .int .i64 0, .int .i64 0, .int .i64 0, .int .i64 0, .int .i64 0, .int .i64 0] 90) := ⟨_, rfl⟩
  have R2 := Lib.hid (show SB c w 9 x2 x3 x4 x5 [.int .i64 sl, .int .i64 cl, .int .i64 pb, .slice go ng gcap, .int .i64 sn, .int .i64 sc, .slice so ns scap] [.int .i64 n, .int .i64 3, .int .i64 claimed, .int .i64 hi, .int .i64 least, .int .i64 a, .int .i64 o] c1 wb by rw [hwb]; exact R1.out)
  rw [← hwb]
  clear hwb R1
  obtain ⟨s0, s1, s2, s3, s4, s5, s6⟩ := blk_7 R2.out.b2
  obtain ⟨t0, t1, t2, t3, t4, t5, t6⟩ := blk_7 R2.out.b3
  obtain ⟨e0, e1, e2, e3, e4, e5, e6⟩ := (blk_f7 R2.out.b2).1
  obtain ⟨h0, h1, h2, h3, h4, h5, h6⟩ := (blk_f7 R2.out.b3).1
  obtain ⟨⟨f0, f1, f2, f3, f4, f5, f6⟩, l4⟩ := blk_f7 R2.out.b4
  obtain ⟨⟨g0, g1, g2, g3, g4, g5, g6⟩, l5⟩ := blk_f7 R2.out.b5
  have l2 := (blk_f7 R2.out.b2).2
  have l3 := (blk_f7 R2.out.b3).2
  obtain ⟨u0, u1, u2, u3, u4, u5, u6⟩ := blk_7 R2.out.b4
  obtain ⟨v0, v1, v2, v3, v4, v5, v6⟩ := blk_7 R2.out.b5
  obtain ⟨⟨d23, d24, d25⟩, d34, d35, d45⟩ := R2.out.d
  have d32 : x3 ≠ x2 := d23.symm
  have d54 : x5 ≠ x4 := d45.symm
  have d42 : x4 ≠ x2 := d24.symm
  have d52 : x5 ≠ x2 := d25.symm
  have d43 : x4 ≠ x3 := d34.symm
  have d53 : x5 ≠ x3 := d35.symm
  go_upto_region 30 with fail
  obtain ⟨wc, hwc⟩ : ∃ wc : World, wc = ((wb.setCell ⟨x2, 4, none⟩ (.int .i64 least)).setCell ⟨x3, 1, none⟩ (.int .i64 4)) := ⟨_, rfl⟩
  have R3 := Lib.hid (show SB c w 9 x2 x3 x4 x5 [.int .i64 sl, .int .i64 cl, .int .i64 pb, .slice go ng gcap, .int .i64 least, .int .i64 sc, .slice so ns scap] [.int .i64 n, .int .i64 4, .int .i64 claimed, .int .i64 hi, .int .i64 least, .int .i64 a, .int .i64 o] c1 wc by rw [hwc]; exact ((R2.out.put2 4 (.int .i64 least)).put3 1 (.int .i64 4)))
  rw [← hwc]
  clear hwc s0 s1 s2 s3 s4 s5 s6 t0 t1 t2 t3 t4 t5 t6 e0 e1 e2 e3 e4 e5 e6 h0 h1 h2 h3 h4 h5 h6 f0 f1 f2 f3 f4 f5 f6 l4 g0 g1 g2 g3 g4 g5 g6 l5 l2 l3 u0 u1 u2 u3 u4 u5 u6 v0 v1 v2 v3 v4 v5 v6 R2
  obtain ⟨s0, s1, s2, s3, s4, s5, s6⟩ := blk_7 R3.out.b2
  obtain ⟨t0, t1, t2, t3, t4, t5, t6⟩ := blk_7 R3.out.b3
  obtain ⟨e0, e1, e2, e3, e4, e5, e6⟩ := (blk_f7 R3.out.b2).1
  obtain ⟨h0, h1, h2, h3, h4, h5, h6⟩ := (blk_f7 R3.out.b3).1
  obtain ⟨⟨f0, f1, f2, f3, f4, f5, f6⟩, l4⟩ := blk_f7 R3.out.b4
  obtain ⟨⟨g0, g1, g2, g3, g4, g5, g6⟩, l5⟩ := blk_f7 R3.out.b5
  have l2 := (blk_f7 R3.out.b2).2
  have l3 := (blk_f7 R3.out.b3).2
  obtain ⟨u0, u1, u2, u3, u4, u5, u6⟩ := blk_7 R3.out.b4
  obtain ⟨v0, v1, v2, v3, v4, v5, v6⟩ := blk_7 R3.out.b5
  go_region
  go_wp2
  exact bodyPost_ret (v := .tuple #[.agg #[.int .i64 sl, .int .i64 cl, .int .i64 pb, .slice go ng gcap, .int .i64 least, .int .i64 sc, .slice so ns scap], .agg #[.int .i64 n, .int .i64 4, .int .i64 claimed, .int .i64 hi, .int .i64 least, .int .i64 a, .int .i64 o], .int .i64 0]) (by simp [results, Tryd.results50, go_sem, *]) rfl ⟨rfl, _, R3.out.res _ _ _ _ _ _ _ _ _ _ _ _ _ _⟩

set_option maxRecDepth 100000 in
set_option maxHeartbeats 16000000 in
theorem r4yes (c : Nat → Nat) (w : World) (sl cl pb sn sc n claimed hi least a o : Int) (go : Option Addr) (ng gcap : Nat) (so : Option Addr) (ns scap : Nat) (h : (cl == claimed) = true) :
    Calls Tryd.prog 50 #[.agg #[.int .i64 sl, .int .i64 cl, .int .i64 pb, .slice go ng gcap, .int .i64 sn, .int .i64 sc, .slice so ns scap], .agg #[.int .i64 n, .int .i64 4, .int .i64 claimed, .int .i64 hi, .int .i64 least, .int .i64 a, .int .i64 o]] w fun e w' => e = .returned (.tuple #[.agg #[.int .i64 sl, .int .i64 hi, .int .i64 hi, .slice go ng gcap, .int .i64 sn, .int .i64 sc, .slice so ns scap], .agg #[.int .i64 n, .int .i64 5, .int .i64 claimed, .int .i64 hi, .int .i64 least, .int .i64 a, .int .i64 o], .int .i64 0]) ∧ ∃ c', Stp (fun _ => False) c c' w w' := by
  obtain ⟨c1, r1⟩ := SB.start c w 9 [.int .i64 sl, .int .i64 cl, .int .i64 pb, .slice go ng gcap, .int .i64 sn, .int .i64 sc, .slice so ns scap] [.int .i64 n, .int .i64 4, .int .i64 claimed, .int .i64 hi, .int .i64 least, .int .i64 a, .int .i64 o]
  have R1 := Lib.hid r1
  obtain ⟨x2, hx2⟩ : ∃ x, x = w.heap.size := ⟨_, rfl⟩
  obtain ⟨x3, hx3⟩ : ∃ x, x = w.heap.size + 1 := ⟨_, rfl⟩
  obtain ⟨x4, hx4⟩ : ∃ x, x = w.heap.size + 2 := ⟨_, rfl⟩
  obtain ⟨x5, hx5⟩ : ∃ x, x = w.heap.size + 3 := ⟨_, rfl⟩
  clear r1
  go_enter Tryd.func50, Tryd.ntmps50
  go_upto_region 1 with fail
  rw [← hx5, ← hx4, ← hx3, ← hx2] at R1
  rw [← hx5, ← hx4, ← hx3, ← hx2]
  clear hx2 hx3 hx4 hx5
  obtain ⟨wb, hwb⟩ : ∃ wb : World, wb = (((w.alloc (.cells #[.int .i64 sl, .int .i64 cl, .int .i64 pb, .slice go ng gcap, .int .i64 sn, .int .i64 sc, .slice so ns scap] 67)).alloc (.cells #[.int .i64 n, .int .i64 4, .int .i64 claimed, .int .i64 hi, .int .i64 least, .int .i64 a, .int .i64 o] 90)).alloc (.cells #[.int .i64 0, .int .i64 0, .int .i64 0, .slice none 0 0, .int .i64 0, .int .i64 0, .slice none 0 0] 67)).alloc (.cells #[.int .i64 0, .int .i64 0, .int .i64 0, .int .i64 0, .int .i64 0, .int .i64 0, .int .i64 0] 90) := ⟨_, rfl⟩
  have R2 := Lib.hid (show SB c w 9 x2 x3 x4 x5 [.int .i64 sl, .int .i64 cl, .int .i64 pb, .slice go ng gcap, .int .i64 sn, .int .i64 sc, .slice so ns scap] [.int .i64 n, .int .i64 4, .int .i64 claimed, .int .i64 hi, .int .i64 least, .int .i64 a, .int .i64 o] c1 wb by rw [hwb]; exact R1.out)
  rw [← hwb]
  clear hwb R1
  obtain ⟨s0, s1, s2, s3, s4, s5, s6⟩ := blk_7 R2.out.b2
  obtain ⟨t0, t1, t2, t3, t4, t5, t6⟩ := blk_7 R2.out.b3
  obtain ⟨e0, e1, e2, e3, e4, e5, e6⟩ := (blk_f7 R2.out.b2).1
  obtain ⟨h0, h1, h2, h3, h4, h5, h6⟩ := (blk_f7 R2.out.b3).1
  obtain ⟨⟨f0, f1, f2, f3, f4, f5, f6⟩, l4⟩ := blk_f7 R2.out.b4
  obtain ⟨⟨g0, g1, g2, g3, g4, g5, g6⟩, l5⟩ := blk_f7 R2.out.b5
  have l2 := (blk_f7 R2.out.b2).2
  have l3 := (blk_f7 R2.out.b3).2
  obtain ⟨u0, u1, u2, u3, u4, u5, u6⟩ := blk_7 R2.out.b4
  obtain ⟨v0, v1, v2, v3, v4, v5, v6⟩ := blk_7 R2.out.b5
  obtain ⟨⟨d23, d24, d25⟩, d34, d35, d45⟩ := R2.out.d
  have d32 : x3 ≠ x2 := d23.symm
  have d54 : x5 ≠ x4 := d45.symm
  have d42 : x4 ≠ x2 := d24.symm
  have d52 : x5 ≠ x2 := d25.symm
  have d43 : x4 ≠ x3 := d34.symm
  have d53 : x5 ≠ x3 := d35.symm
  go_upto_region 30 with fail
  obtain ⟨wc, hwc⟩ : ∃ wc : World, wc = ((((wb.setCell ⟨x3, 1, none⟩ (.int .i64 0)).setCell ⟨x2, 1, none⟩ (.int .i64 hi)).setCell ⟨x2, 2, none⟩ (.int .i64 hi)).setCell ⟨x3, 1, none⟩ (.int .i64 5)) := ⟨_, rfl⟩
  have R3 := Lib.hid (show SB c w 9 x2 x3 x4 x5 [.int .i64 sl, .int .i64 hi, .int .i64 hi, .slice go ng gcap, .int .i64 sn, .int .i64 sc, .slice so ns scap] [.int .i64 n, .int .i64 5, .int .i64 claimed, .int .i64 hi, .int .i64 least, .int .i64 a, .int .i64 o] c1 wc by rw [hwc]; exact ((((R2.out.put3 1 (.int .i64 0)).put2 1 (.int .i64 hi)).put2 2 (.int .i64 hi)).put3 1 (.int .i64 5)))
  rw [← hwc]
  clear hwc s0 s1 s2 s3 s4 s5 s6 t0 t1 t2 t3 t4 t5 t6 e0 e1 e2 e3 e4 e5 e6 h0 h1 h2 h3 h4 h5 h6 f0 f1 f2 f3 f4 f5 f6 l4 g0 g1 g2 g3 g4 g5 g6 l5 l2 l3 u0 u1 u2 u3 u4 u5 u6 v0 v1 v2 v3 v4 v5 v6 R2
  obtain ⟨s0, s1, s2, s3, s4, s5, s6⟩ := blk_7 R3.out.b2
  obtain ⟨t0, t1, t2, t3, t4, t5, t6⟩ := blk_7 R3.out.b3
  obtain ⟨e0, e1, e2, e3, e4, e5, e6⟩ := (blk_f7 R3.out.b2).1
  obtain ⟨h0, h1, h2, h3, h4, h5, h6⟩ := (blk_f7 R3.out.b3).1
  obtain ⟨⟨f0, f1, f2, f3, f4, f5, f6⟩, l4⟩ := blk_f7 R3.out.b4
  obtain ⟨⟨g0, g1, g2, g3, g4, g5, g6⟩, l5⟩ := blk_f7 R3.out.b5
  have l2 := (blk_f7 R3.out.b2).2
  have l3 := (blk_f7 R3.out.b3).2
  obtain ⟨u0, u1, u2, u3, u4, u5, u6⟩ := blk_7 R3.out.b4
  obtain ⟨v0, v1, v2, v3, v4, v5, v6⟩ := blk_7 R3.out.b5
  go_region
  go_wp2
  exact bodyPost_ret (v := .tuple #[.agg #[.int .i64 sl, .int .i64 hi, .int .i64 hi, .slice go ng gcap, .int .i64 sn, .int .i64 sc, .slice so ns scap], .agg #[.int .i64 n, .int .i64 5, .int .i64 claimed, .int .i64 hi, .int .i64 least, .int .i64 a, .int .i64 o], .int .i64 0]) (by simp [results, Tryd.results50, go_sem, *]) rfl ⟨rfl, _, R3.out.res _ _ _ _ _ _ _ _ _ _ _ _ _ _⟩

set_option maxRecDepth 100000 in
set_option maxHeartbeats 16000000 in
theorem r4no (c : Nat → Nat) (w : World) (sl cl pb sn sc n claimed hi least a o : Int) (go : Option Addr) (ng gcap : Nat) (so : Option Addr) (ns scap : Nat) (h : (cl == claimed) = false) :
    Calls Tryd.prog 50 #[.agg #[.int .i64 sl, .int .i64 cl, .int .i64 pb, .slice go ng gcap, .int .i64 sn, .int .i64 sc, .slice so ns scap], .agg #[.int .i64 n, .int .i64 4, .int .i64 claimed, .int .i64 hi, .int .i64 least, .int .i64 a, .int .i64 o]] w fun e w' => e = .returned (.tuple #[.agg #[.int .i64 sl, .int .i64 cl, .int .i64 pb, .slice go ng gcap, .int .i64 sn, .int .i64 sc, .slice so ns scap], .agg #[.int .i64 n, .int .i64 0, .int .i64 claimed, .int .i64 hi, .int .i64 least, .int .i64 a, .int .i64 o], .int .i64 0]) ∧ ∃ c', Stp (fun _ => False) c c' w w' := by
  obtain ⟨c1, r1⟩ := SB.start c w 9 [.int .i64 sl, .int .i64 cl, .int .i64 pb, .slice go ng gcap, .int .i64 sn, .int .i64 sc, .slice so ns scap] [.int .i64 n, .int .i64 4, .int .i64 claimed, .int .i64 hi, .int .i64 least, .int .i64 a, .int .i64 o]
  have R1 := Lib.hid r1
  obtain ⟨x2, hx2⟩ : ∃ x, x = w.heap.size := ⟨_, rfl⟩
  obtain ⟨x3, hx3⟩ : ∃ x, x = w.heap.size + 1 := ⟨_, rfl⟩
  obtain ⟨x4, hx4⟩ : ∃ x, x = w.heap.size + 2 := ⟨_, rfl⟩
  obtain ⟨x5, hx5⟩ : ∃ x, x = w.heap.size + 3 := ⟨_, rfl⟩
  clear r1
  go_enter Tryd.func50, Tryd.ntmps50
  go_upto_region 1 with fail
  rw [← hx5, ← hx4, ← hx3, ← hx2] at R1
  rw [← hx5, ← hx4, ← hx3, ← hx2]
  clear hx2 hx3 hx4 hx5
  obtain ⟨wb, hwb⟩ : ∃ wb : World, wb = (((w.alloc (.cells #[.int .i64 sl, .int .i64 cl, .int .i64 pb, .slice go ng gcap, .int .i64 sn, .int .i64 sc, .slice so ns scap] 67)).alloc (.cells #[.int .i64 n, .int .i64 4, .int .i64 claimed, .int .i64 hi, .int .i64 least, .int .i64 a, .int .i64 o] 90)).alloc (.cells #[.int .i64 0, .int .i64 0, .int .i64 0, .slice none 0 0, .int .i64 0, .int .i64 0, .slice none 0 0] 67)).alloc (.cells #[.int .i64 0, .int .i64 0, .int .i64 0, .int .i64 0, .int .i64 0, .int .i64 0, .int .i64 0] 90) := ⟨_, rfl⟩
  have R2 := Lib.hid (show SB c w 9 x2 x3 x4 x5 [.int .i64 sl, .int .i64 cl, .int .i64 pb, .slice go ng gcap, .int .i64 sn, .int .i64 sc, .slice so ns scap] [.int .i64 n, .int .i64 4, .int .i64 claimed, .int .i64 hi, .int .i64 least, .int .i64 a, .int .i64 o] c1 wb by rw [hwb]; exact R1.out)
  rw [← hwb]
  clear hwb R1
  obtain ⟨s0, s1, s2, s3, s4, s5, s6⟩ := blk_7 R2.out.b2
  obtain ⟨t0, t1, t2, t3, t4, t5, t6⟩ := blk_7 R2.out.b3
  obtain ⟨e0, e1, e2, e3, e4, e5, e6⟩ := (blk_f7 R2.out.b2).1
  obtain ⟨h0, h1, h2, h3, h4, h5, h6⟩ := (blk_f7 R2.out.b3).1
  obtain ⟨⟨f0, f1, f2, f3, f4, f5, f6⟩, l4⟩ := blk_f7 R2.out.b4
  obtain ⟨⟨g0, g1, g2, g3, g4, g5, g6⟩, l5⟩ := blk_f7 R2.out.b5
  have l2 := (blk_f7 R2.out.b2).2
  have l3 := (blk_f7 R2.out.b3).2
  obtain ⟨u0, u1, u2, u3, u4, u5, u6⟩ := blk_7 R2.out.b4
  obtain ⟨v0, v1, v2, v3, v4, v5, v6⟩ := blk_7 R2.out.b5
  obtain ⟨⟨d23, d24, d25⟩, d34, d35, d45⟩ := R2.out.d
  have d32 : x3 ≠ x2 := d23.symm
  have d54 : x5 ≠ x4 := d45.symm
  have d42 : x4 ≠ x2 := d24.symm
  have d52 : x5 ≠ x2 := d25.symm
  have d43 : x4 ≠ x3 := d34.symm
  have d53 : x5 ≠ x3 := d35.symm
  go_upto_region 30 with fail
  obtain ⟨wc, hwc⟩ : ∃ wc : World, wc = (wb.setCell ⟨x3, 1, none⟩ (.int .i64 0)) := ⟨_, rfl⟩
  have R3 := Lib.hid (show SB c w 9 x2 x3 x4 x5 [.int .i64 sl, .int .i64 cl, .int .i64 pb, .slice go ng gcap, .int .i64 sn, .int .i64 sc, .slice so ns scap] [.int .i64 n, .int .i64 0, .int .i64 claimed, .int .i64 hi, .int .i64 least, .int .i64 a, .int .i64 o] c1 wc by rw [hwc]; exact (R2.out.put3 1 (.int .i64 0)))
  rw [← hwc]
  clear hwc s0 s1 s2 s3 s4 s5 s6 t0 t1 t2 t3 t4 t5 t6 e0 e1 e2 e3 e4 e5 e6 h0 h1 h2 h3 h4 h5 h6 f0 f1 f2 f3 f4 f5 f6 l4 g0 g1 g2 g3 g4 g5 g6 l5 l2 l3 u0 u1 u2 u3 u4 u5 u6 v0 v1 v2 v3 v4 v5 v6 R2
  obtain ⟨s0, s1, s2, s3, s4, s5, s6⟩ := blk_7 R3.out.b2
  obtain ⟨t0, t1, t2, t3, t4, t5, t6⟩ := blk_7 R3.out.b3
  obtain ⟨e0, e1, e2, e3, e4, e5, e6⟩ := (blk_f7 R3.out.b2).1
  obtain ⟨h0, h1, h2, h3, h4, h5, h6⟩ := (blk_f7 R3.out.b3).1
  obtain ⟨⟨f0, f1, f2, f3, f4, f5, f6⟩, l4⟩ := blk_f7 R3.out.b4
  obtain ⟨⟨g0, g1, g2, g3, g4, g5, g6⟩, l5⟩ := blk_f7 R3.out.b5
  have l2 := (blk_f7 R3.out.b2).2
  have l3 := (blk_f7 R3.out.b3).2
  obtain ⟨u0, u1, u2, u3, u4, u5, u6⟩ := blk_7 R3.out.b4
  obtain ⟨v0, v1, v2, v3, v4, v5, v6⟩ := blk_7 R3.out.b5
  go_region
  go_wp2
  exact bodyPost_ret (v := .tuple #[.agg #[.int .i64 sl, .int .i64 cl, .int .i64 pb, .slice go ng gcap, .int .i64 sn, .int .i64 sc, .slice so ns scap], .agg #[.int .i64 n, .int .i64 0, .int .i64 claimed, .int .i64 hi, .int .i64 least, .int .i64 a, .int .i64 o], .int .i64 0]) (by simp [results, Tryd.results50, go_sem, *]) rfl ⟨rfl, _, R3.out.res _ _ _ _ _ _ _ _ _ _ _ _ _ _⟩

set_option maxRecDepth 100000 in
set_option maxHeartbeats 16000000 in
theorem r1some (c : Nat → Nat) (w : World) (sl cl pb sn sc n claimed hi least a o : Int) (go : Option Addr) (ng gcap : Nat) (so : Option Addr) (ns scap : Nat) (h : ¬ (hi - sl ≤ sn ∧ sn ≤ claimed)) (hw : wrap64 (hi - sl) = hi - sl) (hg : ((ng : Int) == 0) = false) :
    Calls Tryd.prog 50 #[.agg #[.int .i64 sl, .int .i64 cl, .int .i64 pb, .slice go ng gcap, .int .i64 sn, .int .i64 sc, .slice so ns scap], .agg #[.int .i64 n, .int .i64 1, .int .i64 claimed, .int .i64 hi, .int .i64 least, .int .i64 a, .int .i64 o]] w fun e w' => e = .returned (.tuple #[.agg #[.int .i64 sl, .int .i64 cl, .int .i64 pb, .slice go ng gcap, .int .i64 sn, .int .i64 sc, .slice so ns scap], .agg #[.int .i64 n, .int .i64 2, .int .i64 claimed, .int .i64 hi, .int .i64 claimed, .int .i64 0, .int .i64 ng], .int .i64 0]) ∧ ∃ c', Stp (fun _ => False) c c' w w' := by
  obtain ⟨c1, r1⟩ := SB.start c w 9 [.int .i64 sl, .int .i64 cl, .int .i64 pb, .slice go ng gcap, .int .i64 sn, .int .i64 sc, .slice so ns scap] [.int .i64 n, .int .i64 1, .int .i64 claimed, .int .i64 hi, .int .i64 least, .int .i64 a, .int .i64 o]
  have R1 := Lib.hid r1
  obtain ⟨x2, hx2⟩ : ∃ x, x = w.heap.size := ⟨_, rfl⟩
  obtain ⟨x3, hx3⟩ : ∃ x, x = w.heap.size + 1 := ⟨_, rfl⟩
  obtain ⟨x4, hx4⟩ : ∃ x, x = w.heap.size + 2 := ⟨_, rfl⟩
  obtain ⟨x5, hx5⟩ : ∃ x, x = w.heap.size + 3 := ⟨_, rfl⟩
  clear r1
  go_enter Tryd.func50, Tryd.ntmps50
  go_upto_region 1 with fail
  rw [← hx5, ← hx4, ← hx3, ← hx2] at R1
  rw [← hx5, ← hx4, ← hx3, ← hx2]
  clear hx2 hx3 hx4 hx5
  obtain ⟨wb, hwb⟩ : ∃ wb : World, wb = (((w.alloc (.cells #[.int .i64 sl, .int .i64 cl, .int .i64 pb, .slice go ng gcap, .int .i64 sn, .int .i64 sc, .slice so ns scap] 67)).alloc (.cells #[.int .i64 n, .int .i64 1, .int .i64 claimed, .int .i64 hi, .int .i64 least, .int .i64 a, .int .i64 o] 90)).alloc (.cells #[.int .i64 0, .int .i64 0, .int .i64 0, .slice none 0 0, .int .i64 0, .int .i64 0, .slice none 0 0] 67)).alloc (.cells #[.int .i64 0, .int .i64 0, .int .i64 0, .int .i64 0, .int .i64 0, .int .i64 0, .int .i64 0] 90) := ⟨_, rfl⟩
  have R2 := Lib.hid (show SB c w 9 x2 x3 x4 x5 [.int .i64 sl, .int .i64 cl, .int .i64 pb, .slice go ng gcap, .int .i64 sn, .int .i64 sc, .slice so ns scap] [.int .i64 n, .int .i64 1, .int .i64 claimed, .int .i64 hi, .int .i64 least, .int .i64 a, .int .i64 o] c1 wb by rw [hwb]; exact R1.out)
  rw [← hwb]
  clear hwb R1
  obtain ⟨s0, s1, s2, s3, s4, s5, s6⟩ := blk_7 R2.out.b2
  obtain ⟨t0, t1, t2, t3, t4, t5, t6⟩ := blk_7 R2.out.b3
  obtain ⟨e0, e1, e2, e3, e4, e5, e6⟩ := (blk_f7 R2.out.b2).1
  obtain ⟨h0, h1, h2, h3, h4, h5, h6⟩ := (blk_f7 R2.out.b3).1
  obtain ⟨⟨f0, f1, f2, f3, f4, f5, f6⟩, l4⟩ := blk_f7 R2.out.b4
  obtain ⟨⟨g0, g1, g2, g3, g4, g5, g6⟩, l5⟩ := blk_f7 R2.out.b5
  have l2 := (blk_f7 R2.out.b2).2
  have l3 := (blk_f7 R2.out.b3).2
  obtain ⟨u0, u1, u2, u3, u4, u5, u6⟩ := blk_7 R2.out.b4
  obtain ⟨v0, v1, v2, v3, v4, v5, v6⟩ := blk_7 R2.out.b5
  obtain ⟨⟨d23, d24, d25⟩, d34, d35, d45⟩ := R2.out.d
  have d32 : x3 ≠ x2 := d23.symm
  have d54 : x5 ≠ x4 := d45.symm
  have d42 : x4 ≠ x2 := d24.symm
  have d52 : x5 ≠ x2 := d25.symm
  have d43 : x4 ≠ x3 := d34.symm
  have d53 : x5 ≠ x3 := d35.symm
  rcases (show ¬ (hi - sl ≤ sn) ∨ (hi - sl ≤ sn ∧ ¬ (sn ≤ claimed)) by omega) with k1 | ⟨k1, k2⟩
  all_goals
    clear h
    go_upto_region 12 with fail
    go_region
    obtain ⟨wc, hwc⟩ : ∃ wc : World, wc = ((((wb.setCell ⟨x3, 4, none⟩ (.int .i64 claimed)).setCell ⟨x3, 5, none⟩ (.int .i64 0)).setCell ⟨x3, 6, none⟩ (.int .i64 ng)).setCell ⟨x3, 1, none⟩ (.int .i64 2)).drew := ⟨_, rfl⟩
    have R3 := Lib.hid (show SB c w 9 x2 x3 x4 x5 [.int .i64 sl, .int .i64 cl, .int .i64 pb, .slice go ng gcap, .int .i64 sn, .int .i64 sc, .slice so ns scap] [.int .i64 n, .int .i64 2, .int .i64 claimed, .int .i64 hi, .int .i64 claimed, .int .i64 0, .int .i64 ng] c1 wc by rw [hwc]; exact ((((R2.out.put3 4 (.int .i64 claimed)).put3 5 (.int .i64 0)).put3 6 (.int .i64 ng)).put3 1 (.int .i64 2)).drew)
    rw [← hwc]
    clear hwc s0 s1 s2 s3 s4 s5 s6 t0 t1 t2 t3 t4 t5 t6 e0 e1 e2 e3 e4 e5 e6 h0 h1 h2 h3 h4 h5 h6 f0 f1 f2 f3 f4 f5 f6 l4 g0 g1 g2 g3 g4 g5 g6 l5 l2 l3 u0 u1 u2 u3 u4 u5 u6 v0 v1 v2 v3 v4 v5 v6 R2
    obtain ⟨s0, s1, s2, s3, s4, s5, s6⟩ := blk_7 R3.out.b2
    obtain ⟨t0, t1, t2, t3, t4, t5, t6⟩ := blk_7 R3.out.b3
    obtain ⟨e0, e1, e2, e3, e4, e5, e6⟩ := (blk_f7 R3.out.b2).1
    obtain ⟨h0, h1, h2, h3, h4, h5, h6⟩ := (blk_f7 R3.out.b3).1
    obtain ⟨⟨f0, f1, f2, f3, f4, f5, f6⟩, l4⟩ := blk_f7 R3.out.b4
    obtain ⟨⟨g0, g1, g2, g3, g4, g5, g6⟩, l5⟩ := blk_f7 R3.out.b5
    have l2 := (blk_f7 R3.out.b2).2
    have l3 := (blk_f7 R3.out.b3).2
    obtain ⟨u0, u1, u2, u3, u4, u5, u6⟩ := blk_7 R3.out.b4
    obtain ⟨v0, v1, v2, v3, v4, v5, v6⟩ := blk_7 R3.out.b5
    go_upto_region 30 with fail
    go_region
    go_wp2
    exact bodyPost_ret (v := .tuple #[.agg #[.int .i64 sl, .int .i64 cl, .int .i64 pb, .slice go ng gcap, .int .i64 sn, .int .i64 sc, .slice so ns scap], .agg #[.int .i64 n, .int .i64 2, .int .i64 claimed, .int .i64 hi, .int .i64 claimed, .int .i64 0, .int .i64 ng], .int .i64 0]) (by simp [results, Tryd.results50, go_sem, *]) rfl ⟨rfl, _, R3.out.res _ _ _ _ _ _ _ _ _ _ _ _ _ _⟩
end Go.Proofs.YtoifknfmamcimaaDoor
