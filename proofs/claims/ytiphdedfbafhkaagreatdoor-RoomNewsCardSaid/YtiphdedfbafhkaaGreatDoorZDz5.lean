/- Contracts that the closing theorem wants (Dz5). No condition beyond each law's own. -/
import Derived.Test.YtiphdedfbafhkaaGreatDoorZDoc
namespace Go.Proofs.YtiphdedfbafhkaaGreatDoor
open Go.RowKit

section
variable {c c' : Nat → Nat} {w w' : World} {p tp : Nat} {now : Int} {dl dl' : List Tm} {l l' : List One} {ro : Option Addr} {rcap : Nat} {R : List DR} {i : Nat} {d d' : DR} {a b : Addr}

set_option maxRecDepth 100000 in
theorem r14trynew_none (h : DWR c w p tp now dl l ro rcap R) (k n : Int) (hk : k < 0 ∨ (R.length : Int) ≤ k) :
    Calls Tryz.prog 132 #[.pointer (some ⟨p, 0, none⟩), .int .i64 k, .int .i64 n] w fun e w' => e = .returned (.tuple #[.agg #[.int .i64 0, .int .i64 0, .int .i64 0, .int .i64 0, .int .i64 0, .int .i64 0, .slice none 0 0], .int .i64 3]) ∧ ∃ c', Stp (fun _ => False) c c' w w' := by
  obtain ⟨r4, lp⟩ := h.r4
  have t : decide (k < 0) = true ∨ (decide (k < 0) = false ∧ decide ((R.length : Int) ≤ k) = true) := by
    simp only [decide_eq_true_eq, decide_eq_false_iff_not]; omega
  have SF := Lib.hid ((Stp.refl (fun _ => False) c w).alloc (.cells #[.int .i64 0, .int .i64 0, .int .i64 0, .int .i64 0, .int .i64 0, .int .i64 0, .slice none 0 0] 218) 0)
  clear h hk
  rcases t with g0 | ⟨g0, g1⟩
  all_goals
    go_enter Tryz.func132, Tryz.ntmps132
    go_wp2
    refine bodyPost_ret (v := .tuple #[.agg #[.int .i64 0, .int .i64 0, .int .i64 0, .int .i64 0, .int .i64 0, .int .i64 0, .slice none 0 0], .int .i64 3]) (by clear SF; simp [results, Tryz.results132, go_sem, *]) rfl ⟨rfl, _, SF.out⟩

set_option maxRecDepth 100000 in
theorem r14trynew_arg (h : DWR c w p tp now dl l ro rcap R) (hd : R[i]? = some d) (n : Int) (hn : n < 1 ∨ d.n < n) :
    Calls Tryz.prog 132 #[.pointer (some ⟨p, 0, none⟩), .int .i64 (i : Int), .int .i64 n] w fun e w' => e = .returned (.tuple #[.agg #[.int .i64 0, .int .i64 0, .int .i64 0, .int .i64 0, .int .i64 0, .int .i64 0, .slice none 0 0], .int .i64 1]) ∧ ∃ c', Stp (fun _ => False) c c' w w' := by
  obtain ⟨r4, lp⟩ := h.r4
  obtain ⟨a, rfl, hs, -, k0, k1, k2, k3, k4, -⟩ := h.ringA hd
  obtain ⟨i0, i1⟩ := h.lt hd
  have g0 : decide ((i : Int) < 0) = false := by simp
  have g1 : decide (R.length ≤ i) = false := by simp; omega
  have lb := World.block_lt_of_cell? w _ k0
  have t : decide (n < 1) = true ∨ (decide (n < 1) = false ∧ decide (d.n < n) = true) := by
    simp only [decide_eq_true_eq, decide_eq_false_iff_not]; omega
  have SF := Lib.hid ((Stp.refl (fun _ => False) c w).alloc (.cells #[.int .i64 0, .int .i64 0, .int .i64 0, .int .i64 0, .int .i64 0, .int .i64 0, .slice none 0 0] 218) 0)
  clear h hd hs hn
  rcases t with g2 | ⟨g2, g3⟩
  all_goals
    go_enter Tryz.func132, Tryz.ntmps132
    go_wp2
    refine bodyPost_ret (v := .tuple #[.agg #[.int .i64 0, .int .i64 0, .int .i64 0, .int .i64 0, .int .i64 0, .int .i64 0, .slice none 0 0], .int .i64 1]) (by clear SF; simp [results, Tryz.results132, go_sem, *]) rfl ⟨rfl, _, SF.out⟩

set_option maxRecDepth 100000 in
set_option maxHeartbeats 2000000 in
theorem r14trynew_m (h : DWR c w p tp now dl l ro rcap R) (hd : R[i]? = some d) (hm : d.many = true) (n : Int) (hn : 1 ≤ n ∧ n ≤ d.n) :
    Calls Tryz.prog 132 #[.pointer (some ⟨p, 0, none⟩), .int .i64 (i : Int), .int .i64 n] w fun e w' => e = .returned (.tuple #[.agg #[.int .i64 (i : Int), .int .i64 n, .int .i64 0, .int .i64 0, .int .i64 0, .int .i64 0, .slice none 0 0], .int .i64 0]) ∧ ∃ c', Stp (fun _ => False) c c' w w' := by
  obtain ⟨r4, lp⟩ := h.r4
  obtain ⟨a, rfl, hs, -, k0, k1, k2, k3, k4, -⟩ := h.ringA hd
  obtain ⟨i0, i1⟩ := h.lt hd
  have g0 : decide ((i : Int) < 0) = false := by simp
  have g1 : decide (R.length ≤ i) = false := by simp; omega
  have lb := World.block_lt_of_cell? w _ k0
  have g2 : decide (n < 1) = false := by simp; omega
  have g3 : decide (d.n < n) = false := by simp; omega
  obtain ⟨xb, hxb⟩ : ∃ x, x = w.heap.size := ⟨_, rfl⟩
  have HXB := Lib.hid (show w.heap.size ≤ xb by omega)
  have HYB := Lib.hid (show w.heap.size ≤ xb + 1 by omega)
  obtain ⟨c1, hc1, t1⟩ := ((Stp.refl (fun _ => False) c w).alloc (.cells #[.int .i64 0, .int .i64 0, .int .i64 0, .int .i64 0, .int .i64 0, .int .i64 0, .slice none 0 0] 218) 0).name
  have Y1 := (show Blk c1 0 (w.alloc (.cells #[.int .i64 0, .int .i64 0, .int .i64 0, .int .i64 0, .int .i64 0, .int .i64 0, .slice none 0 0] 218)) xb [.int .i64 0, .int .i64 0, .int .i64 0, .int .i64 0, .int .i64 0, .int .i64 0, .slice none 0 0] 218 by rw [hc1.out, hxb]; exact Blk.new c 0 w _ _)
  obtain ⟨c2, hc2, t2⟩ := ((Stp.refl (fun _ => False) c1 (w.alloc (.cells #[.int .i64 0, .int .i64 0, .int .i64 0, .int .i64 0, .int .i64 0, .int .i64 0, .slice none 0 0] 218))).alloc (.cells #[.int .i64 (i : Int), .int .i64 n, .int .i64 0, .int .i64 0, .int .i64 0, .int .i64 0, .slice none 0 0] 218) 0).name
  have X2 := Lib.hid (show Blk c2 0 ((w.alloc (.cells #[.int .i64 0, .int .i64 0, .int .i64 0, .int .i64 0, .int .i64 0, .int .i64 0, .slice none 0 0] 218)).alloc (.cells #[.int .i64 (i : Int), .int .i64 n, .int .i64 0, .int .i64 0, .int .i64 0, .int .i64 0, .slice none 0 0] 218)) (xb + 1) [.int .i64 (i : Int), .int .i64 n, .int .i64 0, .int .i64 0, .int .i64 0, .int .i64 0, .slice none 0 0] 218 by rw [hc2.out, hxb]; simpa using Blk.new c1 0 (w.alloc (.cells #[.int .i64 0, .int .i64 0, .int .i64 0, .int .i64 0, .int .i64 0, .int .i64 0, .slice none 0 0] 218)) [.int .i64 (i : Int), .int .i64 n, .int .i64 0, .int .i64 0, .int .i64 0, .int .i64 0, .slice none 0 0] 218)
  have Y2 := Lib.hid (Y1.stp t2.out id)
  have T2 := Lib.hid (t1.out.trans t2.out)
  have H2 := Lib.hid (h.stpF T2.out)
  clear Y1 hc1 hc2 t1 t2
  go_enter Tryz.func132, Tryz.ntmps132
  go_upto_region 7 with fail
  simp only [← hxb]
  generalize (w.alloc (.cells #[.int .i64 0, .int .i64 0, .int .i64 0, .int .i64 0, .int .i64 0, .int .i64 0, .slice none 0 0] 218)).alloc (.cells #[.int .i64 (i : Int), .int .i64 n, .int .i64 0, .int .i64 0, .int .i64 0, .int .i64 0, .slice none 0 0] 218) = w2 at X2 Y2 T2 H2 ⊢
  clear hxb r4 lp k0 k1 k2 k3 k4
  obtain ⟨r4, lp⟩ := H2.out.r4
  obtain ⟨a', ha', -, -, k0, k1, k2, k3, k4, -⟩ := H2.out.ringA hd
  cases ha'
  obtain ⟨x0, x1, x2, x3, x4, x5, x6, lx⟩ := bl_7 X2.out
  obtain ⟨f0, f1, f2, f3, f4, f5, f6⟩ := bf_7 X2.out
  obtain ⟨y0, y1, y2, y3, y4, y5, y6, ly⟩ := bl_7 Y2.out
  obtain ⟨e0, e1, e2, e3, e4, e5, e6⟩ := bf_7 Y2.out
  rw [hm] at k1
  have SF := Lib.hid ((((((((T2.out.setNew (p := ⟨xb, 0, none⟩) (.int .i64 (i : Int)) HXB.out).setNew (p := ⟨xb, 1, none⟩) (.int .i64 n) HXB.out).setNew (p := ⟨xb, 2, none⟩) (.int .i64 0) HXB.out).setNew (p := ⟨xb, 3, none⟩) (.int .i64 0) HXB.out).setNew (p := ⟨xb, 4, none⟩) (.int .i64 0) HXB.out).setNew (p := ⟨xb, 5, none⟩) (.int .i64 0) HXB.out).setNew (p := ⟨xb, 6, none⟩) (.slice none 0 0) HXB.out))
  clear h hd hs hn T2 H2 X2 Y2
  go_wp2
  refine bodyPost_ret (v := .tuple #[.agg #[.int .i64 (i : Int), .int .i64 n, .int .i64 0, .int .i64 0, .int .i64 0, .int .i64 0, .slice none 0 0], .int .i64 0]) (by clear SF; simp [results, Tryz.results132, go_sem, *]) rfl ⟨rfl, _, SF.out⟩

set_option maxRecDepth 100000 in
set_option maxHeartbeats 2000000 in
theorem r14trynew_wait (h : DWR c w p tp now dl l ro rcap R) (hd : R[i]? = some d) (hm : d.many = false) (n : Int) (hn : 1 ≤ n ∧ n ≤ d.n) (hb : -1 ≤ d.cl ∧ d.cl ≤ 1099511627776 ∧ d.n ≤ 1048576) (hx : d.seen < d.cl + n - d.n) :
    Calls Tryz.prog 132 #[.pointer (some ⟨p, 0, none⟩), .int .i64 (i : Int), .int .i64 n] w fun e w' => e = .returned (.tuple #[.agg #[.int .i64 (i : Int), .int .i64 n, .int .i64 0, .int .i64 d.cl, .int .i64 (d.cl + n), .int .i64 0, .slice none 0 0], .int .i64 0]) ∧ ∃ c', Stp (fun _ => False) c c' w w' := by
  obtain ⟨r4, lp⟩ := h.r4
  obtain ⟨a, rfl, hs, -, k0, k1, k2, k3, k4, -⟩ := h.ringA hd
  obtain ⟨i0, i1⟩ := h.lt hd
  have g0 : decide ((i : Int) < 0) = false := by simp
  have g1 : decide (R.length ≤ i) = false := by simp; omega
  have lb := World.block_lt_of_cell? w _ k0
  have g2 : decide (n < 1) = false := by simp; omega
  have g3 : decide (d.n < n) = false := by simp; omega
  have g4 : decide (4611686018427387904 - n < d.cl) = false := by simp; omega
  have v1 : wrap64 (4611686018427387904 - n) = 4611686018427387904 - n := IntWalk.wrap64_in _ (by constructor <;> omega)
  have v2 : wrap64 (d.cl + n) = d.cl + n := IntWalk.wrap64_in _ (by constructor <;> omega)
  have v3 : wrap64 (d.cl + n - d.n) = d.cl + n - d.n := IntWalk.wrap64_in _ (by constructor <;> omega)
  have v4 : IntKind.i64.wrap (4611686018427387904 - n) = 4611686018427387904 - n := (IntWalk.i64_left _).trans v1
  have v5 : IntKind.i64.wrap (d.cl + n) = d.cl + n := (IntWalk.i64_left _).trans v2
  have v6 : IntKind.i64.wrap (d.cl + n - d.n) = d.cl + n - d.n := (IntWalk.i64_left _).trans v3
  have g5 : decide (d.cl + n - d.n ≤ d.seen) = false := by simp; omega
  obtain ⟨xb, hxb⟩ : ∃ x, x = w.heap.size := ⟨_, rfl⟩
  have HXB := Lib.hid (show w.heap.size ≤ xb by omega)
  have HYB := Lib.hid (show w.heap.size ≤ xb + 1 by omega)
  obtain ⟨c1, hc1, t1⟩ := ((Stp.refl (fun _ => False) c w).alloc (.cells #[.int .i64 0, .int .i64 0, .int .i64 0, .int .i64 0, .int .i64 0, .int .i64 0, .slice none 0 0] 218) 0).name
  have Y1 := (show Blk c1 0 (w.alloc (.cells #[.int .i64 0, .int .i64 0, .int .i64 0, .int .i64 0, .int .i64 0, .int .i64 0, .slice none 0 0] 218)) xb [.int .i64 0, .int .i64 0, .int .i64 0, .int .i64 0, .int .i64 0, .int .i64 0, .slice none 0 0] 218 by rw [hc1.out, hxb]; exact Blk.new c 0 w _ _)
  obtain ⟨c2, hc2, t2⟩ := ((Stp.refl (fun _ => False) c1 (w.alloc (.cells #[.int .i64 0, .int .i64 0, .int .i64 0, .int .i64 0, .int .i64 0, .int .i64 0, .slice none 0 0] 218))).alloc (.cells #[.int .i64 (i : Int), .int .i64 n, .int .i64 0, .int .i64 0, .int .i64 0, .int .i64 0, .slice none 0 0] 218) 0).name
  have X2 := Lib.hid (show Blk c2 0 ((w.alloc (.cells #[.int .i64 0, .int .i64 0, .int .i64 0, .int .i64 0, .int .i64 0, .int .i64 0, .slice none 0 0] 218)).alloc (.cells #[.int .i64 (i : Int), .int .i64 n, .int .i64 0, .int .i64 0, .int .i64 0, .int .i64 0, .slice none 0 0] 218)) (xb + 1) [.int .i64 (i : Int), .int .i64 n, .int .i64 0, .int .i64 0, .int .i64 0, .int .i64 0, .slice none 0 0] 218 by rw [hc2.out, hxb]; simpa using Blk.new c1 0 (w.alloc (.cells #[.int .i64 0, .int .i64 0, .int .i64 0, .int .i64 0, .int .i64 0, .int .i64 0, .slice none 0 0] 218)) [.int .i64 (i : Int), .int .i64 n, .int .i64 0, .int .i64 0, .int .i64 0, .int .i64 0, .slice none 0 0] 218)
  have Y2 := Lib.hid (Y1.stp t2.out id)
  have T2 := Lib.hid (t1.out.trans t2.out)
  have H2 := Lib.hid (h.stpF T2.out)
  clear Y1 hc1 hc2 t1 t2
  go_enter Tryz.func132, Tryz.ntmps132
  go_upto_region 7 with fail
  simp only [← hxb]
  generalize (w.alloc (.cells #[.int .i64 0, .int .i64 0, .int .i64 0, .int .i64 0, .int .i64 0, .int .i64 0, .slice none 0 0] 218)).alloc (.cells #[.int .i64 (i : Int), .int .i64 n, .int .i64 0, .int .i64 0, .int .i64 0, .int .i64 0, .slice none 0 0] 218) = w2 at X2 Y2 T2 H2 ⊢
  clear hxb r4 lp k0 k1 k2 k3 k4
  obtain ⟨r4, lp⟩ := H2.out.r4
  obtain ⟨a', ha', -, -, k0, k1, k2, k3, k4, -⟩ := H2.out.ringA hd
  cases ha'
  obtain ⟨x0, x1, x2, x3, x4, x5, x6, lx⟩ := bl_7 X2.out
  obtain ⟨f0, f1, f2, f3, f4, f5, f6⟩ := bf_7 X2.out
  obtain ⟨y0, y1, y2, y3, y4, y5, y6, ly⟩ := bl_7 Y2.out
  obtain ⟨e0, e1, e2, e3, e4, e5, e6⟩ := bf_7 Y2.out
  rw [hm] at k1
  have S3 := Lib.hid ((T2.out.setNew (p := ⟨xb + 1, 3, none⟩) (.int .i64 d.cl) HYB.out).setNew (p := ⟨xb + 1, 4, none⟩) (.int .i64 (d.cl + n)) HYB.out)
  have D3 := Lib.hid (H2.out.stp0 (((Stp.refl (· = 0) c2 w2).setCell (p := ⟨xb + 1, 3, none⟩) (.int .i64 d.cl) X2.out.1).setCell (p := ⟨xb + 1, 4, none⟩) (.int .i64 (d.cl + n)) X2.out.1))
  have X3 := Lib.hid ((X2.out.set 3 (.int .i64 d.cl)).set 4 (.int .i64 (d.cl + n)))
  have Y3 := Lib.hid ((Y2.out.other (p := ⟨xb + 1, 3, none⟩) (.int .i64 d.cl) (by simp)).other (p := ⟨xb + 1, 4, none⟩) (.int .i64 (d.cl + n)) (by simp))
  have n1 : (a.add (i * 9)).block ≠ xb := by have := HXB.out; omega
  have n2 : (a.add (i * 9)).block ≠ xb + 1 := by have := HXB.out; omega
  have n3 : xb ≠ (a.add (i * 9)).block := Ne.symm n1
  have n4 : xb + 1 ≠ (a.add (i * 9)).block := Ne.symm n2
  have HD := Lib.hid hd
  have LB := Lib.hid lb
  clear h hd hs hn T2 H2 X2 Y2 hb hx lb
  go_upto_region 13 with fail
  try simp only [v2]
  generalize (w2.setCell ⟨xb + 1, 3, none⟩ (.int .i64 d.cl)).setCell ⟨xb + 1, 4, none⟩ (.int .i64 (d.cl + n)) = w3 at S3 D3 X3 Y3 ⊢
  clear r4 lp k0 k1 k2 k3 k4 x0 x1 x2 x3 x4 x5 x6 lx f0 f1 f2 f3 f4 f5 f6 y0 y1 y2 y3 y4 y5 y6 ly e0 e1 e2 e3 e4 e5 e6
  obtain ⟨r4, lp⟩ := D3.out.r4
  obtain ⟨a', ha', -, -, k0, k1, k2, k3, k4, -⟩ := D3.out.ringA HD.out
  cases ha'
  obtain ⟨x0, x1, x2, x3, x4, x5, x6, lx⟩ := bl_7 X3.out
  obtain ⟨f0, f1, f2, f3, f4, f5, f6⟩ := bf_7 X3.out
  obtain ⟨y0, y1, y2, y3, y4, y5, y6, ly⟩ := bl_7 Y3.out
  obtain ⟨e0, e1, e2, e3, e4, e5, e6⟩ := bf_7 Y3.out
  go_wp2
  go_quiet (fail)
  have S9 := Lib.hid (S3.out.drewN nq)
  have D9 := Lib.hid (D3.out.stpF ((Stp.refl (fun _ => False) c2 w3).drewN nq))
  have X9 := Lib.hid (X3.out.stp ((Stp.refl (fun _ => False) c2 w3).drewN nq) id)
  have Y9 := Lib.hid (Y3.out.stp ((Stp.refl (fun _ => False) c2 w3).drewN nq) id)
  generalize w3.drewN nq = w4 at S9 D9 X9 Y9 ⊢
  clear S3 D3 X3 Y3 r4 lp k0 k1 k2 k3 k4 x0 x1 x2 x3 x4 x5 x6 lx f0 f1 f2 f3 f4 f5 f6 y0 y1 y2 y3 y4 y5 y6 ly e0 e1 e2 e3 e4 e5 e6
  obtain ⟨r4, lp⟩ := D9.out.r4
  obtain ⟨a', ha', -, -, k0, k1, k2, k3, k4, -⟩ := D9.out.ringA HD.out
  cases ha'
  obtain ⟨x0, x1, x2, x3, x4, x5, x6, lx⟩ := bl_7 X9.out
  obtain ⟨f0, f1, f2, f3, f4, f5, f6⟩ := bf_7 X9.out
  obtain ⟨y0, y1, y2, y3, y4, y5, y6, ly⟩ := bl_7 Y9.out
  obtain ⟨e0, e1, e2, e3, e4, e5, e6⟩ := bf_7 Y9.out
  have SF := Lib.hid ((((((((S9.out.setNew (p := ⟨xb, 0, none⟩) (.int .i64 (i : Int)) HXB.out).setNew (p := ⟨xb, 1, none⟩) (.int .i64 n) HXB.out).setNew (p := ⟨xb, 2, none⟩) (.int .i64 0) HXB.out).setNew (p := ⟨xb, 3, none⟩) (.int .i64 d.cl) HXB.out).setNew (p := ⟨xb, 4, none⟩) (.int .i64 (d.cl + n)) HXB.out).setNew (p := ⟨xb, 5, none⟩) (.int .i64 0) HXB.out).setNew (p := ⟨xb, 6, none⟩) (.slice none 0 0) HXB.out))
  clear S9 D9 X9 Y9
  go_wp2
  refine bodyPost_ret (v := .tuple #[.agg #[.int .i64 (i : Int), .int .i64 n, .int .i64 0, .int .i64 d.cl, .int .i64 (d.cl + n), .int .i64 0, .slice none 0 0], .int .i64 0]) (by clear SF; simp [results, Tryz.results132, go_sem, *]) rfl ⟨rfl, _, SF.out⟩

set_option maxRecDepth 100000 in
set_option maxHeartbeats 2000000 in
theorem r14trynew_done (h : DWR c w p tp now dl l ro rcap R) (hd : R[i]? = some d) (hm : d.many = false) (n : Int) (hn : 1 ≤ n ∧ n ≤ d.n) (hb : -1 ≤ d.cl ∧ d.cl ≤ 1099511627776 ∧ d.n ≤ 1048576) (hx : d.cl + n - d.n ≤ d.seen) (hy : d.seen ≤ d.cl) :
    Calls Tryz.prog 132 #[.pointer (some ⟨p, 0, none⟩), .int .i64 (i : Int), .int .i64 n] w fun e w' => e = .returned (.tuple #[.agg #[.int .i64 (i : Int), .int .i64 n, .int .i64 5, .int .i64 d.cl, .int .i64 (d.cl + n), .int .i64 0, .slice none 0 0], .int .i64 0]) ∧ ∃ c', Stp (· = 12) c c' w w' ∧ DWR c' w' p tp now dl l ro rcap (R.set i { d with cl := d.cl + n }) := by
  obtain ⟨r4, lp⟩ := h.r4
  obtain ⟨a, rfl, hs, -, k0, k1, k2, k3, k4, -⟩ := h.ringA hd
  obtain ⟨i0, i1⟩ := h.lt hd
  have g0 : decide ((i : Int) < 0) = false := by simp
  have g1 : decide (R.length ≤ i) = false := by simp; omega
  have lb := World.block_lt_of_cell? w _ k0
  have g2 : decide (n < 1) = false := by simp; omega
  have g3 : decide (d.n < n) = false := by simp; omega
  have g4 : decide (4611686018427387904 - n < d.cl) = false := by simp; omega
  have v1 : wrap64 (4611686018427387904 - n) = 4611686018427387904 - n := IntWalk.wrap64_in _ (by constructor <;> omega)
  have v2 : wrap64 (d.cl + n) = d.cl + n := IntWalk.wrap64_in _ (by constructor <;> omega)
  have v3 : wrap64 (d.cl + n - d.n) = d.cl + n - d.n := IntWalk.wrap64_in _ (by constructor <;> omega)
  have v4 : IntKind.i64.wrap (4611686018427387904 - n) = 4611686018427387904 - n := (IntWalk.i64_left _).trans v1
  have v5 : IntKind.i64.wrap (d.cl + n) = d.cl + n := (IntWalk.i64_left _).trans v2
  have v6 : IntKind.i64.wrap (d.cl + n - d.n) = d.cl + n - d.n := (IntWalk.i64_left _).trans v3
  have g5 : decide (d.cl + n - d.n ≤ d.seen) = true := by simpa using hx
  have g6 : decide (d.seen ≤ d.cl) = true := by simpa using hy
  obtain ⟨xb, hxb⟩ : ∃ x, x = w.heap.size := ⟨_, rfl⟩
  have HXB := Lib.hid (show w.heap.size ≤ xb by omega)
  have HYB := Lib.hid (show w.heap.size ≤ xb + 1 by omega)
  obtain ⟨c1, hc1, t1⟩ := ((Stp.refl (fun _ => False) c w).alloc (.cells #[.int .i64 0, .int .i64 0, .int .i64 0, .int .i64 0, .int .i64 0, .int .i64 0, .slice none 0 0] 218) 0).name
  have Y1 := (show Blk c1 0 (w.alloc (.cells #[.int .i64 0, .int .i64 0, .int .i64 0, .int .i64 0, .int .i64 0, .int .i64 0, .slice none 0 0] 218)) xb [.int .i64 0, .int .i64 0, .int .i64 0, .int .i64 0, .int .i64 0, .int .i64 0, .slice none 0 0] 218 by rw [hc1.out, hxb]; exact Blk.new c 0 w _ _)
  obtain ⟨c2, hc2, t2⟩ := ((Stp.refl (fun _ => False) c1 (w.alloc (.cells #[.int .i64 0, .int .i64 0, .int .i64 0, .int .i64 0, .int .i64 0, .int .i64 0, .slice none 0 0] 218))).alloc (.cells #[.int .i64 (i : Int), .int .i64 n, .int .i64 0, .int .i64 0, .int .i64 0, .int .i64 0, .slice none 0 0] 218) 0).name
  have X2 := Lib.hid (show Blk c2 0 ((w.alloc (.cells #[.int .i64 0, .int .i64 0, .int .i64 0, .int .i64 0, .int .i64 0, .int .i64 0, .slice none 0 0] 218)).alloc (.cells #[.int .i64 (i : Int), .int .i64 n, .int .i64 0, .int .i64 0, .int .i64 0, .int .i64 0, .slice none 0 0] 218)) (xb + 1) [.int .i64 (i : Int), .int .i64 n, .int .i64 0, .int .i64 0, .int .i64 0, .int .i64 0, .slice none 0 0] 218 by rw [hc2.out, hxb]; simpa using Blk.new c1 0 (w.alloc (.cells #[.int .i64 0, .int .i64 0, .int .i64 0, .int .i64 0, .int .i64 0, .int .i64 0, .slice none 0 0] 218)) [.int .i64 (i : Int), .int .i64 n, .int .i64 0, .int .i64 0, .int .i64 0, .int .i64 0, .slice none 0 0] 218)
  have Y2 := Lib.hid (Y1.stp t2.out id)
  have T2 := Lib.hid (t1.out.trans t2.out)
  have H2 := Lib.hid (h.stpF T2.out)
  clear Y1 hc1 hc2 t1 t2
  go_enter Tryz.func132, Tryz.ntmps132
  go_upto_region 7 with fail
  simp only [← hxb]
  generalize (w.alloc (.cells #[.int .i64 0, .int .i64 0, .int .i64 0, .int .i64 0, .int .i64 0, .int .i64 0, .slice none 0 0] 218)).alloc (.cells #[.int .i64 (i : Int), .int .i64 n, .int .i64 0, .int .i64 0, .int .i64 0, .int .i64 0, .slice none 0 0] 218) = w2 at X2 Y2 T2 H2 ⊢
  clear hxb r4 lp k0 k1 k2 k3 k4
  obtain ⟨r4, lp⟩ := H2.out.r4
  obtain ⟨a', ha', -, -, k0, k1, k2, k3, k4, -⟩ := H2.out.ringA hd
  cases ha'
  obtain ⟨x0, x1, x2, x3, x4, x5, x6, lx⟩ := bl_7 X2.out
  obtain ⟨f0, f1, f2, f3, f4, f5, f6⟩ := bf_7 X2.out
  obtain ⟨y0, y1, y2, y3, y4, y5, y6, ly⟩ := bl_7 Y2.out
  obtain ⟨e0, e1, e2, e3, e4, e5, e6⟩ := bf_7 Y2.out
  rw [hm] at k1
  have S3 := Lib.hid ((T2.out.setNew (p := ⟨xb + 1, 3, none⟩) (.int .i64 d.cl) HYB.out).setNew (p := ⟨xb + 1, 4, none⟩) (.int .i64 (d.cl + n)) HYB.out)
  have D3 := Lib.hid (H2.out.stp0 (((Stp.refl (· = 0) c2 w2).setCell (p := ⟨xb + 1, 3, none⟩) (.int .i64 d.cl) X2.out.1).setCell (p := ⟨xb + 1, 4, none⟩) (.int .i64 (d.cl + n)) X2.out.1))
  have X3 := Lib.hid ((X2.out.set 3 (.int .i64 d.cl)).set 4 (.int .i64 (d.cl + n)))
  have Y3 := Lib.hid ((Y2.out.other (p := ⟨xb + 1, 3, none⟩) (.int .i64 d.cl) (by simp)).other (p := ⟨xb + 1, 4, none⟩) (.int .i64 (d.cl + n)) (by simp))
  have n1 : (a.add (i * 9)).block ≠ xb := by have := HXB.out; omega
  have n2 : (a.add (i * 9)).block ≠ xb + 1 := by have := HXB.out; omega
  have n3 : xb ≠ (a.add (i * 9)).block := Ne.symm n1
  have n4 : xb + 1 ≠ (a.add (i * 9)).block := Ne.symm n2
  have HD := Lib.hid hd
  have LB := Lib.hid lb
  clear h hd hs hn T2 H2 X2 Y2 hb hx hy lb
  go_upto_region 13 with fail
  try simp only [v2]
  generalize (w2.setCell ⟨xb + 1, 3, none⟩ (.int .i64 d.cl)).setCell ⟨xb + 1, 4, none⟩ (.int .i64 (d.cl + n)) = w3 at S3 D3 X3 Y3 ⊢
  clear r4 lp k0 k1 k2 k3 k4 x0 x1 x2 x3 x4 x5 x6 lx f0 f1 f2 f3 f4 f5 f6 y0 y1 y2 y3 y4 y5 y6 ly e0 e1 e2 e3 e4 e5 e6
  obtain ⟨r4, lp⟩ := D3.out.r4
  obtain ⟨a', ha', -, -, k0, k1, k2, k3, k4, -⟩ := D3.out.ringA HD.out
  cases ha'
  obtain ⟨x0, x1, x2, x3, x4, x5, x6, lx⟩ := bl_7 X3.out
  obtain ⟨f0, f1, f2, f3, f4, f5, f6⟩ := bf_7 X3.out
  obtain ⟨y0, y1, y2, y3, y4, y5, y6, ly⟩ := bl_7 Y3.out
  obtain ⟨e0, e1, e2, e3, e4, e5, e6⟩ := bf_7 Y3.out
  go_wp2
  go_quiet (fail)
  have S9 := Lib.hid (S3.out.drewN nq)
  have D9 := Lib.hid (D3.out.stpF ((Stp.refl (fun _ => False) c2 w3).drewN nq))
  have X9 := Lib.hid (X3.out.stp ((Stp.refl (fun _ => False) c2 w3).drewN nq) id)
  have Y9 := Lib.hid (Y3.out.stp ((Stp.refl (fun _ => False) c2 w3).drewN nq) id)
  generalize w3.drewN nq = w4 at S9 D9 X9 Y9 ⊢
  clear S3 D3 X3 Y3 r4 lp k0 k1 k2 k3 k4 x0 x1 x2 x3 x4 x5 x6 lx f0 f1 f2 f3 f4 f5 f6 y0 y1 y2 y3 y4 y5 y6 ly e0 e1 e2 e3 e4 e5 e6
  obtain ⟨r4, lp⟩ := D9.out.r4
  obtain ⟨a', ha', -, -, k0, k1, k2, k3, k4, -⟩ := D9.out.ringA HD.out
  cases ha'
  obtain ⟨x0, x1, x2, x3, x4, x5, x6, lx⟩ := bl_7 X9.out
  obtain ⟨f0, f1, f2, f3, f4, f5, f6⟩ := bf_7 X9.out
  obtain ⟨y0, y1, y2, y3, y4, y5, y6, ly⟩ := bl_7 Y9.out
  obtain ⟨e0, e1, e2, e3, e4, e5, e6⟩ := bf_7 Y9.out
  have P4 := D9.out.put (d' := { d with cl := d.cl + n }) (f := 2) (v := .int .i64 (d.cl + n)) (u := .int .i64 d.cl) HD.out rfl rfl (D9.out.rs.sh i d HD.out)
  have S4 := (S9.out.mono (J' := (· = 12)) (fun _ h => h.elim)).trans P4.1
  have S5 := S4.setNew (p := ⟨xb + 1, 2, none⟩) (.int .i64 5) HYB.out
  have D5 := P4.2.stp0 ((Stp.refl (· = 0) c2 _).setCell (p := ⟨xb + 1, 2, none⟩) (.int .i64 5) X9.out.1)
  have SF := Lib.hid ((((((((S5.setNew (p := ⟨xb, 0, none⟩) (.int .i64 (i : Int)) HXB.out).setNew (p := ⟨xb, 1, none⟩) (.int .i64 n) HXB.out).setNew (p := ⟨xb, 2, none⟩) (.int .i64 5) HXB.out).setNew (p := ⟨xb, 3, none⟩) (.int .i64 d.cl) HXB.out).setNew (p := ⟨xb, 4, none⟩) (.int .i64 (d.cl + n)) HXB.out).setNew (p := ⟨xb, 5, none⟩) (.int .i64 0) HXB.out).setNew (p := ⟨xb, 6, none⟩) (.slice none 0 0) HXB.out))
  have HH := Lib.hid ((D5.stp0 (((((((((Stp.refl (· = 0) c2 _).setCell (p := ⟨xb, 0, none⟩) (.int .i64 (i : Int)) Y9.out.1).setCell (p := ⟨xb, 1, none⟩) (.int .i64 n) Y9.out.1).setCell (p := ⟨xb, 2, none⟩) (.int .i64 5) Y9.out.1).setCell (p := ⟨xb, 3, none⟩) (.int .i64 d.cl) Y9.out.1).setCell (p := ⟨xb, 4, none⟩) (.int .i64 (d.cl + n)) Y9.out.1).setCell (p := ⟨xb, 5, none⟩) (.int .i64 0) Y9.out.1).setCell (p := ⟨xb, 6, none⟩) (.slice none 0 0) Y9.out.1))))
  have fz2 := row_cellF D9.out.rs.rr HD.out (f := 2) (by decide) rfl
  have lr : (a.add (i * 9)).block < w4.heap.size := by have := S9.out.size; have := LB.out; omega
  clear P4 S4 S5 D5
  clear S9 D9 X9 Y9
  go_wp2
  refine bodyPost_ret (v := .tuple #[.agg #[.int .i64 (i : Int), .int .i64 n, .int .i64 5, .int .i64 d.cl, .int .i64 (d.cl + n), .int .i64 0, .slice none 0 0], .int .i64 0]) (by clear SF HH; simp [results, Tryz.results132, go_sem, *]) rfl ⟨rfl, _, SF.out, HH.out⟩
end
end Go.Proofs.YtiphdedfbafhkaaGreatDoor
