/- Contracts that the closing theorem wants (Dz4). No condition beyond each law's own. -/
import Derived.Test.YtiphdedfbafhkaaGreatDoorZDoc
import Derived.Deep.RegionLaw
namespace Go.Proofs.YtiphdedfbafhkaaGreatDoor
open Go.RowKit

section
variable {c c' : Nat → Nat} {w w' : World} {p tp : Nat} {now : Int} {dl dl' : List Tm} {l l' : List One} {ro : Option Addr} {rcap : Nat} {R : List DR} {i : Nat} {d d' : DR} {a b : Addr}

set_option maxRecDepth 100000 in
set_option maxHeartbeats 4000000 in
theorem r14scan_m (h : DWR c w p tp now dl l ro rcap R) (hd : R[i]? = some d) (hm : d.many = true) (n cl hi st0 le0 le : Int) (hv : wrap64 (hi - d.n) = hi - d.n) (hf : hi - d.n ≤ le) :
    Calls Tryz.prog 149 #[.pointer (some ⟨p, 0, none⟩), .agg #[.int .i64 (i : Int), .int .i64 n, .int .i64 st0, .int .i64 cl, .int .i64 hi, .int .i64 le0, .slice none 0 0], .int .i64 le] w fun e w' => e = .returned (.agg #[.int .i64 (i : Int), .int .i64 n, .int .i64 3, .int .i64 cl, .int .i64 hi, .int .i64 le, .slice none 0 0]) ∧ ∃ c', Stp (· = 12) c c' w w' ∧ DWR c' w' p tp now dl l ro rcap R := by
  obtain ⟨i0, i1⟩ := h.lt hd
  obtain ⟨xb, hxb⟩ : ∃ x, x = w.heap.size := ⟨_, rfl⟩
  have HXB := Lib.hid (show w.heap.size ≤ xb by omega)
  obtain ⟨c1, hc1, t1⟩ := ((Stp.refl (fun _ => False) c w).alloc (.cells #[.int .i64 (i : Int), .int .i64 n, .int .i64 st0, .int .i64 cl, .int .i64 hi, .int .i64 le0, .slice none 0 0] 218) 0).name
  have X1 := (show Blk c1 0 (w.alloc (.cells #[.int .i64 (i : Int), .int .i64 n, .int .i64 st0, .int .i64 cl, .int .i64 hi, .int .i64 le0, .slice none 0 0] 218)) xb [.int .i64 (i : Int), .int .i64 n, .int .i64 st0, .int .i64 cl, .int .i64 hi, .int .i64 le0, .slice none 0 0] 218 by rw [hc1.out, hxb]; exact Blk.new c 0 w _ _)
  obtain ⟨c2, hc2, t2⟩ := ((Stp.refl (fun _ => False) c1 (w.alloc (.cells #[.int .i64 (i : Int), .int .i64 n, .int .i64 st0, .int .i64 cl, .int .i64 hi, .int .i64 le0, .slice none 0 0] 218))).alloc (.cells #[.int .i64 0, .int .i64 0, .int .i64 0, .int .i64 0, .int .i64 0, .int .i64 0, .slice none 0 0] 218) 0).name
  have Y2 := Lib.hid (show Blk c2 0 ((w.alloc (.cells #[.int .i64 (i : Int), .int .i64 n, .int .i64 st0, .int .i64 cl, .int .i64 hi, .int .i64 le0, .slice none 0 0] 218)).alloc (.cells #[.int .i64 0, .int .i64 0, .int .i64 0, .int .i64 0, .int .i64 0, .int .i64 0, .slice none 0 0] 218)) (xb + 1) [.int .i64 0, .int .i64 0, .int .i64 0, .int .i64 0, .int .i64 0, .int .i64 0, .slice none 0 0] 218 by rw [hc2.out, hxb]; simpa using Blk.new c1 0 (w.alloc (.cells #[.int .i64 (i : Int), .int .i64 n, .int .i64 st0, .int .i64 cl, .int .i64 hi, .int .i64 le0, .slice none 0 0] 218)) [.int .i64 0, .int .i64 0, .int .i64 0, .int .i64 0, .int .i64 0, .int .i64 0, .slice none 0 0] 218)
  have X2 := Lib.hid (X1.stp t2.out id)
  have T2 := Lib.hid (t1.out.trans t2.out)
  have H2 := Lib.hid (h.stpF T2.out)
  clear X1 hc1 hc2 t1 t2
  go_enter Tryz.func149, Tryz.ntmps149
  go_upto_region 1 with fail
  simp only [← hxb]
  generalize (w.alloc (.cells #[.int .i64 (i : Int), .int .i64 n, .int .i64 st0, .int .i64 cl, .int .i64 hi, .int .i64 le0, .slice none 0 0] 218)).alloc (.cells #[.int .i64 0, .int .i64 0, .int .i64 0, .int .i64 0, .int .i64 0, .int .i64 0, .slice none 0 0] 218) = w2 at X2 Y2 T2 H2 ⊢
  clear hxb
  obtain ⟨r4, lp⟩ := H2.out.r4
  obtain ⟨a, rfl, hs, -, k0, k1, k2, k3, k4, -⟩ := H2.out.ringA hd
  obtain ⟨-, k7⟩ := H2.out.ring67 hd
  obtain ⟨x0, x1, x2, x3, x4, x5, x6, lx⟩ := bl_7 X2.out
  obtain ⟨f0, f1, f2, f3, f4, f5, f6⟩ := bf_7 X2.out
  have lb : (a.add (i * 9)).block < w.heap.size := by
    obtain ⟨a', ha', hb'⟩ : ∃ a', some a = some a' ∧ (a'.add (i * 9)).block < w.heap.size := by
      obtain ⟨a', ha', -, -, z0, -⟩ := h.ringA hd
      exact ⟨a', ha', World.block_lt_of_cell? w _ z0⟩
    cases ha'
    exact hb'
  have n1 : (a.add (i * 9)).block ≠ xb := by have := HXB.out; omega
  have n3 : xb ≠ (a.add (i * 9)).block := Ne.symm n1
  have HYB := Lib.hid (show w.heap.size ≤ xb + 1 by have := HXB.out; omega)
  have q5 := (((((Stp.refl (· = 0) c2 w2).setCell (p := ⟨xb, 5, none⟩) (.int .i64 le) X2.out.1).setCell (p := ⟨xb, 2, none⟩) (.int .i64 2) X2.out.1).setCell (p := ⟨xb, 6, none⟩) (.slice none 0 0) X2.out.1).setCell (p := ⟨xb, 6, none⟩) (.slice none 0 0) X2.out.1).drew
  have D5 := Lib.hid (H2.out.stp0 q5)
  have S5 := Lib.hid (((((T2.out.setNew (p := ⟨xb, 5, none⟩) (.int .i64 le) HXB.out).setNew (p := ⟨xb, 2, none⟩) (.int .i64 2) HXB.out).setNew (p := ⟨xb, 6, none⟩) (.slice none 0 0) HXB.out).setNew (p := ⟨xb, 6, none⟩) (.slice none 0 0) HXB.out).drew)
  have X5 := Lib.hid (((((X2.out.set 5 (.int .i64 le)).set 2 (.int .i64 2)).set 6 (.slice none 0 0)).set 6 (.slice none 0 0)).stp (Stp.refl (fun _ => False) c2 _).drew id)
  have Y5 := Lib.hid (((((Y2.out.other (p := ⟨xb, 5, none⟩) (.int .i64 le) (by simp)).other (p := ⟨xb, 2, none⟩) (.int .i64 2) (by simp)).other (p := ⟨xb, 6, none⟩) (.slice none 0 0) (by simp)).other (p := ⟨xb, 6, none⟩) (.slice none 0 0) (by simp)).stp (Stp.refl (fun _ => False) c2 _).drew id)
  have HD := Lib.hid hd
  have HM := Lib.hid hm
  have HV := Lib.hid hv
  have HF := Lib.hid hf
  clear h hd hm hv hf hs k0 k1 k2 k3 k4 q5 H2 T2 X2 Y2 lb
  go_wp2
  go_region
  go_upto_region 5 with fail
  generalize ((((w2.setCell ⟨xb, 5, none⟩ (.int .i64 le)).setCell ⟨xb, 2, none⟩ (.int .i64 2)).setCell ⟨xb, 6, none⟩ (.slice none 0 0)).setCell ⟨xb, 6, none⟩ (.slice none 0 0)).drew = w5 at D5 S5 X5 Y5 ⊢
  clear r4 lp k7 x0 x1 x2 x3 x4 x5 x6 lx f0 f1 f2 f3 f4 f5 f6 n1 n3
  obtain ⟨x0, x1, x2, x3, x4, x5, x6, lx⟩ := bl_7 (v0 := .int .i64 (i : Int)) (v1 := .int .i64 n) (v2 := .int .i64 2) (v3 := .int .i64 cl) (v4 := .int .i64 hi) (v5 := .int .i64 le) (v6 := .slice none 0 0) X5.out
  go_wp2_with fail
  refine (r14judge_m D5.out HD.out HM.out n cl hi le HV.out HF.out).mono ?_
  rintro e w6 ⟨rfl, c6, t6, d6⟩
  have S6 := Lib.hid ((S5.out.mono (J' := (· = 12)) (fun _ h => h.elim)).trans (t6.mono (fun _ h => h.elim)))
  have Y6 := Lib.hid (Y5.out.stp t6 id)
  have D6 := Lib.hid d6
  clear t6 d6 x0 x1 x2 x3 x4 x5 x6 lx Y5 X5 S5 D5
  obtain ⟨y0, y1, y2, y3, y4, y5, y6, ly⟩ := bl_7 Y6.out
  obtain ⟨e0, e1, e2, e3, e4, e5, e6⟩ := bf_7 Y6.out
  have HH := Lib.hid (D6.out.stp0 (((((((((Stp.refl (· = 0) c6 _).setCell (p := ⟨xb + 1, 0, none⟩) (.int .i64 (i : Int)) Y6.out.1).setCell (p := ⟨xb + 1, 1, none⟩) (.int .i64 n) Y6.out.1).setCell (p := ⟨xb + 1, 2, none⟩) (.int .i64 3) Y6.out.1).setCell (p := ⟨xb + 1, 3, none⟩) (.int .i64 cl) Y6.out.1).setCell (p := ⟨xb + 1, 4, none⟩) (.int .i64 hi) Y6.out.1).setCell (p := ⟨xb + 1, 5, none⟩) (.int .i64 le) Y6.out.1).setCell (p := ⟨xb + 1, 6, none⟩) (.slice none 0 0) Y6.out.1)))
  have SF := Lib.hid ((((((((S6.out.setNew (p := ⟨xb + 1, 0, none⟩) (.int .i64 (i : Int)) HYB.out).setNew (p := ⟨xb + 1, 1, none⟩) (.int .i64 n) HYB.out).setNew (p := ⟨xb + 1, 2, none⟩) (.int .i64 3) HYB.out).setNew (p := ⟨xb + 1, 3, none⟩) (.int .i64 cl) HYB.out).setNew (p := ⟨xb + 1, 4, none⟩) (.int .i64 hi) HYB.out).setNew (p := ⟨xb + 1, 5, none⟩) (.int .i64 le) HYB.out).setNew (p := ⟨xb + 1, 6, none⟩) (.slice none 0 0) HYB.out))
  clear D6 S6 Y6
  go_wp2
  refine bodyPost_ret (v := .agg #[.int .i64 (i : Int), .int .i64 n, .int .i64 3, .int .i64 cl, .int .i64 hi, .int .i64 le, .slice none 0 0]) (by clear SF HH HXB HYB HD HM HV HF; simp [results, Tryz.results149, go_sem, *]) rfl ⟨rfl, c6, SF.out, HH.out⟩

set_option maxRecDepth 100000 in
set_option maxHeartbeats 4000000 in
theorem r14scan_sok (h : DWR c w p tp now dl l ro rcap R) (hd : R[i]? = some d) (hm : d.many = false) (n cl hi st0 le0 le : Int) (hv : wrap64 (hi - d.n) = hi - d.n) (hf : hi - d.n ≤ le) :
    Calls Tryz.prog 149 #[.pointer (some ⟨p, 0, none⟩), .agg #[.int .i64 (i : Int), .int .i64 n, .int .i64 st0, .int .i64 cl, .int .i64 hi, .int .i64 le0, .slice none 0 0], .int .i64 le] w fun e w' => e = .returned (.agg #[.int .i64 (i : Int), .int .i64 n, .int .i64 5, .int .i64 cl, .int .i64 hi, .int .i64 le, .slice none 0 0]) ∧ ∃ c', Stp (· = 12) c c' w w' ∧ DWR c' w' p tp now dl l ro rcap (R.set i { d with seen := le, cl := hi }) := by
  obtain ⟨i0, i1⟩ := h.lt hd
  obtain ⟨xb, hxb⟩ : ∃ x, x = w.heap.size := ⟨_, rfl⟩
  have HXB := Lib.hid (show w.heap.size ≤ xb by omega)
  obtain ⟨c1, hc1, t1⟩ := ((Stp.refl (fun _ => False) c w).alloc (.cells #[.int .i64 (i : Int), .int .i64 n, .int .i64 st0, .int .i64 cl, .int .i64 hi, .int .i64 le0, .slice none 0 0] 218) 0).name
  have X1 := (show Blk c1 0 (w.alloc (.cells #[.int .i64 (i : Int), .int .i64 n, .int .i64 st0, .int .i64 cl, .int .i64 hi, .int .i64 le0, .slice none 0 0] 218)) xb [.int .i64 (i : Int), .int .i64 n, .int .i64 st0, .int .i64 cl, .int .i64 hi, .int .i64 le0, .slice none 0 0] 218 by rw [hc1.out, hxb]; exact Blk.new c 0 w _ _)
  obtain ⟨c2, hc2, t2⟩ := ((Stp.refl (fun _ => False) c1 (w.alloc (.cells #[.int .i64 (i : Int), .int .i64 n, .int .i64 st0, .int .i64 cl, .int .i64 hi, .int .i64 le0, .slice none 0 0] 218))).alloc (.cells #[.int .i64 0, .int .i64 0, .int .i64 0, .int .i64 0, .int .i64 0, .int .i64 0, .slice none 0 0] 218) 0).name
  have Y2 := Lib.hid (show Blk c2 0 ((w.alloc (.cells #[.int .i64 (i : Int), .int .i64 n, .int .i64 st0, .int .i64 cl, .int .i64 hi, .int .i64 le0, .slice none 0 0] 218)).alloc (.cells #[.int .i64 0, .int .i64 0, .int .i64 0, .int .i64 0, .int .i64 0, .int .i64 0, .slice none 0 0] 218)) (xb + 1) [.int .i64 0, .int .i64 0, .int .i64 0, .int .i64 0, .int .i64 0, .int .i64 0, .slice none 0 0] 218 by rw [hc2.out, hxb]; simpa using Blk.new c1 0 (w.alloc (.cells #[.int .i64 (i : Int), .int .i64 n, .int .i64 st0, .int .i64 cl, .int .i64 hi, .int .i64 le0, .slice none 0 0] 218)) [.int .i64 0, .int .i64 0, .int .i64 0, .int .i64 0, .int .i64 0, .int .i64 0, .slice none 0 0] 218)
  have X2 := Lib.hid (X1.stp t2.out id)
  have T2 := Lib.hid (t1.out.trans t2.out)
  have H2 := Lib.hid (h.stpF T2.out)
  clear X1 hc1 hc2 t1 t2
  go_enter Tryz.func149, Tryz.ntmps149
  go_upto_region 1 with fail
  simp only [← hxb]
  generalize (w.alloc (.cells #[.int .i64 (i : Int), .int .i64 n, .int .i64 st0, .int .i64 cl, .int .i64 hi, .int .i64 le0, .slice none 0 0] 218)).alloc (.cells #[.int .i64 0, .int .i64 0, .int .i64 0, .int .i64 0, .int .i64 0, .int .i64 0, .slice none 0 0] 218) = w2 at X2 Y2 T2 H2 ⊢
  clear hxb
  obtain ⟨r4, lp⟩ := H2.out.r4
  obtain ⟨a, rfl, hs, -, k0, k1, k2, k3, k4, -⟩ := H2.out.ringA hd
  obtain ⟨-, k7⟩ := H2.out.ring67 hd
  obtain ⟨x0, x1, x2, x3, x4, x5, x6, lx⟩ := bl_7 X2.out
  obtain ⟨f0, f1, f2, f3, f4, f5, f6⟩ := bf_7 X2.out
  have lb : (a.add (i * 9)).block < w.heap.size := by
    obtain ⟨a', ha', hb'⟩ : ∃ a', some a = some a' ∧ (a'.add (i * 9)).block < w.heap.size := by
      obtain ⟨a', ha', -, -, z0, -⟩ := h.ringA hd
      exact ⟨a', ha', World.block_lt_of_cell? w _ z0⟩
    cases ha'
    exact hb'
  have n1 : (a.add (i * 9)).block ≠ xb := by have := HXB.out; omega
  have n3 : xb ≠ (a.add (i * 9)).block := Ne.symm n1
  have HYB := Lib.hid (show w.heap.size ≤ xb + 1 by have := HXB.out; omega)
  have q5 := (((((Stp.refl (· = 0) c2 w2).setCell (p := ⟨xb, 5, none⟩) (.int .i64 le) X2.out.1).setCell (p := ⟨xb, 2, none⟩) (.int .i64 2) X2.out.1).setCell (p := ⟨xb, 6, none⟩) (.slice none 0 0) X2.out.1).setCell (p := ⟨xb, 6, none⟩) (.slice none 0 0) X2.out.1).drew
  have D5 := Lib.hid (H2.out.stp0 q5)
  have S5 := Lib.hid (((((T2.out.setNew (p := ⟨xb, 5, none⟩) (.int .i64 le) HXB.out).setNew (p := ⟨xb, 2, none⟩) (.int .i64 2) HXB.out).setNew (p := ⟨xb, 6, none⟩) (.slice none 0 0) HXB.out).setNew (p := ⟨xb, 6, none⟩) (.slice none 0 0) HXB.out).drew)
  have X5 := Lib.hid (((((X2.out.set 5 (.int .i64 le)).set 2 (.int .i64 2)).set 6 (.slice none 0 0)).set 6 (.slice none 0 0)).stp (Stp.refl (fun _ => False) c2 _).drew id)
  have Y5 := Lib.hid (((((Y2.out.other (p := ⟨xb, 5, none⟩) (.int .i64 le) (by simp)).other (p := ⟨xb, 2, none⟩) (.int .i64 2) (by simp)).other (p := ⟨xb, 6, none⟩) (.slice none 0 0) (by simp)).other (p := ⟨xb, 6, none⟩) (.slice none 0 0) (by simp)).stp (Stp.refl (fun _ => False) c2 _).drew id)
  have HD := Lib.hid hd
  have HM := Lib.hid hm
  have HV := Lib.hid hv
  have HF := Lib.hid hf
  clear h hd hm hv hf hs k0 k1 k2 k3 k4 q5 H2 T2 X2 Y2 lb
  go_wp2
  go_region
  go_upto_region 5 with fail
  generalize ((((w2.setCell ⟨xb, 5, none⟩ (.int .i64 le)).setCell ⟨xb, 2, none⟩ (.int .i64 2)).setCell ⟨xb, 6, none⟩ (.slice none 0 0)).setCell ⟨xb, 6, none⟩ (.slice none 0 0)).drew = w5 at D5 S5 X5 Y5 ⊢
  clear r4 lp k7 x0 x1 x2 x3 x4 x5 x6 lx f0 f1 f2 f3 f4 f5 f6 n1 n3
  obtain ⟨x0, x1, x2, x3, x4, x5, x6, lx⟩ := bl_7 (v0 := .int .i64 (i : Int)) (v1 := .int .i64 n) (v2 := .int .i64 2) (v3 := .int .i64 cl) (v4 := .int .i64 hi) (v5 := .int .i64 le) (v6 := .slice none 0 0) X5.out
  go_wp2_with fail
  refine (r14judge_sok D5.out HD.out HM.out n cl hi le HV.out HF.out).mono ?_
  rintro e w6 ⟨rfl, c6, t6, d6⟩
  have S6 := Lib.hid ((S5.out.mono (J' := (· = 12)) (fun _ h => h.elim)).trans t6)
  have Y6 := Lib.hid (Y5.out.stp t6 (by decide))
  have D6 := Lib.hid d6
  clear t6 d6 x0 x1 x2 x3 x4 x5 x6 lx Y5 X5 S5 D5
  obtain ⟨y0, y1, y2, y3, y4, y5, y6, ly⟩ := bl_7 Y6.out
  obtain ⟨e0, e1, e2, e3, e4, e5, e6⟩ := bf_7 Y6.out
  have HH := Lib.hid (D6.out.stp0 (((((((((Stp.refl (· = 0) c6 _).setCell (p := ⟨xb + 1, 0, none⟩) (.int .i64 (i : Int)) Y6.out.1).setCell (p := ⟨xb + 1, 1, none⟩) (.int .i64 n) Y6.out.1).setCell (p := ⟨xb + 1, 2, none⟩) (.int .i64 5) Y6.out.1).setCell (p := ⟨xb + 1, 3, none⟩) (.int .i64 cl) Y6.out.1).setCell (p := ⟨xb + 1, 4, none⟩) (.int .i64 hi) Y6.out.1).setCell (p := ⟨xb + 1, 5, none⟩) (.int .i64 le) Y6.out.1).setCell (p := ⟨xb + 1, 6, none⟩) (.slice none 0 0) Y6.out.1)))
  have SF := Lib.hid ((((((((S6.out.setNew (p := ⟨xb + 1, 0, none⟩) (.int .i64 (i : Int)) HYB.out).setNew (p := ⟨xb + 1, 1, none⟩) (.int .i64 n) HYB.out).setNew (p := ⟨xb + 1, 2, none⟩) (.int .i64 5) HYB.out).setNew (p := ⟨xb + 1, 3, none⟩) (.int .i64 cl) HYB.out).setNew (p := ⟨xb + 1, 4, none⟩) (.int .i64 hi) HYB.out).setNew (p := ⟨xb + 1, 5, none⟩) (.int .i64 le) HYB.out).setNew (p := ⟨xb + 1, 6, none⟩) (.slice none 0 0) HYB.out))
  clear D6 S6 Y6
  go_wp2
  refine bodyPost_ret (v := .agg #[.int .i64 (i : Int), .int .i64 n, .int .i64 5, .int .i64 cl, .int .i64 hi, .int .i64 le, .slice none 0 0]) (by clear SF HH HXB HYB HD HM HV HF; simp [results, Tryz.results149, go_sem, *]) rfl ⟨rfl, c6, SF.out, HH.out⟩

set_option maxRecDepth 100000 in
set_option maxHeartbeats 4000000 in
theorem r14scan_sfull (h : DWR c w p tp now dl l ro rcap R) (hd : R[i]? = some d) (hm : d.many = false) (n cl hi st0 le0 le : Int) (hv : wrap64 (hi - d.n) = hi - d.n) (hf : le < hi - d.n) :
    Calls Tryz.prog 149 #[.pointer (some ⟨p, 0, none⟩), .agg #[.int .i64 (i : Int), .int .i64 n, .int .i64 st0, .int .i64 cl, .int .i64 hi, .int .i64 le0, .slice none 0 0], .int .i64 le] w fun e w' => e = .returned (.agg #[.int .i64 (i : Int), .int .i64 n, .int .i64 6, .int .i64 cl, .int .i64 hi, .int .i64 le, .slice none 0 0]) ∧ ∃ c', Stp (· = 12) c c' w w' ∧ DWR c' w' p tp now dl l ro rcap (R.set i { d with seen := le }) := by
  obtain ⟨i0, i1⟩ := h.lt hd
  obtain ⟨xb, hxb⟩ : ∃ x, x = w.heap.size := ⟨_, rfl⟩
  have HXB := Lib.hid (show w.heap.size ≤ xb by omega)
  obtain ⟨c1, hc1, t1⟩ := ((Stp.refl (fun _ => False) c w).alloc (.cells #[.int .i64 (i : Int), .int .i64 n, .int .i64 st0, .int .i64 cl, .int .i64 hi, .int .i64 le0, .slice none 0 0] 218) 0).name
  have X1 := (show Blk c1 0 (w.alloc (.cells #[.int .i64 (i : Int), .int .i64 n, .int .i64 st0, .int .i64 cl, .int .i64 hi, .int .i64 le0, .slice none 0 0] 218)) xb [.int .i64 (i : Int), .int .i64 n, .int .i64 st0, .int .i64 cl, .int .i64 hi, .int .i64 le0, .slice none 0 0] 218 by rw [hc1.out, hxb]; exact Blk.new c 0 w _ _)
  obtain ⟨c2, hc2, t2⟩ := ((Stp.refl (fun _ => False) c1 (w.alloc (.cells #[.int .i64 (i : Int), .int .i64 n, .int .i64 st0, .int .i64 cl, .int .i64 hi, .int .i64 le0, .slice none 0 0] 218))).alloc (.cells #[.int .i64 0, .int .i64 0, .int .i64 0, .int .i64 0, .int .i64 0, .int .i64 0, .slice none 0 0] 218) 0).name
  have Y2 := Lib.hid (show Blk c2 0 ((w.alloc (.cells #[.int .i64 (i : Int), .int .i64 n, .int .i64 st0, .int .i64 cl, .int .i64 hi, .int .i64 le0, .slice none 0 0] 218)).alloc (.cells #[.int .i64 0, .int .i64 0, .int .i64 0, .int .i64 0, .int .i64 0, .int .i64 0, .slice none 0 0] 218)) (xb + 1) [.int .i64 0, .int .i64 0, .int .i64 0, .int .i64 0, .int .i64 0, .int .i64 0, .slice none 0 0] 218 by rw [hc2.out, hxb]; simpa using Blk.new c1 0 (w.alloc (.cells #[.int .i64 (i : Int), .int .i64 n, .int .i64 st0, .int .i64 cl, .int .i64 hi, .int .i64 le0, .slice none 0 0] 218)) [.int .i64 0, .int .i64 0, .int .i64 0, .int .i64 0, .int .i64 0, .int .i64 0, .slice none 0 0] 218)
  have X2 := Lib.hid (X1.stp t2.out id)
  have T2 := Lib.hid (t1.out.trans t2.out)
  have H2 := Lib.hid (h.stpF T2.out)
  clear X1 hc1 hc2 t1 t2
  go_enter Tryz.func149, Tryz.ntmps149
  go_upto_region 1 with fail
  simp only [← hxb]
  generalize (w.alloc (.cells #[.int .i64 (i : Int), .int .i64 n, .int .i64 st0, .int .i64 cl, .int .i64 hi, .int .i64 le0, .slice none 0 0] 218)).alloc (.cells #[.int .i64 0, .int .i64 0, .int .i64 0, .int .i64 0, .int .i64 0, .int .i64 0, .slice none 0 0] 218) = w2 at X2 Y2 T2 H2 ⊢
  clear hxb
  obtain ⟨r4, lp⟩ := H2.out.r4
  obtain ⟨a, rfl, hs, -, k0, k1, k2, k3, k4, -⟩ := H2.out.ringA hd
  obtain ⟨-, k7⟩ := H2.out.ring67 hd
  obtain ⟨x0, x1, x2, x3, x4, x5, x6, lx⟩ := bl_7 X2.out
  obtain ⟨f0, f1, f2, f3, f4, f5, f6⟩ := bf_7 X2.out
  have lb : (a.add (i * 9)).block < w.heap.size := by
    obtain ⟨a', ha', hb'⟩ : ∃ a', some a = some a' ∧ (a'.add (i * 9)).block < w.heap.size := by
      obtain ⟨a', ha', -, -, z0, -⟩ := h.ringA hd
      exact ⟨a', ha', World.block_lt_of_cell? w _ z0⟩
    cases ha'
    exact hb'
  have n1 : (a.add (i * 9)).block ≠ xb := by have := HXB.out; omega
  have n3 : xb ≠ (a.add (i * 9)).block := Ne.symm n1
  have HYB := Lib.hid (show w.heap.size ≤ xb + 1 by have := HXB.out; omega)
  have q5 := (((((Stp.refl (· = 0) c2 w2).setCell (p := ⟨xb, 5, none⟩) (.int .i64 le) X2.out.1).setCell (p := ⟨xb, 2, none⟩) (.int .i64 2) X2.out.1).setCell (p := ⟨xb, 6, none⟩) (.slice none 0 0) X2.out.1).setCell (p := ⟨xb, 6, none⟩) (.slice none 0 0) X2.out.1).drew
  have D5 := Lib.hid (H2.out.stp0 q5)
  have S5 := Lib.hid (((((T2.out.setNew (p := ⟨xb, 5, none⟩) (.int .i64 le) HXB.out).setNew (p := ⟨xb, 2, none⟩) (.int .i64 2) HXB.out).setNew (p := ⟨xb, 6, none⟩) (.slice none 0 0) HXB.out).setNew (p := ⟨xb, 6, none⟩) (.slice none 0 0) HXB.out).drew)
  have X5 := Lib.hid (((((X2.out.set 5 (.int .i64 le)).set 2 (.int .i64 2)).set 6 (.slice none 0 0)).set 6 (.slice none 0 0)).stp (Stp.refl (fun _ => False) c2 _).drew id)
  have Y5 := Lib.hid (((((Y2.out.other (p := ⟨xb, 5, none⟩) (.int .i64 le) (by simp)).other (p := ⟨xb, 2, none⟩) (.int .i64 2) (by simp)).other (p := ⟨xb, 6, none⟩) (.slice none 0 0) (by simp)).other (p := ⟨xb, 6, none⟩) (.slice none 0 0) (by simp)).stp (Stp.refl (fun _ => False) c2 _).drew id)
  have HD := Lib.hid hd
  have HM := Lib.hid hm
  have HV := Lib.hid hv
  have HF := Lib.hid hf
  clear h hd hm hv hf hs k0 k1 k2 k3 k4 q5 H2 T2 X2 Y2 lb
  go_wp2
  go_region
  go_upto_region 5 with fail
  generalize ((((w2.setCell ⟨xb, 5, none⟩ (.int .i64 le)).setCell ⟨xb, 2, none⟩ (.int .i64 2)).setCell ⟨xb, 6, none⟩ (.slice none 0 0)).setCell ⟨xb, 6, none⟩ (.slice none 0 0)).drew = w5 at D5 S5 X5 Y5 ⊢
  clear r4 lp k7 x0 x1 x2 x3 x4 x5 x6 lx f0 f1 f2 f3 f4 f5 f6 n1 n3
  obtain ⟨x0, x1, x2, x3, x4, x5, x6, lx⟩ := bl_7 (v0 := .int .i64 (i : Int)) (v1 := .int .i64 n) (v2 := .int .i64 2) (v3 := .int .i64 cl) (v4 := .int .i64 hi) (v5 := .int .i64 le) (v6 := .slice none 0 0) X5.out
  go_wp2_with fail
  refine (r14judge_sfull D5.out HD.out HM.out n cl hi le HV.out HF.out).mono ?_
  rintro e w6 ⟨rfl, c6, t6, d6⟩
  have S6 := Lib.hid ((S5.out.mono (J' := (· = 12)) (fun _ h => h.elim)).trans t6)
  have Y6 := Lib.hid (Y5.out.stp t6 (by decide))
  have D6 := Lib.hid d6
  clear t6 d6 x0 x1 x2 x3 x4 x5 x6 lx Y5 X5 S5 D5
  obtain ⟨y0, y1, y2, y3, y4, y5, y6, ly⟩ := bl_7 Y6.out
  obtain ⟨e0, e1, e2, e3, e4, e5, e6⟩ := bf_7 Y6.out
  have HH := Lib.hid (D6.out.stp0 (((((((((Stp.refl (· = 0) c6 _).setCell (p := ⟨xb + 1, 0, none⟩) (.int .i64 (i : Int)) Y6.out.1).setCell (p := ⟨xb + 1, 1, none⟩) (.int .i64 n) Y6.out.1).setCell (p := ⟨xb + 1, 2, none⟩) (.int .i64 6) Y6.out.1).setCell (p := ⟨xb + 1, 3, none⟩) (.int .i64 cl) Y6.out.1).setCell (p := ⟨xb + 1, 4, none⟩) (.int .i64 hi) Y6.out.1).setCell (p := ⟨xb + 1, 5, none⟩) (.int .i64 le) Y6.out.1).setCell (p := ⟨xb + 1, 6, none⟩) (.slice none 0 0) Y6.out.1)))
  have SF := Lib.hid ((((((((S6.out.setNew (p := ⟨xb + 1, 0, none⟩) (.int .i64 (i : Int)) HYB.out).setNew (p := ⟨xb + 1, 1, none⟩) (.int .i64 n) HYB.out).setNew (p := ⟨xb + 1, 2, none⟩) (.int .i64 6) HYB.out).setNew (p := ⟨xb + 1, 3, none⟩) (.int .i64 cl) HYB.out).setNew (p := ⟨xb + 1, 4, none⟩) (.int .i64 hi) HYB.out).setNew (p := ⟨xb + 1, 5, none⟩) (.int .i64 le) HYB.out).setNew (p := ⟨xb + 1, 6, none⟩) (.slice none 0 0) HYB.out))
  clear D6 S6 Y6
  go_wp2
  refine bodyPost_ret (v := .agg #[.int .i64 (i : Int), .int .i64 n, .int .i64 6, .int .i64 cl, .int .i64 hi, .int .i64 le, .slice none 0 0]) (by clear SF HH HXB HYB HD HM HV HF; simp [results, Tryz.results149, go_sem, *]) rfl ⟨rfl, c6, SF.out, HH.out⟩
end
end Go.Proofs.YtiphdedfbafhkaaGreatDoor
