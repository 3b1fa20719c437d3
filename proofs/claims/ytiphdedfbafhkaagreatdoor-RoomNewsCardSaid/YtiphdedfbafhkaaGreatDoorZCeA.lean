/- Contracts that the closing theorem wants (CeA). No condition beyond each law's own. -/
import Derived.Test.YtiphdedfbafhkaaGreatDoorZMulY
import Derived.Test.YtiphdedfbafhkaaGreatDoorZBA
import Derived.Test.YtiphdedfbafhkaaGreatDoorZRgA
import Derived.Test.YtiphdedfbafhkaaGreatDoorZSn5X
namespace Go.Proofs.YtiphdedfbafhkaaGreatDoor
open Go.RowKit

end Go.Proofs.YtiphdedfbafhkaaGreatDoor

namespace Go.Proofs.YtiphdedfbafhkaaGreatDoor
open Go.RowKit

section
variable {c c' : Nat → Nat} {K : Nat} {w w' : World} {r ar ck tb : Nat} {la : List Int} {now : Int} {tl : List Tm} {l : List One} {D : List RD} {ao : Option Addr} {cap i : Nat} {d : RD}
set_option maxRecDepth 100000 in
set_option maxHeartbeats 4000000 in
theorem rcstep_nil_full (hK : 2 ≤ K) (h : RMs c K w r ar ck tb la now tl l D ao cap) (hd : D[i]? = some d) (hm : d.many = false) (hi : Int) (hc : d.cur < la.length) (hsc : 0 ≤ d.sc ∧ d.sc < 4611686018427387904) (hids : d.ids.length = 0) (hh : -1 ≤ hi ∧ hi ≤ 4611686018427387904) (hsh : d.sh < 21) (hf : (la.getD d.cur 0) < hi - 2 ^ d.sh) :
    Calls Tryz.prog 40 #[.agg #[.bool false, .pointer (some ⟨d.sp, 0, none⟩), .int .i64 hi, .slice none 0 0, .int .i64 0, .bool false, .bool false, .bool false, .pointer none, .int .i64 0, .int .i64 0, .int .i64 0, .int .i64 0, .slice none 0 0, .int .i64 0]] w fun e w' => ∃ (tao' : Option Addr) (m cap' : Nat), e = .returned (.tuple #[.agg #[.bool false, .pointer (some ⟨d.sp, 0, none⟩), .int .i64 hi, .slice tao' m cap', .int .i64 (la.getD d.cur 0), .bool true, .bool true, .bool true, .pointer none, .int .i64 0, .int .i64 0, .int .i64 0, .int .i64 0, .slice none 0 0, .int .i64 0], .nilIface]) ∧ ∃ c', Stp (fun j => j = kb K i + 2 ∨ j = K + 10) c c' w w' ∧ RMs c' K w' r ar ck tb la now tl l (D.set i { d with cl := d.cl, ca := (la.getD d.cur 0), sc := d.sc + 1 }) ao cap := by
  obtain ⟨v, hv⟩ : ∃ v, (la.getD d.cur 0) = v := ⟨_, rfl⟩
  obtain ⟨m, hm0⟩ : ∃ m, d.ids.length = m := ⟨_, rfl⟩
  obtain ⟨xb, hxb⟩ : ∃ x, w.heap.size = x := ⟨_, rfl⟩
  obtain ⟨rb, hrb⟩ : ∃ x, w.heap.size + 1 = x := ⟨_, rfl⟩
  have HXB := Lib.hid (show w.heap.size ≤ xb by omega)
  have HRB := Lib.hid (show w.heap.size ≤ rb by omega)
  have nxr : ¬ xb = rb := by omega
  have nrx : ¬ rb = xb := by omega
  obtain ⟨c1, hc1, t1⟩ := (((Stp.refl (fun _ => False) c w).alloc (.cells #[.bool false, .pointer (some ⟨d.sp, 0, none⟩), .int .i64 hi, .slice none 0 0, .int .i64 0, .bool false, .bool false, .bool false, .pointer none, .int .i64 0, .int .i64 0, .int .i64 0, .int .i64 0, .slice none 0 0, .int .i64 0] 38) 0).alloc (.cells #[.bool false, .pointer none, .int .i64 0, .slice none 0 0, .int .i64 0, .bool false, .bool false, .bool false, .pointer none, .int .i64 0, .int .i64 0, .int .i64 0, .int .i64 0, .slice none 0 0, .int .i64 0] 38) 0).name
  have B1x := Lib.hid (show Blk c1 0 ((w.alloc (.cells #[.bool false, .pointer (some ⟨d.sp, 0, none⟩), .int .i64 hi, .slice none 0 0, .int .i64 0, .bool false, .bool false, .bool false, .pointer none, .int .i64 0, .int .i64 0, .int .i64 0, .int .i64 0, .slice none 0 0, .int .i64 0] 38)).alloc (.cells #[.bool false, .pointer none, .int .i64 0, .slice none 0 0, .int .i64 0, .bool false, .bool false, .bool false, .pointer none, .int .i64 0, .int .i64 0, .int .i64 0, .int .i64 0, .slice none 0 0, .int .i64 0] 38)) xb [.bool false, .pointer (some ⟨d.sp, 0, none⟩), .int .i64 hi, .slice none 0 0, .int .i64 0, .bool false, .bool false, .bool false, .pointer none, .int .i64 0, .int .i64 0, .int .i64 0, .int .i64 0, .slice none 0 0, .int .i64 0] 38 by rw [hc1.out, ← hxb]; exact (Blk.new c 0 w [.bool false, .pointer (some ⟨d.sp, 0, none⟩), .int .i64 hi, .slice none 0 0, .int .i64 0, .bool false, .bool false, .bool false, .pointer none, .int .i64 0, .int .i64 0, .int .i64 0, .int .i64 0, .slice none 0 0, .int .i64 0] 38).alloc _ 0)
  have B1r := Lib.hid (show Blk c1 0 ((w.alloc (.cells #[.bool false, .pointer (some ⟨d.sp, 0, none⟩), .int .i64 hi, .slice none 0 0, .int .i64 0, .bool false, .bool false, .bool false, .pointer none, .int .i64 0, .int .i64 0, .int .i64 0, .int .i64 0, .slice none 0 0, .int .i64 0] 38)).alloc (.cells #[.bool false, .pointer none, .int .i64 0, .slice none 0 0, .int .i64 0, .bool false, .bool false, .bool false, .pointer none, .int .i64 0, .int .i64 0, .int .i64 0, .int .i64 0, .slice none 0 0, .int .i64 0] 38)) rb [.bool false, .pointer none, .int .i64 0, .slice none 0 0, .int .i64 0, .bool false, .bool false, .bool false, .pointer none, .int .i64 0, .int .i64 0, .int .i64 0, .int .i64 0, .slice none 0 0, .int .i64 0] 38 by
    have e : (w.alloc (.cells #[.bool false, .pointer (some ⟨d.sp, 0, none⟩), .int .i64 hi, .slice none 0 0, .int .i64 0, .bool false, .bool false, .bool false, .pointer none, .int .i64 0, .int .i64 0, .int .i64 0, .int .i64 0, .slice none 0 0, .int .i64 0] 38)).heap.size = rb := by simp; omega
    rw [hc1.out, ← e]; exact Blk.new (paint c w.heap.size 0) 0 (w.alloc (.cells #[.bool false, .pointer (some ⟨d.sp, 0, none⟩), .int .i64 hi, .slice none 0 0, .int .i64 0, .bool false, .bool false, .bool false, .pointer none, .int .i64 0, .int .i64 0, .int .i64 0, .int .i64 0, .slice none 0 0, .int .i64 0] 38)) [.bool false, .pointer none, .int .i64 0, .slice none 0 0, .int .i64 0, .bool false, .bool false, .bool false, .pointer none, .int .i64 0, .int .i64 0, .int .i64 0, .int .i64 0, .slice none 0 0, .int .i64 0] 38)
  have H1 := Lib.hid (h.stpF t1.out)
  have HS0 := snstep_nil_full hi ((H1.out.rg i d hd).sn hm) H1.out.rm.aa (by unfold kb; omega) hc hsc (by omega) hids hh hsh hf
  rw [hv, hm0] at HS0
  have HS := Lib.hid HS0
  have S1 := Lib.hid (Stp.mono t1.out (J' := fun j => j = kb K i + 2 ∨ j = K + 10) (fun _ h => h.elim))
  have HD := Lib.hid hd
  have HMM := Lib.hid hm
  have HXE := Lib.hid hxb
  have HRE := Lib.hid hrb
  rw [hv]
  clear h hd hm hc hsc hids hh hsh hf hc1 t1 hxb hrb HS0 hv hm0
  go_enter Tryz.func40, Tryz.ntmps40
  go_upto_region 1 with fail
  rw [HRE.out, HXE.out]
  clear HRE HXE
  generalize (w.alloc (.cells #[.bool false, .pointer (some ⟨d.sp, 0, none⟩), .int .i64 hi, .slice none 0 0, .int .i64 0, .bool false, .bool false, .bool false, .pointer none, .int .i64 0, .int .i64 0, .int .i64 0, .int .i64 0, .slice none 0 0, .int .i64 0] 38)).alloc (.cells #[.bool false, .pointer none, .int .i64 0, .slice none 0 0, .int .i64 0, .bool false, .bool false, .bool false, .pointer none, .int .i64 0, .int .i64 0, .int .i64 0, .int .i64 0, .slice none 0 0, .int .i64 0] 38) = w1 at B1x B1r H1 HS S1 ⊢
  obtain ⟨x0, x1, x2, x3, x4, x5, x6, x7, x8, x9, x10, x11, x12, x13, x14⟩ := cells15 B1x.out
  go_wp2_with fail
  refine HS.out.mono ?_
  rintro e w2 ⟨tao', cap', rfl, c2, t2, s2, a2⟩
  have H2 := Lib.hid (H1.out.sn HD.out HMM.out t2 a2 s2)
  have B2x := Lib.hid (B1x.out.stp t2 (by unfold kb; omega))
  have B2r := Lib.hid (B1r.out.stp t2 (by unfold kb; omega))
  have S2 := Lib.hid (S1.out.trans t2)
  clear t2 a2 s2 HS H1 B1x B1r S1 x0 x1 x2 x3 x4 x5 x6 x7 x8 x9 x10 x11 x12 x13 x14
  have T3 := Lib.hid ((((((((Stp.refl (· = 0) c2 w2).setCell (p := ⟨xb, 1, none⟩) (.pointer (some ⟨d.sp, 0, none⟩)) B2x.out.1).setCell (p := ⟨xb, 2, none⟩) (.int .i64 hi) B2x.out.1).setCell (p := ⟨xb, 3, none⟩) (.slice tao' m cap') B2x.out.1).setCell (p := ⟨xb, 4, none⟩) (.int .i64 v) B2x.out.1).setCell (p := ⟨xb, 5, none⟩) (.bool true) B2x.out.1).setCell (p := ⟨xb, 6, none⟩) (.bool true) B2x.out.1).setCell (p := ⟨xb, 7, none⟩) (.bool true) B2x.out.1)
  have S3 := Lib.hid ((((((((S2.out).setNew (p := ⟨xb, 1, none⟩) (.pointer (some ⟨d.sp, 0, none⟩)) HXB.out).setNew (p := ⟨xb, 2, none⟩) (.int .i64 hi) HXB.out).setNew (p := ⟨xb, 3, none⟩) (.slice tao' m cap') HXB.out).setNew (p := ⟨xb, 4, none⟩) (.int .i64 v) HXB.out).setNew (p := ⟨xb, 5, none⟩) (.bool true) HXB.out).setNew (p := ⟨xb, 6, none⟩) (.bool true) HXB.out).setNew (p := ⟨xb, 7, none⟩) (.bool true) HXB.out)
  have B3x := Lib.hid ((((((((B2x.out.set 1 (.pointer (some ⟨d.sp, 0, none⟩))).set 2 (.int .i64 hi)).set 3 (.slice tao' m cap')).set 4 (.int .i64 v)).set 5 (.bool true)).set 6 (.bool true)).set 7 (.bool true)))
  have B3r := Lib.hid ((((((((B2r.out.other (p := ⟨xb, 1, none⟩) (.pointer (some ⟨d.sp, 0, none⟩)) nxr).other (p := ⟨xb, 2, none⟩) (.int .i64 hi) nxr).other (p := ⟨xb, 3, none⟩) (.slice tao' m cap') nxr).other (p := ⟨xb, 4, none⟩) (.int .i64 v) nxr).other (p := ⟨xb, 5, none⟩) (.bool true) nxr).other (p := ⟨xb, 6, none⟩) (.bool true) nxr).other (p := ⟨xb, 7, none⟩) (.bool true) nxr))
  obtain ⟨x0, x1, x2, x3, x4, x5, x6, x7, x8, x9, x10, x11, x12, x13, x14⟩ := cells15 B2x.out
  obtain ⟨f0, f1, f2, f3, f4, f5, f6, f7, f8, f9, f10, f11, f12, f13, f14⟩ := frees15 B2x.out
  have lx := B2x.out.lt
  go_upto_region 5 with fail
  clear x0 x1 x2 x3 x4 x5 x6 x7 x8 x9 x10 x11 x12 x13 x14 f0 f1 f2 f3 f4 f5 f6 f7 f8 f9 f10 f11 f12 f13 f14 lx
  generalize (((((((w2.setCell ⟨xb, 1, none⟩ (.pointer (some ⟨d.sp, 0, none⟩))).setCell ⟨xb, 2, none⟩ (.int .i64 hi)).setCell ⟨xb, 3, none⟩ (.slice tao' m cap')).setCell ⟨xb, 4, none⟩ (.int .i64 v)).setCell ⟨xb, 5, none⟩ (.bool true)).setCell ⟨xb, 6, none⟩ (.bool true)).setCell ⟨xb, 7, none⟩ (.bool true)) = w3 at T3 S3 B3x B3r ⊢
  have R3 := Lib.hid (H2.out.stp0 hK T3.out)
  clear H2 S2 B2x B2r T3
  have TF := Lib.hid ((((((((((((((((Stp.refl (· = 0) c2 w3).setCell (p := ⟨rb, 0, none⟩) (.bool false) B3r.out.1).setCell (p := ⟨rb, 1, none⟩) (.pointer (some ⟨d.sp, 0, none⟩)) B3r.out.1).setCell (p := ⟨rb, 2, none⟩) (.int .i64 hi) B3r.out.1).setCell (p := ⟨rb, 3, none⟩) (.slice tao' m cap') B3r.out.1).setCell (p := ⟨rb, 4, none⟩) (.int .i64 v) B3r.out.1).setCell (p := ⟨rb, 5, none⟩) (.bool true) B3r.out.1).setCell (p := ⟨rb, 6, none⟩) (.bool true) B3r.out.1).setCell (p := ⟨rb, 7, none⟩) (.bool true) B3r.out.1).setCell (p := ⟨rb, 8, none⟩) (.pointer none) B3r.out.1).setCell (p := ⟨rb, 9, none⟩) (.int .i64 0) B3r.out.1).setCell (p := ⟨rb, 10, none⟩) (.int .i64 0) B3r.out.1).setCell (p := ⟨rb, 11, none⟩) (.int .i64 0) B3r.out.1).setCell (p := ⟨rb, 12, none⟩) (.int .i64 0) B3r.out.1).setCell (p := ⟨rb, 13, none⟩) (.slice none 0 0) B3r.out.1).setCell (p := ⟨rb, 14, none⟩) (.int .i64 0) B3r.out.1)
  have SF := Lib.hid ((((((((((((((((S3.out).setNew (p := ⟨rb, 0, none⟩) (.bool false) HRB.out).setNew (p := ⟨rb, 1, none⟩) (.pointer (some ⟨d.sp, 0, none⟩)) HRB.out).setNew (p := ⟨rb, 2, none⟩) (.int .i64 hi) HRB.out).setNew (p := ⟨rb, 3, none⟩) (.slice tao' m cap') HRB.out).setNew (p := ⟨rb, 4, none⟩) (.int .i64 v) HRB.out).setNew (p := ⟨rb, 5, none⟩) (.bool true) HRB.out).setNew (p := ⟨rb, 6, none⟩) (.bool true) HRB.out).setNew (p := ⟨rb, 7, none⟩) (.bool true) HRB.out).setNew (p := ⟨rb, 8, none⟩) (.pointer none) HRB.out).setNew (p := ⟨rb, 9, none⟩) (.int .i64 0) HRB.out).setNew (p := ⟨rb, 10, none⟩) (.int .i64 0) HRB.out).setNew (p := ⟨rb, 11, none⟩) (.int .i64 0) HRB.out).setNew (p := ⟨rb, 12, none⟩) (.int .i64 0) HRB.out).setNew (p := ⟨rb, 13, none⟩) (.slice none 0 0) HRB.out).setNew (p := ⟨rb, 14, none⟩) (.int .i64 0) HRB.out)
  have RF := Lib.hid (R3.out.stp0 hK TF.out)
  obtain ⟨x0, x1, x2, x3, x4, x5, x6, x7, x8, x9, x10, x11, x12, x13, x14⟩ := cells15 B3x.out
  obtain ⟨y0, y1, y2, y3, y4, y5, y6, y7, y8, y9, y10, y11, y12, y13, y14⟩ := cells15 B3r.out
  obtain ⟨g0, g1, g2, g3, g4, g5, g6, g7, g8, g9, g10, g11, g12, g13, g14⟩ := frees15 B3r.out
  have lr := B3r.out.lt
  clear TF R3 S3 B3x B3r HXB HRB HD HMM
  go_wp2
  refine bodyPost_ret (v := .tuple #[.agg #[.bool false, .pointer (some ⟨d.sp, 0, none⟩), .int .i64 hi, .slice tao' m cap', .int .i64 v, .bool true, .bool true, .bool true, .pointer none, .int .i64 0, .int .i64 0, .int .i64 0, .int .i64 0, .slice none 0 0, .int .i64 0], .nilIface]) ?_ rfl ?_
  · clear SF RF
    simp [results, Tryz.results40, go_sem, *]
  · exact ⟨tao', m, cap', rfl, c2, SF.out, RF.out⟩

end
end Go.Proofs.YtiphdedfbafhkaaGreatDoor
