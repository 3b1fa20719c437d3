/- Contracts that the closing theorem wants (Dz6). No condition beyond each law's own. -/
import Derived.Test.YtiphdedfbafhkaaGreatDoorZDz4
import Derived.Deep.RegionHeld3
namespace Go.Proofs.YtiphdedfbafhkaaGreatDoor
open Go.RowKit

section
variable {c c' : Nat → Nat} {w w' : World} {p tp : Nat} {now : Int} {dl dl' : List Tm} {l l' : List One} {ro : Option Addr} {rcap : Nat} {R : List DR} {i : Nat} {d d' : DR} {a b : Addr}
theorem ring3 (h : DWR c w p tp now dl l (some a) rcap R) (hd : R[i]? = some d) : w.cell? ⟨(a.add (i * 9)).block, (a.add (i * 9)).off + 3, none⟩ = some (.int .i64 d.pub) := by
  obtain ⟨a', ha', -, -, -, -, -, k3, -⟩ := h.ringA hd
  cases ha'
  exact k3

def S134 (xb i : Nat) (a : Addr) (n cl hi le pub : Int) (w : World) : Prop := w.cell? ⟨xb, 0, none⟩ = some (.int .i64 (i : Int)) ∧ w.cell? ⟨xb, 1, none⟩ = some (.int .i64 n) ∧ w.cell? ⟨xb, 2, none⟩ = some (.int .i64 0) ∧ w.cell? ⟨xb, 3, none⟩ = some (.int .i64 cl) ∧ w.cell? ⟨xb, 4, none⟩ = some (.int .i64 hi) ∧ w.cell? ⟨xb, 5, none⟩ = some (.int .i64 le) ∧ w.cell? ⟨xb, 6, none⟩ = some (.slice none 0 0) ∧ w.cell? ⟨(a.add (i * 9)).block, (a.add (i * 9)).off + 3, none⟩ = some (.int .i64 pub)
theorem s134 {xb : Nat} {n cl hi le pub : Int} {ty : TypeId} (X : Blk c 0 w xb [.int .i64 (i : Int), .int .i64 n, .int .i64 0, .int .i64 cl, .int .i64 hi, .int .i64 le, .slice none 0 0] ty) (h : DWR c w p tp now dl l (some a) rcap R) (hd : R[i]? = some d) (hp : d.pub = pub) : S134 xb i a n cl hi le pub w := by
  obtain ⟨x0, x1, x2, x3, x4, x5, x6, -⟩ := bl_7 X
  exact ⟨x0, x1, x2, x3, x4, x5, x6, hp ▸ ring3 h hd⟩
noncomputable def Tryz.cts5 : Code := (Tryz.f134.body.bind (regionN 5)).getD .skip

set_option maxRecDepth 1000000 in
set_option maxHeartbeats 100000000 in
theorem Tryz.rts5 {p tp rcap i xb : Nat} {n cl hi le stz now : Int} {dl : List Tm} {l : List One} {R R' : List DR} {d d' : DR} {a : Addr} {c9 : Nat → Nat} {w9 : World}
    (H9 : Hid (DWR c9 w9 p tp now dl l (some a) rcap R)) (HD : Hid (R[i]? = some d)) (HR : Hid (R'[i]? = some d')) (HP : Hid (d'.pub = d.pub)) (X9 : Hid (Blk c9 0 w9 xb [.int .i64 (i : Int), .int .i64 n, .int .i64 0, .int .i64 cl, .int .i64 hi, .int .i64 le, .slice none 0 0] 218)) (Y9 : Hid (Blk c9 0 w9 (xb + 1) [.int .i64 0, .int .i64 0, .int .i64 0, .int .i64 0, .int .i64 0, .int .i64 0, .slice none 0 0] 218))
    (HC : Hid (∀ W, Stp (fun _ => False) c9 c9 w9 W → Calls Tryz.prog 149 #[.pointer (some ⟨p, 0, none⟩), .agg #[.int .i64 (i : Int), .int .i64 n, .int .i64 0, .int .i64 cl, .int .i64 hi, .int .i64 le, .slice none 0 0], .int .i64 d.pub] W fun e w' => e = .returned (.agg #[.int .i64 (i : Int), .int .i64 n, .int .i64 stz, .int .i64 cl, .int .i64 hi, .int .i64 d.pub, .slice none 0 0]) ∧ ∃ c', Stp (· = 12) c9 c' W w' ∧ DWR c' w' p tp now dl l (some a) rcap R')) {fr1 fr2 fr5 fr7 fr8 fr9 fr10 fr11 fr12 fr13 fr14 fr15 fr16 fr17 fr18 fr19 fr20 fr21 fr22 fr23 fr24 fr25 fr26 fr27 fr28 fr29 fr30 fr31 fr32 fr33 fr34 fr35 fr36 fr37 fr38 fr39 fr40 fr41 fr42 fr43 fr44 fr45 fr46 fr47 fr48 fr49 fr50 fr51 fr52 fr53 fr54 fr55 fr56 fr57 fr58 fr59 fr60 fr61 fr62 fr63 fr64 fr65 fr66 fr67 fr68 fr69 fr70 fr71 fr72 fr73 fr74 fr75 fr76 fr77 fr78 fr79 fr80 fr81 fr82 fr83 fr84 fr85 fr86 fr87 fr88 fr89 fr90 fr91 fr92 fr93 fr94 fr95 fr96 fr97 fr98 fr99 fr100 fr101 fr102 fr103 fr104 fr105 fr106 fr107 fr108 fr109 fr110 fr111 fr112 fr113 fr114 fr115 fr116 fr117 fr118 fr119 fr120 fr121 fr122 fr123 fr124 fr125 fr126 fr127 fr128 fr129 fr130 fr131 fr132 fr133 fr134 fr135 fr136 fr137 fr138 fr139 fr140 fr141 fr142 fr143 fr144 fr145 fr146 fr147 fr148 fr149 fr150 fr151 fr152 fr153 fr154 : Value} {Q0 : Exit → Act → World → Prop}
    (hQ : ∀ (c' : Nat → Nat) (w' : World), ∀ g28 g29 g30 g31 g32 g33 g34 : Value, Hid (∀ (cA : Nat → Nat) (wA : World), wA.heap.size ≤ xb + 1 → Stp (· = 12) cA c9 wA w9 → Stp (· = 12) cA c' wA w') → Hid (DWR c' w' p tp now dl l (some a) rcap R') → Hid (Blk c' 0 w' (xb + 1) [.int .i64 (i : Int), .int .i64 n, .int .i64 stz, .int .i64 cl, .int .i64 hi, .int .i64 d.pub, .slice none 0 0] 218) → Q0 .normal ⟨#[.pointer (some ⟨p, 0, none⟩), fr1, fr2, .pointer (some ⟨xb, 0, none⟩), .pointer (some ⟨xb + 1, 0, none⟩), .int .i64 0, .pointer (some (a.add (i * 9))), fr7, fr8, fr9, fr10, fr11, fr12, fr13, fr14, fr15, fr16, fr17, fr18, fr19, fr20, fr21, fr22, fr23, fr24, fr25, fr26, fr27, g28, g29, g30, g31, g32, g33, g34, fr35, fr36, fr37, fr38, fr39, fr40, fr41, fr42, fr43, fr44, fr45, fr46, fr47, fr48, fr49, fr50, fr51, fr52, fr53, fr54, fr55, fr56, fr57, fr58, fr59, fr60, fr61, fr62, fr63, fr64, fr65, fr66, fr67, fr68, fr69, fr70, fr71, fr72, fr73, fr74, fr75, fr76, fr77, fr78, fr79, fr80, fr81, fr82, fr83, fr84, fr85, fr86, fr87, fr88, fr89, fr90, fr91, fr92, fr93, fr94, fr95, fr96, fr97, fr98, fr99, fr100, fr101, fr102, fr103, fr104, fr105, fr106, fr107, fr108, fr109, fr110, fr111, fr112, fr113, fr114, fr115, fr116, fr117, fr118, fr119, fr120, fr121, fr122, fr123, fr124, fr125, fr126, fr127, fr128, fr129, fr130, fr131, fr132, fr133, fr134, fr135, fr136, fr137, fr138, fr139, fr140, fr141, fr142, fr143, fr144, fr145, fr146, fr147, fr148, fr149, fr150, fr151, fr152, fr153, fr154], []⟩ w') : Code.wp Tryz.prog Tryz.cts5 Q0 ⟨#[.pointer (some ⟨p, 0, none⟩), fr1, fr2, .pointer (some ⟨xb, 0, none⟩), .pointer (some ⟨xb + 1, 0, none⟩), fr5, .pointer (some (a.add (i * 9))), fr7, fr8, fr9, fr10, fr11, fr12, fr13, fr14, fr15, fr16, fr17, fr18, fr19, fr20, fr21, fr22, fr23, fr24, fr25, fr26, fr27, fr28, fr29, fr30, fr31, fr32, fr33, fr34, fr35, fr36, fr37, fr38, fr39, fr40, fr41, fr42, fr43, fr44, fr45, fr46, fr47, fr48, fr49, fr50, fr51, fr52, fr53, fr54, fr55, fr56, fr57, fr58, fr59, fr60, fr61, fr62, fr63, fr64, fr65, fr66, fr67, fr68, fr69, fr70, fr71, fr72, fr73, fr74, fr75, fr76, fr77, fr78, fr79, fr80, fr81, fr82, fr83, fr84, fr85, fr86, fr87, fr88, fr89, fr90, fr91, fr92, fr93, fr94, fr95, fr96, fr97, fr98, fr99, fr100, fr101, fr102, fr103, fr104, fr105, fr106, fr107, fr108, fr109, fr110, fr111, fr112, fr113, fr114, fr115, fr116, fr117, fr118, fr119, fr120, fr121, fr122, fr123, fr124, fr125, fr126, fr127, fr128, fr129, fr130, fr131, fr132, fr133, fr134, fr135, fr136, fr137, fr138, fr139, fr140, fr141, fr142, fr143, fr144, fr145, fr146, fr147, fr148, fr149, fr150, fr151, fr152, fr153, fr154], []⟩ w9 := by
  conv => arg 2; whnf
  refine wp_region_noPanic ?_
  have HQ := Lib.hid hQ
  clear hQ
  have T0 := Lib.hid ((Stp.refl (fun _ => False) c9 w9).drew)
  have X0 := Lib.hid (X9.out.stp T0.out id)
  have Y0 := Lib.hid (Y9.out.stp T0.out id)
  have hS0 := s134 X0.out (H9.out.stpF T0.out) HD.out rfl
  refine wp_region_held_drew (S := S134 xb i a n cl hi le d.pub) (by kernel_rfl) hS0 (fun hS1 => ?_)
  have hS := Lib.hid hS1
  clear hS1 hS0
  generalize w9.drew = wq0 at T0 X0 Y0 hS ⊢
  refine wpH_takeL (i := 0) (v := ?_) rfl (by kernel_rfl) (by kernel_rfl) (by kernel_rfl) (fun _ _ _ h => h) (Or.inl ⟨by rfl, ?_⟩) hS.out ?_
  rotate_left
  · intro wy hSy
    clear hSy
    go_simp
    try with_reducible rfl
  try simp only [Act.put, List.setIfInBounds_toArray, List.set_cons_zero, List.set_cons_succ]
  refine wpH_takeL (i := 1) (v := ?_) rfl (by kernel_rfl) (by kernel_rfl) (by kernel_rfl) (fun _ _ _ h => h) (Or.inl ⟨by rfl, ?_⟩) hS.out ?_
  rotate_left
  · intro wy hSy
    obtain ⟨s0, s1, s2, s3, s4, s5, s6, s7⟩ := hSy
    go_simp
    try with_reducible rfl
  try simp only [Act.put, List.setIfInBounds_toArray, List.set_cons_zero, List.set_cons_succ]
  refine wpH_takeL (i := 2) (v := ?_) rfl (by kernel_rfl) (by kernel_rfl) (by kernel_rfl) (fun _ _ _ h => h) (Or.inl ⟨by rfl, ?_⟩) hS.out ?_
  rotate_left
  · intro wy hSy
    clear hSy
    go_simp
    try with_reducible rfl
  try simp only [Act.put, List.setIfInBounds_toArray, List.set_cons_zero, List.set_cons_succ]
  refine wpH_takeL (i := 3) (v := ?_) rfl (by kernel_rfl) (by kernel_rfl) (by kernel_rfl) (fun _ _ _ h => h) (Or.inl ⟨by rfl, ?_⟩) hS.out ?_
  rotate_left
  · intro wy hSy
    clear hSy
    go_simp
    try with_reducible rfl
  try simp only [Act.put, List.setIfInBounds_toArray, List.set_cons_zero, List.set_cons_succ]
  refine wpH_takeL (i := 4) (v := ?_) rfl (by kernel_rfl) (by kernel_rfl) (by kernel_rfl) (fun _ _ _ h => h) (Or.inl ⟨by rfl, ?_⟩) hS.out ?_
  rotate_left
  · intro wy hSy
    clear hSy
    go_simp
    try with_reducible rfl
  try simp only [Act.put, List.setIfInBounds_toArray, List.set_cons_zero, List.set_cons_succ]
  refine wpH_takeL (i := 5) (v := ?_) rfl (by kernel_rfl) (by kernel_rfl) (by kernel_rfl) (fun _ _ _ h => h) (Or.inl ⟨by rfl, ?_⟩) hS.out ?_
  rotate_left
  · intro wy hSy
    obtain ⟨s0, s1, s2, s3, s4, s5, s6, s7⟩ := hSy
    go_simp
    try with_reducible rfl
  try simp only [Act.put, List.setIfInBounds_toArray, List.set_cons_zero, List.set_cons_succ]
  refine wpAnyH_ready (rs := [6]) (by kernel_rfl) (by simp) (readyH_consL rfl (fun K hK => ?_) AllReadyH.nil)
  go_simp
  go_at_call 149
  refine (HC.out _ T0.out).mono ?_
  rintro e wq1 ⟨rfl, c1, t1, d1⟩
  have D1 := Lib.hid d1
  have X1 := Lib.hid (X0.out.stp t1 (by decide))
  have Y1 := Lib.hid (Y0.out.stp t1 (by decide))
  have T1 := Lib.hid t1
  clear t1 d1
  go_simp
  refine hK.out _ _ (s134 X1.out D1.out HR.out HP.out) (fun hS1 => ?_)
  clear hK K hS
  have hS := Lib.hid hS1
  clear hS1
  try simp only [Act.put, List.setIfInBounds_toArray, List.set_cons_zero, List.set_cons_succ]
  refine wpAnyH_ready (rs := [7]) (by kernel_rfl) (by simp) (readyH_consL rfl (fun K hK => ?_) AllReadyH.nil)
  obtain ⟨y0, y1, y2, y3, y4, y5, y6, ly⟩ := bl_7 Y1.out
  obtain ⟨e0, e1, e2, e3, e4, e5, e6⟩ := bf_7 Y1.out
  go_simp
  have q2 := ((((((((Stp.refl (· = 0) c1 wq1).setCell (p := ⟨xb + 1, 0, none⟩) (.int .i64 (i : Int)) Y1.out.1).setCell (p := ⟨xb + 1, 1, none⟩) (.int .i64 n) Y1.out.1).setCell (p := ⟨xb + 1, 2, none⟩) (.int .i64 stz) Y1.out.1).setCell (p := ⟨xb + 1, 3, none⟩) (.int .i64 cl) Y1.out.1).setCell (p := ⟨xb + 1, 4, none⟩) (.int .i64 hi) Y1.out.1).setCell (p := ⟨xb + 1, 5, none⟩) (.int .i64 d.pub) Y1.out.1).setCell (p := ⟨xb + 1, 6, none⟩) (.slice none 0 0) Y1.out.1)
  have D2 := Lib.hid (D1.out.stp0 q2)
  have X2 := Lib.hid (((((((X1.out.other (p := ⟨xb + 1, 0, none⟩) (.int .i64 (i : Int)) (by simp)).other (p := ⟨xb + 1, 1, none⟩) (.int .i64 n) (by simp)).other (p := ⟨xb + 1, 2, none⟩) (.int .i64 stz) (by simp)).other (p := ⟨xb + 1, 3, none⟩) (.int .i64 cl) (by simp)).other (p := ⟨xb + 1, 4, none⟩) (.int .i64 hi) (by simp)).other (p := ⟨xb + 1, 5, none⟩) (.int .i64 d.pub) (by simp)).other (p := ⟨xb + 1, 6, none⟩) (.slice none 0 0) (by simp))
  have Y2 := Lib.hid (((((((Y1.out.set 0 (.int .i64 (i : Int))).set 1 (.int .i64 n)).set 2 (.int .i64 stz)).set 3 (.int .i64 cl)).set 4 (.int .i64 hi)).set 5 (.int .i64 d.pub)).set 6 (.slice none 0 0))
  have S2 := Lib.hid (fun (cA : Nat → Nat) (wA : World) (hA : wA.heap.size ≤ xb + 1) (h : Stp (· = 12) cA c9 wA w9) => show Stp (· = 12) cA c1 wA _ from (((((((((h.trans (T0.out.mono (fun _ h => h.elim))).trans T1.out).setNew (p := ⟨xb + 1, 0, none⟩) (.int .i64 (i : Int)) hA).setNew (p := ⟨xb + 1, 1, none⟩) (.int .i64 n) hA).setNew (p := ⟨xb + 1, 2, none⟩) (.int .i64 stz) hA).setNew (p := ⟨xb + 1, 3, none⟩) (.int .i64 cl) hA).setNew (p := ⟨xb + 1, 4, none⟩) (.int .i64 hi) hA).setNew (p := ⟨xb + 1, 5, none⟩) (.int .i64 d.pub) hA).setNew (p := ⟨xb + 1, 6, none⟩) (.slice none 0 0) hA))
  clear q2
  refine hK.out _ _ (s134 X2.out D2.out HR.out HP.out) (fun hS1 => ?_)
  clear hK K hS y0 y1 y2 y3 y4 y5 y6 ly e0 e1 e2 e3 e4 e5 e6
  have hS := Lib.hid hS1
  clear hS1
  try simp only [Act.put, List.setIfInBounds_toArray, List.set_cons_zero, List.set_cons_succ]
  refine wpH_takeL (i := 8) (v := ?_) rfl (by kernel_rfl) (by kernel_rfl) (by kernel_rfl) (fun _ _ _ h => h) (Or.inl ⟨by rfl, ?_⟩) hS.out ?_
  rotate_left
  · intro wy hSy
    clear hSy
    go_simp
    try with_reducible rfl
  try simp only [Act.put, List.setIfInBounds_toArray, List.set_cons_zero, List.set_cons_succ]
  refine wpAnyH_done (by kernel_rfl) ?_ _
  exact HQ.out c1 _ _ _ _ _ _ _ _ S2 D2 (Lib.hid Y2.out)

set_option maxRecDepth 100000 in
set_option maxHeartbeats 4000000 in
theorem r14step_m0 (h : DWR c w p tp now dl l ro rcap R) (hd : R[i]? = some d) (hm : d.many = true) (n cl hi le : Int) (hb : -1 ≤ d.cl ∧ d.cl ≤ 1099511627776 ∧ 1 ≤ n ∧ n ≤ 1048576) :
    Calls Tryz.prog 134 #[.pointer (some ⟨p, 0, none⟩), .agg #[.int .i64 (i : Int), .int .i64 n, .int .i64 0, .int .i64 cl, .int .i64 hi, .int .i64 le, .slice none 0 0]] w fun e w' => e = .returned (.tuple #[.agg #[.int .i64 (i : Int), .int .i64 n, .int .i64 1, .int .i64 d.cl, .int .i64 (d.cl + n), .int .i64 le, .slice none 0 0], .int .i64 0]) ∧ ∃ c', Stp (fun _ => False) c c' w w' := by
  obtain ⟨i0, i1⟩ := h.lt hd
  have v1 : wrap64 (4611686018427387904 - n) = 4611686018427387904 - n := IntWalk.wrap64_in _ (by constructor <;> omega)
  have v1k : IntKind.i64.wrap (4611686018427387904 - n) = 4611686018427387904 - n := (IntWalk.i64_left _).trans v1
  have v2 : wrap64 (d.cl + n) = d.cl + n := IntWalk.wrap64_in _ (by constructor <;> omega)
  have v2k : IntKind.i64.wrap (d.cl + n) = d.cl + n := (IntWalk.i64_left _).trans v2
  have g4 : decide (4611686018427387904 - n < d.cl) = false := by simp; omega
  obtain ⟨xb, hxb⟩ : ∃ x, x = w.heap.size := ⟨_, rfl⟩
  have HXB := Lib.hid (show w.heap.size ≤ xb by omega)
  obtain ⟨c1, hc1, t1⟩ := ((Stp.refl (fun _ => False) c w).alloc (.cells #[.int .i64 (i : Int), .int .i64 n, .int .i64 0, .int .i64 cl, .int .i64 hi, .int .i64 le, .slice none 0 0] 218) 0).name
  have X1 := (show Blk c1 0 (w.alloc (.cells #[.int .i64 (i : Int), .int .i64 n, .int .i64 0, .int .i64 cl, .int .i64 hi, .int .i64 le, .slice none 0 0] 218)) xb [.int .i64 (i : Int), .int .i64 n, .int .i64 0, .int .i64 cl, .int .i64 hi, .int .i64 le, .slice none 0 0] 218 by rw [hc1.out, hxb]; exact Blk.new c 0 w _ _)
  obtain ⟨c2, hc2, t2⟩ := ((Stp.refl (fun _ => False) c1 (w.alloc (.cells #[.int .i64 (i : Int), .int .i64 n, .int .i64 0, .int .i64 cl, .int .i64 hi, .int .i64 le, .slice none 0 0] 218))).alloc (.cells #[.int .i64 0, .int .i64 0, .int .i64 0, .int .i64 0, .int .i64 0, .int .i64 0, .slice none 0 0] 218) 0).name
  have Y2 := Lib.hid (show Blk c2 0 ((w.alloc (.cells #[.int .i64 (i : Int), .int .i64 n, .int .i64 0, .int .i64 cl, .int .i64 hi, .int .i64 le, .slice none 0 0] 218)).alloc (.cells #[.int .i64 0, .int .i64 0, .int .i64 0, .int .i64 0, .int .i64 0, .int .i64 0, .slice none 0 0] 218)) (xb + 1) [.int .i64 0, .int .i64 0, .int .i64 0, .int .i64 0, .int .i64 0, .int .i64 0, .slice none 0 0] 218 by rw [hc2.out, hxb]; simpa using Blk.new c1 0 (w.alloc (.cells #[.int .i64 (i : Int), .int .i64 n, .int .i64 0, .int .i64 cl, .int .i64 hi, .int .i64 le, .slice none 0 0] 218)) [.int .i64 0, .int .i64 0, .int .i64 0, .int .i64 0, .int .i64 0, .int .i64 0, .slice none 0 0] 218)
  have X2 := Lib.hid (X1.stp t2.out id)
  have T2 := Lib.hid (t1.out.trans t2.out)
  have H2 := Lib.hid (h.stpF T2.out)
  clear X1 hc1 hc2 t1 t2
  go_enter Tryz.func134, Tryz.ntmps134
  go_upto_region 1 with fail
  simp only [← hxb]
  generalize (w.alloc (.cells #[.int .i64 (i : Int), .int .i64 n, .int .i64 0, .int .i64 cl, .int .i64 hi, .int .i64 le, .slice none 0 0] 218)).alloc (.cells #[.int .i64 0, .int .i64 0, .int .i64 0, .int .i64 0, .int .i64 0, .int .i64 0, .slice none 0 0] 218) = w2 at X2 Y2 T2 H2 ⊢
  clear hxb
  obtain ⟨r4, lp⟩ := H2.out.r4
  obtain ⟨a, rfl, hs, -, k0, k1, k2, k3, k4, -⟩ := H2.out.ringA hd
  obtain ⟨x0, x1, x2, x3, x4, x5, x6, lx⟩ := bl_7 X2.out
  obtain ⟨f0, f1, f2, f3, f4, f5, f6⟩ := bf_7 X2.out
  obtain ⟨y0, y1, y2, y3, y4, y5, y6, ly⟩ := bl_7 Y2.out
  obtain ⟨e0, e1, e2, e3, e4, e5, e6⟩ := bf_7 Y2.out
  rw [hm] at k1
  have lb : (a.add (i * 9)).block < w.heap.size := by
    obtain ⟨a', ha', hb'⟩ : ∃ a', some a = some a' ∧ (a'.add (i * 9)).block < w.heap.size := by
      obtain ⟨a', ha', -, -, z0, -⟩ := h.ringA hd
      exact ⟨a', ha', World.block_lt_of_cell? w _ z0⟩
    cases ha'
    exact hb'
  have n1 : (a.add (i * 9)).block ≠ xb := by have := HXB.out; omega
  have n2 : (a.add (i * 9)).block ≠ xb + 1 := by have := HXB.out; omega
  have n3 : xb ≠ (a.add (i * 9)).block := Ne.symm n1
  have n4 : xb + 1 ≠ (a.add (i * 9)).block := Ne.symm n2
  have lr : (a.add (i * 9)).block < w2.heap.size := by have := T2.out.size; omega
  have HYB := Lib.hid (show w.heap.size ≤ xb + 1 by have := HXB.out; omega)
  have SF := Lib.hid (((((((((((T2.out.setNew (p := ⟨xb, 3, none⟩) (.int .i64 d.cl) HXB.out).setNew (p := ⟨xb, 4, none⟩) (.int .i64 (d.cl + n)) HXB.out).setNew (p := ⟨xb, 2, none⟩) (.int .i64 1) HXB.out).setNew (p := ⟨xb + 1, 0, none⟩) (.int .i64 (i : Int)) HYB.out).setNew (p := ⟨xb + 1, 1, none⟩) (.int .i64 n) HYB.out).setNew (p := ⟨xb + 1, 2, none⟩) (.int .i64 1) HYB.out).setNew (p := ⟨xb + 1, 3, none⟩) (.int .i64 d.cl) HYB.out).setNew (p := ⟨xb + 1, 4, none⟩) (.int .i64 (d.cl + n)) HYB.out).setNew (p := ⟨xb + 1, 5, none⟩) (.int .i64 le) HYB.out).setNew (p := ⟨xb + 1, 6, none⟩) (.slice none 0 0) HYB.out).drew.drew)
  clear h hd hm hs hb T2 H2 X2 Y2 lb
  go_wp2
  go_region
  go_wp2
  go_region
  go_wp2
  refine bodyPost_ret (v := .tuple #[.agg #[.int .i64 (i : Int), .int .i64 n, .int .i64 1, .int .i64 d.cl, .int .i64 (d.cl + n), .int .i64 le, .slice none 0 0], .int .i64 0]) (by clear HXB HYB SF; simp [results, Tryz.results134, go_sem, *]) rfl ⟨rfl, _, SF.out⟩

set_option maxRecDepth 100000 in
set_option maxHeartbeats 4000000 in
theorem r14step_m3 (h : DWR c w p tp now dl l ro rcap R) (hd : R[i]? = some d) (_hm : d.many = true) (n cl hi le : Int) :
    Calls Tryz.prog 134 #[.pointer (some ⟨p, 0, none⟩), .agg #[.int .i64 (i : Int), .int .i64 n, .int .i64 3, .int .i64 cl, .int .i64 hi, .int .i64 le, .slice none 0 0]] w fun e w' => e = .returned (.tuple #[.agg #[.int .i64 (i : Int), .int .i64 n, .int .i64 4, .int .i64 cl, .int .i64 hi, .int .i64 le, .slice none 0 0], .int .i64 0]) ∧ ∃ c', Stp (· = 12) c c' w w' ∧ DWR c' w' p tp now dl l ro rcap (R.set i { d with seen := le }) := by
  obtain ⟨i0, i1⟩ := h.lt hd
  obtain ⟨xb, hxb⟩ : ∃ x, x = w.heap.size := ⟨_, rfl⟩
  have HXB := Lib.hid (show w.heap.size ≤ xb by omega)
  obtain ⟨c1, hc1, t1⟩ := ((Stp.refl (fun _ => False) c w).alloc (.cells #[.int .i64 (i : Int), .int .i64 n, .int .i64 3, .int .i64 cl, .int .i64 hi, .int .i64 le, .slice none 0 0] 218) 0).name
  have X1 := (show Blk c1 0 (w.alloc (.cells #[.int .i64 (i : Int), .int .i64 n, .int .i64 3, .int .i64 cl, .int .i64 hi, .int .i64 le, .slice none 0 0] 218)) xb [.int .i64 (i : Int), .int .i64 n, .int .i64 3, .int .i64 cl, .int .i64 hi, .int .i64 le, .slice none 0 0] 218 by rw [hc1.out, hxb]; exact Blk.new c 0 w _ _)
  obtain ⟨c2, hc2, t2⟩ := ((Stp.refl (fun _ => False) c1 (w.alloc (.cells #[.int .i64 (i : Int), .int .i64 n, .int .i64 3, .int .i64 cl, .int .i64 hi, .int .i64 le, .slice none 0 0] 218))).alloc (.cells #[.int .i64 0, .int .i64 0, .int .i64 0, .int .i64 0, .int .i64 0, .int .i64 0, .slice none 0 0] 218) 0).name
  have Y2 := Lib.hid (show Blk c2 0 ((w.alloc (.cells #[.int .i64 (i : Int), .int .i64 n, .int .i64 3, .int .i64 cl, .int .i64 hi, .int .i64 le, .slice none 0 0] 218)).alloc (.cells #[.int .i64 0, .int .i64 0, .int .i64 0, .int .i64 0, .int .i64 0, .int .i64 0, .slice none 0 0] 218)) (xb + 1) [.int .i64 0, .int .i64 0, .int .i64 0, .int .i64 0, .int .i64 0, .int .i64 0, .slice none 0 0] 218 by rw [hc2.out, hxb]; simpa using Blk.new c1 0 (w.alloc (.cells #[.int .i64 (i : Int), .int .i64 n, .int .i64 3, .int .i64 cl, .int .i64 hi, .int .i64 le, .slice none 0 0] 218)) [.int .i64 0, .int .i64 0, .int .i64 0, .int .i64 0, .int .i64 0, .int .i64 0, .slice none 0 0] 218)
  have X2 := Lib.hid (X1.stp t2.out id)
  have T2 := Lib.hid (t1.out.trans t2.out)
  have H2 := Lib.hid (h.stpF T2.out)
  clear X1 hc1 hc2 t1 t2
  go_enter Tryz.func134, Tryz.ntmps134
  go_upto_region 1 with fail
  simp only [← hxb]
  generalize (w.alloc (.cells #[.int .i64 (i : Int), .int .i64 n, .int .i64 3, .int .i64 cl, .int .i64 hi, .int .i64 le, .slice none 0 0] 218)).alloc (.cells #[.int .i64 0, .int .i64 0, .int .i64 0, .int .i64 0, .int .i64 0, .int .i64 0, .slice none 0 0] 218) = w2 at X2 Y2 T2 H2 ⊢
  clear hxb
  obtain ⟨r4, lp⟩ := H2.out.r4
  obtain ⟨a, rfl, hs, -, k0, k1, k2, k3, k4, -⟩ := H2.out.ringA hd
  obtain ⟨x0, x1, x2, x3, x4, x5, x6, lx⟩ := bl_7 X2.out
  obtain ⟨f0, f1, f2, f3, f4, f5, f6⟩ := bf_7 X2.out
  obtain ⟨y0, y1, y2, y3, y4, y5, y6, ly⟩ := bl_7 Y2.out
  obtain ⟨e0, e1, e2, e3, e4, e5, e6⟩ := bf_7 Y2.out
  have lb : (a.add (i * 9)).block < w.heap.size := by
    obtain ⟨a', ha', hb'⟩ : ∃ a', some a = some a' ∧ (a'.add (i * 9)).block < w.heap.size := by
      obtain ⟨a', ha', -, -, z0, -⟩ := h.ringA hd
      exact ⟨a', ha', World.block_lt_of_cell? w _ z0⟩
    cases ha'
    exact hb'
  have n1 : (a.add (i * 9)).block ≠ xb := by have := HXB.out; omega
  have n2 : (a.add (i * 9)).block ≠ xb + 1 := by have := HXB.out; omega
  have n3 : xb ≠ (a.add (i * 9)).block := Ne.symm n1
  have n4 : xb + 1 ≠ (a.add (i * 9)).block := Ne.symm n2
  have lr : (a.add (i * 9)).block < w2.heap.size := by have := T2.out.size; omega
  have HYB := Lib.hid (show w.heap.size ≤ xb + 1 by have := HXB.out; omega)
  have fz4 := row_cellF H2.out.rs.rr hd (f := 4) (by decide) rfl
  have P4 := H2.out.put (d' := { d with seen := le }) (f := 4) (v := .int .i64 le) (u := .int .i64 d.seen) hd rfl rfl (H2.out.rs.sh i d hd)
  have S4 := (T2.out.mono (J' := (· = 12)) (fun _ h => h.elim)).trans P4.1
  have S5 := S4.setNew (p := ⟨xb, 2, none⟩) (.int .i64 4) HXB.out
  have D5 := P4.2.stp0 ((Stp.refl (· = 0) c2 _).setCell (p := ⟨xb, 2, none⟩) (.int .i64 4) X2.out.1)
  have SF := Lib.hid ((((((((S5.setNew (p := ⟨xb + 1, 0, none⟩) (.int .i64 (i : Int)) HYB.out).setNew (p := ⟨xb + 1, 1, none⟩) (.int .i64 n) HYB.out).setNew (p := ⟨xb + 1, 2, none⟩) (.int .i64 4) HYB.out).setNew (p := ⟨xb + 1, 3, none⟩) (.int .i64 cl) HYB.out).setNew (p := ⟨xb + 1, 4, none⟩) (.int .i64 hi) HYB.out).setNew (p := ⟨xb + 1, 5, none⟩) (.int .i64 le) HYB.out).setNew (p := ⟨xb + 1, 6, none⟩) (.slice none 0 0) HYB.out).drew)
  have HH := Lib.hid ((D5.stp0 (((((((((Stp.refl (· = 0) c2 _).setCell (p := ⟨xb + 1, 0, none⟩) (.int .i64 (i : Int)) Y2.out.1).setCell (p := ⟨xb + 1, 1, none⟩) (.int .i64 n) Y2.out.1).setCell (p := ⟨xb + 1, 2, none⟩) (.int .i64 4) Y2.out.1).setCell (p := ⟨xb + 1, 3, none⟩) (.int .i64 cl) Y2.out.1).setCell (p := ⟨xb + 1, 4, none⟩) (.int .i64 hi) Y2.out.1).setCell (p := ⟨xb + 1, 5, none⟩) (.int .i64 le) Y2.out.1).setCell (p := ⟨xb + 1, 6, none⟩) (.slice none 0 0) Y2.out.1))).stpF (Stp.refl (fun _ => False) c2 _).drew)
  clear h hd hs T2 H2 X2 Y2 lb P4 S4 S5 D5
  go_wp2
  go_region
  go_wp2
  refine bodyPost_ret (v := .tuple #[.agg #[.int .i64 (i : Int), .int .i64 n, .int .i64 4, .int .i64 cl, .int .i64 hi, .int .i64 le, .slice none 0 0], .int .i64 0]) (by clear HXB HYB SF HH; simp [results, Tryz.results134, go_sem, *]) rfl ⟨rfl, _, SF.out, HH.out⟩

set_option maxRecDepth 100000 in
set_option maxHeartbeats 4000000 in
theorem r14step_m4 (h : DWR c w p tp now dl l ro rcap R) (hd : R[i]? = some d) (_hm : d.many = true) (n cl hi le : Int) (hq : d.cl = cl) :
    Calls Tryz.prog 134 #[.pointer (some ⟨p, 0, none⟩), .agg #[.int .i64 (i : Int), .int .i64 n, .int .i64 4, .int .i64 cl, .int .i64 hi, .int .i64 le, .slice none 0 0]] w fun e w' => e = .returned (.tuple #[.agg #[.int .i64 (i : Int), .int .i64 n, .int .i64 5, .int .i64 cl, .int .i64 hi, .int .i64 le, .slice none 0 0], .int .i64 0]) ∧ ∃ c', Stp (· = 12) c c' w w' ∧ DWR c' w' p tp now dl l ro rcap (R.set i { d with cl := hi }) := by
  obtain ⟨i0, i1⟩ := h.lt hd
  have g4 : (d.cl == cl) = true := by simpa using hq
  obtain ⟨xb, hxb⟩ : ∃ x, x = w.heap.size := ⟨_, rfl⟩
  have HXB := Lib.hid (show w.heap.size ≤ xb by omega)
  obtain ⟨c1, hc1, t1⟩ := ((Stp.refl (fun _ => False) c w).alloc (.cells #[.int .i64 (i : Int), .int .i64 n, .int .i64 4, .int .i64 cl, .int .i64 hi, .int .i64 le, .slice none 0 0] 218) 0).name
  have X1 := (show Blk c1 0 (w.alloc (.cells #[.int .i64 (i : Int), .int .i64 n, .int .i64 4, .int .i64 cl, .int .i64 hi, .int .i64 le, .slice none 0 0] 218)) xb [.int .i64 (i : Int), .int .i64 n, .int .i64 4, .int .i64 cl, .int .i64 hi, .int .i64 le, .slice none 0 0] 218 by rw [hc1.out, hxb]; exact Blk.new c 0 w _ _)
  obtain ⟨c2, hc2, t2⟩ := ((Stp.refl (fun _ => False) c1 (w.alloc (.cells #[.int .i64 (i : Int), .int .i64 n, .int .i64 4, .int .i64 cl, .int .i64 hi, .int .i64 le, .slice none 0 0] 218))).alloc (.cells #[.int .i64 0, .int .i64 0, .int .i64 0, .int .i64 0, .int .i64 0, .int .i64 0, .slice none 0 0] 218) 0).name
  have Y2 := Lib.hid (show Blk c2 0 ((w.alloc (.cells #[.int .i64 (i : Int), .int .i64 n, .int .i64 4, .int .i64 cl, .int .i64 hi, .int .i64 le, .slice none 0 0] 218)).alloc (.cells #[.int .i64 0, .int .i64 0, .int .i64 0, .int .i64 0, .int .i64 0, .int .i64 0, .slice none 0 0] 218)) (xb + 1) [.int .i64 0, .int .i64 0, .int .i64 0, .int .i64 0, .int .i64 0, .int .i64 0, .slice none 0 0] 218 by rw [hc2.out, hxb]; simpa using Blk.new c1 0 (w.alloc (.cells #[.int .i64 (i : Int), .int .i64 n, .int .i64 4, .int .i64 cl, .int .i64 hi, .int .i64 le, .slice none 0 0] 218)) [.int .i64 0, .int .i64 0, .int .i64 0, .int .i64 0, .int .i64 0, .int .i64 0, .slice none 0 0] 218)
  have X2 := Lib.hid (X1.stp t2.out id)
  have T2 := Lib.hid (t1.out.trans t2.out)
  have H2 := Lib.hid (h.stpF T2.out)
  clear X1 hc1 hc2 t1 t2
  go_enter Tryz.func134, Tryz.ntmps134
  go_upto_region 1 with fail
  simp only [← hxb]
  generalize (w.alloc (.cells #[.int .i64 (i : Int), .int .i64 n, .int .i64 4, .int .i64 cl, .int .i64 hi, .int .i64 le, .slice none 0 0] 218)).alloc (.cells #[.int .i64 0, .int .i64 0, .int .i64 0, .int .i64 0, .int .i64 0, .int .i64 0, .slice none 0 0] 218) = w2 at X2 Y2 T2 H2 ⊢
  clear hxb
  obtain ⟨r4, lp⟩ := H2.out.r4
  obtain ⟨a, rfl, hs, -, k0, k1, k2, k3, k4, -⟩ := H2.out.ringA hd
  obtain ⟨x0, x1, x2, x3, x4, x5, x6, lx⟩ := bl_7 X2.out
  obtain ⟨f0, f1, f2, f3, f4, f5, f6⟩ := bf_7 X2.out
  obtain ⟨y0, y1, y2, y3, y4, y5, y6, ly⟩ := bl_7 Y2.out
  obtain ⟨e0, e1, e2, e3, e4, e5, e6⟩ := bf_7 Y2.out
  have lb : (a.add (i * 9)).block < w.heap.size := by
    obtain ⟨a', ha', hb'⟩ : ∃ a', some a = some a' ∧ (a'.add (i * 9)).block < w.heap.size := by
      obtain ⟨a', ha', -, -, z0, -⟩ := h.ringA hd
      exact ⟨a', ha', World.block_lt_of_cell? w _ z0⟩
    cases ha'
    exact hb'
  have n1 : (a.add (i * 9)).block ≠ xb := by have := HXB.out; omega
  have n2 : (a.add (i * 9)).block ≠ xb + 1 := by have := HXB.out; omega
  have n3 : xb ≠ (a.add (i * 9)).block := Ne.symm n1
  have n4 : xb + 1 ≠ (a.add (i * 9)).block := Ne.symm n2
  have lr : (a.add (i * 9)).block < w2.heap.size := by have := T2.out.size; omega
  have HYB := Lib.hid (show w.heap.size ≤ xb + 1 by have := HXB.out; omega)
  have fz2 := row_cellF H2.out.rs.rr hd (f := 2) (by decide) rfl
  have W0 := H2.out.stp0 ((Stp.refl (· = 0) c2 w2).setCell (p := ⟨xb, 2, none⟩) (.int .i64 0) X2.out.1)
  have P4 := W0.put (d' := { d with cl := hi }) (f := 2) (v := .int .i64 hi) (u := .int .i64 d.cl) hd rfl rfl (W0.rs.sh i d hd)
  have S4 := ((T2.out.setNew (p := ⟨xb, 2, none⟩) (.int .i64 0) HXB.out).mono (J' := (· = 12)) (fun _ h => h.elim)).trans P4.1
  have S5 := S4.setNew (p := ⟨xb, 2, none⟩) (.int .i64 5) HXB.out
  have D5 := P4.2.stp0 ((Stp.refl (· = 0) c2 _).setCell (p := ⟨xb, 2, none⟩) (.int .i64 5) X2.out.1)
  have SF := Lib.hid ((((((((S5.setNew (p := ⟨xb + 1, 0, none⟩) (.int .i64 (i : Int)) HYB.out).setNew (p := ⟨xb + 1, 1, none⟩) (.int .i64 n) HYB.out).setNew (p := ⟨xb + 1, 2, none⟩) (.int .i64 5) HYB.out).setNew (p := ⟨xb + 1, 3, none⟩) (.int .i64 cl) HYB.out).setNew (p := ⟨xb + 1, 4, none⟩) (.int .i64 hi) HYB.out).setNew (p := ⟨xb + 1, 5, none⟩) (.int .i64 le) HYB.out).setNew (p := ⟨xb + 1, 6, none⟩) (.slice none 0 0) HYB.out).drew.drew)
  have HH := Lib.hid ((D5.stp0 (((((((((Stp.refl (· = 0) c2 _).setCell (p := ⟨xb + 1, 0, none⟩) (.int .i64 (i : Int)) Y2.out.1).setCell (p := ⟨xb + 1, 1, none⟩) (.int .i64 n) Y2.out.1).setCell (p := ⟨xb + 1, 2, none⟩) (.int .i64 5) Y2.out.1).setCell (p := ⟨xb + 1, 3, none⟩) (.int .i64 cl) Y2.out.1).setCell (p := ⟨xb + 1, 4, none⟩) (.int .i64 hi) Y2.out.1).setCell (p := ⟨xb + 1, 5, none⟩) (.int .i64 le) Y2.out.1).setCell (p := ⟨xb + 1, 6, none⟩) (.slice none 0 0) Y2.out.1))).stpF ((Stp.refl (fun _ => False) c2 _).drew.drew))
  clear h hd hs hq T2 H2 X2 Y2 lb P4 S4 S5 D5 W0
  go_wp2
  go_region
  go_wp2
  go_region
  go_wp2
  refine bodyPost_ret (v := .tuple #[.agg #[.int .i64 (i : Int), .int .i64 n, .int .i64 5, .int .i64 cl, .int .i64 hi, .int .i64 le, .slice none 0 0], .int .i64 0]) (by clear HXB HYB SF HH; simp [results, Tryz.results134, go_sem, *]) rfl ⟨rfl, _, SF.out, HH.out⟩

set_option maxRecDepth 100000 in
set_option maxHeartbeats 4000000 in
theorem r14step_m1yes (h : DWR c w p tp now dl l ro rcap R) (hd : R[i]? = some d) (_hm : d.many = true) (n cl hi le : Int) (hv : wrap64 (hi - d.n) = hi - d.n) (hx : hi - d.n ≤ d.seen) (hy : d.seen ≤ cl) :
    Calls Tryz.prog 134 #[.pointer (some ⟨p, 0, none⟩), .agg #[.int .i64 (i : Int), .int .i64 n, .int .i64 1, .int .i64 cl, .int .i64 hi, .int .i64 le, .slice none 0 0]] w fun e w' => e = .returned (.tuple #[.agg #[.int .i64 (i : Int), .int .i64 n, .int .i64 4, .int .i64 cl, .int .i64 hi, .int .i64 le, .slice none 0 0], .int .i64 0]) ∧ ∃ c', Stp (fun _ => False) c c' w w' := by
  obtain ⟨i0, i1⟩ := h.lt hd
  have vk : IntKind.i64.wrap (hi - d.n) = hi - d.n := (IntWalk.i64_left _).trans hv
  have g5 : decide (hi - d.n ≤ d.seen) = true := by simpa using hx
  have g6 : decide (d.seen ≤ cl) = true := by simpa using hy
  obtain ⟨xb, hxb⟩ : ∃ x, x = w.heap.size := ⟨_, rfl⟩
  have HXB := Lib.hid (show w.heap.size ≤ xb by omega)
  obtain ⟨c1, hc1, t1⟩ := ((Stp.refl (fun _ => False) c w).alloc (.cells #[.int .i64 (i : Int), .int .i64 n, .int .i64 1, .int .i64 cl, .int .i64 hi, .int .i64 le, .slice none 0 0] 218) 0).name
  have X1 := (show Blk c1 0 (w.alloc (.cells #[.int .i64 (i : Int), .int .i64 n, .int .i64 1, .int .i64 cl, .int .i64 hi, .int .i64 le, .slice none 0 0] 218)) xb [.int .i64 (i : Int), .int .i64 n, .int .i64 1, .int .i64 cl, .int .i64 hi, .int .i64 le, .slice none 0 0] 218 by rw [hc1.out, hxb]; exact Blk.new c 0 w _ _)
  obtain ⟨c2, hc2, t2⟩ := ((Stp.refl (fun _ => False) c1 (w.alloc (.cells #[.int .i64 (i : Int), .int .i64 n, .int .i64 1, .int .i64 cl, .int .i64 hi, .int .i64 le, .slice none 0 0] 218))).alloc (.cells #[.int .i64 0, .int .i64 0, .int .i64 0, .int .i64 0, .int .i64 0, .int .i64 0, .slice none 0 0] 218) 0).name
  have Y2 := Lib.hid (show Blk c2 0 ((w.alloc (.cells #[.int .i64 (i : Int), .int .i64 n, .int .i64 1, .int .i64 cl, .int .i64 hi, .int .i64 le, .slice none 0 0] 218)).alloc (.cells #[.int .i64 0, .int .i64 0, .int .i64 0, .int .i64 0, .int .i64 0, .int .i64 0, .slice none 0 0] 218)) (xb + 1) [.int .i64 0, .int .i64 0, .int .i64 0, .int .i64 0, .int .i64 0, .int .i64 0, .slice none 0 0] 218 by rw [hc2.out, hxb]; simpa using Blk.new c1 0 (w.alloc (.cells #[.int .i64 (i : Int), .int .i64 n, .int .i64 1, .int .i64 cl, .int .i64 hi, .int .i64 le, .slice none 0 0] 218)) [.int .i64 0, .int .i64 0, .int .i64 0, .int .i64 0, .int .i64 0, .int .i64 0, .slice none 0 0] 218)
  have X2 := Lib.hid (X1.stp t2.out id)
  have T2 := Lib.hid (t1.out.trans t2.out)
  have H2 := Lib.hid (h.stpF T2.out)
  clear X1 hc1 hc2 t1 t2
  go_enter Tryz.func134, Tryz.ntmps134
  go_upto_region 1 with fail
  simp only [← hxb]
  generalize (w.alloc (.cells #[.int .i64 (i : Int), .int .i64 n, .int .i64 1, .int .i64 cl, .int .i64 hi, .int .i64 le, .slice none 0 0] 218)).alloc (.cells #[.int .i64 0, .int .i64 0, .int .i64 0, .int .i64 0, .int .i64 0, .int .i64 0, .slice none 0 0] 218) = w2 at X2 Y2 T2 H2 ⊢
  clear hxb
  obtain ⟨r4, lp⟩ := H2.out.r4
  obtain ⟨a, rfl, hs, -, k0, k1, k2, k3, k4, -⟩ := H2.out.ringA hd
  obtain ⟨x0, x1, x2, x3, x4, x5, x6, lx⟩ := bl_7 X2.out
  obtain ⟨f0, f1, f2, f3, f4, f5, f6⟩ := bf_7 X2.out
  obtain ⟨y0, y1, y2, y3, y4, y5, y6, ly⟩ := bl_7 Y2.out
  obtain ⟨e0, e1, e2, e3, e4, e5, e6⟩ := bf_7 Y2.out
  have lb : (a.add (i * 9)).block < w.heap.size := by
    obtain ⟨a', ha', hb'⟩ : ∃ a', some a = some a' ∧ (a'.add (i * 9)).block < w.heap.size := by
      obtain ⟨a', ha', -, -, z0, -⟩ := h.ringA hd
      exact ⟨a', ha', World.block_lt_of_cell? w _ z0⟩
    cases ha'
    exact hb'
  have n1 : (a.add (i * 9)).block ≠ xb := by have := HXB.out; omega
  have n2 : (a.add (i * 9)).block ≠ xb + 1 := by have := HXB.out; omega
  have n3 : xb ≠ (a.add (i * 9)).block := Ne.symm n1
  have n4 : xb + 1 ≠ (a.add (i * 9)).block := Ne.symm n2
  have lr : (a.add (i * 9)).block < w2.heap.size := by have := T2.out.size; omega
  have HYB := Lib.hid (show w.heap.size ≤ xb + 1 by have := HXB.out; omega)
  clear h hd hs hx hy lb
  go_wp2
  go_region
  go_wp2
  go_quiet (fail)
  have T3 := Lib.hid (T2.out.drew.drewN nq)
  have X3 := Lib.hid (X2.out.stp ((Stp.refl (fun _ => False) c2 w2).drew.drewN nq) id)
  have Y3 := Lib.hid (Y2.out.stp ((Stp.refl (fun _ => False) c2 w2).drew.drewN nq) id)
  have H3 := Lib.hid (H2.out.stpF ((Stp.refl (fun _ => False) c2 w2).drew.drewN nq))
  generalize w2.drew.drewN nq = w3 at T3 X3 Y3 H3 ⊢
  clear r4 lp k0 k1 k2 k3 k4 x0 x1 x2 x3 x4 x5 x6 lx f0 f1 f2 f3 f4 f5 f6 y0 y1 y2 y3 y4 y5 y6 ly e0 e1 e2 e3 e4 e5 e6 lr T2 X2 Y2 H2
  obtain ⟨x0, x1, x2, x3, x4, x5, x6, lx⟩ := bl_7 X3.out
  obtain ⟨f0, f1, f2, f3, f4, f5, f6⟩ := bf_7 X3.out
  obtain ⟨y0, y1, y2, y3, y4, y5, y6, ly⟩ := bl_7 Y3.out
  obtain ⟨e0, e1, e2, e3, e4, e5, e6⟩ := bf_7 Y3.out
  have SF := Lib.hid (((((((((T3.out.setNew (p := ⟨xb, 2, none⟩) (.int .i64 4) HXB.out).setNew (p := ⟨xb + 1, 0, none⟩) (.int .i64 (i : Int)) HYB.out).setNew (p := ⟨xb + 1, 1, none⟩) (.int .i64 n) HYB.out).setNew (p := ⟨xb + 1, 2, none⟩) (.int .i64 4) HYB.out).setNew (p := ⟨xb + 1, 3, none⟩) (.int .i64 cl) HYB.out).setNew (p := ⟨xb + 1, 4, none⟩) (.int .i64 hi) HYB.out).setNew (p := ⟨xb + 1, 5, none⟩) (.int .i64 le) HYB.out).setNew (p := ⟨xb + 1, 6, none⟩) (.slice none 0 0) HYB.out))
  clear T3 X3 Y3 H3
  go_wp2
  refine bodyPost_ret (v := .tuple #[.agg #[.int .i64 (i : Int), .int .i64 n, .int .i64 4, .int .i64 cl, .int .i64 hi, .int .i64 le, .slice none 0 0], .int .i64 0]) (by clear HXB HYB SF; simp [results, Tryz.results134, go_sem, *]) rfl ⟨rfl, _, SF.out⟩

set_option maxRecDepth 100000 in
set_option maxHeartbeats 4000000 in
theorem r14step_m1no (h : DWR c w p tp now dl l ro rcap R) (hd : R[i]? = some d) (hm : d.many = true) (n cl hi le : Int) (hv : wrap64 (hi - d.n) = hi - d.n) (hx : d.seen < hi - d.n) (hf : hi - d.n ≤ cl) :
    Calls Tryz.prog 134 #[.pointer (some ⟨p, 0, none⟩), .agg #[.int .i64 (i : Int), .int .i64 n, .int .i64 1, .int .i64 cl, .int .i64 hi, .int .i64 le, .slice none 0 0]] w fun e w' => e = .returned (.tuple #[.agg #[.int .i64 (i : Int), .int .i64 n, .int .i64 3, .int .i64 cl, .int .i64 hi, .int .i64 cl, .slice none 0 0], .int .i64 0]) ∧ ∃ c', Stp (· = 12) c c' w w' ∧ DWR c' w' p tp now dl l ro rcap (R) := by
  obtain ⟨i0, i1⟩ := h.lt hd
  have vk : IntKind.i64.wrap (hi - d.n) = hi - d.n := (IntWalk.i64_left _).trans hv
  have g5 : decide (hi - d.n ≤ d.seen) = false := by simp; omega
  have HM := Lib.hid hm
  obtain ⟨xb, hxb⟩ : ∃ x, x = w.heap.size := ⟨_, rfl⟩
  have HXB := Lib.hid (show w.heap.size ≤ xb by omega)
  obtain ⟨c1, hc1, t1⟩ := ((Stp.refl (fun _ => False) c w).alloc (.cells #[.int .i64 (i : Int), .int .i64 n, .int .i64 1, .int .i64 cl, .int .i64 hi, .int .i64 le, .slice none 0 0] 218) 0).name
  have X1 := (show Blk c1 0 (w.alloc (.cells #[.int .i64 (i : Int), .int .i64 n, .int .i64 1, .int .i64 cl, .int .i64 hi, .int .i64 le, .slice none 0 0] 218)) xb [.int .i64 (i : Int), .int .i64 n, .int .i64 1, .int .i64 cl, .int .i64 hi, .int .i64 le, .slice none 0 0] 218 by rw [hc1.out, hxb]; exact Blk.new c 0 w _ _)
  obtain ⟨c2, hc2, t2⟩ := ((Stp.refl (fun _ => False) c1 (w.alloc (.cells #[.int .i64 (i : Int), .int .i64 n, .int .i64 1, .int .i64 cl, .int .i64 hi, .int .i64 le, .slice none 0 0] 218))).alloc (.cells #[.int .i64 0, .int .i64 0, .int .i64 0, .int .i64 0, .int .i64 0, .int .i64 0, .slice none 0 0] 218) 0).name
  have Y2 := Lib.hid (show Blk c2 0 ((w.alloc (.cells #[.int .i64 (i : Int), .int .i64 n, .int .i64 1, .int .i64 cl, .int .i64 hi, .int .i64 le, .slice none 0 0] 218)).alloc (.cells #[.int .i64 0, .int .i64 0, .int .i64 0, .int .i64 0, .int .i64 0, .int .i64 0, .slice none 0 0] 218)) (xb + 1) [.int .i64 0, .int .i64 0, .int .i64 0, .int .i64 0, .int .i64 0, .int .i64 0, .slice none 0 0] 218 by rw [hc2.out, hxb]; simpa using Blk.new c1 0 (w.alloc (.cells #[.int .i64 (i : Int), .int .i64 n, .int .i64 1, .int .i64 cl, .int .i64 hi, .int .i64 le, .slice none 0 0] 218)) [.int .i64 0, .int .i64 0, .int .i64 0, .int .i64 0, .int .i64 0, .int .i64 0, .slice none 0 0] 218)
  have X2 := Lib.hid (X1.stp t2.out id)
  have T2 := Lib.hid (t1.out.trans t2.out)
  have H2 := Lib.hid (h.stpF T2.out)
  clear X1 hc1 hc2 t1 t2
  go_enter Tryz.func134, Tryz.ntmps134
  go_upto_region 1 with fail
  simp only [← hxb]
  generalize (w.alloc (.cells #[.int .i64 (i : Int), .int .i64 n, .int .i64 1, .int .i64 cl, .int .i64 hi, .int .i64 le, .slice none 0 0] 218)).alloc (.cells #[.int .i64 0, .int .i64 0, .int .i64 0, .int .i64 0, .int .i64 0, .int .i64 0, .slice none 0 0] 218) = w2 at X2 Y2 T2 H2 ⊢
  clear hxb
  obtain ⟨r4, lp⟩ := H2.out.r4
  obtain ⟨a, rfl, hs, -, k0, k1, k2, k3, k4, -⟩ := H2.out.ringA hd
  obtain ⟨x0, x1, x2, x3, x4, x5, x6, lx⟩ := bl_7 X2.out
  obtain ⟨f0, f1, f2, f3, f4, f5, f6⟩ := bf_7 X2.out
  obtain ⟨y0, y1, y2, y3, y4, y5, y6, ly⟩ := bl_7 Y2.out
  obtain ⟨e0, e1, e2, e3, e4, e5, e6⟩ := bf_7 Y2.out
  rw [hm] at k1
  have lb : (a.add (i * 9)).block < w.heap.size := by
    obtain ⟨a', ha', hb'⟩ : ∃ a', some a = some a' ∧ (a'.add (i * 9)).block < w.heap.size := by
      obtain ⟨a', ha', -, -, z0, -⟩ := h.ringA hd
      exact ⟨a', ha', World.block_lt_of_cell? w _ z0⟩
    cases ha'
    exact hb'
  have n1 : (a.add (i * 9)).block ≠ xb := by have := HXB.out; omega
  have n2 : (a.add (i * 9)).block ≠ xb + 1 := by have := HXB.out; omega
  have n3 : xb ≠ (a.add (i * 9)).block := Ne.symm n1
  have n4 : xb + 1 ≠ (a.add (i * 9)).block := Ne.symm n2
  have lr : (a.add (i * 9)).block < w2.heap.size := by have := T2.out.size; omega
  have HYB := Lib.hid (show w.heap.size ≤ xb + 1 by have := HXB.out; omega)
  have HD := Lib.hid hd
  have HV := Lib.hid hv
  have HF := Lib.hid hf
  clear h hd hm hs hx hf lb
  go_wp2
  go_region
  go_wp2
  go_quiet (fail)
  have T3 := Lib.hid (T2.out.drew.drewN nq)
  have X3 := Lib.hid (X2.out.stp ((Stp.refl (fun _ => False) c2 w2).drew.drewN nq) id)
  have Y3 := Lib.hid (Y2.out.stp ((Stp.refl (fun _ => False) c2 w2).drew.drewN nq) id)
  have H3 := Lib.hid (H2.out.stpF ((Stp.refl (fun _ => False) c2 w2).drew.drewN nq))
  generalize w2.drew.drewN nq = w3 at T3 X3 Y3 H3 ⊢
  clear r4 lp k0 k1 k2 k3 k4 x0 x1 x2 x3 x4 x5 x6 lx f0 f1 f2 f3 f4 f5 f6 y0 y1 y2 y3 y4 y5 y6 ly e0 e1 e2 e3 e4 e5 e6 lr T2 X2 Y2 H2
  obtain ⟨x0, x1, x2, x3, x4, x5, x6, lx⟩ := bl_7 X3.out
  obtain ⟨f0, f1, f2, f3, f4, f5, f6⟩ := bf_7 X3.out
  obtain ⟨y0, y1, y2, y3, y4, y5, y6, ly⟩ := bl_7 Y3.out
  obtain ⟨e0, e1, e2, e3, e4, e5, e6⟩ := bf_7 Y3.out
  go_wp2_with fail
  refine (r14scan_m H3.out HD.out HM.out n cl hi 1 le cl HV.out HF.out).mono ?_
  rintro e w6 ⟨rfl, c6, t6, d6⟩
  have S6 := Lib.hid ((T3.out.mono (J' := (· = 12)) (fun _ h => h.elim)).trans t6)
  have Y6 := Lib.hid (Y3.out.stp t6 (by decide))
  have D6 := Lib.hid d6
  clear t6 d6 x0 x1 x2 x3 x4 x5 x6 lx f0 f1 f2 f3 f4 f5 f6 y0 y1 y2 y3 y4 y5 y6 ly e0 e1 e2 e3 e4 e5 e6 n1 n2 n3 n4 Y3 T3 H3 X3
  obtain ⟨y0, y1, y2, y3, y4, y5, y6, ly⟩ := bl_7 Y6.out
  obtain ⟨e0, e1, e2, e3, e4, e5, e6⟩ := bf_7 Y6.out
  have HH := Lib.hid (D6.out.stp0 (((((((((Stp.refl (· = 0) c6 _).setCell (p := ⟨xb + 1, 0, none⟩) (.int .i64 (i : Int)) Y6.out.1).setCell (p := ⟨xb + 1, 1, none⟩) (.int .i64 n) Y6.out.1).setCell (p := ⟨xb + 1, 2, none⟩) (.int .i64 3) Y6.out.1).setCell (p := ⟨xb + 1, 3, none⟩) (.int .i64 cl) Y6.out.1).setCell (p := ⟨xb + 1, 4, none⟩) (.int .i64 hi) Y6.out.1).setCell (p := ⟨xb + 1, 5, none⟩) (.int .i64 cl) Y6.out.1).setCell (p := ⟨xb + 1, 6, none⟩) (.slice none 0 0) Y6.out.1)))
  have SF := Lib.hid ((((((((S6.out.setNew (p := ⟨xb + 1, 0, none⟩) (.int .i64 (i : Int)) HYB.out).setNew (p := ⟨xb + 1, 1, none⟩) (.int .i64 n) HYB.out).setNew (p := ⟨xb + 1, 2, none⟩) (.int .i64 3) HYB.out).setNew (p := ⟨xb + 1, 3, none⟩) (.int .i64 cl) HYB.out).setNew (p := ⟨xb + 1, 4, none⟩) (.int .i64 hi) HYB.out).setNew (p := ⟨xb + 1, 5, none⟩) (.int .i64 cl) HYB.out).setNew (p := ⟨xb + 1, 6, none⟩) (.slice none 0 0) HYB.out))
  clear D6 S6 Y6
  go_wp2
  refine bodyPost_ret (v := .tuple #[.agg #[.int .i64 (i : Int), .int .i64 n, .int .i64 3, .int .i64 cl, .int .i64 hi, .int .i64 cl, .slice none 0 0], .int .i64 0]) (by clear HXB HYB SF HH HD HM HV HF; simp [results, Tryz.results134, go_sem, *]) rfl ⟨rfl, c6, SF.out, HH.out⟩

set_option maxRecDepth 100000 in
set_option maxHeartbeats 4000000 in
theorem r14step_s0ok (h : DWR c w p tp now dl l ro rcap R) (hd : R[i]? = some d) (hm : d.many = false) (n cl hi le : Int) (hv : wrap64 (hi - d.n) = hi - d.n) (hf : hi - d.n ≤ d.pub) :
    Calls Tryz.prog 134 #[.pointer (some ⟨p, 0, none⟩), .agg #[.int .i64 (i : Int), .int .i64 n, .int .i64 0, .int .i64 cl, .int .i64 hi, .int .i64 le, .slice none 0 0]] w fun e w' => e = .returned (.tuple #[.agg #[.int .i64 (i : Int), .int .i64 n, .int .i64 5, .int .i64 cl, .int .i64 hi, .int .i64 d.pub, .slice none 0 0], .int .i64 0]) ∧ ∃ c', Stp (· = 12) c c' w w' ∧ DWR c' w' p tp now dl l ro rcap (R.set i { d with seen := d.pub, cl := hi }) := by
  obtain ⟨i0, i1⟩ := h.lt hd
  have HM := Lib.hid hm
  obtain ⟨xb, hxb⟩ : ∃ x, x = w.heap.size := ⟨_, rfl⟩
  have HXB := Lib.hid (show w.heap.size ≤ xb by omega)
  obtain ⟨c1, hc1, t1⟩ := ((Stp.refl (fun _ => False) c w).alloc (.cells #[.int .i64 (i : Int), .int .i64 n, .int .i64 0, .int .i64 cl, .int .i64 hi, .int .i64 le, .slice none 0 0] 218) 0).name
  have X1 := (show Blk c1 0 (w.alloc (.cells #[.int .i64 (i : Int), .int .i64 n, .int .i64 0, .int .i64 cl, .int .i64 hi, .int .i64 le, .slice none 0 0] 218)) xb [.int .i64 (i : Int), .int .i64 n, .int .i64 0, .int .i64 cl, .int .i64 hi, .int .i64 le, .slice none 0 0] 218 by rw [hc1.out, hxb]; exact Blk.new c 0 w _ _)
  obtain ⟨c2, hc2, t2⟩ := ((Stp.refl (fun _ => False) c1 (w.alloc (.cells #[.int .i64 (i : Int), .int .i64 n, .int .i64 0, .int .i64 cl, .int .i64 hi, .int .i64 le, .slice none 0 0] 218))).alloc (.cells #[.int .i64 0, .int .i64 0, .int .i64 0, .int .i64 0, .int .i64 0, .int .i64 0, .slice none 0 0] 218) 0).name
  have Y2 := Lib.hid (show Blk c2 0 ((w.alloc (.cells #[.int .i64 (i : Int), .int .i64 n, .int .i64 0, .int .i64 cl, .int .i64 hi, .int .i64 le, .slice none 0 0] 218)).alloc (.cells #[.int .i64 0, .int .i64 0, .int .i64 0, .int .i64 0, .int .i64 0, .int .i64 0, .slice none 0 0] 218)) (xb + 1) [.int .i64 0, .int .i64 0, .int .i64 0, .int .i64 0, .int .i64 0, .int .i64 0, .slice none 0 0] 218 by rw [hc2.out, hxb]; simpa using Blk.new c1 0 (w.alloc (.cells #[.int .i64 (i : Int), .int .i64 n, .int .i64 0, .int .i64 cl, .int .i64 hi, .int .i64 le, .slice none 0 0] 218)) [.int .i64 0, .int .i64 0, .int .i64 0, .int .i64 0, .int .i64 0, .int .i64 0, .slice none 0 0] 218)
  have X2 := Lib.hid (X1.stp t2.out id)
  have T2 := Lib.hid (t1.out.trans t2.out)
  have H2 := Lib.hid (h.stpF T2.out)
  clear X1 hc1 hc2 t1 t2
  go_enter Tryz.func134, Tryz.ntmps134
  go_upto_region 1 with fail
  simp only [← hxb]
  generalize (w.alloc (.cells #[.int .i64 (i : Int), .int .i64 n, .int .i64 0, .int .i64 cl, .int .i64 hi, .int .i64 le, .slice none 0 0] 218)).alloc (.cells #[.int .i64 0, .int .i64 0, .int .i64 0, .int .i64 0, .int .i64 0, .int .i64 0, .slice none 0 0] 218) = w2 at X2 Y2 T2 H2 ⊢
  clear hxb
  obtain ⟨r4, lp⟩ := H2.out.r4
  obtain ⟨a, rfl, hs, -, k0, k1, k2, k3, k4, -⟩ := H2.out.ringA hd
  obtain ⟨x0, x1, x2, x3, x4, x5, x6, lx⟩ := bl_7 X2.out
  obtain ⟨f0, f1, f2, f3, f4, f5, f6⟩ := bf_7 X2.out
  obtain ⟨y0, y1, y2, y3, y4, y5, y6, ly⟩ := bl_7 Y2.out
  obtain ⟨e0, e1, e2, e3, e4, e5, e6⟩ := bf_7 Y2.out
  rw [hm] at k1
  have lb : (a.add (i * 9)).block < w.heap.size := by
    obtain ⟨a', ha', hb'⟩ : ∃ a', some a = some a' ∧ (a'.add (i * 9)).block < w.heap.size := by
      obtain ⟨a', ha', -, -, z0, -⟩ := h.ringA hd
      exact ⟨a', ha', World.block_lt_of_cell? w _ z0⟩
    cases ha'
    exact hb'
  have n1 : (a.add (i * 9)).block ≠ xb := by have := HXB.out; omega
  have n2 : (a.add (i * 9)).block ≠ xb + 1 := by have := HXB.out; omega
  have n3 : xb ≠ (a.add (i * 9)).block := Ne.symm n1
  have n4 : xb + 1 ≠ (a.add (i * 9)).block := Ne.symm n2
  have lr : (a.add (i * 9)).block < w2.heap.size := by have := T2.out.size; omega
  have HYB := Lib.hid (show w.heap.size ≤ xb + 1 by have := HXB.out; omega)
  have HD := Lib.hid hd
  have HV := Lib.hid hv
  have HF := Lib.hid hf
  have T3 := Lib.hid (T2.out.drew)
  have X3 := Lib.hid (X2.out.stp ((Stp.refl (fun _ => False) c2 w2).drew) id)
  have Y3 := Lib.hid (Y2.out.stp ((Stp.refl (fun _ => False) c2 w2).drew) id)
  have H3 := Lib.hid (H2.out.stpF ((Stp.refl (fun _ => False) c2 w2).drew))
  clear h hd hm hs hf T2 H2 X2 Y2 lb
  go_wp2
  go_region
  go_upto_region 5 with fail
  generalize w2.drew = w3 at T3 X3 Y3 H3 ⊢
  clear r4 lp k0 k1 k2 k3 k4 x0 x1 x2 x3 x4 x5 x6 lx f0 f1 f2 f3 f4 f5 f6 y0 y1 y2 y3 y4 y5 y6 ly e0 e1 e2 e3 e4 e5 e6 n1 n2 n3 n4 lr
  refine Tryz.rts5 (d := d) (d' := { d with seen := d.pub, cl := hi }) (R' := R.set i { d with seen := d.pub, cl := hi }) (stz := 5) H3 HD (Lib.hid (List.getElem?_set_self (List.getElem?_eq_some_iff.1 HD.out).1)) (Lib.hid rfl) X3 Y3 (Lib.hid (fun W hW => (r14scan_sok (H3.out.stpF hW) HD.out HM.out n cl hi 0 le d.pub HV.out HF.out).mono (fun e w' h => h))) ?_
  intro c6 w6 g0 g1 g2 g3 g4 g5 g6 hS6 hD6 hY6
  have SF := Lib.hid (hS6.out c w HYB.out (T3.out.mono (fun _ h => h.elim)))
  obtain ⟨y0, y1, y2, y3, y4, y5, y6, ly⟩ := bl_7 hY6.out
  clear T3 X3 Y3 H3 hS6 hY6
  go_wp2
  refine bodyPost_ret (v := .tuple #[.agg #[.int .i64 (i : Int), .int .i64 n, .int .i64 5, .int .i64 cl, .int .i64 hi, .int .i64 d.pub, .slice none 0 0], .int .i64 0]) (by clear HXB HYB SF hD6 HD HM HV HF; simp [results, Tryz.results134, go_sem, *]) rfl ⟨rfl, c6, SF.out, hD6.out⟩

set_option maxRecDepth 100000 in
set_option maxHeartbeats 4000000 in
theorem r14step_s0full (h : DWR c w p tp now dl l ro rcap R) (hd : R[i]? = some d) (hm : d.many = false) (n cl hi le : Int) (hv : wrap64 (hi - d.n) = hi - d.n) (hf : d.pub < hi - d.n) :
    Calls Tryz.prog 134 #[.pointer (some ⟨p, 0, none⟩), .agg #[.int .i64 (i : Int), .int .i64 n, .int .i64 0, .int .i64 cl, .int .i64 hi, .int .i64 le, .slice none 0 0]] w fun e w' => e = .returned (.tuple #[.agg #[.int .i64 (i : Int), .int .i64 n, .int .i64 6, .int .i64 cl, .int .i64 hi, .int .i64 d.pub, .slice none 0 0], .int .i64 0]) ∧ ∃ c', Stp (· = 12) c c' w w' ∧ DWR c' w' p tp now dl l ro rcap (R.set i { d with seen := d.pub }) := by
  obtain ⟨i0, i1⟩ := h.lt hd
  have HM := Lib.hid hm
  obtain ⟨xb, hxb⟩ : ∃ x, x = w.heap.size := ⟨_, rfl⟩
  have HXB := Lib.hid (show w.heap.size ≤ xb by omega)
  obtain ⟨c1, hc1, t1⟩ := ((Stp.refl (fun _ => False) c w).alloc (.cells #[.int .i64 (i : Int), .int .i64 n, .int .i64 0, .int .i64 cl, .int .i64 hi, .int .i64 le, .slice none 0 0] 218) 0).name
  have X1 := (show Blk c1 0 (w.alloc (.cells #[.int .i64 (i : Int), .int .i64 n, .int .i64 0, .int .i64 cl, .int .i64 hi, .int .i64 le, .slice none 0 0] 218)) xb [.int .i64 (i : Int), .int .i64 n, .int .i64 0, .int .i64 cl, .int .i64 hi, .int .i64 le, .slice none 0 0] 218 by rw [hc1.out, hxb]; exact Blk.new c 0 w _ _)
  obtain ⟨c2, hc2, t2⟩ := ((Stp.refl (fun _ => False) c1 (w.alloc (.cells #[.int .i64 (i : Int), .int .i64 n, .int .i64 0, .int .i64 cl, .int .i64 hi, .int .i64 le, .slice none 0 0] 218))).alloc (.cells #[.int .i64 0, .int .i64 0, .int .i64 0, .int .i64 0, .int .i64 0, .int .i64 0, .slice none 0 0] 218) 0).name
  have Y2 := Lib.hid (show Blk c2 0 ((w.alloc (.cells #[.int .i64 (i : Int), .int .i64 n, .int .i64 0, .int .i64 cl, .int .i64 hi, .int .i64 le, .slice none 0 0] 218)).alloc (.cells #[.int .i64 0, .int .i64 0, .int .i64 0, .int .i64 0, .int .i64 0, .int .i64 0, .slice none 0 0] 218)) (xb + 1) [.int .i64 0, .int .i64 0, .int .i64 0, .int .i64 0, .int .i64 0, .int .i64 0, .slice none 0 0] 218 by rw [hc2.out, hxb]; simpa using Blk.new c1 0 (w.alloc (.cells #[.int .i64 (i : Int), .int .i64 n, .int .i64 0, .int .i64 cl, .int .i64 hi, .int .i64 le, .slice none 0 0] 218)) [.int .i64 0, .int .i64 0, .int .i64 0, .int .i64 0, .int .i64 0, .int .i64 0, .slice none 0 0] 218)
  have X2 := Lib.hid (X1.stp t2.out id)
  have T2 := Lib.hid (t1.out.trans t2.out)
  have H2 := Lib.hid (h.stpF T2.out)
  clear X1 hc1 hc2 t1 t2
  go_enter Tryz.func134, Tryz.ntmps134
  go_upto_region 1 with fail
  simp only [← hxb]
  generalize (w.alloc (.cells #[.int .i64 (i : Int), .int .i64 n, .int .i64 0, .int .i64 cl, .int .i64 hi, .int .i64 le, .slice none 0 0] 218)).alloc (.cells #[.int .i64 0, .int .i64 0, .int .i64 0, .int .i64 0, .int .i64 0, .int .i64 0, .slice none 0 0] 218) = w2 at X2 Y2 T2 H2 ⊢
  clear hxb
  obtain ⟨r4, lp⟩ := H2.out.r4
  obtain ⟨a, rfl, hs, -, k0, k1, k2, k3, k4, -⟩ := H2.out.ringA hd
  obtain ⟨x0, x1, x2, x3, x4, x5, x6, lx⟩ := bl_7 X2.out
  obtain ⟨f0, f1, f2, f3, f4, f5, f6⟩ := bf_7 X2.out
  obtain ⟨y0, y1, y2, y3, y4, y5, y6, ly⟩ := bl_7 Y2.out
  obtain ⟨e0, e1, e2, e3, e4, e5, e6⟩ := bf_7 Y2.out
  rw [hm] at k1
  have lb : (a.add (i * 9)).block < w.heap.size := by
    obtain ⟨a', ha', hb'⟩ : ∃ a', some a = some a' ∧ (a'.add (i * 9)).block < w.heap.size := by
      obtain ⟨a', ha', -, -, z0, -⟩ := h.ringA hd
      exact ⟨a', ha', World.block_lt_of_cell? w _ z0⟩
    cases ha'
    exact hb'
  have n1 : (a.add (i * 9)).block ≠ xb := by have := HXB.out; omega
  have n2 : (a.add (i * 9)).block ≠ xb + 1 := by have := HXB.out; omega
  have n3 : xb ≠ (a.add (i * 9)).block := Ne.symm n1
  have n4 : xb + 1 ≠ (a.add (i * 9)).block := Ne.symm n2
  have lr : (a.add (i * 9)).block < w2.heap.size := by have := T2.out.size; omega
  have HYB := Lib.hid (show w.heap.size ≤ xb + 1 by have := HXB.out; omega)
  have HD := Lib.hid hd
  have HV := Lib.hid hv
  have HF := Lib.hid hf
  have T3 := Lib.hid (T2.out.drew)
  have X3 := Lib.hid (X2.out.stp ((Stp.refl (fun _ => False) c2 w2).drew) id)
  have Y3 := Lib.hid (Y2.out.stp ((Stp.refl (fun _ => False) c2 w2).drew) id)
  have H3 := Lib.hid (H2.out.stpF ((Stp.refl (fun _ => False) c2 w2).drew))
  clear h hd hm hs hf T2 H2 X2 Y2 lb
  go_wp2
  go_region
  go_upto_region 5 with fail
  generalize w2.drew = w3 at T3 X3 Y3 H3 ⊢
  clear r4 lp k0 k1 k2 k3 k4 x0 x1 x2 x3 x4 x5 x6 lx f0 f1 f2 f3 f4 f5 f6 y0 y1 y2 y3 y4 y5 y6 ly e0 e1 e2 e3 e4 e5 e6 n1 n2 n3 n4 lr
  refine Tryz.rts5 (d := d) (d' := { d with seen := d.pub }) (R' := R.set i { d with seen := d.pub }) (stz := 6) H3 HD (Lib.hid (List.getElem?_set_self (List.getElem?_eq_some_iff.1 HD.out).1)) (Lib.hid rfl) X3 Y3 (Lib.hid (fun W hW => (r14scan_sfull (H3.out.stpF hW) HD.out HM.out n cl hi 0 le d.pub HV.out HF.out).mono (fun e w' h => h))) ?_
  intro c6 w6 g0 g1 g2 g3 g4 g5 g6 hS6 hD6 hY6
  have SF := Lib.hid (hS6.out c w HYB.out (T3.out.mono (fun _ h => h.elim)))
  obtain ⟨y0, y1, y2, y3, y4, y5, y6, ly⟩ := bl_7 hY6.out
  clear T3 X3 Y3 H3 hS6 hY6
  go_wp2
  refine bodyPost_ret (v := .tuple #[.agg #[.int .i64 (i : Int), .int .i64 n, .int .i64 6, .int .i64 cl, .int .i64 hi, .int .i64 d.pub, .slice none 0 0], .int .i64 0]) (by clear HXB HYB SF hD6 HD HM HV HF; simp [results, Tryz.results134, go_sem, *]) rfl ⟨rfl, c6, SF.out, hD6.out⟩
end
end Go.Proofs.YtiphdedfbafhkaaGreatDoor
