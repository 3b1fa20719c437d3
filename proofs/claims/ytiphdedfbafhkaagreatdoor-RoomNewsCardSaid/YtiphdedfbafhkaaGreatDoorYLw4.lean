/- Contracts that the closing theorem wants (Lw4). No condition beyond each law's own. -/
import Derived.Test.YtiphdedfbafhkaaGreatDoorYLq
namespace Go.Proofs.YtiphdedfbafhkaaGreatDoor
open Go.RowKit

def S98 (tb ub : Nat) (xu : CV) (i s : Nat) (n cl hi le : Int) (w : World) : Prop := (w.cell? ⟨tb, 0, none⟩ = some (.bool xu.b) ∧ w.cell? ⟨tb, 1, none⟩ = some (.pointer xu.p1) ∧ w.cell? ⟨tb, 2, none⟩ = some (.int .i64 xu.a) ∧ w.cell? ⟨tb, 3, none⟩ = some (.slice xu.so xu.sn xu.sc) ∧ w.cell? ⟨tb, 4, none⟩ = some (.int .i64 xu.m) ∧ w.cell? ⟨tb, 5, none⟩ = some (.bool xu.s) ∧ w.cell? ⟨tb, 6, none⟩ = some (.bool xu.d) ∧ w.cell? ⟨tb, 7, none⟩ = some (.bool xu.f) ∧ w.cell? ⟨tb, 8, none⟩ = some (.pointer xu.p2) ∧ w.cell? ⟨tb, 9, none⟩ = some (.int .i64 xu.n) ∧ w.cell? ⟨tb, 10, none⟩ = some (.int .i64 xu.st) ∧ w.cell? ⟨tb, 11, none⟩ = some (.int .i64 xu.cl) ∧ w.cell? ⟨tb, 12, none⟩ = some (.int .i64 xu.hi) ∧ w.cell? ⟨tb, 13, none⟩ = some (.slice xu.o2 xu.n2 xu.c2) ∧ w.cell? ⟨tb, 14, none⟩ = some (.int .i64 xu.mo)) ∧ (w.cell? ⟨ub, 0, none⟩ = some (.int .i64 (i : Int)) ∧ w.cell? ⟨ub, 1, none⟩ = some (.int .i64 n) ∧ w.cell? ⟨ub, 2, none⟩ = some (.int .i64 (s : Int)) ∧ w.cell? ⟨ub, 3, none⟩ = some (.int .i64 cl) ∧ w.cell? ⟨ub, 4, none⟩ = some (.int .i64 hi) ∧ w.cell? ⟨ub, 5, none⟩ = some (.int .i64 le) ∧ w.cell? ⟨ub, 6, none⟩ = some (.slice none 0 0))
theorem s98 {c : Nat → Nat} {w : World} {tb ub k1 k2 : Nat} {xu : CV} {i s : Nat} {n cl hi le : Int} {t1 t2 : TypeId} (X : Blk c k1 w tb [.bool xu.b, .pointer xu.p1, .int .i64 xu.a, .slice xu.so xu.sn xu.sc, .int .i64 xu.m, .bool xu.s, .bool xu.d, .bool xu.f, .pointer xu.p2, .int .i64 xu.n, .int .i64 xu.st, .int .i64 xu.cl, .int .i64 xu.hi, .slice xu.o2 xu.n2 xu.c2, .int .i64 xu.mo] t1) (Y : Blk c k2 w ub [.int .i64 (i : Int), .int .i64 n, .int .i64 (s : Int), .int .i64 cl, .int .i64 hi, .int .i64 le, .slice none 0 0] t2) : S98 tb ub xu i s n cl hi le w := by
  obtain ⟨y0, y1, y2, y3, y4, y5, y6, -⟩ := bl_7 Y
  exact ⟨cells15 X, y0, y1, y2, y3, y4, y5, y6⟩

noncomputable def Tryz.ccl15 : Code := (Tryz.f98.body.bind (regionN 15)).getD .skip

set_option maxRecDepth 1000000 in
set_option maxHeartbeats 100000000 in
theorem Tryz.rcl15 {k r p i s tb ub : Nat} {n cl hi le : Int} {xu : CV} {bf b5 : Bool} {lv : Int} {c9 : Nat → Nat} {w9 : World} (P9 : Hid (CP k r p i n c9 w9 s cl hi le xu)) (X9 : Hid (Blk c9 2 w9 tb [.bool xu.b, .pointer xu.p1, .int .i64 xu.a, .slice xu.so xu.sn xu.sc, .int .i64 xu.m, .bool xu.s, .bool xu.d, .bool xu.f, .pointer xu.p2, .int .i64 xu.n, .int .i64 xu.st, .int .i64 xu.cl, .int .i64 xu.hi, .slice xu.o2 xu.n2 xu.c2, .int .i64 xu.mo] 38)) (Y9 : Hid (Blk c9 2 w9 ub [.int .i64 (i : Int), .int .i64 n, .int .i64 (s : Int), .int .i64 cl, .int .i64 hi, .int .i64 le, .slice none 0 0] 218))
    (H5 : Hid (decide (5 ≤ s) = true ∧ decide (s = 6) = bf ∧ (if s = 5 then hi else -1) = lv ∧ (((s : Nat) : Int) == 6) = bf ∧ (((s : Nat) : Int) == 5) = b5 ∧ (if b5 = true then hi else -1) = lv)) {fr0 fr1 fr2 fr3 fr4 fr5 fr6 fr7 fr8 fr10 fr13 fr14 fr15 fr16 fr17 fr18 fr19 fr20 fr21 fr22 fr23 fr24 fr25 fr26 fr27 fr28 fr29 fr30 fr31 fr32 fr33 fr34 fr35 fr36 fr37 fr38 fr39 fr40 fr41 fr42 fr43 fr44 fr45 fr46 fr47 fr48 fr49 fr50 fr51 fr52 fr53 fr54 fr55 fr56 fr57 fr58 fr59 fr60 fr61 fr62 fr63 fr64 fr65 fr66 fr67 fr68 fr69 fr70 fr71 fr72 fr73 fr74 fr75 fr76 fr77 fr78 fr79 fr80 fr81 fr82 fr83 fr84 fr85 fr86 fr87 fr88 fr89 fr90 fr91 fr92 fr93 fr94 fr95 fr96 fr97 fr98 fr99 fr100 fr101 fr102 fr103 fr104 fr105 fr106 fr107 fr108 : Value} {Q0 : Exit → Act → World → Prop}
    (hQ : ∀ (c' : Nat → Nat) (w' : World), ∀ g88 g89 g90 g91 g92 g93 g94 g95 g96 g97 g98 g99 g100 g101 g102 g103 g104 g105 g106 g107 g108 : Value, Hid (Stp (fun _ => False) c9 c' w9 w') → Q0 .normal ⟨#[fr0, fr1, fr2, fr3, fr4, fr5, fr6, fr7, .bool true, .pointer (some ⟨tb, 0, none⟩), fr10, .pointer (some ⟨ub, 0, none⟩), .int .i64 0, fr13, fr14, fr15, fr16, fr17, fr18, fr19, fr20, fr21, fr22, fr23, fr24, fr25, fr26, fr27, fr28, fr29, fr30, fr31, fr32, fr33, fr34, fr35, fr36, fr37, fr38, fr39, fr40, fr41, fr42, fr43, fr44, fr45, fr46, fr47, fr48, fr49, fr50, fr51, fr52, fr53, fr54, fr55, fr56, fr57, fr58, fr59, fr60, fr61, fr62, fr63, fr64, fr65, fr66, fr67, fr68, fr69, fr70, fr71, fr72, fr73, fr74, fr75, fr76, fr77, fr78, fr79, fr80, fr81, fr82, fr83, fr84, fr85, fr86, fr87, g88, g89, g90, g91, g92, g93, g94, g95, g96, g97, g98, g99, g100, g101, g102, g103, g104, g105, g106, g107, g108], []⟩ w') : Code.wp Tryz.prog Tryz.ccl15 Q0 ⟨#[fr0, fr1, fr2, fr3, fr4, fr5, fr6, fr7, fr8, .pointer (some ⟨tb, 0, none⟩), fr10, .pointer (some ⟨ub, 0, none⟩), .int .i64 0, fr13, fr14, fr15, fr16, fr17, fr18, fr19, fr20, fr21, fr22, fr23, fr24, fr25, fr26, fr27, fr28, fr29, fr30, fr31, fr32, fr33, fr34, fr35, fr36, fr37, fr38, fr39, fr40, fr41, fr42, fr43, fr44, fr45, fr46, fr47, fr48, fr49, fr50, fr51, fr52, fr53, fr54, fr55, fr56, fr57, fr58, fr59, fr60, fr61, fr62, fr63, fr64, fr65, fr66, fr67, fr68, fr69, fr70, fr71, fr72, fr73, fr74, fr75, fr76, fr77, fr78, fr79, fr80, fr81, fr82, fr83, fr84, fr85, fr86, fr87, fr88, fr89, fr90, fr91, fr92, fr93, fr94, fr95, fr96, fr97, fr98, fr99, fr100, fr101, fr102, fr103, fr104, fr105, fr106, fr107, fr108], []⟩ w9 := by
  conv => arg 2; whnf
  refine wp_region_noPanic ?_
  have HQ := Lib.hid hQ
  clear hQ
  have T0 := Lib.hid ((Stp.refl (fun _ => False) c9 w9).drew)
  have g6 := H5.out.2.2.2.1
  have hS0 := s98 (X9.out.stp T0.out id) (Y9.out.stp T0.out id)
  refine wp_region_held_drew (S := S98 tb ub xu i s n cl hi le) (by kernel_rfl) hS0 (fun hS1 => ?_)
  have hS := Lib.hid hS1
  clear hS1 hS0
  generalize w9.drew = wq0 at T0 hS ⊢
  refine wpH_takeL (i := 0) (v := ?_) rfl (by kernel_rfl) (by kernel_rfl) (by kernel_rfl) (fun _ _ _ h => h) (Or.inl ⟨by rfl, ?_⟩) hS.out ?_
  rotate_left
  · intro wy hSy
    clear hSy
    go_simp
    try with_reducible rfl
  try simp only [Act.put, List.setIfInBounds_toArray, List.set_cons_zero, List.set_cons_succ]
  refine wpH_takeL (i := 1) (v := ?_) rfl (by kernel_rfl) (by kernel_rfl) (by kernel_rfl) (fun _ _ _ h => h) (Or.inl ⟨by rfl, ?_⟩) hS.out ?_
  rotate_left
  · intro wy hSy
    clear hSy
    go_simp
    try with_reducible rfl
  try simp only [Act.put, List.setIfInBounds_toArray, List.set_cons_zero, List.set_cons_succ]
  refine wpH_takeL (i := 2) (v := ?_) rfl (by kernel_rfl) (by kernel_rfl) (by kernel_rfl) (fun _ _ _ h => h) (Or.inl ⟨by rfl, ?_⟩) hS.out ?_
  rotate_left
  · intro wy hSy
    clear hSy
    go_simp
    try with_reducible rfl
  try simp only [Act.put, List.setIfInBounds_toArray, List.set_cons_zero, List.set_cons_succ]
  refine wpH_takeL (i := 3) (v := ?_) rfl (by kernel_rfl) (by kernel_rfl) (by kernel_rfl) (fun _ _ _ h => h) (Or.inl ⟨by rfl, ?_⟩) hS.out ?_
  rotate_left
  · intro wy hSy
    obtain ⟨⟨s0, s1, s2, s3, s4, s5, s6, s7, s8, s9, s10, s11, s12, s13, s14⟩, -⟩ := hSy
    go_simp
    try with_reducible rfl
  try simp only [Act.put, List.setIfInBounds_toArray, List.set_cons_zero, List.set_cons_succ]
  refine wpAnyH_ready (rs := [4]) (by kernel_rfl) (by simp) (readyH_consL rfl (fun K hK => ?_) AllReadyH.nil)
  go_simp
  go_at_call 39
  refine ((P9.out.stp T0.out (fun _ h => h.elim)).done).mono ?_
  rintro e wq1 ⟨rfl, c1, t1⟩
  have T1 := Lib.hid (T0.out.trans t1)
  clear t1
  rw [H5.out.1]
  go_simp
  refine hK.out _ _ (s98 (X9.out.stp T1.out id) (Y9.out.stp T1.out id)) (fun hS1 => ?_)
  clear hK K hS
  have hS := Lib.hid hS1
  clear hS1
  try simp only [Act.put, List.setIfInBounds_toArray, List.set_cons_zero, List.set_cons_succ]
  refine wpH_takeL (i := 5) (v := ?_) rfl (by kernel_rfl) (by kernel_rfl) (by kernel_rfl) (fun _ _ _ h => h) (Or.inl ⟨by rfl, ?_⟩) hS.out ?_
  rotate_left
  · intro wy hSy
    clear hSy
    go_simp
    try with_reducible rfl
  try simp only [Act.put, List.setIfInBounds_toArray, List.set_cons_zero, List.set_cons_succ]
  refine wpH_takeL (i := 6) (v := ?_) rfl (by kernel_rfl) (by kernel_rfl) (by kernel_rfl) (fun _ _ _ h => h) (Or.inl ⟨by rfl, ?_⟩) hS.out ?_
  rotate_left
  · intro wy hSy
    obtain ⟨⟨s0, s1, s2, s3, s4, s5, s6, s7, s8, s9, s10, s11, s12, s13, s14⟩, -⟩ := hSy
    go_simp
    try with_reducible rfl
  try simp only [Act.put, List.setIfInBounds_toArray, List.set_cons_zero, List.set_cons_succ]
  refine wpH_takeL (i := 8) (v := ?_) rfl (by kernel_rfl) (by kernel_rfl) (by kernel_rfl) (fun _ _ _ h => h) (Or.inl ⟨by rfl, ?_⟩) hS.out ?_
  rotate_left
  · intro wy hSy
    clear hSy
    go_simp
    try with_reducible rfl
  try simp only [Act.put, List.setIfInBounds_toArray, List.set_cons_zero, List.set_cons_succ]
  refine wpH_takeL (i := 9) (v := ?_) rfl (by kernel_rfl) (by kernel_rfl) (by kernel_rfl) (fun _ _ _ h => h) (Or.inl ⟨by rfl, ?_⟩) hS.out ?_
  rotate_left
  · intro wy hSy
    obtain ⟨-, ⟨u0, u1, u2, u3, u4, u5, u6⟩⟩ := hSy
    go_simp
    try with_reducible rfl
  try simp only [Act.put, List.setIfInBounds_toArray, List.set_cons_zero, List.set_cons_succ]
  refine wpH_takeL (i := 10) (v := ?_) rfl (by kernel_rfl) (by kernel_rfl) (by kernel_rfl) (fun _ _ _ h => h) (Or.inl ⟨by rfl, ?_⟩) hS.out ?_
  rotate_left
  · intro wy hSy
    clear hSy
    go_simp
    try with_reducible rfl
  try simp only [Act.put, List.setIfInBounds_toArray, List.set_cons_zero, List.set_cons_succ]
  refine wpAnyH_ready (rs := [7]) (by kernel_rfl) (by simp) (readyH_consL rfl (fun K hK => ?_) AllReadyH.nil)
  go_simp
  go_at_call 41
  refine ((P9.out.stp T1.out (fun _ h => h.elim)).full).mono ?_
  rintro e wq2 ⟨rfl, c2, t2⟩
  have T2 := Lib.hid (T1.out.trans t2)
  clear t2
  rw [H5.out.2.1]
  go_simp
  refine hK.out _ _ (s98 (X9.out.stp T2.out id) (Y9.out.stp T2.out id)) (fun hS2 => ?_)
  clear hK K hS
  have hS := Lib.hid hS2
  clear hS2
  try simp only [Act.put, List.setIfInBounds_toArray, List.set_cons_zero, List.set_cons_succ]
  refine wpH_takeL (i := 11) (v := ?_) rfl (by kernel_rfl) (by kernel_rfl) (by kernel_rfl) (fun _ _ _ h => h) (Or.inl ⟨by rfl, ?_⟩) hS.out ?_
  rotate_left
  · intro wy hSy
    clear hSy
    go_simp
    try with_reducible rfl
  try simp only [Act.put, List.setIfInBounds_toArray, List.set_cons_zero, List.set_cons_succ]
  refine wpH_takeL (i := 12) (v := ?_) rfl (by kernel_rfl) (by kernel_rfl) (by kernel_rfl) (fun _ _ _ h => h) (Or.inl ⟨by rfl, ?_⟩) hS.out ?_
  rotate_left
  · intro wy hSy
    clear hSy
    go_simp
    try with_reducible rfl
  try simp only [Act.put, List.setIfInBounds_toArray, List.set_cons_zero, List.set_cons_succ]
  refine wpH_takeL (i := 13) (v := ?_) rfl (by kernel_rfl) (by kernel_rfl) (by kernel_rfl) (fun _ _ _ h => h) (Or.inl ⟨by rfl, ?_⟩) hS.out ?_
  rotate_left
  · intro wy hSy
    clear hSy
    go_simp
    try with_reducible rfl
  try simp only [Act.put, List.setIfInBounds_toArray, List.set_cons_zero, List.set_cons_succ]
  refine wpH_takeL (i := 14) (v := ?_) rfl (by kernel_rfl) (by kernel_rfl) (by kernel_rfl) (fun _ _ _ h => h) (Or.inl ⟨by rfl, ?_⟩) hS.out ?_
  rotate_left
  · intro wy hSy
    obtain ⟨⟨s0, s1, s2, s3, s4, s5, s6, s7, s8, s9, s10, s11, s12, s13, s14⟩, -⟩ := hSy
    go_simp
    try with_reducible rfl
  try simp only [Act.put, List.setIfInBounds_toArray, List.set_cons_zero, List.set_cons_succ]
  refine wpH_takeL (i := 16) (v := ?_) rfl (by kernel_rfl) (by kernel_rfl) (by kernel_rfl) (fun _ _ _ h => h) (Or.inl ⟨by rfl, ?_⟩) hS.out ?_
  rotate_left
  · intro wy hSy
    obtain ⟨-, ⟨u0, u1, u2, u3, u4, u5, u6⟩⟩ := hSy
    go_simp
    try with_reducible rfl
  try simp only [Act.put, List.setIfInBounds_toArray, List.set_cons_zero, List.set_cons_succ]
  refine wpAnyH_ready (rs := [15]) (by kernel_rfl) (by simp) (readyH_consL rfl (fun K hK => ?_) AllReadyH.nil)
  go_simp
  go_at_call 133
  refine ((P9.out.stp T2.out (fun _ h => h.elim)).last).mono ?_
  rintro e wq3 ⟨rfl, c3, t3⟩
  have T3 := Lib.hid (T2.out.trans t3)
  clear t3
  rw [H5.out.2.2.1]
  go_simp
  refine hK.out _ _ (s98 (X9.out.stp T3.out id) (Y9.out.stp T3.out id)) (fun hS3 => ?_)
  clear hK K hS
  have hS := Lib.hid hS3
  clear hS3
  try simp only [Act.put, List.setIfInBounds_toArray, List.set_cons_zero, List.set_cons_succ]
  refine wpAnyH_ready (rs := [17]) (by kernel_rfl) (by simp) (readyH_consL rfl (fun K hK => ?_) AllReadyH.nil)
  go_simp
  go_at_call 135
  refine (r14last_any c3 _ (i : Int) n (s : Int) cl hi le none 0 0 (b := b5) H5.out.2.2.2.2.1).mono ?_
  rintro e wq4 ⟨rfl, c4, t4⟩
  have T4 := Lib.hid (T3.out.trans t4)
  clear t4
  rw [H5.out.2.2.2.2.2]
  go_simp
  refine hK.out _ _ (s98 (X9.out.stp T4.out id) (Y9.out.stp T4.out id)) (fun hS4 => ?_)
  clear hK K hS
  have hS := Lib.hid hS4
  clear hS4
  try simp only [Act.put, List.setIfInBounds_toArray, List.set_cons_zero, List.set_cons_succ]
  refine wpH_takeL (i := 18) (v := ?_) rfl (by kernel_rfl) (by kernel_rfl) (by kernel_rfl) (fun _ _ _ h => h) (Or.inl ⟨by rfl, ?_⟩) hS.out ?_
  rotate_left
  · intro wy hSy
    clear hSy
    go_simp
    try with_reducible rfl
  try simp only [Act.put, List.setIfInBounds_toArray, List.set_cons_zero, List.set_cons_succ]
  refine wpH_takeL (i := 19) (v := ?_) rfl (by kernel_rfl) (by kernel_rfl) (by kernel_rfl) (fun _ _ _ h => h) (Or.inl ⟨by rfl, ?_⟩) hS.out ?_
  rotate_left
  · intro wy hSy
    clear hSy
    go_simp
    try with_reducible rfl
  try simp only [Act.put, List.setIfInBounds_toArray, List.set_cons_zero, List.set_cons_succ]
  refine wpH_takeL (i := 20) (v := ?_) rfl (by kernel_rfl) (by kernel_rfl) (by kernel_rfl) (fun _ _ _ h => h) (Or.inl ⟨by rfl, ?_⟩) hS.out ?_
  rotate_left
  · intro wy hSy
    clear hSy
    go_simp
    try with_reducible rfl
  try simp only [Act.put, List.setIfInBounds_toArray, List.set_cons_zero, List.set_cons_succ]
  refine wpH_takeL (i := 21) (v := ?_) rfl (by kernel_rfl) (by kernel_rfl) (by kernel_rfl) (fun _ _ _ h => h) (Or.inl ⟨by rfl, ?_⟩) hS.out ?_
  rotate_left
  · intro wy hSy
    clear hSy
    go_simp
    try with_reducible rfl
  try simp only [Act.put, List.setIfInBounds_toArray, List.set_cons_zero, List.set_cons_succ]
  refine wpAnyH_done (by kernel_rfl) ?_ _
  exact HQ.out _ _ _ _ _ _ _ _ _ _ _ _ _ _ _ _ _ _ _ _ _ _ _ T4

end Go.Proofs.YtiphdedfbafhkaaGreatDoor
