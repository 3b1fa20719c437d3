/- A single try's Step where someone holds back, and where it is full. No condition beyond each contract's own. -/
import Derived.Test.YtiphdedfbafhkaaGreatDoorSnX
import Derived.Test.YtiphdedfbafhkaaGreatDoorRgA
namespace Go.Proofs.YtiphdedfbafhkaaGreatDoor
open Go.RowKit

section
variable {c0 c c' : Nat → Nat} {k K : Nat} {w0 w w' : World} {p q gp sh cid x y : Nat} {cl ca sc : Int} {ids : List Int} {la : List Int} {cs : List Value}
theorem ST.stp1 (h : ST c0 w0 k K p q gp sh cid cl ca sc ids la x y cs c w) (t : Stp (· = 1) c c' w w') (hn : Stp (fun j => j = k ∨ j = K) c0 c' w0 w') : ST c0 w0 k K p q gp sh cid cl ca sc ids la x y cs c' w' :=
  ⟨hn, h.sn.stp t (by have := h.kk; omega) (by have := h.kk; omega), h.ar.stp t (by have := h.kk; omega), h.bx.stp t (by decide), h.by'.stp t (by decide), h.xo, h.yo, h.xy, h.kk⟩
theorem ST.resI (h : ST c0 w0 k K p q gp sh cid cl ca sc ids la x y cs c w) (v0 v1 v2 v3 v4 v5 v6 : Value) {ao : Option Addr} {n cap : Nat} {xs : List Value} (hi : In c (k + 2) w 1 ao n cap xs) :
    ∃ c', Stp (fun j => j = k ∨ j = K) c0 c' w0 (((((((w.setCell ⟨y, 0, none⟩ v0).setCell ⟨y, 1, none⟩ v1).setCell ⟨y, 2, none⟩ v2).setCell ⟨y, 3, none⟩ v3).setCell ⟨y, 4, none⟩ v4).setCell ⟨y, 5, none⟩ v5).setCell ⟨y, 6, none⟩ v6) ∧
      SnAt c' k (((((((w.setCell ⟨y, 0, none⟩ v0).setCell ⟨y, 1, none⟩ v1).setCell ⟨y, 2, none⟩ v2).setCell ⟨y, 3, none⟩ v3).setCell ⟨y, 4, none⟩ v4).setCell ⟨y, 5, none⟩ v5).setCell ⟨y, 6, none⟩ v6) p q gp sh cid cl ca sc ids ∧
      ArenaS c' K (((((((w.setCell ⟨y, 0, none⟩ v0).setCell ⟨y, 1, none⟩ v1).setCell ⟨y, 2, none⟩ v2).setCell ⟨y, 3, none⟩ v3).setCell ⟨y, 4, none⟩ v4).setCell ⟨y, 5, none⟩ v5).setCell ⟨y, 6, none⟩ v6) q la ∧
      In c' (k + 2) (((((((w.setCell ⟨y, 0, none⟩ v0).setCell ⟨y, 1, none⟩ v1).setCell ⟨y, 2, none⟩ v2).setCell ⟨y, 3, none⟩ v3).setCell ⟨y, 4, none⟩ v4).setCell ⟨y, 5, none⟩ v5).setCell ⟨y, 6, none⟩ v6) 1 ao n cap xs := by
  have hy := h.by'.1
  have t := (((((((Stp.refl (· = 0) c w).setCell (p := ⟨y, 0, none⟩) v0 hy).setCell (p := ⟨y, 1, none⟩) v1 hy).setCell (p := ⟨y, 2, none⟩) v2 hy).setCell (p := ⟨y, 3, none⟩) v3 hy).setCell (p := ⟨y, 4, none⟩) v4 hy).setCell (p := ⟨y, 5, none⟩) v5 hy).setCell (p := ⟨y, 6, none⟩) v6 hy
  exact ⟨c, ((((((h.st.setNew v0 h.yo).setNew v1 h.yo).setNew v2 h.yo).setNew v3 h.yo).setNew v4 h.yo).setNew v5 h.yo).setNew v6 h.yo, h.sn.stp t (by have := h.kk; omega) (by omega), h.ar.stp t (by have := h.kk; omega), hi.stp t (by omega)⟩
/-- What the region that steps the scan loads. -/
def S9 (x p q : Nat) (ao : Option Addr) (n cap : Nat) (m0 : Int) (w : World) : Prop := w.cell? ⟨x, 0, none⟩ = some (.pointer (some ⟨p, 0, none⟩)) ∧ w.cell? ⟨x, 2, none⟩ = some (.slice ao n cap) ∧ w.cell? ⟨x, 3, none⟩ = some (.int .i64 m0) ∧ w.cell? ⟨p, 0, none⟩ = some (.pointer (some ⟨q, 0, none⟩))
theorem s9s {v1 v4 v5 v6 : Value} {ao : Option Addr} {n cap : Nat} {m0 : Int} (h : ST c0 w0 k K p q gp sh cid cl ca sc ids la x y [.pointer (some ⟨p, 0, none⟩), v1, .slice ao n cap, .int .i64 m0, v4, v5, v6] c w) : S9 x p q ao n cap m0 w :=
  ⟨h.xs.1.1, h.xs.1.2.2.1, h.xs.1.2.2.2.1, h.ss.1.1⟩
end

noncomputable def Tryz.csn9 : Code := (Tryz.f84.body.bind (regionN 9)).getD .skip

set_option maxRecDepth 1000000 in
set_option maxHeartbeats 100000000 in
theorem Tryz.rsn9 {c0 : Nat → Nat} {w0 : World} {k K p q gp sh cid x y : Nat} {cl ca sc : Int} {ids la : List Int} {v1 v4 v5 v6 : Value} {ao : Option Addr} {n cap : Nat} {m0 x1 : Int} {r : List Int} {c9 : Nat → Nat} {w9 : World}
    (R9 : Hid (ST c0 w0 k K p q gp sh cid cl ca sc ids la x y [.pointer (some ⟨p, 0, none⟩), v1, .slice ao n cap, .int .i64 m0, v4, v5, v6] c9 w9)) (I9 : Hid (In c9 (k + 2) w9 1 ao n cap ((x1 :: r).map (Value.int .i64)))) (X1 : Hid (0 ≤ x1 ∧ x1 < la.length)) {fr0 fr2 fr3 fr4 fr5 fr6 fr7 fr8 fr9 fr10 fr11 fr12 fr13 fr14 fr15 fr16 fr17 fr18 fr19 fr20 fr21 fr22 fr23 fr24 fr25 fr26 fr27 fr28 fr29 fr30 fr31 fr32 fr33 fr34 fr35 fr36 fr37 fr38 fr39 fr40 fr41 fr42 fr43 fr44 fr45 fr46 fr47 fr48 fr49 fr50 fr51 fr52 fr53 fr54 fr55 fr56 fr57 fr58 fr59 fr60 fr61 fr62 fr63 fr64 fr65 fr66 fr67 fr68 fr69 fr70 fr71 fr72 fr73 fr74 fr75 fr76 fr77 fr78 fr79 fr80 fr81 fr82 fr83 fr84 fr85 fr86 fr87 fr88 fr89 fr90 fr91 fr92 fr93 fr94 fr95 fr96 fr97 fr98 fr99 fr100 : Value} {Q0 : Exit → Act → World → Prop}
    (hQ : ∀ (sb : Nat) (ao' : Option Addr) (cap' : Nat) (c' : Nat → Nat) (w' : World), ∀ g51 g52 g53 g54 g55 g56 g57 g58 g50 g59 g60 : Value, Hid (ST c0 w0 k K p q gp sh cid cl ca sc ids la x y [.pointer (some ⟨p, 0, none⟩), v1, .slice ao n cap, .int .i64 m0, v4, v5, v6] c' w') → Hid (In c' (k + 2) w' 1 ao' (n - 1) cap' (r.map (Value.int .i64))) → Hid (Blk c' 1 w' sb [.slice ao' (n - 1) cap', .int .i64 (min m0 (valAt la x1))] 31) → Q0 .normal ⟨#[fr0, .pointer (some ⟨x, 0, none⟩), fr2, fr3, fr4, fr5, .pointer (some ⟨sb, 0, none⟩), .nilIface, fr8, fr9, fr10, fr11, fr12, fr13, fr14, fr15, fr16, fr17, fr18, fr19, fr20, fr21, fr22, fr23, fr24, fr25, fr26, fr27, fr28, fr29, fr30, fr31, fr32, fr33, fr34, fr35, fr36, fr37, fr38, fr39, fr40, fr41, fr42, fr43, fr44, fr45, fr46, fr47, fr48, fr49, g50, g51, g52, g53, g54, g55, g56, g57, g58, g59, g60, fr61, fr62, fr63, fr64, fr65, fr66, fr67, fr68, fr69, fr70, fr71, fr72, fr73, fr74, fr75, fr76, fr77, fr78, fr79, fr80, fr81, fr82, fr83, fr84, fr85, fr86, fr87, fr88, fr89, fr90, fr91, fr92, fr93, fr94, fr95, fr96, fr97, fr98, fr99, fr100], []⟩ w') : Code.wp Tryz.prog Tryz.csn9 Q0 ⟨#[fr0, .pointer (some ⟨x, 0, none⟩), fr2, fr3, fr4, fr5, fr6, fr7, fr8, fr9, fr10, fr11, fr12, fr13, fr14, fr15, fr16, fr17, fr18, fr19, fr20, fr21, fr22, fr23, fr24, fr25, fr26, fr27, fr28, fr29, fr30, fr31, fr32, fr33, fr34, fr35, fr36, fr37, fr38, fr39, fr40, fr41, fr42, fr43, fr44, fr45, fr46, fr47, fr48, fr49, fr50, fr51, fr52, fr53, fr54, fr55, fr56, fr57, fr58, fr59, fr60, fr61, fr62, fr63, fr64, fr65, fr66, fr67, fr68, fr69, fr70, fr71, fr72, fr73, fr74, fr75, fr76, fr77, fr78, fr79, fr80, fr81, fr82, fr83, fr84, fr85, fr86, fr87, fr88, fr89, fr90, fr91, fr92, fr93, fr94, fr95, fr96, fr97, fr98, fr99, fr100], []⟩ w9 := by
  conv => arg 2; whnf
  refine wp_region_noPanic ?_
  have HQ := Lib.hid hQ
  clear hQ
  have R0 := Lib.hid (R9.out.stpF (Stp.refl (fun _ => False) c9 w9).drew)
  have I0 := Lib.hid (I9.out.stp (Stp.refl (fun _ => False) c9 w9).drew id)
  obtain ⟨cz, hcz⟩ : ∃ c', c' = c9 := ⟨_, rfl⟩
  rw [← hcz] at R0 I0
  clear hcz
  refine wp_region_held_drew (S := S9 x p q ao n cap m0) (by kernel_rfl) (s9s R0.out) (fun hS0 => ?_)
  have hS := Lib.hid hS0
  clear hS0
  generalize w9.drew = wq0 at R0 I0 hS ⊢
  refine wpH_takeL (i := 0) (v := ?_) rfl (by kernel_rfl) (by kernel_rfl) (by kernel_rfl) (fun _ _ _ h => h) (Or.inl ⟨by rfl, ?_⟩) hS.out ?_
  rotate_left
  · intro wy hSy
    clear hSy
    go_simp
    try with_reducible rfl
  try simp only [Act.put, List.setIfInBounds_toArray, List.set_cons_zero, List.set_cons_succ]
  refine wpH_takeL (i := 1) (v := ?_) rfl (by kernel_rfl) (by kernel_rfl) (by kernel_rfl) (fun _ _ _ h => h) (Or.inl ⟨by rfl, ?_⟩) hS.out ?_
  rotate_left
  · intro wy hSy
    obtain ⟨s0, s2, s3, s9⟩ := hSy
    go_simp
    try with_reducible rfl
  try simp only [Act.put, List.setIfInBounds_toArray, List.set_cons_zero, List.set_cons_succ]
  refine wpH_takeL (i := 2) (v := ?_) rfl (by kernel_rfl) (by kernel_rfl) (by kernel_rfl) (fun _ _ _ h => h) (Or.inl ⟨by rfl, ?_⟩) hS.out ?_
  rotate_left
  · intro wy hSy
    clear hSy
    go_simp
    try with_reducible rfl
  try simp only [Act.put, List.setIfInBounds_toArray, List.set_cons_zero, List.set_cons_succ]
  refine wpH_takeL (i := 3) (v := ?_) rfl (by kernel_rfl) (by kernel_rfl) (by kernel_rfl) (fun _ _ _ h => h) (Or.inl ⟨by rfl, ?_⟩) hS.out ?_
  rotate_left
  · intro wy hSy
    obtain ⟨s0, s2, s3, s9⟩ := hSy
    go_simp
    try with_reducible rfl
  try simp only [Act.put, List.setIfInBounds_toArray, List.set_cons_zero, List.set_cons_succ]
  refine wpH_takeL (i := 4) (v := ?_) rfl (by kernel_rfl) (by kernel_rfl) (by kernel_rfl) (fun _ _ _ h => h) (Or.inl ⟨by rfl, ?_⟩) hS.out ?_
  rotate_left
  · intro wy hSy
    clear hSy
    go_simp
    try with_reducible rfl
  try simp only [Act.put, List.setIfInBounds_toArray, List.set_cons_zero, List.set_cons_succ]
  refine wpH_takeL (i := 5) (v := ?_) rfl (by kernel_rfl) (by kernel_rfl) (by kernel_rfl) (fun _ _ _ h => h) (Or.inl ⟨by rfl, ?_⟩) hS.out ?_
  rotate_left
  · intro wy hSy
    clear hSy
    go_simp
    try with_reducible rfl
  try simp only [Act.put, List.setIfInBounds_toArray, List.set_cons_zero, List.set_cons_succ]
  refine wpH_takeL (i := 6) (v := ?_) rfl (by kernel_rfl) (by kernel_rfl) (by kernel_rfl) (fun _ _ _ h => h) (Or.inl ⟨by rfl, ?_⟩) hS.out ?_
  rotate_left
  · intro wy hSy
    obtain ⟨s0, s2, s3, s9⟩ := hSy
    go_simp
    try with_reducible rfl
  try simp only [Act.put, List.setIfInBounds_toArray, List.set_cons_zero, List.set_cons_succ]
  refine wpAnyH_ready (rs := [7, 11]) (by kernel_rfl) (by simp) (readyH_consL rfl (fun K hK => ?_) (readyH_consL rfl (fun K hK => ?_) AllReadyH.nil))
  · go_simp
    go_at_call 121
    refine (scstep_s I0.out R0.out.ar R0.out.kk.2.2.2.2 X1.out m0).mono ?_
    rintro e wq1 ⟨ao', cap', rfl, c1, t1, a1, i1⟩
    have R1 := Lib.hid (R0.out.arena t1 a1)
    have I1 := Lib.hid i1
    clear t1 a1 i1
    go_simp
    refine hK.out _ _ (s9s R1.out) (fun hS1 => ?_)
    clear hK K hS R0 I0
    have hS := Lib.hid hS1
    clear hS1
    try simp only [Act.put, List.setIfInBounds_toArray, List.set_cons_zero, List.set_cons_succ]
    refine wpH_takeL (i := 8) (v := ?_) rfl (by kernel_rfl) (by kernel_rfl) (by kernel_rfl) (fun _ _ _ h => h) (Or.inl ⟨by rfl, ?_⟩) hS.out ?_
    rotate_left
    · intro wy hSy
      clear hSy
      go_simp
      try with_reducible rfl
    try simp only [Act.put, List.setIfInBounds_toArray, List.set_cons_zero, List.set_cons_succ]
    refine wpH_takeL (i := 9) (v := ?_) rfl (by kernel_rfl) (by kernel_rfl) (by kernel_rfl) (fun _ _ _ h => h) (Or.inl ⟨by rfl, ?_⟩) hS.out ?_
    rotate_left
    · intro wy hSy
      clear hSy
      go_simp
      try with_reducible rfl
    try simp only [Act.put, List.setIfInBounds_toArray, List.set_cons_zero, List.set_cons_succ]
    refine wpH_takeL (i := 10) (v := ?_) rfl (by kernel_rfl) (by kernel_rfl) (by kernel_rfl) (fun _ _ _ h => h) (Or.inl ⟨by rfl, ?_⟩) hS.out ?_
    rotate_left
    · intro wy hSy
      clear hSy
      go_simp
      try with_reducible rfl
    try simp only [Act.put, List.setIfInBounds_toArray, List.set_cons_zero, List.set_cons_succ]
    refine wpAnyH_ready (rs := [11]) (by kernel_rfl) (by simp) (readyH_consL rfl (fun K hK => ?_) AllReadyH.nil)
    obtain ⟨sb, hsb⟩ : ∃ b, b = wq1.heap.size := ⟨_, rfl⟩
    have HSB := Lib.hid (show w0.heap.size ≤ sb by rw [hsb]; exact R1.out.st.size)
    obtain ⟨c2, hc2, t2⟩ := ((Stp.refl (fun _ => False) c1 wq1).alloc (.cells #[.slice none 0 0, .int .i64 0] 31) 1).name
    have R2 := Lib.hid (R1.out.stpF t2.out)
    have I2 := Lib.hid (I1.out.stp t2.out id)
    have B2 := Lib.hid (show Blk c2 1 (wq1.alloc (.cells #[.slice none 0 0, .int .i64 0] 31)) sb [.slice none 0 0, .int .i64 0] 31 by rw [hc2.out, hsb]; exact Blk.new c1 1 wq1 _ _)
    clear hc2 t2
    go_simp
    rw [← hsb]
    generalize World.alloc wq1 (.cells #[.slice none 0 0, .int .i64 0] 31) = wq2 at R2 I2 B2 ⊢
    clear hsb
    refine hK.out _ _ (s9s R2.out) (fun hS2 => ?_)
    clear hK K hS R1 I1
    have hS := Lib.hid hS2
    clear hS2
    try simp only [Act.put, List.setIfInBounds_toArray, List.set_cons_zero, List.set_cons_succ]
    refine wpAnyH_ready (rs := [12]) (by kernel_rfl) (by simp) (readyH_consL rfl (fun K hK => ?_) AllReadyH.nil)
    have b0 := B2.out.cell 0
    have b1 := B2.out.cell 1
    have f0 := B2.out.free 0
    have f1 := B2.out.free 1
    have lb := B2.out.lt
    simp at b0 b1
    go_simp
    have t3 := ((Stp.refl (· = 1) c2 wq2).setCell (p := ⟨sb, 0, none⟩) (.slice ao' (n - 1) cap') B2.out.1).setCell (p := ⟨sb, 1, none⟩) (.int .i64 (min m0 (valAt la x1))) B2.out.1
    have R3 := Lib.hid (R2.out.stp1 t3 ((R2.out.st.setNew (p := ⟨sb, 0, none⟩) (.slice ao' (n - 1) cap') HSB.out).setNew (p := ⟨sb, 1, none⟩) (.int .i64 (min m0 (valAt la x1))) HSB.out))
    have I3 := Lib.hid (I2.out.stp t3 (by omega))
    have B3 := Lib.hid ((B2.out.set 0 (.slice ao' (n - 1) cap')).set 1 (.int .i64 (min m0 (valAt la x1))))
    clear t3 b0 b1 f0 f1 lb
    refine hK.out _ _ (s9s R3.out) (fun hS3 => ?_)
    clear hK K hS R2 I2 B2
    have hS := Lib.hid hS3
    clear hS3
    try simp only [Act.put, List.setIfInBounds_toArray, List.set_cons_zero, List.set_cons_succ]
    refine wpH_takeL (i := 13) (v := ?_) rfl (by kernel_rfl) (by kernel_rfl) (by kernel_rfl) (fun _ _ _ h => h) (Or.inl ⟨by rfl, ?_⟩) hS.out ?_
    rotate_left
    · intro wy hSy
      clear hSy
      go_simp
      try with_reducible rfl
    try simp only [Act.put, List.setIfInBounds_toArray, List.set_cons_zero, List.set_cons_succ]
    refine wpAnyH_done (by kernel_rfl) ?_ _
    exact HQ.out sb ao' cap' _ _ _ _ _ _ _ _ _ _ _ _ _ R3 I3 B3
  · obtain ⟨sb, hsb⟩ : ∃ b, b = wq0.heap.size := ⟨_, rfl⟩
    have HSB := Lib.hid (show w0.heap.size ≤ sb by rw [hsb]; exact R0.out.st.size)
    obtain ⟨c1, hc1, t1⟩ := ((Stp.refl (fun _ => False) cz wq0).alloc (.cells #[.slice none 0 0, .int .i64 0] 31) 1).name
    have R1 := Lib.hid (R0.out.stpF t1.out)
    have I1 := Lib.hid (I0.out.stp t1.out id)
    have B1 := Lib.hid (show Blk c1 1 (wq0.alloc (.cells #[.slice none 0 0, .int .i64 0] 31)) sb [.slice none 0 0, .int .i64 0] 31 by rw [hc1.out, hsb]; exact Blk.new cz 1 wq0 _ _)
    clear hc1 t1
    go_simp
    rw [← hsb]
    generalize World.alloc wq0 (.cells #[.slice none 0 0, .int .i64 0] 31) = wq1 at R1 I1 B1 ⊢
    clear hsb
    refine hK.out _ _ (s9s R1.out) (fun hS1 => ?_)
    clear hK K hS R0 I0
    have hS := Lib.hid hS1
    clear hS1
    try simp only [Act.put, List.setIfInBounds_toArray, List.set_cons_zero, List.set_cons_succ]
    refine wpAnyH_ready (rs := [7]) (by kernel_rfl) (by simp) (readyH_consL rfl (fun K hK => ?_) AllReadyH.nil)
    go_simp
    go_at_call 121
    refine (scstep_s I1.out R1.out.ar R1.out.kk.2.2.2.2 X1.out m0).mono ?_
    rintro e wq2 ⟨ao', cap', rfl, c2, t2, a2, i2⟩
    have R2 := Lib.hid (R1.out.arena t2 a2)
    have I2 := Lib.hid i2
    have B2 := Lib.hid (B1.out.stp t2 (by have := R1.out.kk; omega))
    clear t2 a2 i2
    go_simp
    refine hK.out _ _ (s9s R2.out) (fun hS2 => ?_)
    clear hK K hS R1 I1 B1
    have hS := Lib.hid hS2
    clear hS2
    try simp only [Act.put, List.setIfInBounds_toArray, List.set_cons_zero, List.set_cons_succ]
    refine wpH_takeL (i := 8) (v := ?_) rfl (by kernel_rfl) (by kernel_rfl) (by kernel_rfl) (fun _ _ _ h => h) (Or.inl ⟨by rfl, ?_⟩) hS.out ?_
    rotate_left
    · intro wy hSy
      clear hSy
      go_simp
      try with_reducible rfl
    try simp only [Act.put, List.setIfInBounds_toArray, List.set_cons_zero, List.set_cons_succ]
    refine wpH_takeL (i := 9) (v := ?_) rfl (by kernel_rfl) (by kernel_rfl) (by kernel_rfl) (fun _ _ _ h => h) (Or.inl ⟨by rfl, ?_⟩) hS.out ?_
    rotate_left
    · intro wy hSy
      clear hSy
      go_simp
      try with_reducible rfl
    try simp only [Act.put, List.setIfInBounds_toArray, List.set_cons_zero, List.set_cons_succ]
    refine wpH_takeL (i := 10) (v := ?_) rfl (by kernel_rfl) (by kernel_rfl) (by kernel_rfl) (fun _ _ _ h => h) (Or.inl ⟨by rfl, ?_⟩) hS.out ?_
    rotate_left
    · intro wy hSy
      clear hSy
      go_simp
      try with_reducible rfl
    try simp only [Act.put, List.setIfInBounds_toArray, List.set_cons_zero, List.set_cons_succ]
    refine wpAnyH_ready (rs := [12]) (by kernel_rfl) (by simp) (readyH_consL rfl (fun K hK => ?_) AllReadyH.nil)
    have b0 := B2.out.cell 0
    have b1 := B2.out.cell 1
    have f0 := B2.out.free 0
    have f1 := B2.out.free 1
    have lb := B2.out.lt
    simp at b0 b1
    go_simp
    have t3 := ((Stp.refl (· = 1) c2 wq2).setCell (p := ⟨sb, 0, none⟩) (.slice ao' (n - 1) cap') B2.out.1).setCell (p := ⟨sb, 1, none⟩) (.int .i64 (min m0 (valAt la x1))) B2.out.1
    have R3 := Lib.hid (R2.out.stp1 t3 ((R2.out.st.setNew (p := ⟨sb, 0, none⟩) (.slice ao' (n - 1) cap') HSB.out).setNew (p := ⟨sb, 1, none⟩) (.int .i64 (min m0 (valAt la x1))) HSB.out))
    have I3 := Lib.hid (I2.out.stp t3 (by omega))
    have B3 := Lib.hid ((B2.out.set 0 (.slice ao' (n - 1) cap')).set 1 (.int .i64 (min m0 (valAt la x1))))
    clear t3 b0 b1 f0 f1 lb
    refine hK.out _ _ (s9s R3.out) (fun hS3 => ?_)
    clear hK K hS R2 I2 B2
    have hS := Lib.hid hS3
    clear hS3
    try simp only [Act.put, List.setIfInBounds_toArray, List.set_cons_zero, List.set_cons_succ]
    refine wpH_takeL (i := 13) (v := ?_) rfl (by kernel_rfl) (by kernel_rfl) (by kernel_rfl) (fun _ _ _ h => h) (Or.inl ⟨by rfl, ?_⟩) hS.out ?_
    rotate_left
    · intro wy hSy
      clear hSy
      go_simp
      try with_reducible rfl
    try simp only [Act.put, List.setIfInBounds_toArray, List.set_cons_zero, List.set_cons_succ]
    refine wpAnyH_done (by kernel_rfl) ?_ _
    exact HQ.out sb ao' cap' _ _ _ _ _ _ _ _ _ _ _ _ _ R3 I3 B3

section
variable {c c' : Nat → Nat} {k K : Nat} {w w' : World} {p q gp sh cid : Nat} {cl ca sc : Int} {ids : List Int} {la : List Int}
set_option maxRecDepth 100000 in
set_option maxHeartbeats 2000000 in
theorem snstep_more (hi : Int) (h : SnAt c k w p q gp sh cid cl ca sc ids) (ha : ArenaS c K w q la) (hk : 2 ≤ k ∧ 2 ≤ K ∧ k ≠ K ∧ k + 1 ≠ K ∧ k + 2 ≠ K) (hc : cid < la.length) (hs : 0 ≤ sc ∧ sc < 4611686018427387904) (hil : (ids.length : Int) ≤ 1048576) (hids : ids.length ≠ 0) (_hh : -1 ≤ hi ∧ hi ≤ 4611686018427387904) (hsh : sh < 21) :
    Calls Tryz.prog 84 #[.agg #[.pointer (some ⟨p, 0, none⟩), .int .i64 hi, .slice none 0 0, .int .i64 0, .bool false, .bool false, .bool false]] w fun e w' => ∃ ao' cap', e = .returned (.tuple #[.agg #[.pointer (some ⟨p, 0, none⟩), .int .i64 hi, .slice ao' ids.length cap', .int .i64 (la.getD cid 0), .bool true, .bool false, .bool false], .nilIface]) ∧ ∃ c', Stp (fun j => j = k ∨ j = K) c c' w w' ∧ SnAt c' k w' p q gp sh cid cl ca (sc + 1) ids ∧ ArenaS c' K w' q la ∧ In c' (k + 2) w' 1 ao' ids.length cap' (ids.map (Value.int .i64)) := by
  obtain ⟨mv, hmv⟩ : ∃ mv, mv = (la.getD cid 0) := ⟨_, rfl⟩
  rw [← hmv]
  have HMV := Lib.hid hmv
  have hw2 : -9223372036854775808 ≤ sc + 1 ∧ sc + 1 ≤ 9223372036854775807 := by clear hmv; omega
  have WC : wrap64 (sc + 1) = sc + 1 := IntWalk.wrap64_in _ hw2
  clear hw2
  have Hsh := Lib.hid hsh
  have Hk := Lib.hid hk
  have Hc := Lib.hid hc
  have Hil := Lib.hid hil
  obtain ⟨N, hN⟩ : ∃ N, N = ids.length := ⟨_, rfl⟩
  have HN := Lib.hid hN
  have tN : ((N : Int) == 0) = false := by clear HMV WC; simp; omega
  rw [← hN]
  have R1 := Lib.hid (ST.start h ha hk (.pointer (some ⟨p, 0, none⟩)) (.int .i64 hi) (.slice none 0 0) (.int .i64 0) (.bool false) (.bool false) (.bool false))
  generalize hcc : paint (paint c w.heap.size 0) (w.heap.size + 1) 0 = c1 at R1
  clear hcc h ha hk hsh _hh hc hs hil hids hN hmv
  obtain ⟨x, hx⟩ : ∃ x, x = w.heap.size := ⟨_, rfl⟩
  obtain ⟨y, hy⟩ : ∃ y, y = w.heap.size + 1 := ⟨_, rfl⟩
  go_enter Tryz.func84, Tryz.ntmps84
  go_wp2_with fail
  rw [← hy, ← hx] at R1
  rw [← hy, ← hx]
  clear hx hy
  refine (sndone_any c1 _ _ _ _ _ _ _ _ _ _).mono ?_
  rintro e w2 ⟨rfl, c2, t2⟩
  have R2 := Lib.hid (R1.out.stpF t2)
  clear t2 R1
  obtain ⟨⟨x0, x1', x2, x3, x4, x5, x6⟩, ⟨f0, f1, f2, f3, f4, f5, f6⟩, lx⟩ := R2.out.xs
  obtain ⟨⟨s0, s1, s2, s3, s4, s5, s6⟩, ⟨g3, g4, g6⟩, lp⟩ := R2.out.ss
  obtain ⟨-, -, ly, nxy, nxp, nyp⟩ := R2.out.ys
  have HLD := Lib.hid (fun (W : World) (hW : Stp (fun _ => False) c2 c2 w2 W) => R2.out.load_c rfl Hc.out hW)
  rw [← HMV.out] at HLD
  go_upto_region 4 with fail
  go_region_held3 (fun w' => w'.cell? ⟨x, 0, none⟩ = some (.pointer (some ⟨p, 0, none⟩)) ∧ w'.cell? ⟨p, 0, none⟩ = some (.pointer (some ⟨q, 0, none⟩)) ∧ w'.cell? ⟨p, 2, none⟩ = some (.int .i64 cid))
    (first | exact ⟨by assumption, by assumption, by assumption⟩ | go_keep)
    (first | (go_at_call 37; refine (HLD.out _ (by first | exact (Stp.refl _ _ _).drew | exact Stp.refl _ _ _)).mono ?_; rintro e w3 ⟨rfl, c3, R3, ⟨x0, s0, s2⟩⟩))
  clear HLD x1' x2 x3 x4 x5 x6 f0 f1 f2 f3 f4 f5 f6 lx s1 s3 s4 s5 s6 g3 g4 g6 lp ly nxy nxp nyp x0 s0 s2 R2
  obtain ⟨⟨x0, x1', x2, x3, x4, x5, x6⟩, ⟨f0, f1, f2, f3, f4, f5, f6⟩, lx⟩ := R3.out.xs
  obtain ⟨⟨s0, s1, s2, s3, s4, s5, s6⟩, ⟨g3, g4, g6⟩, lp⟩ := R3.out.ss
  obtain ⟨-, -, ly, nxy, nxp, nyp⟩ := R3.out.ys
  go_wp2_with fail
  have R4 := Lib.hid (R3.out.put_sc (sc + 1))
  clear R3
  clear x0 x1' x2 x3 x4 x5 x6 f0 f1 f2 f3 f4 f5 f6 lx s0 s1 s2 s3 s4 s5 s6 g3 g4 g6 lp ly nxy nxp nyp
  generalize World.setCell _ _ _ = w4 at R4 ⊢
  refine (R4.out.scan_c Hil.out mv).mono ?_
  rw [← HN.out]
  rintro e w5 ⟨ao', cap', rfl, c5, R5, hIn⟩
  have I5 := Lib.hid hIn
  clear hIn R4
  obtain ⟨⟨x0, x1', x2, x3, x4, x5, x6⟩, ⟨f0, f1, f2, f3, f4, f5, f6⟩, lx⟩ := R5.out.xs
  obtain ⟨⟨s0, s1, s2, s3, s4, s5, s6⟩, ⟨g3, g4, g6⟩, lp⟩ := R5.out.ss
  obtain ⟨-, -, ly, nxy, nxp, nyp⟩ := R5.out.ys
  obtain ⟨⟨h0, h1, h2, h3, h4, h5, h6⟩, -, -, -, -, -⟩ := R5.out.ys
  go_wp2_with fail
  have R6 := Lib.hid (((R5.out.put 2 (.slice ao' N cap')).put 3 (.int .i64 mv)).put 4 (.bool true))
  have T6 := Lib.hid (((Stp.refl (· = 0) c5 w5).setCell (p := ⟨x, 2, none⟩) (.slice ao' N cap') R5.out.bx.1).setCell (p := ⟨x, 3, none⟩) (.int .i64 mv) R5.out.bx.1 |>.setCell (p := ⟨x, 4, none⟩) (.bool true) R5.out.bx.1)
  have I6 := Lib.hid (I5.out.stp T6.out (by omega))
  clear R5 I5 T6 h0 h1 h2 h3 h4 h5 h6
  clear x0 x1' x2 x3 x4 x5 x6 f0 f1 f2 f3 f4 f5 f6 lx s0 s1 s2 s3 s4 s5 s6 g3 g4 g6 lp ly nxy nxp nyp
  generalize World.setCell _ _ _ = w6 at R6 I6 ⊢
  refine (scdone_s c5 _ _ _ _ _ tN).mono ?_
  rintro e w7 ⟨rfl, c7, t7⟩
  have R7 := Lib.hid (R6.out.stpF t7)
  have I7 := Lib.hid (I6.out.stp t7 id)
  clear t7 R6 I6
  obtain ⟨⟨x0, x1', x2, x3, x4, x5, x6⟩, ⟨f0, f1, f2, f3, f4, f5, f6⟩, lx⟩ := R7.out.xs
  obtain ⟨⟨s0, s1, s2, s3, s4, s5, s6⟩, ⟨g3, g4, g6⟩, lp⟩ := R7.out.ss
  obtain ⟨-, -, ly, nxy, nxp, nyp⟩ := R7.out.ys
  obtain ⟨⟨k0, k1, k2, k3, k4, k5, k6⟩, ⟨h0, h1, h2, h3, h4, h5, h6⟩, -, -, -, -⟩ := R7.out.ys
  go_wp2
  obtain ⟨c9, Z1, Z2, Z3, Z4⟩ := R7.out.resI (.pointer (some ⟨p, 0, none⟩)) (.int .i64 hi) (.slice ao' N cap') (.int .i64 mv) (.bool true) (.bool false) (.bool false) I7.out
  exact bodyPost_ret (v := .tuple #[.agg #[.pointer (some ⟨p, 0, none⟩), .int .i64 hi, .slice ao' N cap', .int .i64 mv, .bool true, .bool false, .bool false], .nilIface]) (by clear Z1 Z2 Z3 Z4 R7 I7; simp [results, Tryz.results84, go_sem, *]) rfl ⟨ao', cap', rfl, c9, Z1, Z2, Z3, Z4⟩

set_option maxRecDepth 100000 in
set_option maxHeartbeats 2000000 in
theorem snstep_nil_full (hi : Int) (h : SnAt c k w p q gp sh cid cl ca sc ids) (ha : ArenaS c K w q la) (hk : 2 ≤ k ∧ 2 ≤ K ∧ k ≠ K ∧ k + 1 ≠ K ∧ k + 2 ≠ K) (hc : cid < la.length) (hs : 0 ≤ sc ∧ sc < 4611686018427387904) (hil : (ids.length : Int) ≤ 1048576) (hids : ids.length = 0) (hh : -1 ≤ hi ∧ hi ≤ 4611686018427387904) (hsh : sh < 21) (hf : (la.getD cid 0) < hi - 2 ^ sh) :
    Calls Tryz.prog 84 #[.agg #[.pointer (some ⟨p, 0, none⟩), .int .i64 hi, .slice none 0 0, .int .i64 0, .bool false, .bool false, .bool false]] w fun e w' => ∃ ao' cap', e = .returned (.tuple #[.agg #[.pointer (some ⟨p, 0, none⟩), .int .i64 hi, .slice ao' ids.length cap', .int .i64 (la.getD cid 0), .bool true, .bool true, .bool true], .nilIface]) ∧ ∃ c', Stp (fun j => j = k ∨ j = K) c c' w w' ∧ SnAt c' k w' p q gp sh cid cl (la.getD cid 0) (sc + 1) ids ∧ ArenaS c' K w' q la := by
  obtain ⟨mv, hmv⟩ : ∃ mv, mv = (la.getD cid 0) := ⟨_, rfl⟩
  rw [← hmv] at hf ⊢
  have HMV := Lib.hid hmv
  have tf : decide (mv < hi - 2 ^ sh) = true := by simpa using hf
  have hp2 := two_pow_bd sh hsh
  have hw1 : -9223372036854775808 ≤ hi - 2 ^ sh ∧ hi - 2 ^ sh ≤ 9223372036854775807 := by omega
  have WS : wrap64 (hi - 2 ^ sh) = hi - 2 ^ sh := IntWalk.wrap64_in _ hw1
  have V1 : IntKind.i64.wrap (hi - 2 ^ sh) = hi - 2 ^ sh := (IntWalk.i64_left _).trans WS
  clear hp2 hw1 hf
  have hw2 : -9223372036854775808 ≤ sc + 1 ∧ sc + 1 ≤ 9223372036854775807 := by clear WS V1; omega
  have WC : wrap64 (sc + 1) = sc + 1 := IntWalk.wrap64_in _ hw2
  clear hw2
  have Hsh := Lib.hid hsh
  have Hk := Lib.hid hk
  have Hc := Lib.hid hc
  have Hil := Lib.hid hil
  obtain ⟨N, hN⟩ : ∃ N, N = ids.length := ⟨_, rfl⟩
  have HN := Lib.hid hN
  have tN : ((N : Int) == 0) = true := by clear WS V1 WC; simp; omega
  rw [← hN]
  have R1 := Lib.hid (ST.start h ha hk (.pointer (some ⟨p, 0, none⟩)) (.int .i64 hi) (.slice none 0 0) (.int .i64 0) (.bool false) (.bool false) (.bool false))
  generalize hcc : paint (paint c w.heap.size 0) (w.heap.size + 1) 0 = c1 at R1
  clear hcc h ha hk hsh hh hc hs hil hids hN hmv
  obtain ⟨x, hx⟩ : ∃ x, x = w.heap.size := ⟨_, rfl⟩
  obtain ⟨y, hy⟩ : ∃ y, y = w.heap.size + 1 := ⟨_, rfl⟩
  go_enter Tryz.func84, Tryz.ntmps84
  go_wp2_with fail
  rw [← hy, ← hx] at R1
  rw [← hy, ← hx]
  clear hx hy
  refine (sndone_any c1 _ _ _ _ _ _ _ _ _ _).mono ?_
  rintro e w2 ⟨rfl, c2, t2⟩
  have R2 := Lib.hid (R1.out.stpF t2)
  clear t2 R1
  obtain ⟨⟨x0, x1', x2, x3, x4, x5, x6⟩, ⟨f0, f1, f2, f3, f4, f5, f6⟩, lx⟩ := R2.out.xs
  obtain ⟨⟨s0, s1, s2, s3, s4, s5, s6⟩, ⟨g3, g4, g6⟩, lp⟩ := R2.out.ss
  obtain ⟨-, -, ly, nxy, nxp, nyp⟩ := R2.out.ys
  have HLD := Lib.hid (fun (W : World) (hW : Stp (fun _ => False) c2 c2 w2 W) => R2.out.load_c rfl Hc.out hW)
  rw [← HMV.out] at HLD
  go_upto_region 4 with fail
  go_region_held3 (fun w' => w'.cell? ⟨x, 0, none⟩ = some (.pointer (some ⟨p, 0, none⟩)) ∧ w'.cell? ⟨p, 0, none⟩ = some (.pointer (some ⟨q, 0, none⟩)) ∧ w'.cell? ⟨p, 2, none⟩ = some (.int .i64 cid))
    (first | exact ⟨by assumption, by assumption, by assumption⟩ | go_keep)
    (first | (go_at_call 37; refine (HLD.out _ (by first | exact (Stp.refl _ _ _).drew | exact Stp.refl _ _ _)).mono ?_; rintro e w3 ⟨rfl, c3, R3, ⟨x0, s0, s2⟩⟩))
  clear HLD x1' x2 x3 x4 x5 x6 f0 f1 f2 f3 f4 f5 f6 lx s1 s3 s4 s5 s6 g3 g4 g6 lp ly nxy nxp nyp x0 s0 s2 R2
  obtain ⟨⟨x0, x1', x2, x3, x4, x5, x6⟩, ⟨f0, f1, f2, f3, f4, f5, f6⟩, lx⟩ := R3.out.xs
  obtain ⟨⟨s0, s1, s2, s3, s4, s5, s6⟩, ⟨g3, g4, g6⟩, lp⟩ := R3.out.ss
  obtain ⟨-, -, ly, nxy, nxp, nyp⟩ := R3.out.ys
  go_wp2_with fail
  have R4 := Lib.hid (R3.out.put_sc (sc + 1))
  clear R3
  clear x0 x1' x2 x3 x4 x5 x6 f0 f1 f2 f3 f4 f5 f6 lx s0 s1 s2 s3 s4 s5 s6 g3 g4 g6 lp ly nxy nxp nyp
  generalize World.setCell _ _ _ = w4 at R4 ⊢
  refine (R4.out.scan_c Hil.out mv).mono ?_
  rw [← HN.out]
  rintro e w5 ⟨ao', cap', rfl, c5, R5, hIn⟩
  have I5 := Lib.hid hIn
  clear hIn R4
  obtain ⟨⟨x0, x1', x2, x3, x4, x5, x6⟩, ⟨f0, f1, f2, f3, f4, f5, f6⟩, lx⟩ := R5.out.xs
  obtain ⟨⟨s0, s1, s2, s3, s4, s5, s6⟩, ⟨g3, g4, g6⟩, lp⟩ := R5.out.ss
  obtain ⟨-, -, ly, nxy, nxp, nyp⟩ := R5.out.ys
  obtain ⟨⟨h0, h1, h2, h3, h4, h5, h6⟩, -, -, -, -, -⟩ := R5.out.ys
  go_wp2_with fail
  have R6 := Lib.hid (((R5.out.put 2 (.slice ao' N cap')).put 3 (.int .i64 mv)).put 4 (.bool true))
  have T6 := Lib.hid (((Stp.refl (· = 0) c5 w5).setCell (p := ⟨x, 2, none⟩) (.slice ao' N cap') R5.out.bx.1).setCell (p := ⟨x, 3, none⟩) (.int .i64 mv) R5.out.bx.1 |>.setCell (p := ⟨x, 4, none⟩) (.bool true) R5.out.bx.1)
  have I6 := Lib.hid (I5.out.stp T6.out (by omega))
  clear R5 I5 T6 h0 h1 h2 h3 h4 h5 h6
  clear x0 x1' x2 x3 x4 x5 x6 f0 f1 f2 f3 f4 f5 f6 lx s0 s1 s2 s3 s4 s5 s6 g3 g4 g6 lp ly nxy nxp nyp
  generalize World.setCell _ _ _ = w6 at R6 I6 ⊢
  refine (scdone_s c5 _ _ _ _ _ tN).mono ?_
  rintro e w7 ⟨rfl, c7, t7⟩
  have R7 := Lib.hid (R6.out.stpF t7)
  have I7 := Lib.hid (I6.out.stp t7 id)
  clear t7 R6 I6
  obtain ⟨⟨x0, x1', x2, x3, x4, x5, x6⟩, ⟨f0, f1, f2, f3, f4, f5, f6⟩, lx⟩ := R7.out.xs
  obtain ⟨⟨s0, s1, s2, s3, s4, s5, s6⟩, ⟨g3, g4, g6⟩, lp⟩ := R7.out.ss
  obtain ⟨-, -, ly, nxy, nxp, nyp⟩ := R7.out.ys
  go_wp2_with fail
  refine (scleast_s c7 _ _ _ _ _).mono ?_
  rintro e w8 ⟨rfl, c8, t8⟩
  have R8 := Lib.hid (R7.out.stpF t8)
  clear t8 R7 I7
  clear x0 x1' x2 x3 x4 x5 x6 f0 f1 f2 f3 f4 f5 f6 lx s0 s1 s2 s3 s4 s5 s6 g3 g4 g6 lp ly nxy nxp nyp
  obtain ⟨⟨x0, x1', x2, x3, x4, x5, x6⟩, ⟨f0, f1, f2, f3, f4, f5, f6⟩, lx⟩ := R8.out.xs
  obtain ⟨⟨s0, s1, s2, s3, s4, s5, s6⟩, ⟨g3, g4, g6⟩, lp⟩ := R8.out.ss
  obtain ⟨-, -, ly, nxy, nxp, nyp⟩ := R8.out.ys
  have npx := Ne.symm nxp
  go_upto_region 15 with fail
  go_region_held3 (fun w' => w'.cell? ⟨x, 0, none⟩ = some (.pointer (some ⟨p, 0, none⟩)) ∧ w'.cell? ⟨x, 1, none⟩ = some (.int .i64 hi) ∧ w'.cell? ⟨p, 1, none⟩ = some (.int .i64 sh))
    (first | exact ⟨by assumption, by assumption, by assumption⟩ | (refine ⟨?_, ?_, ?_⟩ <;> (repeat (first | assumption | refine (World.cell?_setCell_other _ _ _ _ (by simp)).trans ?_))) | go_keep)
    (first | (go_at_call 30; refine Calls.mono (by first | exact R8.out.slots_c Hsh.out rfl (by first | exact (Stp.refl _ _ _).drew | exact Stp.refl _ _ _) | exact (R8.out.put_ca mv).slots_c Hsh.out rfl (by first | exact (Stp.refl _ _ _).drew | exact Stp.refl _ _ _) | exact (R8.out.put 5 (.bool true)).slots_c Hsh.out rfl (by first | exact (Stp.refl _ _ _).drew | exact Stp.refl _ _ _) | exact ((R8.out.put_ca mv).put 5 (.bool true)).slots_c Hsh.out rfl (by first | exact (Stp.refl _ _ _).drew | exact Stp.refl _ _ _) | exact ((R8.out.put 5 (.bool true)).put_ca mv).slots_c Hsh.out rfl (by first | exact (Stp.refl _ _ _).drew | exact Stp.refl _ _ _)) ?_; rintro e w9 ⟨rfl, c9, R9, ⟨x0, x1', s1⟩, ⟨g4, f5, f6⟩, ⟨s4, x5, x6⟩⟩))
  all_goals
    refine out_w (F := Exit.then _ _ Exit.normal _) (G := fun W => Hid (ST c w k K p q gp sh cid cl mv (sc + 1) ids la x y [.pointer (some ⟨p, 0, none⟩), .int .i64 hi, .slice ao' N cap', .int .i64 mv, .bool true, .bool true, .bool true] c9 W)) ?_ ?_
    · first | exact Lib.hid (((R9.out.put_ca mv).put 5 (.bool true)).put 6 (.bool true)) | exact Lib.hid (((R9.out.put_ca mv).put 6 (.bool true)).put 5 (.bool true)) | exact Lib.hid (((R9.out.put 5 (.bool true)).put_ca mv).put 6 (.bool true)) | exact Lib.hid (((R9.out.put 5 (.bool true)).put 6 (.bool true)).put_ca mv) | exact Lib.hid (((R9.out.put 6 (.bool true)).put_ca mv).put 5 (.bool true)) | exact Lib.hid (((R9.out.put 6 (.bool true)).put 5 (.bool true)).put_ca mv) | exact Lib.hid ((R9.out.put_ca mv).put 6 (.bool true)) | exact Lib.hid ((R9.out.put 6 (.bool true)).put_ca mv) | exact Lib.hid ((R9.out.put 5 (.bool true)).put 6 (.bool true)) | exact Lib.hid ((R9.out.put 6 (.bool true)).put 5 (.bool true)) | exact Lib.hid (R9.out.put 6 (.bool true))
    clear R8 R9 npx ly nxy nxp nyp x0 x1' s1 g4 f5 f6 s4 x5 x6
    clear x2 x3 x4 f0 f1 f2 f3 f4 lx s0 s2 s3 s5 s6 g3 g6 lp
    intro w10 R10
    obtain ⟨⟨x0, x1', x2, x3, x4, x5, x6⟩, ⟨f0, f1, f2, f3, f4, f5, f6⟩, lx⟩ := R10.out.xs
    obtain ⟨⟨s0, s1, s2, s3, s4, s5, s6⟩, ⟨g3, g4, g6⟩, lp⟩ := R10.out.ss
    obtain ⟨-, -, ly, nxy, nxp, nyp⟩ := R10.out.ys
    obtain ⟨⟨h0, h1, h2, h3, h4, h5, h6⟩, ⟨k0, k1, k2, k3, k4, k5, k6⟩, -, -, -, -⟩ := R10.out.ys
    have npx := Ne.symm nxp
    have npy := Ne.symm nyp
    have nyx := Ne.symm nxy
    go_wp2
    obtain ⟨c9', Z1, Z2, Z3⟩ := (R10.out).res (.pointer (some ⟨p, 0, none⟩)) (.int .i64 hi) (.slice ao' N cap') (.int .i64 mv) (.bool true) (.bool true) (.bool true)
    exact bodyPost_ret (v := .tuple #[.agg #[.pointer (some ⟨p, 0, none⟩), .int .i64 hi, .slice ao' N cap', .int .i64 mv, .bool true, .bool true, .bool true], .nilIface]) (by clear Z1 Z2 Z3 R10; simp [results, Tryz.results84, go_sem, *]) rfl ⟨ao', cap', rfl, c9', Z1, Z2, Z3⟩

set_option maxRecDepth 100000 in
set_option maxHeartbeats 2000000 in
theorem snstep_full (hi : Int) (h : SnAt c k w p q gp sh cid cl ca sc ids) (ha : ArenaS c K w q la) (hk : 2 ≤ k ∧ 2 ≤ K ∧ k ≠ K ∧ k + 1 ≠ K ∧ k + 2 ≠ K) {x1 : Int} {r : List Int} {ao : Option Addr} {n cap : Nat} (m0 : Int) (hin : In c (k + 2) w 1 ao n cap ((x1 :: r).map (Value.int .i64))) (hx1 : 0 ≤ x1 ∧ x1 < la.length) (hr : n = 1) (hh : -1 ≤ hi ∧ hi ≤ 4611686018427387904) (hsh : sh < 21) (hf : (min m0 (valAt la x1)) < hi - 2 ^ sh) :
    Calls Tryz.prog 84 #[.agg #[.pointer (some ⟨p, 0, none⟩), .int .i64 hi, .slice ao n cap, .int .i64 m0, .bool true, .bool false, .bool false]] w fun e w' => ∃ ao' cap', e = .returned (.tuple #[.agg #[.pointer (some ⟨p, 0, none⟩), .int .i64 hi, .slice ao' (n - 1) cap', .int .i64 (min m0 (valAt la x1)), .bool true, .bool true, .bool true], .nilIface]) ∧ ∃ c', Stp (fun j => j = k ∨ j = K) c c' w w' ∧ SnAt c' k w' p q gp sh cid cl (min m0 (valAt la x1)) sc ids ∧ ArenaS c' K w' q la := by
  obtain ⟨mv, hmv⟩ : ∃ mv, mv = (min m0 (valAt la x1)) := ⟨_, rfl⟩
  rw [← hmv] at hf ⊢
  have HMV := Lib.hid hmv
  have tf : decide (mv < hi - 2 ^ sh) = true := by simpa using hf
  have hp2 := two_pow_bd sh hsh
  have hw1 : -9223372036854775808 ≤ hi - 2 ^ sh ∧ hi - 2 ^ sh ≤ 9223372036854775807 := by omega
  have WS : wrap64 (hi - 2 ^ sh) = hi - 2 ^ sh := IntWalk.wrap64_in _ hw1
  have V1 : IntKind.i64.wrap (hi - 2 ^ sh) = hi - 2 ^ sh := (IntWalk.i64_left _).trans WS
  clear hp2 hw1 hf
  have Hsh := Lib.hid hsh
  have Hk := Lib.hid hk
  have Hin := Lib.hid hin
  have Hx1 := Lib.hid hx1
  have tN : (((n - 1 : Nat) : Int) == 0) = true := by clear WS V1; simp; omega
  have R1 := Lib.hid (ST.start h ha hk (.pointer (some ⟨p, 0, none⟩)) (.int .i64 hi) (.slice ao n cap) (.int .i64 m0) (.bool true) (.bool false) (.bool false))
  have t0 := ((Stp.refl (fun _ => False) c w).alloc (.cells #[.pointer (some ⟨p, 0, none⟩), .int .i64 hi, .slice ao n cap, .int .i64 m0, .bool true, .bool false, .bool false] 33) 0).alloc (.cells #[.pointer none, .int .i64 0, .slice none 0 0, .int .i64 0, .bool false, .bool false, .bool false] 33) 0
  rw [show (w.alloc (.cells #[.pointer (some ⟨p, 0, none⟩), .int .i64 hi, .slice ao n cap, .int .i64 m0, .bool true, .bool false, .bool false] 33)).heap.size = w.heap.size + 1 by simp] at t0
  have I1 := Lib.hid (hin.stp t0 id)
  clear t0
  generalize hcc : paint (paint c w.heap.size 0) (w.heap.size + 1) 0 = c1 at R1 I1
  clear hcc h ha hk hsh hh hin hx1 hr hmv
  obtain ⟨x, hx⟩ : ∃ x, x = w.heap.size := ⟨_, rfl⟩
  obtain ⟨y, hy⟩ : ∃ y, y = w.heap.size + 1 := ⟨_, rfl⟩
  go_enter Tryz.func84, Tryz.ntmps84
  go_wp2_with fail
  rw [← hy, ← hx] at R1
  rw [← hy, ← hx]
  clear hx hy
  refine (sndone_any c1 _ _ _ _ _ _ _ _ _ _).mono ?_
  rintro e w2 ⟨rfl, c2, t2⟩
  have R2 := Lib.hid (R1.out.stpF t2)
  have I2 := Lib.hid (I1.out.stp t2 id)
  clear t2 R1 I1 Hin
  obtain ⟨⟨x0, x1', x2, x3, x4, x5, x6⟩, ⟨f0, f1, f2, f3, f4, f5, f6⟩, lx⟩ := R2.out.xs
  obtain ⟨⟨s0, s1, s2, s3, s4, s5, s6⟩, ⟨g3, g4, g6⟩, lp⟩ := R2.out.ss
  obtain ⟨-, -, ly, nxy, nxp, nyp⟩ := R2.out.ys
  go_wp2_with fail
  refine Tryz.rsn9 R2 I2 Hx1 (fun sb ao' cap' c5 w5 _ _ _ _ _ _ _ _ _ _ _ R5 I5 B5 => ?_)
  clear R2 I2 x0 x1' x2 x3 x4 x5 x6 f0 f1 f2 f3 f4 f5 f6 lx s0 s1 s2 s3 s4 s5 s6 g3 g4 g6 lp ly nxy nxp nyp
  rw [← HMV.out] at B5
  have b0 := B5.out.cell 0
  have b1 := B5.out.cell 1
  have lbb := B5.out.lt
  simp at b0 b1
  obtain ⟨⟨x0, x1', x2, x3, x4, x5, x6⟩, ⟨f0, f1, f2, f3, f4, f5, f6⟩, lx⟩ := R5.out.xs
  obtain ⟨⟨s0, s1, s2, s3, s4, s5, s6⟩, ⟨g3, g4, g6⟩, lp⟩ := R5.out.ss
  obtain ⟨-, -, ly, nxy, nxp, nyp⟩ := R5.out.ys
  obtain ⟨⟨h0, h1, h2, h3, h4, h5, h6⟩, -, -, -, -, -⟩ := R5.out.ys
  go_wp2_with fail
  have R6 := Lib.hid ((R5.out.put 2 (.slice ao' (n - 1) cap')).put 3 (.int .i64 mv))
  have T6 := Lib.hid (((Stp.refl (· = 0) c5 w5).setCell (p := ⟨x, 2, none⟩) (.slice ao' (n - 1) cap') R5.out.bx.1).setCell (p := ⟨x, 3, none⟩) (.int .i64 mv) R5.out.bx.1)
  have I6 := Lib.hid (I5.out.stp T6.out (by omega))
  clear R5 I5 T6 B5 b0 b1 lbb h0 h1 h2 h3 h4 h5 h6
  clear x0 x1' x2 x3 x4 x5 x6 f0 f1 f2 f3 f4 f5 f6 lx s0 s1 s2 s3 s4 s5 s6 g3 g4 g6 lp ly nxy nxp nyp
  generalize World.setCell _ _ _ = w6 at R6 I6 ⊢
  refine (scdone_s c5 _ _ _ _ _ tN).mono ?_
  rintro e w7 ⟨rfl, c7, t7⟩
  have R7 := Lib.hid (R6.out.stpF t7)
  have I7 := Lib.hid (I6.out.stp t7 id)
  clear t7 R6 I6
  obtain ⟨⟨x0, x1', x2, x3, x4, x5, x6⟩, ⟨f0, f1, f2, f3, f4, f5, f6⟩, lx⟩ := R7.out.xs
  obtain ⟨⟨s0, s1, s2, s3, s4, s5, s6⟩, ⟨g3, g4, g6⟩, lp⟩ := R7.out.ss
  obtain ⟨-, -, ly, nxy, nxp, nyp⟩ := R7.out.ys
  go_wp2_with fail
  refine (scleast_s c7 _ _ _ _ _).mono ?_
  rintro e w8 ⟨rfl, c8, t8⟩
  have R8 := Lib.hid (R7.out.stpF t8)
  clear t8 R7 I7
  clear x0 x1' x2 x3 x4 x5 x6 f0 f1 f2 f3 f4 f5 f6 lx s0 s1 s2 s3 s4 s5 s6 g3 g4 g6 lp ly nxy nxp nyp
  obtain ⟨⟨x0, x1', x2, x3, x4, x5, x6⟩, ⟨f0, f1, f2, f3, f4, f5, f6⟩, lx⟩ := R8.out.xs
  obtain ⟨⟨s0, s1, s2, s3, s4, s5, s6⟩, ⟨g3, g4, g6⟩, lp⟩ := R8.out.ss
  obtain ⟨-, -, ly, nxy, nxp, nyp⟩ := R8.out.ys
  have npx := Ne.symm nxp
  go_upto_region 15 with fail
  go_region_held3 (fun w' => w'.cell? ⟨x, 0, none⟩ = some (.pointer (some ⟨p, 0, none⟩)) ∧ w'.cell? ⟨x, 1, none⟩ = some (.int .i64 hi) ∧ w'.cell? ⟨p, 1, none⟩ = some (.int .i64 sh))
    (first | exact ⟨by assumption, by assumption, by assumption⟩ | (refine ⟨?_, ?_, ?_⟩ <;> (repeat (first | assumption | refine (World.cell?_setCell_other _ _ _ _ (by simp)).trans ?_))) | go_keep)
    (first | (go_at_call 30; refine Calls.mono (by first | exact R8.out.slots_c Hsh.out rfl (by first | exact (Stp.refl _ _ _).drew | exact Stp.refl _ _ _) | exact (R8.out.put_ca mv).slots_c Hsh.out rfl (by first | exact (Stp.refl _ _ _).drew | exact Stp.refl _ _ _) | exact (R8.out.put 5 (.bool true)).slots_c Hsh.out rfl (by first | exact (Stp.refl _ _ _).drew | exact Stp.refl _ _ _) | exact ((R8.out.put_ca mv).put 5 (.bool true)).slots_c Hsh.out rfl (by first | exact (Stp.refl _ _ _).drew | exact Stp.refl _ _ _) | exact ((R8.out.put 5 (.bool true)).put_ca mv).slots_c Hsh.out rfl (by first | exact (Stp.refl _ _ _).drew | exact Stp.refl _ _ _)) ?_; rintro e w9 ⟨rfl, c9, R9, ⟨x0, x1', s1⟩, ⟨g4, f5, f6⟩, ⟨s4, x5, x6⟩⟩))
  all_goals
    refine out_w (F := Exit.then _ _ Exit.normal _) (G := fun W => Hid (ST c w k K p q gp sh cid cl mv sc ids la x y [.pointer (some ⟨p, 0, none⟩), .int .i64 hi, .slice ao' (n - 1) cap', .int .i64 mv, .bool true, .bool true, .bool true] c9 W)) ?_ ?_
    · first | exact Lib.hid (((R9.out.put_ca mv).put 5 (.bool true)).put 6 (.bool true)) | exact Lib.hid (((R9.out.put_ca mv).put 6 (.bool true)).put 5 (.bool true)) | exact Lib.hid (((R9.out.put 5 (.bool true)).put_ca mv).put 6 (.bool true)) | exact Lib.hid (((R9.out.put 5 (.bool true)).put 6 (.bool true)).put_ca mv) | exact Lib.hid (((R9.out.put 6 (.bool true)).put_ca mv).put 5 (.bool true)) | exact Lib.hid (((R9.out.put 6 (.bool true)).put 5 (.bool true)).put_ca mv) | exact Lib.hid ((R9.out.put_ca mv).put 6 (.bool true)) | exact Lib.hid ((R9.out.put 6 (.bool true)).put_ca mv) | exact Lib.hid ((R9.out.put 5 (.bool true)).put 6 (.bool true)) | exact Lib.hid ((R9.out.put 6 (.bool true)).put 5 (.bool true)) | exact Lib.hid (R9.out.put 6 (.bool true))
    clear R8 R9 npx ly nxy nxp nyp x0 x1' s1 g4 f5 f6 s4 x5 x6
    clear x2 x3 x4 f0 f1 f2 f3 f4 lx s0 s2 s3 s5 s6 g3 g6 lp
    intro w10 R10
    obtain ⟨⟨x0, x1', x2, x3, x4, x5, x6⟩, ⟨f0, f1, f2, f3, f4, f5, f6⟩, lx⟩ := R10.out.xs
    obtain ⟨⟨s0, s1, s2, s3, s4, s5, s6⟩, ⟨g3, g4, g6⟩, lp⟩ := R10.out.ss
    obtain ⟨-, -, ly, nxy, nxp, nyp⟩ := R10.out.ys
    obtain ⟨⟨h0, h1, h2, h3, h4, h5, h6⟩, ⟨k0, k1, k2, k3, k4, k5, k6⟩, -, -, -, -⟩ := R10.out.ys
    have npx := Ne.symm nxp
    have npy := Ne.symm nyp
    have nyx := Ne.symm nxy
    go_wp2
    obtain ⟨c9', Z1, Z2, Z3⟩ := (R10.out).res (.pointer (some ⟨p, 0, none⟩)) (.int .i64 hi) (.slice ao' (n - 1) cap') (.int .i64 mv) (.bool true) (.bool true) (.bool true)
    exact bodyPost_ret (v := .tuple #[.agg #[.pointer (some ⟨p, 0, none⟩), .int .i64 hi, .slice ao' (n - 1) cap', .int .i64 mv, .bool true, .bool true, .bool true], .nilIface]) (by clear Z1 Z2 Z3 R10; simp [results, Tryz.results84, go_sem, *]) rfl ⟨ao', cap', rfl, c9', Z1, Z2, Z3⟩
end
end Go.Proofs.YtiphdedfbafhkaaGreatDoor
