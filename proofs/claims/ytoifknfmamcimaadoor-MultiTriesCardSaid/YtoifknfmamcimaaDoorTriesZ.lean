/- Regions 23 and 44 of MultiTries, a theorem each. No condition beyond each theorem's own. -/
import Derived.Test.YtoifknfmamcimaaDoorTPa
import Derived.Deep.CutBlock
import Derived.Deep.RegionWith
import Derived.Deep.RegionLaw
import Derived.Test.YtoifknfmamcimaaDoorMul9
import Derived.Test.YtoifknfmamcimaaDoorMem4
import Derived.Deep.RegionHeld3
namespace Go.Proofs.YtoifknfmamcimaaDoor
open Go.RowKit

theorem Tryd.infoIntT : (Tryd.prog.info? 3).map (fun i => (i.zero, i.size, i.bytes)) = some (some (.int .i64 0), 1, 8) := by kernel_rfl
theorem Tryd.infoTryT : (Tryd.prog.info? 73).map (fun i => (i.zero, i.size, i.bytes)) = some (some (.agg #[.pointer none, .int .i64 0, .int .i64 0, .int .i64 0, .int .i64 0, .slice none 0 0, .int .i64 0]), 7, 72) := by kernel_rfl
theorem Tryd.infoRTryT : (Tryd.prog.info? 90).map (fun i => (i.zero, i.size, i.bytes)) = some (some (.agg #[.int .i64 0, .int .i64 0, .int .i64 0, .int .i64 0, .int .i64 0, .int .i64 0, .int .i64 0]), 7, 56) := by kernel_rfl
theorem Tryd.infoSzM : (Tryd.prog.info? 67).map (·.size) = some 7 := by kernel_rfl
theorem Tryd.infoSzL : (Tryd.prog.info? 73).map (·.size) = some 7 := by kernel_rfl
theorem Tryd.infoSzR : (Tryd.prog.info? 90).map (·.size) = some 7 := by kernel_rfl

theorem aszT (w : World) (o : Obj) : w.heap.size + 1 = (w.alloc o).heap.size := by simp
def CellT (x9 : Nat) (v1 v3 : Value) (w : World) : Prop := w.cell? ⟨x9, 1, none⟩ = some v1 ∧ w.cell? ⟨x9, 3, none⟩ = some v3
theorem G3.mt {c0 : Nat → Nat} {w0 : World} {ka kb : Nat} {A B : (Nat → Nat) → World → Prop} {x9 : Nat} {ty : TypeId} {w : World} {v0 v1 v2 v3 v4 v5 v6 : Value} (h : G3 c0 w0 ka kb A B x9 [v0, v1, v2, v3, v4, v5, v6] ty w) : CellT x9 v1 v3 w := ⟨h.m.1, h.m.2.1⟩

noncomputable def Tryd.c23 : Code := (Tryd.f10.body.bind (regionN 23)).getD .skip

set_option maxRecDepth 1000000 in
set_option maxHeartbeats 100000000 in
theorem Tryd.r23 {x9 p yb xb nT lcap wcap : Nat} {xn : Int} {lo wo : Option Addr} {LL RR L9 : List Value} {u0 u1 : Value} {ty9 : TypeId} {c9 : Nat → Nat} {w9 : World}
    (GG : Hid (G3 c9 w9 13 14 (R0 13 73 7 lo nT lcap LL) (R0 14 90 7 wo nT wcap RR) x9 L9 ty9 w9)) (Y9 : Hid (Blk c9 15 w9 yb [.pointer (some ⟨p, 0, none⟩), .int .i64 xn, .int .i64 0, .int .i64 0, .int .i64 0, .slice none 0 0, .int .i64 0] 73)) (X9 : Hid (Blk c9 15 w9 xb [u0, u1, .int .i64 xn] 71))
    (b63 : Hid (nT + 1 ≤ maxLen)) (bby : Hid ((nT + 1) * 72 ≤ 140737488355328)) (bbz : Hid ((nT + 1) * 56 ≤ 140737488355328)) {fr0 fr1 fr2 fr3 fr4 fr5 fr6 fr7 fr8 fr9 fr10 fr13 fr16 fr17 fr18 fr19 fr20 fr21 fr22 fr23 fr24 fr25 fr26 fr27 fr28 fr29 fr30 fr31 fr32 fr33 fr34 fr35 fr36 fr37 fr38 fr39 fr40 fr41 fr42 fr43 fr44 fr45 fr46 fr47 fr48 fr49 fr50 fr51 fr52 fr53 fr54 fr55 fr56 fr57 fr58 fr59 fr60 fr61 fr62 fr63 fr64 fr65 fr66 fr67 fr68 fr69 fr70 fr71 fr72 fr73 fr74 fr75 fr76 fr77 fr78 fr79 fr80 fr81 fr82 fr83 fr84 fr85 fr86 fr87 fr88 fr89 fr90 fr91 fr92 fr93 fr94 fr95 fr96 fr97 fr98 fr99 fr100 fr101 fr102 fr103 fr104 fr105 fr106 fr107 fr108 fr109 fr110 fr111 fr112 fr113 fr114 fr115 fr116 fr117 fr118 fr119 fr120 fr121 fr122 fr123 fr124 fr125 fr126 fr127 fr128 fr129 fr130 fr131 fr132 fr133 fr134 fr135 fr136 fr137 fr138 fr139 fr140 fr141 fr142 fr143 fr144 fr145 fr146 fr147 fr148 fr149 fr150 fr151 fr152 fr153 fr154 fr155 fr156 fr157 fr158 fr159 fr160 fr161 fr162 fr163 fr164 fr165 fr166 fr167 fr168 fr169 fr170 fr171 fr172 fr173 fr174 fr175 fr176 fr177 fr178 fr179 fr180 fr181 fr182 fr183 fr184 fr185 fr186 fr187 fr188 fr189 fr190 fr191 fr192 fr193 fr194 fr195 fr196 fr197 fr198 fr199 fr200 fr201 fr202 fr203 fr204 fr205 fr206 fr207 fr208 fr209 fr210 fr211 fr212 fr213 fr214 fr215 fr216 fr217 fr218 fr219 fr220 fr221 fr222 fr223 fr224 fr225 fr226 fr227 fr228 fr229 fr230 fr231 fr232 fr233 fr234 fr235 fr236 fr237 fr238 fr239 fr240 fr241 fr242 fr243 fr244 fr245 fr246 fr247 fr248 fr249 fr250 fr251 fr252 fr253 fr254 fr255 fr256 fr257 fr258 fr259 fr260 fr261 fr262 fr263 fr264 fr265 fr266 fr267 fr268 fr269 fr270 fr271 fr272 fr273 fr274 fr275 fr276 fr277 : Value} {Q0 : Exit → Act → World → Prop}
    (hQ : ∀ (ao1 : Option Addr) (cap1 : Nat) (ao2 : Option Addr) (cap2 : Nat) (w' : World), ∀ g99 g100 g101 g102 g103 g104 g105 g106 g107 g108 : Value, Hid (G3 c9 w9 13 14 (R0 13 73 7 ao1 (nT + 1) cap1 (LL ++ [.pointer (some ⟨p, 0, none⟩), .int .i64 xn, .int .i64 0, .int .i64 0, .int .i64 0, .slice none 0 0, .int .i64 0])) (R0 14 90 7 ao2 (nT + 1) cap2 (RR ++ [.int .i64 xn, .int .i64 0, .int .i64 0, .int .i64 0, .int .i64 0, .int .i64 0, .int .i64 0])) x9 L9 ty9 w') → Q0 .normal ⟨#[fr0, fr1, fr2, fr3, fr4, fr5, fr6, fr7, fr8, fr9, fr10, .slice ao1 (nT + 1) cap1, .slice ao2 (nT + 1) cap2, fr13, .pointer (some ⟨xb, 0, none⟩), .pointer (some ⟨yb, 0, none⟩), fr16, fr17, fr18, fr19, fr20, fr21, fr22, fr23, fr24, fr25, fr26, fr27, fr28, fr29, fr30, fr31, fr32, fr33, fr34, fr35, fr36, fr37, fr38, fr39, fr40, fr41, fr42, fr43, fr44, fr45, fr46, fr47, fr48, fr49, fr50, fr51, fr52, fr53, fr54, fr55, fr56, fr57, fr58, fr59, fr60, fr61, fr62, fr63, fr64, fr65, fr66, fr67, fr68, fr69, fr70, fr71, fr72, fr73, fr74, fr75, fr76, fr77, fr78, fr79, fr80, fr81, fr82, fr83, fr84, fr85, fr86, fr87, fr88, fr89, fr90, fr91, fr92, fr93, fr94, fr95, fr96, fr97, fr98, g99, g100, g101, g102, g103, g104, g105, g106, g107, g108, fr109, fr110, fr111, fr112, fr113, fr114, fr115, fr116, fr117, fr118, fr119, fr120, fr121, fr122, fr123, fr124, fr125, fr126, fr127, fr128, fr129, fr130, fr131, fr132, fr133, fr134, fr135, fr136, fr137, fr138, fr139, fr140, fr141, fr142, fr143, fr144, fr145, fr146, fr147, fr148, fr149, fr150, fr151, fr152, fr153, fr154, fr155, fr156, fr157, fr158, fr159, fr160, fr161, fr162, fr163, fr164, fr165, fr166, fr167, fr168, fr169, fr170, fr171, fr172, fr173, fr174, fr175, fr176, fr177, fr178, fr179, fr180, fr181, fr182, fr183, fr184, fr185, fr186, fr187, fr188, fr189, fr190, fr191, fr192, fr193, fr194, fr195, fr196, fr197, fr198, fr199, fr200, fr201, fr202, fr203, fr204, fr205, fr206, fr207, fr208, fr209, fr210, fr211, fr212, fr213, fr214, fr215, fr216, fr217, fr218, fr219, fr220, fr221, fr222, fr223, fr224, fr225, fr226, fr227, fr228, fr229, fr230, fr231, fr232, fr233, fr234, fr235, fr236, fr237, fr238, fr239, fr240, fr241, fr242, fr243, fr244, fr245, fr246, fr247, fr248, fr249, fr250, fr251, fr252, fr253, fr254, fr255, fr256, fr257, fr258, fr259, fr260, fr261, fr262, fr263, fr264, fr265, fr266, fr267, fr268, fr269, fr270, fr271, fr272, fr273, fr274, fr275, fr276, fr277], []⟩ w') : Code.wp Tryd.prog Tryd.c23 Q0 ⟨#[fr0, fr1, fr2, fr3, fr4, fr5, fr6, fr7, fr8, fr9, fr10, .slice lo nT lcap, .slice wo nT wcap, fr13, .pointer (some ⟨xb, 0, none⟩), .pointer (some ⟨yb, 0, none⟩), fr16, fr17, fr18, fr19, fr20, fr21, fr22, fr23, fr24, fr25, fr26, fr27, fr28, fr29, fr30, fr31, fr32, fr33, fr34, fr35, fr36, fr37, fr38, fr39, fr40, fr41, fr42, fr43, fr44, fr45, fr46, fr47, fr48, fr49, fr50, fr51, fr52, fr53, fr54, fr55, fr56, fr57, fr58, fr59, fr60, fr61, fr62, fr63, fr64, fr65, fr66, fr67, fr68, fr69, fr70, fr71, fr72, fr73, fr74, fr75, fr76, fr77, fr78, fr79, fr80, fr81, fr82, fr83, fr84, fr85, fr86, fr87, fr88, fr89, fr90, fr91, fr92, fr93, fr94, fr95, fr96, fr97, fr98, fr99, fr100, fr101, fr102, fr103, fr104, fr105, fr106, fr107, fr108, fr109, fr110, fr111, fr112, fr113, fr114, fr115, fr116, fr117, fr118, fr119, fr120, fr121, fr122, fr123, fr124, fr125, fr126, fr127, fr128, fr129, fr130, fr131, fr132, fr133, fr134, fr135, fr136, fr137, fr138, fr139, fr140, fr141, fr142, fr143, fr144, fr145, fr146, fr147, fr148, fr149, fr150, fr151, fr152, fr153, fr154, fr155, fr156, fr157, fr158, fr159, fr160, fr161, fr162, fr163, fr164, fr165, fr166, fr167, fr168, fr169, fr170, fr171, fr172, fr173, fr174, fr175, fr176, fr177, fr178, fr179, fr180, fr181, fr182, fr183, fr184, fr185, fr186, fr187, fr188, fr189, fr190, fr191, fr192, fr193, fr194, fr195, fr196, fr197, fr198, fr199, fr200, fr201, fr202, fr203, fr204, fr205, fr206, fr207, fr208, fr209, fr210, fr211, fr212, fr213, fr214, fr215, fr216, fr217, fr218, fr219, fr220, fr221, fr222, fr223, fr224, fr225, fr226, fr227, fr228, fr229, fr230, fr231, fr232, fr233, fr234, fr235, fr236, fr237, fr238, fr239, fr240, fr241, fr242, fr243, fr244, fr245, fr246, fr247, fr248, fr249, fr250, fr251, fr252, fr253, fr254, fr255, fr256, fr257, fr258, fr259, fr260, fr261, fr262, fr263, fr264, fr265, fr266, fr267, fr268, fr269, fr270, fr271, fr272, fr273, fr274, fr275, fr276, fr277], []⟩ w9 := by
  conv => arg 2; whnf
  refine wp_region_noPanic ?_
  have HQ := Lib.hid hQ
  clear hQ
  have G0 := Lib.hid GG.out.drew
  refine wp_region_held_drew (S := S23 p xn yb xb) (by kernel_rfl) (s23 Y9.out X9.out G0.out) (fun hS0 => ?_)
  have hS := Lib.hid hS0
  clear hS0
  generalize w9.drew = wq0 at G0 hS ⊢
  refine wpH_takeL (i := 0) (v := ?_) rfl (by kernel_rfl) (by kernel_rfl) (by kernel_rfl) (fun _ _ _ h => h) (Or.inl ⟨by rfl, ?_⟩) hS.out ?_
  rotate_left
  · intro wy hSy
    clear hSy
    go_simp
    try with_reducible rfl
  try simp only [Act.put, List.setIfInBounds_toArray, List.set_cons_zero, List.set_cons_succ]
  refine wpH_takeL (i := 1) (v := ?_) rfl (by kernel_rfl) (by kernel_rfl) (by kernel_rfl) (fun _ _ _ h => h) (Or.inl ⟨by rfl, ?_⟩) hS.out ?_
  rotate_left
  · intro wy hSy
    obtain ⟨⟨s0, s1, s2, s3, s4, s5, s6⟩, q2⟩ := hSy
    go_simp
    try with_reducible rfl
  try simp only [Act.put, List.setIfInBounds_toArray, List.set_cons_zero, List.set_cons_succ]
  refine wpH_takeL (i := 4) (v := ?_) rfl (by kernel_rfl) (by kernel_rfl) (by kernel_rfl) (fun _ _ _ h => h) (Or.inl ⟨by rfl, ?_⟩) hS.out ?_
  rotate_left
  · intro wy hSy
    clear hSy
    go_simp
    try with_reducible rfl
  try simp only [Act.put, List.setIfInBounds_toArray, List.set_cons_zero, List.set_cons_succ]
  refine wpH_takeL (i := 5) (v := ?_) rfl (by kernel_rfl) (by kernel_rfl) (by kernel_rfl) (fun _ _ _ h => h) (Or.inl ⟨by rfl, ?_⟩) hS.out ?_
  rotate_left
  · intro wy hSy
    clear hSy
    go_simp
    try with_reducible rfl
  try simp only [Act.put, List.setIfInBounds_toArray, List.set_cons_zero, List.set_cons_succ]
  refine wpH_takeL (i := 6) (v := ?_) rfl (by kernel_rfl) (by kernel_rfl) (by kernel_rfl) (fun _ _ _ h => h) (Or.inl ⟨by rfl, ?_⟩) hS.out ?_
  rotate_left
  · intro wy hSy
    obtain ⟨⟨s0, s1, s2, s3, s4, s5, s6⟩, q2⟩ := hSy
    go_simp
    try with_reducible rfl
  try simp only [Act.put, List.setIfInBounds_toArray, List.set_cons_zero, List.set_cons_succ]
  refine wpH_takeL (i := 7) (v := ?_) rfl (by kernel_rfl) (by kernel_rfl) (by kernel_rfl) (fun _ _ _ h => h) (Or.inl ⟨by rfl, ?_⟩) hS.out ?_
  rotate_left
  · intro wy hSy
    clear hSy
    go_simp
    try with_reducible rfl
  try simp only [Act.put, List.setIfInBounds_toArray, List.set_cons_zero, List.set_cons_succ]
  refine wpAnyH_ready (rs := [2, 8]) (by kernel_rfl) (by simp) (readyH_consL rfl (fun K hK => ?_) (readyH_consL rfl (fun K hK => ?_) AllReadyH.nil))
  · refine step_bsG rfl 69 73 (.tmp 100) rfl (.agg #[.pointer none, .int .i64 0, .int .i64 0, .int .i64 0, .int .i64 0, .slice none 0 0, .int .i64 0]) 72 Tryd.underlying69 Tryd.infoTryT G0.out rfl ?_
    intro ba wq1 G1
    refine hK.out _ _ (s23 Y9.out X9.out G1.out) (fun hS1 => ?_)
    clear hK K hS G0
    have hS := Lib.hid hS1
    clear hS1
    try simp only [Act.put, List.setIfInBounds_toArray, List.set_cons_zero, List.set_cons_succ]
    refine wpAnyH_ready (rs := [3, 8]) (by kernel_rfl) (by simp) (readyH_consL rfl (fun K hK => ?_) (readyH_consL rfl (fun K hK => ?_) AllReadyH.nil))
    · refine stepG rfl (.tmp 99) (.tmp 101) 69 rfl 73 (.agg #[.pointer none, .int .i64 0, .int .i64 0, .int .i64 0, .int .i64 0, .slice none 0 0, .int .i64 0]) 7 72 Tryd.underlying69 Tryd.infoTryT rfl G1.out rfl rfl rfl (by simp [Value.oneCell']) b63.out bby.out ?_
      intro ao1 cap1 wq2 G2
      refine hK.out _ _ (s23 Y9.out X9.out G2.out) (fun hS2 => ?_)
      clear hK K hS G1
      have hS := Lib.hid hS2
      clear hS2
      try simp only [Act.put, List.setIfInBounds_toArray, List.set_cons_zero, List.set_cons_succ]
      refine wpAnyH_ready (rs := [8]) (by kernel_rfl) (by simp) (readyH_consL rfl (fun K hK => ?_) AllReadyH.nil)
      refine step_bsG rfl 88 90 (.tmp 106) rfl (.agg #[.int .i64 0, .int .i64 0, .int .i64 0, .int .i64 0, .int .i64 0, .int .i64 0, .int .i64 0]) 56 Tryd.underlying88 Tryd.infoRTryT G2.out.swap rfl ?_
      intro bb wq3 H3
      have G3 := Lib.hid H3.out.swap
      clear H3
      refine hK.out _ _ (s23 Y9.out X9.out G3.out) (fun hS3 => ?_)
      clear hK K hS G2
      have hS := Lib.hid hS3
      clear hS3
      try simp only [Act.put, List.setIfInBounds_toArray, List.set_cons_zero, List.set_cons_succ]
      refine wpAnyH_ready (rs := [9]) (by kernel_rfl) (by simp) (readyH_consL rfl (fun K hK => ?_) AllReadyH.nil)
      refine stepG rfl (.tmp 103) (.tmp 107) 88 rfl 90 (.agg #[.int .i64 0, .int .i64 0, .int .i64 0, .int .i64 0, .int .i64 0, .int .i64 0, .int .i64 0]) 7 56 Tryd.underlying88 Tryd.infoRTryT rfl G3.out.swap rfl rfl rfl (by simp [Value.oneCell']) b63.out bbz.out ?_
      intro ao2 cap2 wq4 H4
      have G4 := Lib.hid H4.out.swap
      refine hK.out _ _ (s23 Y9.out X9.out G4.out) (fun hS4 => ?_)
      clear hK K hS G3 H4
      have hS := Lib.hid hS4
      clear hS4
      try simp only [Act.put, List.setIfInBounds_toArray, List.set_cons_zero, List.set_cons_succ]
      refine wpH_takeL (i := 10) (v := ?_) rfl (by kernel_rfl) (by kernel_rfl) (by kernel_rfl) (fun _ _ _ h => h) (Or.inl ⟨by rfl, ?_⟩) hS.out ?_
      rotate_left
      · intro wy hSy
        clear hSy
        go_simp
        try with_reducible rfl
      try simp only [Act.put, List.setIfInBounds_toArray, List.set_cons_zero, List.set_cons_succ]
      refine wpH_takeL (i := 11) (v := ?_) rfl (by kernel_rfl) (by kernel_rfl) (by kernel_rfl) (fun _ _ _ h => h) (Or.inl ⟨by rfl, ?_⟩) hS.out ?_
      rotate_left
      · intro wy hSy
        clear hSy
        go_simp
        try with_reducible rfl
      try simp only [Act.put, List.setIfInBounds_toArray, List.set_cons_zero, List.set_cons_succ]
      refine wpAnyH_done (by kernel_rfl) ?_ _
      exact HQ.out _ _ _ _ _ _ _ _ _ _ _ _ _ _ _ G4
    · refine step_bsG rfl 88 90 (.tmp 106) rfl (.agg #[.int .i64 0, .int .i64 0, .int .i64 0, .int .i64 0, .int .i64 0, .int .i64 0, .int .i64 0]) 56 Tryd.underlying88 Tryd.infoRTryT G1.out.swap rfl ?_
      intro bb wq2 H2
      have G2 := Lib.hid H2.out.swap
      clear H2
      refine hK.out _ _ (s23 Y9.out X9.out G2.out) (fun hS2 => ?_)
      clear hK K hS G1
      have hS := Lib.hid hS2
      clear hS2
      try simp only [Act.put, List.setIfInBounds_toArray, List.set_cons_zero, List.set_cons_succ]
      refine wpAnyH_ready (rs := [3]) (by kernel_rfl) (by simp) (readyH_consL rfl (fun K hK => ?_) AllReadyH.nil)
      refine stepG rfl (.tmp 99) (.tmp 101) 69 rfl 73 (.agg #[.pointer none, .int .i64 0, .int .i64 0, .int .i64 0, .int .i64 0, .slice none 0 0, .int .i64 0]) 7 72 Tryd.underlying69 Tryd.infoTryT rfl G2.out rfl rfl rfl (by simp [Value.oneCell']) b63.out bby.out ?_
      intro ao1 cap1 wq3 G3
      refine hK.out _ _ (s23 Y9.out X9.out G3.out) (fun hS3 => ?_)
      clear hK K hS G2
      have hS := Lib.hid hS3
      clear hS3
      try simp only [Act.put, List.setIfInBounds_toArray, List.set_cons_zero, List.set_cons_succ]
      refine wpAnyH_ready (rs := [9]) (by kernel_rfl) (by simp) (readyH_consL rfl (fun K hK => ?_) AllReadyH.nil)
      refine stepG rfl (.tmp 103) (.tmp 107) 88 rfl 90 (.agg #[.int .i64 0, .int .i64 0, .int .i64 0, .int .i64 0, .int .i64 0, .int .i64 0, .int .i64 0]) 7 56 Tryd.underlying88 Tryd.infoRTryT rfl G3.out.swap rfl rfl rfl (by simp [Value.oneCell']) b63.out bbz.out ?_
      intro ao2 cap2 wq4 H4
      have G4 := Lib.hid H4.out.swap
      refine hK.out _ _ (s23 Y9.out X9.out G4.out) (fun hS4 => ?_)
      clear hK K hS G3 H4
      have hS := Lib.hid hS4
      clear hS4
      try simp only [Act.put, List.setIfInBounds_toArray, List.set_cons_zero, List.set_cons_succ]
      refine wpH_takeL (i := 10) (v := ?_) rfl (by kernel_rfl) (by kernel_rfl) (by kernel_rfl) (fun _ _ _ h => h) (Or.inl ⟨by rfl, ?_⟩) hS.out ?_
      rotate_left
      · intro wy hSy
        clear hSy
        go_simp
        try with_reducible rfl
      try simp only [Act.put, List.setIfInBounds_toArray, List.set_cons_zero, List.set_cons_succ]
      refine wpH_takeL (i := 11) (v := ?_) rfl (by kernel_rfl) (by kernel_rfl) (by kernel_rfl) (fun _ _ _ h => h) (Or.inl ⟨by rfl, ?_⟩) hS.out ?_
      rotate_left
      · intro wy hSy
        clear hSy
        go_simp
        try with_reducible rfl
      try simp only [Act.put, List.setIfInBounds_toArray, List.set_cons_zero, List.set_cons_succ]
      refine wpAnyH_done (by kernel_rfl) ?_ _
      exact HQ.out _ _ _ _ _ _ _ _ _ _ _ _ _ _ _ G4
  · refine step_bsG rfl 88 90 (.tmp 106) rfl (.agg #[.int .i64 0, .int .i64 0, .int .i64 0, .int .i64 0, .int .i64 0, .int .i64 0, .int .i64 0]) 56 Tryd.underlying88 Tryd.infoRTryT G0.out.swap rfl ?_
    intro bb wq1 H1
    have G1 := Lib.hid H1.out.swap
    clear H1
    refine hK.out _ _ (s23 Y9.out X9.out G1.out) (fun hS1 => ?_)
    clear hK K hS G0
    have hS := Lib.hid hS1
    clear hS1
    try simp only [Act.put, List.setIfInBounds_toArray, List.set_cons_zero, List.set_cons_succ]
    refine wpAnyH_ready (rs := [2]) (by kernel_rfl) (by simp) (readyH_consL rfl (fun K hK => ?_) AllReadyH.nil)
    refine step_bsG rfl 69 73 (.tmp 100) rfl (.agg #[.pointer none, .int .i64 0, .int .i64 0, .int .i64 0, .int .i64 0, .slice none 0 0, .int .i64 0]) 72 Tryd.underlying69 Tryd.infoTryT G1.out rfl ?_
    intro ba wq2 G2
    refine hK.out _ _ (s23 Y9.out X9.out G2.out) (fun hS2 => ?_)
    clear hK K hS G1
    have hS := Lib.hid hS2
    clear hS2
    try simp only [Act.put, List.setIfInBounds_toArray, List.set_cons_zero, List.set_cons_succ]
    refine wpAnyH_ready (rs := [3]) (by kernel_rfl) (by simp) (readyH_consL rfl (fun K hK => ?_) AllReadyH.nil)
    refine stepG rfl (.tmp 99) (.tmp 101) 69 rfl 73 (.agg #[.pointer none, .int .i64 0, .int .i64 0, .int .i64 0, .int .i64 0, .slice none 0 0, .int .i64 0]) 7 72 Tryd.underlying69 Tryd.infoTryT rfl G2.out rfl rfl rfl (by simp [Value.oneCell']) b63.out bby.out ?_
    intro ao1 cap1 wq3 G3
    refine hK.out _ _ (s23 Y9.out X9.out G3.out) (fun hS3 => ?_)
    clear hK K hS G2
    have hS := Lib.hid hS3
    clear hS3
    try simp only [Act.put, List.setIfInBounds_toArray, List.set_cons_zero, List.set_cons_succ]
    refine wpAnyH_ready (rs := [9]) (by kernel_rfl) (by simp) (readyH_consL rfl (fun K hK => ?_) AllReadyH.nil)
    refine stepG rfl (.tmp 103) (.tmp 107) 88 rfl 90 (.agg #[.int .i64 0, .int .i64 0, .int .i64 0, .int .i64 0, .int .i64 0, .int .i64 0, .int .i64 0]) 7 56 Tryd.underlying88 Tryd.infoRTryT rfl G3.out.swap rfl rfl rfl (by simp [Value.oneCell']) b63.out bbz.out ?_
    intro ao2 cap2 wq4 H4
    have G4 := Lib.hid H4.out.swap
    refine hK.out _ _ (s23 Y9.out X9.out G4.out) (fun hS4 => ?_)
    clear hK K hS G3 H4
    have hS := Lib.hid hS4
    clear hS4
    try simp only [Act.put, List.setIfInBounds_toArray, List.set_cons_zero, List.set_cons_succ]
    refine wpH_takeL (i := 10) (v := ?_) rfl (by kernel_rfl) (by kernel_rfl) (by kernel_rfl) (fun _ _ _ h => h) (Or.inl ⟨by rfl, ?_⟩) hS.out ?_
    rotate_left
    · intro wy hSy
      clear hSy
      go_simp
      try with_reducible rfl
    try simp only [Act.put, List.setIfInBounds_toArray, List.set_cons_zero, List.set_cons_succ]
    refine wpH_takeL (i := 11) (v := ?_) rfl (by kernel_rfl) (by kernel_rfl) (by kernel_rfl) (fun _ _ _ h => h) (Or.inl ⟨by rfl, ?_⟩) hS.out ?_
    rotate_left
    · intro wy hSy
      clear hSy
      go_simp
      try with_reducible rfl
    try simp only [Act.put, List.setIfInBounds_toArray, List.set_cons_zero, List.set_cons_succ]
    refine wpAnyH_done (by kernel_rfl) ?_ _
    exact HQ.out _ _ _ _ _ _ _ _ _ _ _ _ _ _ _ G4

noncomputable def Tryd.c44 : Code := (Tryd.f10.body.bind (regionN 44)).getD .skip

set_option maxRecDepth 1000000 in
set_option maxHeartbeats 100000000 in
theorem Tryd.r44 {x9 k sn gcap icap scap : Nat} {zz z0 z1 : Int} {cn : Int} {io go so : Option Addr} {LL RR : List Value} {ty9 : TypeId} {c8 : Nat → Nat} {w8 : World}
    (GG : Hid (G3 c8 w8 11 10 (R0 11 3 1 io k icap LL) (R0 10 2 1 go k gcap RR) x9 [.int .i64 zz, .int .i64 z0, .int .i64 z0, .slice go k gcap, .int .i64 z1, .int .i64 0, .slice so sn scap] ty9 w8))
    (b63 : Hid (k + 1 ≤ maxLen)) (bby : Hid ((k + 1) * 8 ≤ 140737488355328)) {fr0 fr1 fr2 fr3 fr4 fr5 fr6 fr7 fr8 fr11 fr12 fr13 fr14 fr15 fr16 fr17 fr18 fr19 fr20 fr21 fr22 fr24 fr25 fr26 fr27 fr28 fr29 fr30 fr31 fr32 fr33 fr34 fr35 fr36 fr37 fr38 fr39 fr40 fr41 fr42 fr43 fr44 fr45 fr46 fr47 fr48 fr49 fr50 fr51 fr52 fr53 fr54 fr55 fr56 fr57 fr58 fr59 fr60 fr61 fr62 fr63 fr64 fr65 fr66 fr67 fr68 fr69 fr70 fr71 fr72 fr73 fr74 fr75 fr76 fr77 fr78 fr79 fr80 fr81 fr82 fr83 fr84 fr85 fr86 fr87 fr88 fr89 fr90 fr91 fr92 fr93 fr94 fr95 fr96 fr97 fr98 fr99 fr100 fr101 fr102 fr103 fr104 fr105 fr106 fr107 fr108 fr109 fr110 fr111 fr112 fr113 fr114 fr115 fr116 fr117 fr118 fr119 fr120 fr121 fr122 fr123 fr124 fr125 fr126 fr127 fr128 fr129 fr130 fr131 fr132 fr133 fr134 fr135 fr136 fr137 fr138 fr139 fr140 fr141 fr142 fr143 fr144 fr145 fr146 fr147 fr148 fr149 fr150 fr151 fr152 fr153 fr154 fr155 fr156 fr157 fr158 fr159 fr160 fr161 fr162 fr163 fr164 fr165 fr166 fr167 fr168 fr169 fr170 fr171 fr172 fr173 fr174 fr175 fr176 fr177 fr178 fr179 fr180 fr181 fr182 fr183 fr184 fr185 fr186 fr187 fr188 fr189 fr190 fr191 fr192 fr193 fr194 fr195 fr196 fr197 fr198 fr199 fr200 fr201 fr202 fr203 fr204 fr205 fr206 fr207 fr208 fr209 fr210 fr211 fr212 fr213 fr214 fr215 fr216 fr217 fr218 fr219 fr220 fr221 fr222 fr223 fr224 fr225 fr226 fr227 fr228 fr229 fr230 fr231 fr232 fr233 fr234 fr235 fr236 fr237 fr238 fr239 fr240 fr241 fr242 fr243 fr244 fr245 fr246 fr247 fr248 fr249 fr250 fr251 fr252 fr253 fr254 fr255 fr256 fr257 fr258 fr259 fr260 fr261 fr262 fr263 fr264 fr265 fr266 fr267 fr268 fr269 fr270 fr271 fr272 fr273 fr274 fr275 fr276 fr277 : Value} {Q0 : Exit → Act → World → Prop}
    (hQ : ∀ (ao1 : Option Addr) (cap1 : Nat) (ao2 : Option Addr) (cap2 : Nat) (w' : World), ∀ g211 g212 g213 g214 g215 g216 g217 g218 g219 g220 g221 g222 g223 g224 : Value, Hid (G3 c8 w8 11 10 (R0 11 3 1 ao1 (k + 1) cap1 (LL ++ [.int .i64 cn])) (R0 10 2 1 ao2 (k + 1) cap2 (RR ++ [.int .i64 z0])) x9 [.int .i64 zz, .int .i64 z0, .int .i64 z0, .slice ao2 (k + 1) cap2, .int .i64 z1, .int .i64 0, .slice so sn scap] ty9 w') → Q0 .normal ⟨#[fr0, fr1, fr2, fr3, fr4, fr5, fr6, fr7, fr8, .pointer (some ⟨x9, 0, none⟩), .slice ao1 (k + 1) cap1, fr11, fr12, fr13, fr14, fr15, fr16, fr17, fr18, fr19, fr20, fr21, fr22, .int .i64 cn, fr24, fr25, fr26, fr27, fr28, fr29, fr30, fr31, fr32, fr33, fr34, fr35, fr36, fr37, fr38, fr39, fr40, fr41, fr42, fr43, fr44, fr45, fr46, fr47, fr48, fr49, fr50, fr51, fr52, fr53, fr54, fr55, fr56, fr57, fr58, fr59, fr60, fr61, fr62, fr63, fr64, fr65, fr66, fr67, fr68, fr69, fr70, fr71, fr72, fr73, fr74, fr75, fr76, fr77, fr78, fr79, fr80, fr81, fr82, fr83, fr84, fr85, fr86, fr87, fr88, fr89, fr90, fr91, fr92, fr93, fr94, fr95, fr96, fr97, fr98, fr99, fr100, fr101, fr102, fr103, fr104, fr105, fr106, fr107, fr108, fr109, fr110, fr111, fr112, fr113, fr114, fr115, fr116, fr117, fr118, fr119, fr120, fr121, fr122, fr123, fr124, fr125, fr126, fr127, fr128, fr129, fr130, fr131, fr132, fr133, fr134, fr135, fr136, fr137, fr138, fr139, fr140, fr141, fr142, fr143, fr144, fr145, fr146, fr147, fr148, fr149, fr150, fr151, fr152, fr153, fr154, fr155, fr156, fr157, fr158, fr159, fr160, fr161, fr162, fr163, fr164, fr165, fr166, fr167, fr168, fr169, fr170, fr171, fr172, fr173, fr174, fr175, fr176, fr177, fr178, fr179, fr180, fr181, fr182, fr183, fr184, fr185, fr186, fr187, fr188, fr189, fr190, fr191, fr192, fr193, fr194, fr195, fr196, fr197, fr198, fr199, fr200, fr201, fr202, fr203, fr204, fr205, fr206, fr207, fr208, fr209, fr210, g211, g212, g213, g214, g215, g216, g217, g218, g219, g220, g221, g222, g223, g224, fr225, fr226, fr227, fr228, fr229, fr230, fr231, fr232, fr233, fr234, fr235, fr236, fr237, fr238, fr239, fr240, fr241, fr242, fr243, fr244, fr245, fr246, fr247, fr248, fr249, fr250, fr251, fr252, fr253, fr254, fr255, fr256, fr257, fr258, fr259, fr260, fr261, fr262, fr263, fr264, fr265, fr266, fr267, fr268, fr269, fr270, fr271, fr272, fr273, fr274, fr275, fr276, fr277], []⟩ w') : Code.wp Tryd.prog Tryd.c44 Q0 ⟨#[fr0, fr1, fr2, fr3, fr4, fr5, fr6, fr7, fr8, .pointer (some ⟨x9, 0, none⟩), .slice io k icap, fr11, fr12, fr13, fr14, fr15, fr16, fr17, fr18, fr19, fr20, fr21, fr22, .int .i64 cn, fr24, fr25, fr26, fr27, fr28, fr29, fr30, fr31, fr32, fr33, fr34, fr35, fr36, fr37, fr38, fr39, fr40, fr41, fr42, fr43, fr44, fr45, fr46, fr47, fr48, fr49, fr50, fr51, fr52, fr53, fr54, fr55, fr56, fr57, fr58, fr59, fr60, fr61, fr62, fr63, fr64, fr65, fr66, fr67, fr68, fr69, fr70, fr71, fr72, fr73, fr74, fr75, fr76, fr77, fr78, fr79, fr80, fr81, fr82, fr83, fr84, fr85, fr86, fr87, fr88, fr89, fr90, fr91, fr92, fr93, fr94, fr95, fr96, fr97, fr98, fr99, fr100, fr101, fr102, fr103, fr104, fr105, fr106, fr107, fr108, fr109, fr110, fr111, fr112, fr113, fr114, fr115, fr116, fr117, fr118, fr119, fr120, fr121, fr122, fr123, fr124, fr125, fr126, fr127, fr128, fr129, fr130, fr131, fr132, fr133, fr134, fr135, fr136, fr137, fr138, fr139, fr140, fr141, fr142, fr143, fr144, fr145, fr146, fr147, fr148, fr149, fr150, fr151, fr152, fr153, fr154, fr155, fr156, fr157, fr158, fr159, fr160, fr161, fr162, fr163, fr164, fr165, fr166, fr167, fr168, fr169, fr170, fr171, fr172, fr173, fr174, fr175, fr176, fr177, fr178, fr179, fr180, fr181, fr182, fr183, fr184, fr185, fr186, fr187, fr188, fr189, fr190, fr191, fr192, fr193, fr194, fr195, fr196, fr197, fr198, fr199, fr200, fr201, fr202, fr203, fr204, fr205, fr206, fr207, fr208, fr209, fr210, fr211, fr212, fr213, fr214, fr215, fr216, fr217, fr218, fr219, fr220, fr221, fr222, fr223, fr224, fr225, fr226, fr227, fr228, fr229, fr230, fr231, fr232, fr233, fr234, fr235, fr236, fr237, fr238, fr239, fr240, fr241, fr242, fr243, fr244, fr245, fr246, fr247, fr248, fr249, fr250, fr251, fr252, fr253, fr254, fr255, fr256, fr257, fr258, fr259, fr260, fr261, fr262, fr263, fr264, fr265, fr266, fr267, fr268, fr269, fr270, fr271, fr272, fr273, fr274, fr275, fr276, fr277], []⟩ w8 := by
  conv => arg 2; whnf
  refine wp_region_noPanic ?_
  have HQ := Lib.hid hQ
  clear hQ
  obtain ⟨m1, m3, f3, lm⟩ := GG.out.m
  refine wp_region_till (S := CellT x9 (.int .i64 z0) (.slice go k gcap)) (f := 15) (by kernel_rfl) ?_
  have hS := GG.out.drew.mt
  refine wpTill_takeL (i := 0) (v := ?_) (l := [11, 3, 0]) rfl (by kernel_rfl) (by kernel_rfl) (by kernel_rfl) (by kernel_rfl) (by kernel_rfl) (by rfl) (fun _ _ _ h => h) (Or.inl ⟨by rfl, ?_⟩) hS ?_
  rotate_left
  · intro wy hSy
    obtain ⟨m1, m3⟩ := hSy
    go_simp
    try with_reducible rfl
  try simp only [Act.put, List.setIfInBounds_toArray, List.set_cons_zero, List.set_cons_succ]
  refine wpTill_takeL (i := 1) (v := ?_) (l := [11, 3, 2, 1]) rfl (by kernel_rfl) (by kernel_rfl) (by kernel_rfl) (by kernel_rfl) (by kernel_rfl) (by rfl) (fun _ _ _ h => h) (Or.inl ⟨by rfl, ?_⟩) hS ?_
  rotate_left
  · intro wy hSy
    obtain ⟨m1, m3⟩ := hSy
    go_simp
    try with_reducible rfl
  try simp only [Act.put, List.setIfInBounds_toArray, List.set_cons_zero, List.set_cons_succ]
  refine wpTill_takeL (i := 4) (v := ?_) (l := [11, 6, 5, 4]) rfl (by kernel_rfl) (by kernel_rfl) (by kernel_rfl) (by kernel_rfl) (by kernel_rfl) (by rfl) (fun _ _ _ h => h) (Or.inl ⟨by rfl, ?_⟩) hS ?_
  rotate_left
  · intro wy hSy
    obtain ⟨m1, m3⟩ := hSy
    go_simp
    try with_reducible rfl
  try simp only [Act.put, List.setIfInBounds_toArray, List.set_cons_zero, List.set_cons_succ]
  refine wpTill_takeL (i := 5) (v := ?_) (l := [11, 6, 5]) rfl (by kernel_rfl) (by kernel_rfl) (by kernel_rfl) (by kernel_rfl) (by kernel_rfl) (by rfl) (fun _ _ _ h => h) (Or.inl ⟨by rfl, ?_⟩) hS ?_
  rotate_left
  · intro wy hSy
    obtain ⟨m1, m3⟩ := hSy
    go_simp
    try with_reducible rfl
  try simp only [Act.put, List.setIfInBounds_toArray, List.set_cons_zero, List.set_cons_succ]
  refine wpTill_takeL (i := 6) (v := ?_) (l := [11, 6]) rfl (by kernel_rfl) (by kernel_rfl) (by kernel_rfl) (by kernel_rfl) (by kernel_rfl) (by rfl) (fun _ _ _ h => h) (Or.inl ⟨by rfl, ?_⟩) hS ?_
  rotate_left
  · intro wy hSy
    obtain ⟨m1, m3⟩ := hSy
    go_simp
    try with_reducible rfl
  try simp only [Act.put, List.setIfInBounds_toArray, List.set_cons_zero, List.set_cons_succ]
  refine wpTill_takeL (i := 7) (v := ?_) (l := [11, 10, 9, 8, 7]) rfl (by kernel_rfl) (by kernel_rfl) (by kernel_rfl) (by kernel_rfl) (by kernel_rfl) (by rfl) (fun _ _ _ h => h) (Or.inl ⟨by rfl, ?_⟩) hS ?_
  rotate_left
  · intro wy hSy
    obtain ⟨m1, m3⟩ := hSy
    go_simp
    try with_reducible rfl
  try simp only [Act.put, List.setIfInBounds_toArray, List.set_cons_zero, List.set_cons_succ]
  refine wpTill_takeL (i := 8) (v := ?_) (l := [11, 10, 9, 8]) rfl (by kernel_rfl) (by kernel_rfl) (by kernel_rfl) (by kernel_rfl) (by kernel_rfl) (by rfl) (fun _ _ _ h => h) (Or.inl ⟨by rfl, ?_⟩) hS ?_
  rotate_left
  · intro wy hSy
    obtain ⟨m1, m3⟩ := hSy
    go_simp
    try with_reducible rfl
  try simp only [Act.put, List.setIfInBounds_toArray, List.set_cons_zero, List.set_cons_succ]
  refine wpTill_takeL (i := 9) (v := ?_) (l := [11, 10, 9]) rfl (by kernel_rfl) (by kernel_rfl) (by kernel_rfl) (by kernel_rfl) (by kernel_rfl) (by rfl) (fun _ _ _ h => h) (Or.inl ⟨by rfl, ?_⟩) hS ?_
  rotate_left
  · intro wy hSy
    obtain ⟨m1, m3⟩ := hSy
    go_simp
    try with_reducible rfl
  try simp only [Act.put, List.setIfInBounds_toArray, List.set_cons_zero, List.set_cons_succ]
  refine wpTill_ready (rs := [2, 10]) (by kernel_rfl) (by simp) (AllTill.consL rfl (fun K hK => ?_) (AllTill.consL rfl (fun K hK => ?_) AllTill.nil))
  · go_simp
    refine hK.out _ _ (fun _ => by with_reducible first | exact (GG.out.b1 rfl).drew.mt | exact (GG.out.b2 rfl).drew.mt | exact ((GG.out.b1 rfl).b2 (aszT _ _)).drew.mt | exact ((GG.out.b2 rfl).b1 (aszT _ _)).drew.mt | exact (GG.out.b1 rfl).mt | exact (GG.out.b2 rfl).mt | exact GG.out.mt) ?_
    clear hK K
    refine wpTill_ready (rs := [3, 10]) (by kernel_rfl) (by simp) (AllTill.consL rfl (fun K hK => ?_) (AllTill.consL rfl (fun K hK => ?_) AllTill.nil))
    · refine stepG rfl (.tmp 211) (.tmp 213) 31 rfl 3 (.int .i64 0) 1 8 Tryd.underlying31 Tryd.infoIntT rfl (by with_reducible first | exact (GG.out.b1 rfl).drew | exact ((GG.out.b1 rfl).b2 (aszT _ _)).drew | exact ((GG.out.b2 rfl).b1 (aszT _ _)).drew | exact GG.out | exact (GG.out.b1 rfl) | fail) rfl rfl rfl (by simp [Value.oneCell']) b63.out bby.out ?_
      intro ao1 cap1 w9 GG
      refine hK.out _ _ (fun _ => GG.out.mt) ?_
      clear hK K
      try simp only [Act.put, List.setIfInBounds_toArray, List.set_cons_zero, List.set_cons_succ]
      refine wpTill_ready (rs := [10]) (by kernel_rfl) (by simp) (AllTill.consL rfl (fun K hK => ?_) AllTill.nil)
      go_simp
      refine hK.out _ _ (fun _ => by with_reducible first | exact (GG.out.b1 rfl).drew.mt | exact (GG.out.b2 rfl).drew.mt | exact ((GG.out.b1 rfl).b2 (aszT _ _)).drew.mt | exact ((GG.out.b2 rfl).b1 (aszT _ _)).drew.mt | exact (GG.out.b1 rfl).mt | exact (GG.out.b2 rfl).mt | exact GG.out.mt) ?_
      clear hK K
      refine wpTill_ready (rs := [11]) (by kernel_rfl) (by simp) (AllTill.consL rfl (fun K hK => ?_) AllTill.nil)
      refine stepG rfl (.tmp 217) (.tmp 221) 22 rfl 2 (.int .i64 0) 1 8 Tryd.underlying22 Tryd.info2 rfl (by with_reducible first | exact (GG.out.b2 rfl).drew.swap | exact ((GG.out.b1 rfl).b2 (aszT _ _)).drew.swap | exact ((GG.out.b2 rfl).b1 (aszT _ _)).drew.swap | exact GG.out.swap | exact (GG.out.b2 rfl).swap | fail) rfl rfl rfl (by simp [Value.oneCell']) b63.out bby.out ?_
      intro ao2 cap2 w9 GG'
      have GG := Lib.hid GG'.out.swap
      clear GG'
      refine hK.out _ _ (fun _ => GG.out.mt) ?_
      clear hK K
      try simp only [Act.put, List.setIfInBounds_toArray, List.set_cons_zero, List.set_cons_succ]
      refine wpTill_takeL (i := 12) (v := ?_) (l := [12]) rfl (by kernel_rfl) (by kernel_rfl) (by kernel_rfl) (by kernel_rfl) (by kernel_rfl) (by rfl) (fun _ _ _ h => h) (Or.inl ⟨by rfl, ?_⟩) GG.out.mt ?_
      rotate_left
      · intro wy hSy
        obtain ⟨m1, m3⟩ := hSy
        go_simp
        try with_reducible rfl
      try simp only [Act.put, List.setIfInBounds_toArray, List.set_cons_zero, List.set_cons_succ]
      refine wpTill_takeL (i := 13) (v := ?_) (l := [14, 13]) rfl (by kernel_rfl) (by kernel_rfl) (by kernel_rfl) (by kernel_rfl) (by kernel_rfl) (by rfl) (fun _ _ _ h => h) (Or.inl ⟨by rfl, ?_⟩) GG.out.mt ?_
      rotate_left
      · intro wy hSy
        obtain ⟨m1, m3⟩ := hSy
        go_simp
        try with_reducible rfl
      try simp only [Act.put, List.setIfInBounds_toArray, List.set_cons_zero, List.set_cons_succ]
      refine wpTill_takeL (i := 14) (v := ?_) (l := [14]) rfl (by kernel_rfl) (by kernel_rfl) (by kernel_rfl) (by kernel_rfl) (by kernel_rfl) (by rfl) (fun _ _ _ h => h) (Or.inl ⟨by rfl, ?_⟩) GG.out.mt ?_
      rotate_left
      · intro wy hSy
        obtain ⟨m1, m3⟩ := hSy
        go_simp
        try with_reducible rfl
      try simp only [Act.put, List.setIfInBounds_toArray, List.set_cons_zero, List.set_cons_succ]
      refine wpTill_ready (rs := [15]) (by kernel_rfl) (by simp) (AllTill.consL rfl (fun K hK => ?_) AllTill.nil)
      obtain ⟨m1, m3, f3, lm⟩ := GG.out.m
      go_simp
      refine hK.out _ _ (fun h => absurd rfl h) ?_
      clear hK K
      refine wpTill_done (by kernel_rfl) ?_ _
      exact HQ.out _ _ _ _ _ _ _ _ _ _ _ _ _ _ _ _ _ _ _ (Lib.hid (GG.out.st (i := 3) (v := .slice ao2 (k + 1) cap2)))
    · go_simp
      refine hK.out _ _ (fun _ => by with_reducible first | exact (GG.out.b1 rfl).drew.mt | exact (GG.out.b2 rfl).drew.mt | exact ((GG.out.b1 rfl).b2 (aszT _ _)).drew.mt | exact ((GG.out.b2 rfl).b1 (aszT _ _)).drew.mt | exact (GG.out.b1 rfl).mt | exact (GG.out.b2 rfl).mt | exact GG.out.mt) ?_
      clear hK K
      refine wpTill_ready (rs := [3]) (by kernel_rfl) (by simp) (AllTill.consL rfl (fun K hK => ?_) AllTill.nil)
      refine stepG rfl (.tmp 211) (.tmp 213) 31 rfl 3 (.int .i64 0) 1 8 Tryd.underlying31 Tryd.infoIntT rfl (by with_reducible first | exact (GG.out.b1 rfl).drew | exact ((GG.out.b1 rfl).b2 (aszT _ _)).drew | exact ((GG.out.b2 rfl).b1 (aszT _ _)).drew | exact GG.out | exact (GG.out.b1 rfl) | fail) rfl rfl rfl (by simp [Value.oneCell']) b63.out bby.out ?_
      intro ao1 cap1 w9 GG
      refine hK.out _ _ (fun _ => GG.out.mt) ?_
      clear hK K
      try simp only [Act.put, List.setIfInBounds_toArray, List.set_cons_zero, List.set_cons_succ]
      refine wpTill_ready (rs := [11]) (by kernel_rfl) (by simp) (AllTill.consL rfl (fun K hK => ?_) AllTill.nil)
      refine stepG rfl (.tmp 217) (.tmp 221) 22 rfl 2 (.int .i64 0) 1 8 Tryd.underlying22 Tryd.info2 rfl (by with_reducible first | exact (GG.out.b2 rfl).drew.swap | exact ((GG.out.b1 rfl).b2 (aszT _ _)).drew.swap | exact ((GG.out.b2 rfl).b1 (aszT _ _)).drew.swap | exact GG.out.swap | exact (GG.out.b2 rfl).swap | fail) rfl rfl rfl (by simp [Value.oneCell']) b63.out bby.out ?_
      intro ao2 cap2 w9 GG'
      have GG := Lib.hid GG'.out.swap
      clear GG'
      refine hK.out _ _ (fun _ => GG.out.mt) ?_
      clear hK K
      try simp only [Act.put, List.setIfInBounds_toArray, List.set_cons_zero, List.set_cons_succ]
      refine wpTill_takeL (i := 12) (v := ?_) (l := [12]) rfl (by kernel_rfl) (by kernel_rfl) (by kernel_rfl) (by kernel_rfl) (by kernel_rfl) (by rfl) (fun _ _ _ h => h) (Or.inl ⟨by rfl, ?_⟩) GG.out.mt ?_
      rotate_left
      · intro wy hSy
        obtain ⟨m1, m3⟩ := hSy
        go_simp
        try with_reducible rfl
      try simp only [Act.put, List.setIfInBounds_toArray, List.set_cons_zero, List.set_cons_succ]
      refine wpTill_takeL (i := 13) (v := ?_) (l := [14, 13]) rfl (by kernel_rfl) (by kernel_rfl) (by kernel_rfl) (by kernel_rfl) (by kernel_rfl) (by rfl) (fun _ _ _ h => h) (Or.inl ⟨by rfl, ?_⟩) GG.out.mt ?_
      rotate_left
      · intro wy hSy
        obtain ⟨m1, m3⟩ := hSy
        go_simp
        try with_reducible rfl
      try simp only [Act.put, List.setIfInBounds_toArray, List.set_cons_zero, List.set_cons_succ]
      refine wpTill_takeL (i := 14) (v := ?_) (l := [14]) rfl (by kernel_rfl) (by kernel_rfl) (by kernel_rfl) (by kernel_rfl) (by kernel_rfl) (by rfl) (fun _ _ _ h => h) (Or.inl ⟨by rfl, ?_⟩) GG.out.mt ?_
      rotate_left
      · intro wy hSy
        obtain ⟨m1, m3⟩ := hSy
        go_simp
        try with_reducible rfl
      try simp only [Act.put, List.setIfInBounds_toArray, List.set_cons_zero, List.set_cons_succ]
      refine wpTill_ready (rs := [15]) (by kernel_rfl) (by simp) (AllTill.consL rfl (fun K hK => ?_) AllTill.nil)
      obtain ⟨m1, m3, f3, lm⟩ := GG.out.m
      go_simp
      refine hK.out _ _ (fun h => absurd rfl h) ?_
      clear hK K
      refine wpTill_done (by kernel_rfl) ?_ _
      exact HQ.out _ _ _ _ _ _ _ _ _ _ _ _ _ _ _ _ _ _ _ (Lib.hid (GG.out.st (i := 3) (v := .slice ao2 (k + 1) cap2)))
  · go_simp
    refine hK.out _ _ (fun _ => by with_reducible first | exact (GG.out.b1 rfl).drew.mt | exact (GG.out.b2 rfl).drew.mt | exact ((GG.out.b1 rfl).b2 (aszT _ _)).drew.mt | exact ((GG.out.b2 rfl).b1 (aszT _ _)).drew.mt | exact (GG.out.b1 rfl).mt | exact (GG.out.b2 rfl).mt | exact GG.out.mt) ?_
    clear hK K
    refine wpTill_ready (rs := [2]) (by kernel_rfl) (by simp) (AllTill.consL rfl (fun K hK => ?_) AllTill.nil)
    go_simp
    refine hK.out _ _ (fun _ => by with_reducible first | exact (GG.out.b1 rfl).drew.mt | exact (GG.out.b2 rfl).drew.mt | exact ((GG.out.b1 rfl).b2 (aszT _ _)).drew.mt | exact ((GG.out.b2 rfl).b1 (aszT _ _)).drew.mt | exact (GG.out.b1 rfl).mt | exact (GG.out.b2 rfl).mt | exact GG.out.mt) ?_
    clear hK K
    refine wpTill_ready (rs := [3]) (by kernel_rfl) (by simp) (AllTill.consL rfl (fun K hK => ?_) AllTill.nil)
    refine stepG rfl (.tmp 211) (.tmp 213) 31 rfl 3 (.int .i64 0) 1 8 Tryd.underlying31 Tryd.infoIntT rfl (by with_reducible first | exact (GG.out.b1 rfl).drew | exact ((GG.out.b1 rfl).b2 (aszT _ _)).drew | exact ((GG.out.b2 rfl).b1 (aszT _ _)).drew | exact GG.out | exact (GG.out.b1 rfl) | fail) rfl rfl rfl (by simp [Value.oneCell']) b63.out bby.out ?_
    intro ao1 cap1 w9 GG
    refine hK.out _ _ (fun _ => GG.out.mt) ?_
    clear hK K
    try simp only [Act.put, List.setIfInBounds_toArray, List.set_cons_zero, List.set_cons_succ]
    refine wpTill_ready (rs := [11]) (by kernel_rfl) (by simp) (AllTill.consL rfl (fun K hK => ?_) AllTill.nil)
    refine stepG rfl (.tmp 217) (.tmp 221) 22 rfl 2 (.int .i64 0) 1 8 Tryd.underlying22 Tryd.info2 rfl (by with_reducible first | exact (GG.out.b2 rfl).drew.swap | exact ((GG.out.b1 rfl).b2 (aszT _ _)).drew.swap | exact ((GG.out.b2 rfl).b1 (aszT _ _)).drew.swap | exact GG.out.swap | exact (GG.out.b2 rfl).swap | fail) rfl rfl rfl (by simp [Value.oneCell']) b63.out bby.out ?_
    intro ao2 cap2 w9 GG'
    have GG := Lib.hid GG'.out.swap
    clear GG'
    refine hK.out _ _ (fun _ => GG.out.mt) ?_
    clear hK K
    try simp only [Act.put, List.setIfInBounds_toArray, List.set_cons_zero, List.set_cons_succ]
    refine wpTill_takeL (i := 12) (v := ?_) (l := [12]) rfl (by kernel_rfl) (by kernel_rfl) (by kernel_rfl) (by kernel_rfl) (by kernel_rfl) (by rfl) (fun _ _ _ h => h) (Or.inl ⟨by rfl, ?_⟩) GG.out.mt ?_
    rotate_left
    · intro wy hSy
      obtain ⟨m1, m3⟩ := hSy
      go_simp
      try with_reducible rfl
    try simp only [Act.put, List.setIfInBounds_toArray, List.set_cons_zero, List.set_cons_succ]
    refine wpTill_takeL (i := 13) (v := ?_) (l := [14, 13]) rfl (by kernel_rfl) (by kernel_rfl) (by kernel_rfl) (by kernel_rfl) (by kernel_rfl) (by rfl) (fun _ _ _ h => h) (Or.inl ⟨by rfl, ?_⟩) GG.out.mt ?_
    rotate_left
    · intro wy hSy
      obtain ⟨m1, m3⟩ := hSy
      go_simp
      try with_reducible rfl
    try simp only [Act.put, List.setIfInBounds_toArray, List.set_cons_zero, List.set_cons_succ]
    refine wpTill_takeL (i := 14) (v := ?_) (l := [14]) rfl (by kernel_rfl) (by kernel_rfl) (by kernel_rfl) (by kernel_rfl) (by kernel_rfl) (by rfl) (fun _ _ _ h => h) (Or.inl ⟨by rfl, ?_⟩) GG.out.mt ?_
    rotate_left
    · intro wy hSy
      obtain ⟨m1, m3⟩ := hSy
      go_simp
      try with_reducible rfl
    try simp only [Act.put, List.setIfInBounds_toArray, List.set_cons_zero, List.set_cons_succ]
    refine wpTill_ready (rs := [15]) (by kernel_rfl) (by simp) (AllTill.consL rfl (fun K hK => ?_) AllTill.nil)
    obtain ⟨m1, m3, f3, lm⟩ := GG.out.m
    go_simp
    refine hK.out _ _ (fun h => absurd rfl h) ?_
    clear hK K
    refine wpTill_done (by kernel_rfl) ?_ _
    exact HQ.out _ _ _ _ _ _ _ _ _ _ _ _ _ _ _ _ _ _ _ (Lib.hid (GG.out.st (i := 3) (v := .slice ao2 (k + 1) cap2)))

end Go.Proofs.YtoifknfmamcimaaDoor

/- Regions 27, 30 and 34 of MultiTries, a theorem each. No condition beyond each theorem's own. -/
namespace Go.Proofs.YtoifknfmamcimaaDoor
open Go.RowKit

noncomputable def Tryd.c27 : Code := (Tryd.f10.body.bind (regionN 27)).getD .skip

set_option maxRecDepth 1000000 in
set_option maxHeartbeats 100000000 in
theorem Tryd.r27  {x9 p sh N k i lcap wcap xb icap gcap scap ust ucap urd uout st' cap' rd' out' : Nat} {lb la' uids ids' : List Int} {io go so uao ao' : Option Addr} {T : List TT} {a b : Addr} {un ucl uhi umo n' cl' hi' mo' er z0 z1 y0 y1 zs : Int} {v0x v2x : Value} {c8 : Nat → Nat} {w8 : World}
    (P : Hid (POK sh N lb k [])) (KU : Hid (TOK sh N k lb ⟨⟨un, ust, ucl, uhi, uids, umo⟩, uao, ucap, urd, uout⟩)) (M8 : Hid (MB x9 (2 ^ sh) z0 z1 (lb.drop N) (gids N k) [] k k io icap go gcap so scap c8 w8)) (X8 : Hid (Blk c8 15 w8 xb [v0x, .int .i64 (i : Int), v2x] 71)) (Q8 : Hid (TRows p T (some a) lcap (some b) wcap c8 w8)) (HU : Hid (T[i]? = some ⟨⟨un, ust, ucl, uhi, uids, umo⟩, uao, ucap, urd, uout⟩))
    (HZ : Hid (lb.getD 0 0 = z0 ∧ lb.getD 1 0 = z1)) (ZS : Hid (zs = (st' : Int))) (HY : Hid (la'.getD 0 0 = y0 ∧ la'.getD 1 0 = y1)) (EU : Hid (stepT ⟨sh, 0, 1, 2, gids N k⟩ lb ⟨un, ust, ucl, uhi, uids, umo⟩ = (la', ⟨n', st', cl', hi', ids', mo'⟩, er) ∧ stepU sh N k lb ⟨⟨un, ust, ucl, uhi, uids, umo⟩, uao, ucap, urd, uout⟩ ao' cap' = ⟨⟨n', st', cl', hi', ids', mo'⟩, ao', cap', rd', out'⟩))
    (i0 : (0 : Int) ≤ (i : Int)) (i1 : (i : Int) < (T.length : Int)) {fr0 fr1 fr2 fr3 fr4 fr5 fr6 fr7 fr8 fr10 fr11 fr13 fr15 fr16 fr17 fr18 fr19 fr20 fr21 fr22 fr23 fr24 fr25 fr26 fr27 fr28 fr29 fr30 fr31 fr32 fr33 fr34 fr35 fr36 fr37 fr38 fr39 fr40 fr41 fr42 fr43 fr44 fr45 fr46 fr47 fr48 fr49 fr50 fr51 fr52 fr53 fr54 fr55 fr56 fr57 fr58 fr59 fr60 fr61 fr62 fr63 fr64 fr65 fr66 fr67 fr68 fr69 fr70 fr71 fr72 fr73 fr74 fr75 fr76 fr77 fr78 fr79 fr80 fr81 fr82 fr83 fr84 fr85 fr86 fr87 fr88 fr89 fr90 fr91 fr92 fr93 fr94 fr95 fr96 fr97 fr98 fr99 fr100 fr101 fr102 fr103 fr104 fr105 fr106 fr107 fr108 fr109 fr110 fr111 fr112 fr113 fr114 fr115 fr116 fr117 fr118 fr119 fr120 fr121 fr122 fr123 fr124 fr125 fr126 fr127 fr128 fr129 fr130 fr131 fr132 fr133 fr134 fr135 fr136 fr137 fr138 fr139 fr140 fr141 fr142 fr143 fr144 fr145 fr146 fr147 fr148 fr149 fr150 fr151 fr152 fr153 fr154 fr155 fr156 fr157 fr158 fr159 fr160 fr161 fr162 fr163 fr164 fr165 fr166 fr167 fr168 fr169 fr170 fr171 fr172 fr173 fr174 fr175 fr176 fr177 fr178 fr179 fr180 fr181 fr182 fr183 fr184 fr185 fr186 fr187 fr188 fr189 fr190 fr191 fr192 fr193 fr194 fr195 fr196 fr197 fr198 fr199 fr200 fr201 fr202 fr203 fr204 fr205 fr206 fr207 fr208 fr209 fr210 fr211 fr212 fr213 fr214 fr215 fr216 fr217 fr218 fr219 fr220 fr221 fr222 fr223 fr224 fr225 fr226 fr227 fr228 fr229 fr230 fr231 fr232 fr233 fr234 fr235 fr236 fr237 fr238 fr239 fr240 fr241 fr242 fr243 fr244 fr245 fr246 fr247 fr248 fr249 fr250 fr251 fr252 fr253 fr254 fr255 fr256 fr257 fr258 fr259 fr260 fr261 fr262 fr263 fr264 fr265 fr266 fr267 fr268 fr269 fr270 fr271 fr272 fr273 fr274 fr275 fr276 fr277 : Value} {Q0 : Exit → Act → World → Prop}
    (hQ : ∀ (b1 b2 : Nat) (w' : World), ∀ g131 g132 g133 g134 g135 g136 g137 g130 g138 g139 g140 : Value, Hid (D27 16 17 c8 w8 (some (b1, [.int .i64 (2 ^ sh), .int .i64 y0, .int .i64 y0, .slice go k gcap, .int .i64 y1, .int .i64 0, .slice so 0 scap], 67)) (some (b2, [.int .i64 n', .int .i64 zs, .int .i64 cl', .int .i64 hi', .int .i64 mo', .int .i64 (rd' : Int), .int .i64 (out' : Int)], 90)) w') → Q0 .normal ⟨#[fr0, fr1, fr2, fr3, fr4, fr5, fr6, fr7, fr8, .pointer (some ⟨x9, 0, none⟩), fr10, fr11, .slice (some b) T.length wcap, fr13, .pointer (some ⟨xb, 0, none⟩), fr15, fr16, fr17, fr18, .pointer (some ⟨b1, 0, none⟩), .pointer (some ⟨b2, 0, none⟩), .int .i64 er, fr22, fr23, fr24, fr25, fr26, fr27, fr28, fr29, fr30, fr31, fr32, fr33, fr34, fr35, fr36, fr37, fr38, fr39, fr40, fr41, fr42, fr43, fr44, fr45, fr46, fr47, fr48, fr49, fr50, fr51, fr52, fr53, fr54, fr55, fr56, fr57, fr58, fr59, fr60, fr61, fr62, fr63, fr64, fr65, fr66, fr67, fr68, fr69, fr70, fr71, fr72, fr73, fr74, fr75, fr76, fr77, fr78, fr79, fr80, fr81, fr82, fr83, fr84, fr85, fr86, fr87, fr88, fr89, fr90, fr91, fr92, fr93, fr94, fr95, fr96, fr97, fr98, fr99, fr100, fr101, fr102, fr103, fr104, fr105, fr106, fr107, fr108, fr109, fr110, fr111, fr112, fr113, fr114, fr115, fr116, fr117, fr118, fr119, fr120, fr121, fr122, fr123, fr124, fr125, fr126, fr127, fr128, fr129, g130, g131, g132, g133, g134, g135, g136, g137, g138, g139, g140, fr141, fr142, fr143, fr144, fr145, fr146, fr147, fr148, fr149, fr150, fr151, fr152, fr153, fr154, fr155, fr156, fr157, fr158, fr159, fr160, fr161, fr162, fr163, fr164, fr165, fr166, fr167, fr168, fr169, fr170, fr171, fr172, fr173, fr174, fr175, fr176, fr177, fr178, fr179, fr180, fr181, fr182, fr183, fr184, fr185, fr186, fr187, fr188, fr189, fr190, fr191, fr192, fr193, fr194, fr195, fr196, fr197, fr198, fr199, fr200, fr201, fr202, fr203, fr204, fr205, fr206, fr207, fr208, fr209, fr210, fr211, fr212, fr213, fr214, fr215, fr216, fr217, fr218, fr219, fr220, fr221, fr222, fr223, fr224, fr225, fr226, fr227, fr228, fr229, fr230, fr231, fr232, fr233, fr234, fr235, fr236, fr237, fr238, fr239, fr240, fr241, fr242, fr243, fr244, fr245, fr246, fr247, fr248, fr249, fr250, fr251, fr252, fr253, fr254, fr255, fr256, fr257, fr258, fr259, fr260, fr261, fr262, fr263, fr264, fr265, fr266, fr267, fr268, fr269, fr270, fr271, fr272, fr273, fr274, fr275, fr276, fr277], []⟩ w') : Code.wp Tryd.prog Tryd.c27 Q0 ⟨#[fr0, fr1, fr2, fr3, fr4, fr5, fr6, fr7, fr8, .pointer (some ⟨x9, 0, none⟩), fr10, fr11, .slice (some b) T.length wcap, fr13, .pointer (some ⟨xb, 0, none⟩), fr15, fr16, fr17, fr18, fr19, fr20, fr21, fr22, fr23, fr24, fr25, fr26, fr27, fr28, fr29, fr30, fr31, fr32, fr33, fr34, fr35, fr36, fr37, fr38, fr39, fr40, fr41, fr42, fr43, fr44, fr45, fr46, fr47, fr48, fr49, fr50, fr51, fr52, fr53, fr54, fr55, fr56, fr57, fr58, fr59, fr60, fr61, fr62, fr63, fr64, fr65, fr66, fr67, fr68, fr69, fr70, fr71, fr72, fr73, fr74, fr75, fr76, fr77, fr78, fr79, fr80, fr81, fr82, fr83, fr84, fr85, fr86, fr87, fr88, fr89, fr90, fr91, fr92, fr93, fr94, fr95, fr96, fr97, fr98, fr99, fr100, fr101, fr102, fr103, fr104, fr105, fr106, fr107, fr108, fr109, fr110, fr111, fr112, fr113, fr114, fr115, fr116, fr117, fr118, fr119, fr120, fr121, fr122, fr123, fr124, fr125, fr126, fr127, fr128, fr129, fr130, fr131, fr132, fr133, fr134, fr135, fr136, fr137, fr138, fr139, fr140, fr141, fr142, fr143, fr144, fr145, fr146, fr147, fr148, fr149, fr150, fr151, fr152, fr153, fr154, fr155, fr156, fr157, fr158, fr159, fr160, fr161, fr162, fr163, fr164, fr165, fr166, fr167, fr168, fr169, fr170, fr171, fr172, fr173, fr174, fr175, fr176, fr177, fr178, fr179, fr180, fr181, fr182, fr183, fr184, fr185, fr186, fr187, fr188, fr189, fr190, fr191, fr192, fr193, fr194, fr195, fr196, fr197, fr198, fr199, fr200, fr201, fr202, fr203, fr204, fr205, fr206, fr207, fr208, fr209, fr210, fr211, fr212, fr213, fr214, fr215, fr216, fr217, fr218, fr219, fr220, fr221, fr222, fr223, fr224, fr225, fr226, fr227, fr228, fr229, fr230, fr231, fr232, fr233, fr234, fr235, fr236, fr237, fr238, fr239, fr240, fr241, fr242, fr243, fr244, fr245, fr246, fr247, fr248, fr249, fr250, fr251, fr252, fr253, fr254, fr255, fr256, fr257, fr258, fr259, fr260, fr261, fr262, fr263, fr264, fr265, fr266, fr267, fr268, fr269, fr270, fr271, fr272, fr273, fr274, fr275, fr276, fr277], []⟩ w8 := by
  conv => arg 2; whnf
  refine wp_region_noPanic ?_
  have HQ := Lib.hid hQ
  clear hQ
  have D0 := Lib.hid (D27.start (ka := 16) (kb := 17) (by decide) c8 w8)
  refine wp_region_held_drew (S := S27 x9 xb i b (.int .i64 (2 ^ sh)) (.int .i64 z0) (.int .i64 z0) (.slice go k gcap) (.int .i64 z1) (.int .i64 0) (.slice so 0 scap) (.int .i64 un) (.int .i64 (ust : Int)) (.int .i64 ucl) (.int .i64 uhi) (.int .i64 umo) (.int .i64 (urd : Int)) (.int .i64 (uout : Int)) (.int .i64 (i : Int))) (by kernel_rfl) (s27 M8.out.mb X8.out Q8.out.wr HU.out (r0 := .int .i64 un) (r1 := .int .i64 (ust : Int)) (r2 := .int .i64 ucl) (r3 := .int .i64 uhi) (r4 := .int .i64 umo) (r5 := .int .i64 (urd : Int)) (r6 := .int .i64 (uout : Int)) rfl D0.out) (fun hS0 => ?_)
  have hS := Lib.hid hS0
  clear hS0
  generalize w8.drew = wq0 at D0 hS ⊢
  refine wpH_takeL (i := 0) (v := ?_) rfl (by kernel_rfl) (by kernel_rfl) (by kernel_rfl) (fun _ _ _ h => h) (Or.inl ⟨by rfl, ?_⟩) hS.out ?_
  rotate_left
  · intro wy hSy
    obtain ⟨⟨s0, s1, s2, s3, s4, s5, s6⟩, q1, ⟨r0, r1, r2, r3, r4, r5, r6⟩⟩ := hSy
    go_simp
    try with_reducible rfl
  try simp only [Act.put, List.setIfInBounds_toArray, List.set_cons_zero, List.set_cons_succ]
  refine wpH_takeL (i := 1) (v := ?_) rfl (by kernel_rfl) (by kernel_rfl) (by kernel_rfl) (fun _ _ _ h => h) (Or.inl ⟨by rfl, ?_⟩) hS.out ?_
  rotate_left
  · intro wy hSy
    clear hSy
    go_simp
    try with_reducible rfl
  try simp only [Act.put, List.setIfInBounds_toArray, List.set_cons_zero, List.set_cons_succ]
  refine wpH_takeL (i := 2) (v := ?_) rfl (by kernel_rfl) (by kernel_rfl) (by kernel_rfl) (fun _ _ _ h => h) (Or.inl ⟨by rfl, ?_⟩) hS.out ?_
  rotate_left
  · intro wy hSy
    clear hSy
    go_simp
    try with_reducible rfl
  try simp only [Act.put, List.setIfInBounds_toArray, List.set_cons_zero, List.set_cons_succ]
  refine wpH_takeL (i := 3) (v := ?_) rfl (by kernel_rfl) (by kernel_rfl) (by kernel_rfl) (fun _ _ _ h => h) (Or.inl ⟨by rfl, ?_⟩) hS.out ?_
  rotate_left
  · intro wy hSy
    obtain ⟨⟨s0, s1, s2, s3, s4, s5, s6⟩, q1, ⟨r0, r1, r2, r3, r4, r5, r6⟩⟩ := hSy
    go_simp
    try with_reducible rfl
  try simp only [Act.put, List.setIfInBounds_toArray, List.set_cons_zero, List.set_cons_succ]
  refine wpH_takeL (i := 4) (v := ?_) rfl (by kernel_rfl) (by kernel_rfl) (by kernel_rfl) (fun _ _ _ h => h) (Or.inl ⟨by rfl, ?_⟩) hS.out ?_
  rotate_left
  · intro wy hSy
    clear hSy
    go_simp
    try with_reducible rfl
  try simp only [Act.put, List.setIfInBounds_toArray, List.set_cons_zero, List.set_cons_succ]
  refine wpH_takeL (i := 5) (v := ?_) rfl (by kernel_rfl) (by kernel_rfl) (by kernel_rfl) (fun _ _ _ h => h) (Or.inl ⟨by rfl, ?_⟩) hS.out ?_
  rotate_left
  · intro wy hSy
    obtain ⟨⟨s0, s1, s2, s3, s4, s5, s6⟩, q1, ⟨r0, r1, r2, r3, r4, r5, r6⟩⟩ := hSy
    go_simp
    try with_reducible rfl
  try simp only [Act.put, List.setIfInBounds_toArray, List.set_cons_zero, List.set_cons_succ]
  refine wpAnyH_ready (rs := [6, 11, 12]) (by kernel_rfl) (by simp) (readyH_consL rfl (fun K hK => ?_) (readyH_consL rfl (fun K hK => ?_) (readyH_consL rfl (fun K hK => ?_) AllReadyH.nil)))
  · go_simp
    go_at_call 50
    refine (D0.out.call (fun c t => rstep_d P.out KU.out (M8.out.stpF t) HZ.out.1 HZ.out.2 ZS.out HY.out.1 HY.out.2 EU.out)).mono ?_
    rintro e wq1 ⟨rfl, D1⟩
    go_simp
    refine hK.out _ _ (s27 M8.out.mb X8.out Q8.out.wr HU.out (r0 := .int .i64 un) (r1 := .int .i64 (ust : Int)) (r2 := .int .i64 ucl) (r3 := .int .i64 uhi) (r4 := .int .i64 umo) (r5 := .int .i64 (urd : Int)) (r6 := .int .i64 (uout : Int)) rfl D1.out) (fun hS1 => ?_)
    clear hK K hS D0
    have hS := Lib.hid hS1
    clear hS1
    try simp only [Act.put, List.setIfInBounds_toArray, List.set_cons_zero, List.set_cons_succ]
    refine wpH_takeL (i := 7) (v := ?_) rfl (by kernel_rfl) (by kernel_rfl) (by kernel_rfl) (fun _ _ _ h => h) (Or.inl ⟨by rfl, ?_⟩) hS.out ?_
    rotate_left
    · intro wy hSy
      clear hSy
      go_simp
      try with_reducible rfl
    try simp only [Act.put, List.setIfInBounds_toArray, List.set_cons_zero, List.set_cons_succ]
    refine wpH_takeL (i := 8) (v := ?_) rfl (by kernel_rfl) (by kernel_rfl) (by kernel_rfl) (fun _ _ _ h => h) (Or.inl ⟨by rfl, ?_⟩) hS.out ?_
    rotate_left
    · intro wy hSy
      clear hSy
      go_simp
      try with_reducible rfl
    try simp only [Act.put, List.setIfInBounds_toArray, List.set_cons_zero, List.set_cons_succ]
    refine wpH_takeL (i := 9) (v := ?_) rfl (by kernel_rfl) (by kernel_rfl) (by kernel_rfl) (fun _ _ _ h => h) (Or.inl ⟨by rfl, ?_⟩) hS.out ?_
    rotate_left
    · intro wy hSy
      clear hSy
      go_simp
      try with_reducible rfl
    try simp only [Act.put, List.setIfInBounds_toArray, List.set_cons_zero, List.set_cons_succ]
    refine wpH_takeL (i := 10) (v := ?_) rfl (by kernel_rfl) (by kernel_rfl) (by kernel_rfl) (fun _ _ _ h => h) (Or.inl ⟨by rfl, ?_⟩) hS.out ?_
    rotate_left
    · intro wy hSy
      clear hSy
      go_simp
      try with_reducible rfl
    try simp only [Act.put, List.setIfInBounds_toArray, List.set_cons_zero, List.set_cons_succ]
    refine wpAnyH_ready (rs := [11, 12]) (by kernel_rfl) (by simp) (readyH_consL rfl (fun K hK => ?_) (readyH_consL rfl (fun K hK => ?_) AllReadyH.nil))
    · obtain ⟨b1, hb1⟩ : ∃ b, b = wq1.heap.size := ⟨_, rfl⟩
      have D2 := Lib.hid (D1.out.al (b := b1) (L := #[.int .i64 0, .int .i64 0, .int .i64 0, .slice none 0 0, .int .i64 0, .int .i64 0, .slice none 0 0]) (ty := 67) hb1)
      go_simp
      rw [← hb1]
      generalize World.alloc wq1 (.cells #[.int .i64 0, .int .i64 0, .int .i64 0, .slice none 0 0, .int .i64 0, .int .i64 0, .slice none 0 0] 67) = wq2 at D2 ⊢
      refine hK.out _ _ (s27 M8.out.mb X8.out Q8.out.wr HU.out (r0 := .int .i64 un) (r1 := .int .i64 (ust : Int)) (r2 := .int .i64 ucl) (r3 := .int .i64 uhi) (r4 := .int .i64 umo) (r5 := .int .i64 (urd : Int)) (r6 := .int .i64 (uout : Int)) rfl D2.out) (fun hS2 => ?_)
      clear hK K hS D1 hb1
      have hS := Lib.hid hS2
      clear hS2
      try simp only [Act.put, List.setIfInBounds_toArray, List.set_cons_zero, List.set_cons_succ]
      refine wpAnyH_ready (rs := [12]) (by kernel_rfl) (by simp) (readyH_consL rfl (fun K hK => ?_) AllReadyH.nil)
      obtain ⟨b2, hb2⟩ : ∃ b, b = wq2.heap.size := ⟨_, rfl⟩
      have D3 := Lib.hid ((D2.out.swap.al (b := b2) (L := #[.int .i64 0, .int .i64 0, .int .i64 0, .int .i64 0, .int .i64 0, .int .i64 0, .int .i64 0]) (ty := 90) hb2).swap)
      go_simp
      rw [← hb2]
      generalize World.alloc wq2 (.cells #[.int .i64 0, .int .i64 0, .int .i64 0, .int .i64 0, .int .i64 0, .int .i64 0, .int .i64 0] 90) = wq3 at D3 ⊢
      refine hK.out _ _ (s27 M8.out.mb X8.out Q8.out.wr HU.out (r0 := .int .i64 un) (r1 := .int .i64 (ust : Int)) (r2 := .int .i64 ucl) (r3 := .int .i64 uhi) (r4 := .int .i64 umo) (r5 := .int .i64 (urd : Int)) (r6 := .int .i64 (uout : Int)) rfl D3.out) (fun hS3 => ?_)
      clear hK K hS D2 hb2
      have hS := Lib.hid hS3
      clear hS3
      try simp only [Act.put, List.setIfInBounds_toArray, List.set_cons_zero, List.set_cons_succ]
      refine wpAnyH_ready (rs := [13]) (by kernel_rfl) (by simp) (readyH_consL rfl (fun K hK => ?_) AllReadyH.nil)
      refine step_d27 rfl 67 (.tmp 19) (.tmp 138) rfl D3.out rfl rfl Tryd.infoSzM (by simp [Value.oneCell']) ?_
      intro wq4 D4
      refine hK.out _ _ (s27 M8.out.mb X8.out Q8.out.wr HU.out (r0 := .int .i64 un) (r1 := .int .i64 (ust : Int)) (r2 := .int .i64 ucl) (r3 := .int .i64 uhi) (r4 := .int .i64 umo) (r5 := .int .i64 (urd : Int)) (r6 := .int .i64 (uout : Int)) rfl D4.out) (fun hS4 => ?_)
      clear hK K hS D3
      have hS := Lib.hid hS4
      clear hS4
      simp only [Act.put]
      refine wpAnyH_ready (rs := [14]) (by kernel_rfl) (by simp) (readyH_consL rfl (fun K hK => ?_) AllReadyH.nil)
      refine step_d27 rfl 90 (.tmp 20) (.tmp 139) rfl D4.out.swap rfl rfl Tryd.infoSzR (by simp [Value.oneCell']) ?_
      intro wq5 H5
      have D5 := Lib.hid H5.out.swap
      clear H5
      refine hK.out _ _ (s27 M8.out.mb X8.out Q8.out.wr HU.out (r0 := .int .i64 un) (r1 := .int .i64 (ust : Int)) (r2 := .int .i64 ucl) (r3 := .int .i64 uhi) (r4 := .int .i64 umo) (r5 := .int .i64 (urd : Int)) (r6 := .int .i64 (uout : Int)) rfl D5.out) (fun hS5 => ?_)
      clear hK K hS D4
      have hS := Lib.hid hS5
      clear hS5
      simp only [Act.put]
      refine wpH_takeL (i := 15) (v := ?_) rfl (by kernel_rfl) (by kernel_rfl) (by kernel_rfl) (fun _ _ _ h => h) (Or.inl ⟨by rfl, ?_⟩) hS.out ?_
      rotate_left
      · intro wy hSy
        clear hSy
        go_simp
        try with_reducible rfl
      try simp only [Act.put, List.setIfInBounds_toArray, List.set_cons_zero, List.set_cons_succ]
      refine wpAnyH_done (by kernel_rfl) ?_ _
      exact HQ.out _ _ _ _ _ _ _ _ _ _ _ _ _ _ D5
    · obtain ⟨b2, hb2⟩ : ∃ b, b = wq1.heap.size := ⟨_, rfl⟩
      have D2 := Lib.hid ((D1.out.swap.al (b := b2) (L := #[.int .i64 0, .int .i64 0, .int .i64 0, .int .i64 0, .int .i64 0, .int .i64 0, .int .i64 0]) (ty := 90) hb2).swap)
      go_simp
      rw [← hb2]
      generalize World.alloc wq1 (.cells #[.int .i64 0, .int .i64 0, .int .i64 0, .int .i64 0, .int .i64 0, .int .i64 0, .int .i64 0] 90) = wq2 at D2 ⊢
      refine hK.out _ _ (s27 M8.out.mb X8.out Q8.out.wr HU.out (r0 := .int .i64 un) (r1 := .int .i64 (ust : Int)) (r2 := .int .i64 ucl) (r3 := .int .i64 uhi) (r4 := .int .i64 umo) (r5 := .int .i64 (urd : Int)) (r6 := .int .i64 (uout : Int)) rfl D2.out) (fun hS2 => ?_)
      clear hK K hS D1 hb2
      have hS := Lib.hid hS2
      clear hS2
      try simp only [Act.put, List.setIfInBounds_toArray, List.set_cons_zero, List.set_cons_succ]
      refine wpAnyH_ready (rs := [11]) (by kernel_rfl) (by simp) (readyH_consL rfl (fun K hK => ?_) AllReadyH.nil)
      obtain ⟨b1, hb1⟩ : ∃ b, b = wq2.heap.size := ⟨_, rfl⟩
      have D3 := Lib.hid (D2.out.al (b := b1) (L := #[.int .i64 0, .int .i64 0, .int .i64 0, .slice none 0 0, .int .i64 0, .int .i64 0, .slice none 0 0]) (ty := 67) hb1)
      go_simp
      rw [← hb1]
      generalize World.alloc wq2 (.cells #[.int .i64 0, .int .i64 0, .int .i64 0, .slice none 0 0, .int .i64 0, .int .i64 0, .slice none 0 0] 67) = wq3 at D3 ⊢
      refine hK.out _ _ (s27 M8.out.mb X8.out Q8.out.wr HU.out (r0 := .int .i64 un) (r1 := .int .i64 (ust : Int)) (r2 := .int .i64 ucl) (r3 := .int .i64 uhi) (r4 := .int .i64 umo) (r5 := .int .i64 (urd : Int)) (r6 := .int .i64 (uout : Int)) rfl D3.out) (fun hS3 => ?_)
      clear hK K hS D2 hb1
      have hS := Lib.hid hS3
      clear hS3
      try simp only [Act.put, List.setIfInBounds_toArray, List.set_cons_zero, List.set_cons_succ]
      refine wpAnyH_ready (rs := [13]) (by kernel_rfl) (by simp) (readyH_consL rfl (fun K hK => ?_) AllReadyH.nil)
      refine step_d27 rfl 67 (.tmp 19) (.tmp 138) rfl D3.out rfl rfl Tryd.infoSzM (by simp [Value.oneCell']) ?_
      intro wq4 D4
      refine hK.out _ _ (s27 M8.out.mb X8.out Q8.out.wr HU.out (r0 := .int .i64 un) (r1 := .int .i64 (ust : Int)) (r2 := .int .i64 ucl) (r3 := .int .i64 uhi) (r4 := .int .i64 umo) (r5 := .int .i64 (urd : Int)) (r6 := .int .i64 (uout : Int)) rfl D4.out) (fun hS4 => ?_)
      clear hK K hS D3
      have hS := Lib.hid hS4
      clear hS4
      simp only [Act.put]
      refine wpAnyH_ready (rs := [14]) (by kernel_rfl) (by simp) (readyH_consL rfl (fun K hK => ?_) AllReadyH.nil)
      refine step_d27 rfl 90 (.tmp 20) (.tmp 139) rfl D4.out.swap rfl rfl Tryd.infoSzR (by simp [Value.oneCell']) ?_
      intro wq5 H5
      have D5 := Lib.hid H5.out.swap
      clear H5
      refine hK.out _ _ (s27 M8.out.mb X8.out Q8.out.wr HU.out (r0 := .int .i64 un) (r1 := .int .i64 (ust : Int)) (r2 := .int .i64 ucl) (r3 := .int .i64 uhi) (r4 := .int .i64 umo) (r5 := .int .i64 (urd : Int)) (r6 := .int .i64 (uout : Int)) rfl D5.out) (fun hS5 => ?_)
      clear hK K hS D4
      have hS := Lib.hid hS5
      clear hS5
      simp only [Act.put]
      refine wpH_takeL (i := 15) (v := ?_) rfl (by kernel_rfl) (by kernel_rfl) (by kernel_rfl) (fun _ _ _ h => h) (Or.inl ⟨by rfl, ?_⟩) hS.out ?_
      rotate_left
      · intro wy hSy
        clear hSy
        go_simp
        try with_reducible rfl
      try simp only [Act.put, List.setIfInBounds_toArray, List.set_cons_zero, List.set_cons_succ]
      refine wpAnyH_done (by kernel_rfl) ?_ _
      exact HQ.out _ _ _ _ _ _ _ _ _ _ _ _ _ _ D5
  · obtain ⟨b1, hb1⟩ : ∃ b, b = wq0.heap.size := ⟨_, rfl⟩
    have D1 := Lib.hid (D0.out.al (b := b1) (L := #[.int .i64 0, .int .i64 0, .int .i64 0, .slice none 0 0, .int .i64 0, .int .i64 0, .slice none 0 0]) (ty := 67) hb1)
    go_simp
    rw [← hb1]
    generalize World.alloc wq0 (.cells #[.int .i64 0, .int .i64 0, .int .i64 0, .slice none 0 0, .int .i64 0, .int .i64 0, .slice none 0 0] 67) = wq1 at D1 ⊢
    refine hK.out _ _ (s27 M8.out.mb X8.out Q8.out.wr HU.out (r0 := .int .i64 un) (r1 := .int .i64 (ust : Int)) (r2 := .int .i64 ucl) (r3 := .int .i64 uhi) (r4 := .int .i64 umo) (r5 := .int .i64 (urd : Int)) (r6 := .int .i64 (uout : Int)) rfl D1.out) (fun hS1 => ?_)
    clear hK K hS D0 hb1
    have hS := Lib.hid hS1
    clear hS1
    try simp only [Act.put, List.setIfInBounds_toArray, List.set_cons_zero, List.set_cons_succ]
    refine wpAnyH_ready (rs := [6, 12]) (by kernel_rfl) (by simp) (readyH_consL rfl (fun K hK => ?_) (readyH_consL rfl (fun K hK => ?_) AllReadyH.nil))
    · go_simp
      go_at_call 50
      refine (D1.out.call (fun c t => rstep_d P.out KU.out (M8.out.stpF t) HZ.out.1 HZ.out.2 ZS.out HY.out.1 HY.out.2 EU.out)).mono ?_
      rintro e wq2 ⟨rfl, D2⟩
      go_simp
      refine hK.out _ _ (s27 M8.out.mb X8.out Q8.out.wr HU.out (r0 := .int .i64 un) (r1 := .int .i64 (ust : Int)) (r2 := .int .i64 ucl) (r3 := .int .i64 uhi) (r4 := .int .i64 umo) (r5 := .int .i64 (urd : Int)) (r6 := .int .i64 (uout : Int)) rfl D2.out) (fun hS2 => ?_)
      clear hK K hS D1
      have hS := Lib.hid hS2
      clear hS2
      try simp only [Act.put, List.setIfInBounds_toArray, List.set_cons_zero, List.set_cons_succ]
      refine wpH_takeL (i := 7) (v := ?_) rfl (by kernel_rfl) (by kernel_rfl) (by kernel_rfl) (fun _ _ _ h => h) (Or.inl ⟨by rfl, ?_⟩) hS.out ?_
      rotate_left
      · intro wy hSy
        clear hSy
        go_simp
        try with_reducible rfl
      try simp only [Act.put, List.setIfInBounds_toArray, List.set_cons_zero, List.set_cons_succ]
      refine wpH_takeL (i := 8) (v := ?_) rfl (by kernel_rfl) (by kernel_rfl) (by kernel_rfl) (fun _ _ _ h => h) (Or.inl ⟨by rfl, ?_⟩) hS.out ?_
      rotate_left
      · intro wy hSy
        clear hSy
        go_simp
        try with_reducible rfl
      try simp only [Act.put, List.setIfInBounds_toArray, List.set_cons_zero, List.set_cons_succ]
      refine wpH_takeL (i := 9) (v := ?_) rfl (by kernel_rfl) (by kernel_rfl) (by kernel_rfl) (fun _ _ _ h => h) (Or.inl ⟨by rfl, ?_⟩) hS.out ?_
      rotate_left
      · intro wy hSy
        clear hSy
        go_simp
        try with_reducible rfl
      try simp only [Act.put, List.setIfInBounds_toArray, List.set_cons_zero, List.set_cons_succ]
      refine wpH_takeL (i := 10) (v := ?_) rfl (by kernel_rfl) (by kernel_rfl) (by kernel_rfl) (fun _ _ _ h => h) (Or.inl ⟨by rfl, ?_⟩) hS.out ?_
      rotate_left
      · intro wy hSy
        clear hSy
        go_simp
        try with_reducible rfl
      try simp only [Act.put, List.setIfInBounds_toArray, List.set_cons_zero, List.set_cons_succ]
      refine wpAnyH_ready (rs := [12]) (by kernel_rfl) (by simp) (readyH_consL rfl (fun K hK => ?_) AllReadyH.nil)
      obtain ⟨b2, hb2⟩ : ∃ b, b = wq2.heap.size := ⟨_, rfl⟩
      have D3 := Lib.hid ((D2.out.swap.al (b := b2) (L := #[.int .i64 0, .int .i64 0, .int .i64 0, .int .i64 0, .int .i64 0, .int .i64 0, .int .i64 0]) (ty := 90) hb2).swap)
      go_simp
      rw [← hb2]
      generalize World.alloc wq2 (.cells #[.int .i64 0, .int .i64 0, .int .i64 0, .int .i64 0, .int .i64 0, .int .i64 0, .int .i64 0] 90) = wq3 at D3 ⊢
      refine hK.out _ _ (s27 M8.out.mb X8.out Q8.out.wr HU.out (r0 := .int .i64 un) (r1 := .int .i64 (ust : Int)) (r2 := .int .i64 ucl) (r3 := .int .i64 uhi) (r4 := .int .i64 umo) (r5 := .int .i64 (urd : Int)) (r6 := .int .i64 (uout : Int)) rfl D3.out) (fun hS3 => ?_)
      clear hK K hS D2 hb2
      have hS := Lib.hid hS3
      clear hS3
      try simp only [Act.put, List.setIfInBounds_toArray, List.set_cons_zero, List.set_cons_succ]
      refine wpAnyH_ready (rs := [13]) (by kernel_rfl) (by simp) (readyH_consL rfl (fun K hK => ?_) AllReadyH.nil)
      refine step_d27 rfl 67 (.tmp 19) (.tmp 138) rfl D3.out rfl rfl Tryd.infoSzM (by simp [Value.oneCell']) ?_
      intro wq4 D4
      refine hK.out _ _ (s27 M8.out.mb X8.out Q8.out.wr HU.out (r0 := .int .i64 un) (r1 := .int .i64 (ust : Int)) (r2 := .int .i64 ucl) (r3 := .int .i64 uhi) (r4 := .int .i64 umo) (r5 := .int .i64 (urd : Int)) (r6 := .int .i64 (uout : Int)) rfl D4.out) (fun hS4 => ?_)
      clear hK K hS D3
      have hS := Lib.hid hS4
      clear hS4
      simp only [Act.put]
      refine wpAnyH_ready (rs := [14]) (by kernel_rfl) (by simp) (readyH_consL rfl (fun K hK => ?_) AllReadyH.nil)
      refine step_d27 rfl 90 (.tmp 20) (.tmp 139) rfl D4.out.swap rfl rfl Tryd.infoSzR (by simp [Value.oneCell']) ?_
      intro wq5 H5
      have D5 := Lib.hid H5.out.swap
      clear H5
      refine hK.out _ _ (s27 M8.out.mb X8.out Q8.out.wr HU.out (r0 := .int .i64 un) (r1 := .int .i64 (ust : Int)) (r2 := .int .i64 ucl) (r3 := .int .i64 uhi) (r4 := .int .i64 umo) (r5 := .int .i64 (urd : Int)) (r6 := .int .i64 (uout : Int)) rfl D5.out) (fun hS5 => ?_)
      clear hK K hS D4
      have hS := Lib.hid hS5
      clear hS5
      simp only [Act.put]
      refine wpH_takeL (i := 15) (v := ?_) rfl (by kernel_rfl) (by kernel_rfl) (by kernel_rfl) (fun _ _ _ h => h) (Or.inl ⟨by rfl, ?_⟩) hS.out ?_
      rotate_left
      · intro wy hSy
        clear hSy
        go_simp
        try with_reducible rfl
      try simp only [Act.put, List.setIfInBounds_toArray, List.set_cons_zero, List.set_cons_succ]
      refine wpAnyH_done (by kernel_rfl) ?_ _
      exact HQ.out _ _ _ _ _ _ _ _ _ _ _ _ _ _ D5
    · obtain ⟨b2, hb2⟩ : ∃ b, b = wq1.heap.size := ⟨_, rfl⟩
      have D2 := Lib.hid ((D1.out.swap.al (b := b2) (L := #[.int .i64 0, .int .i64 0, .int .i64 0, .int .i64 0, .int .i64 0, .int .i64 0, .int .i64 0]) (ty := 90) hb2).swap)
      go_simp
      rw [← hb2]
      generalize World.alloc wq1 (.cells #[.int .i64 0, .int .i64 0, .int .i64 0, .int .i64 0, .int .i64 0, .int .i64 0, .int .i64 0] 90) = wq2 at D2 ⊢
      refine hK.out _ _ (s27 M8.out.mb X8.out Q8.out.wr HU.out (r0 := .int .i64 un) (r1 := .int .i64 (ust : Int)) (r2 := .int .i64 ucl) (r3 := .int .i64 uhi) (r4 := .int .i64 umo) (r5 := .int .i64 (urd : Int)) (r6 := .int .i64 (uout : Int)) rfl D2.out) (fun hS2 => ?_)
      clear hK K hS D1 hb2
      have hS := Lib.hid hS2
      clear hS2
      try simp only [Act.put, List.setIfInBounds_toArray, List.set_cons_zero, List.set_cons_succ]
      refine wpAnyH_ready (rs := [6]) (by kernel_rfl) (by simp) (readyH_consL rfl (fun K hK => ?_) AllReadyH.nil)
      go_simp
      go_at_call 50
      refine (D2.out.call (fun c t => rstep_d P.out KU.out (M8.out.stpF t) HZ.out.1 HZ.out.2 ZS.out HY.out.1 HY.out.2 EU.out)).mono ?_
      rintro e wq3 ⟨rfl, D3⟩
      go_simp
      refine hK.out _ _ (s27 M8.out.mb X8.out Q8.out.wr HU.out (r0 := .int .i64 un) (r1 := .int .i64 (ust : Int)) (r2 := .int .i64 ucl) (r3 := .int .i64 uhi) (r4 := .int .i64 umo) (r5 := .int .i64 (urd : Int)) (r6 := .int .i64 (uout : Int)) rfl D3.out) (fun hS3 => ?_)
      clear hK K hS D2
      have hS := Lib.hid hS3
      clear hS3
      try simp only [Act.put, List.setIfInBounds_toArray, List.set_cons_zero, List.set_cons_succ]
      refine wpH_takeL (i := 7) (v := ?_) rfl (by kernel_rfl) (by kernel_rfl) (by kernel_rfl) (fun _ _ _ h => h) (Or.inl ⟨by rfl, ?_⟩) hS.out ?_
      rotate_left
      · intro wy hSy
        clear hSy
        go_simp
        try with_reducible rfl
      try simp only [Act.put, List.setIfInBounds_toArray, List.set_cons_zero, List.set_cons_succ]
      refine wpH_takeL (i := 8) (v := ?_) rfl (by kernel_rfl) (by kernel_rfl) (by kernel_rfl) (fun _ _ _ h => h) (Or.inl ⟨by rfl, ?_⟩) hS.out ?_
      rotate_left
      · intro wy hSy
        clear hSy
        go_simp
        try with_reducible rfl
      try simp only [Act.put, List.setIfInBounds_toArray, List.set_cons_zero, List.set_cons_succ]
      refine wpH_takeL (i := 9) (v := ?_) rfl (by kernel_rfl) (by kernel_rfl) (by kernel_rfl) (fun _ _ _ h => h) (Or.inl ⟨by rfl, ?_⟩) hS.out ?_
      rotate_left
      · intro wy hSy
        clear hSy
        go_simp
        try with_reducible rfl
      try simp only [Act.put, List.setIfInBounds_toArray, List.set_cons_zero, List.set_cons_succ]
      refine wpH_takeL (i := 10) (v := ?_) rfl (by kernel_rfl) (by kernel_rfl) (by kernel_rfl) (fun _ _ _ h => h) (Or.inl ⟨by rfl, ?_⟩) hS.out ?_
      rotate_left
      · intro wy hSy
        clear hSy
        go_simp
        try with_reducible rfl
      try simp only [Act.put, List.setIfInBounds_toArray, List.set_cons_zero, List.set_cons_succ]
      refine wpAnyH_ready (rs := [13]) (by kernel_rfl) (by simp) (readyH_consL rfl (fun K hK => ?_) AllReadyH.nil)
      refine step_d27 rfl 67 (.tmp 19) (.tmp 138) rfl D3.out rfl rfl Tryd.infoSzM (by simp [Value.oneCell']) ?_
      intro wq4 D4
      refine hK.out _ _ (s27 M8.out.mb X8.out Q8.out.wr HU.out (r0 := .int .i64 un) (r1 := .int .i64 (ust : Int)) (r2 := .int .i64 ucl) (r3 := .int .i64 uhi) (r4 := .int .i64 umo) (r5 := .int .i64 (urd : Int)) (r6 := .int .i64 (uout : Int)) rfl D4.out) (fun hS4 => ?_)
      clear hK K hS D3
      have hS := Lib.hid hS4
      clear hS4
      simp only [Act.put]
      refine wpAnyH_ready (rs := [14]) (by kernel_rfl) (by simp) (readyH_consL rfl (fun K hK => ?_) AllReadyH.nil)
      refine step_d27 rfl 90 (.tmp 20) (.tmp 139) rfl D4.out.swap rfl rfl Tryd.infoSzR (by simp [Value.oneCell']) ?_
      intro wq5 H5
      have D5 := Lib.hid H5.out.swap
      clear H5
      refine hK.out _ _ (s27 M8.out.mb X8.out Q8.out.wr HU.out (r0 := .int .i64 un) (r1 := .int .i64 (ust : Int)) (r2 := .int .i64 ucl) (r3 := .int .i64 uhi) (r4 := .int .i64 umo) (r5 := .int .i64 (urd : Int)) (r6 := .int .i64 (uout : Int)) rfl D5.out) (fun hS5 => ?_)
      clear hK K hS D4
      have hS := Lib.hid hS5
      clear hS5
      simp only [Act.put]
      refine wpH_takeL (i := 15) (v := ?_) rfl (by kernel_rfl) (by kernel_rfl) (by kernel_rfl) (fun _ _ _ h => h) (Or.inl ⟨by rfl, ?_⟩) hS.out ?_
      rotate_left
      · intro wy hSy
        clear hSy
        go_simp
        try with_reducible rfl
      try simp only [Act.put, List.setIfInBounds_toArray, List.set_cons_zero, List.set_cons_succ]
      refine wpAnyH_done (by kernel_rfl) ?_ _
      exact HQ.out _ _ _ _ _ _ _ _ _ _ _ _ _ _ D5
  · obtain ⟨b2, hb2⟩ : ∃ b, b = wq0.heap.size := ⟨_, rfl⟩
    have D1 := Lib.hid ((D0.out.swap.al (b := b2) (L := #[.int .i64 0, .int .i64 0, .int .i64 0, .int .i64 0, .int .i64 0, .int .i64 0, .int .i64 0]) (ty := 90) hb2).swap)
    go_simp
    rw [← hb2]
    generalize World.alloc wq0 (.cells #[.int .i64 0, .int .i64 0, .int .i64 0, .int .i64 0, .int .i64 0, .int .i64 0, .int .i64 0] 90) = wq1 at D1 ⊢
    refine hK.out _ _ (s27 M8.out.mb X8.out Q8.out.wr HU.out (r0 := .int .i64 un) (r1 := .int .i64 (ust : Int)) (r2 := .int .i64 ucl) (r3 := .int .i64 uhi) (r4 := .int .i64 umo) (r5 := .int .i64 (urd : Int)) (r6 := .int .i64 (uout : Int)) rfl D1.out) (fun hS1 => ?_)
    clear hK K hS D0 hb2
    have hS := Lib.hid hS1
    clear hS1
    try simp only [Act.put, List.setIfInBounds_toArray, List.set_cons_zero, List.set_cons_succ]
    refine wpAnyH_ready (rs := [6, 11]) (by kernel_rfl) (by simp) (readyH_consL rfl (fun K hK => ?_) (readyH_consL rfl (fun K hK => ?_) AllReadyH.nil))
    · go_simp
      go_at_call 50
      refine (D1.out.call (fun c t => rstep_d P.out KU.out (M8.out.stpF t) HZ.out.1 HZ.out.2 ZS.out HY.out.1 HY.out.2 EU.out)).mono ?_
      rintro e wq2 ⟨rfl, D2⟩
      go_simp
      refine hK.out _ _ (s27 M8.out.mb X8.out Q8.out.wr HU.out (r0 := .int .i64 un) (r1 := .int .i64 (ust : Int)) (r2 := .int .i64 ucl) (r3 := .int .i64 uhi) (r4 := .int .i64 umo) (r5 := .int .i64 (urd : Int)) (r6 := .int .i64 (uout : Int)) rfl D2.out) (fun hS2 => ?_)
      clear hK K hS D1
      have hS := Lib.hid hS2
      clear hS2
      try simp only [Act.put, List.setIfInBounds_toArray, List.set_cons_zero, List.set_cons_succ]
      refine wpH_takeL (i := 7) (v := ?_) rfl (by kernel_rfl) (by kernel_rfl) (by kernel_rfl) (fun _ _ _ h => h) (Or.inl ⟨by rfl, ?_⟩) hS.out ?_
      rotate_left
      · intro wy hSy
        clear hSy
        go_simp
        try with_reducible rfl
      try simp only [Act.put, List.setIfInBounds_toArray, List.set_cons_zero, List.set_cons_succ]
      refine wpH_takeL (i := 8) (v := ?_) rfl (by kernel_rfl) (by kernel_rfl) (by kernel_rfl) (fun _ _ _ h => h) (Or.inl ⟨by rfl, ?_⟩) hS.out ?_
      rotate_left
      · intro wy hSy
        clear hSy
        go_simp
        try with_reducible rfl
      try simp only [Act.put, List.setIfInBounds_toArray, List.set_cons_zero, List.set_cons_succ]
      refine wpH_takeL (i := 9) (v := ?_) rfl (by kernel_rfl) (by kernel_rfl) (by kernel_rfl) (fun _ _ _ h => h) (Or.inl ⟨by rfl, ?_⟩) hS.out ?_
      rotate_left
      · intro wy hSy
        clear hSy
        go_simp
        try with_reducible rfl
      try simp only [Act.put, List.setIfInBounds_toArray, List.set_cons_zero, List.set_cons_succ]
      refine wpH_takeL (i := 10) (v := ?_) rfl (by kernel_rfl) (by kernel_rfl) (by kernel_rfl) (fun _ _ _ h => h) (Or.inl ⟨by rfl, ?_⟩) hS.out ?_
      rotate_left
      · intro wy hSy
        clear hSy
        go_simp
        try with_reducible rfl
      try simp only [Act.put, List.setIfInBounds_toArray, List.set_cons_zero, List.set_cons_succ]
      refine wpAnyH_ready (rs := [11]) (by kernel_rfl) (by simp) (readyH_consL rfl (fun K hK => ?_) AllReadyH.nil)
      obtain ⟨b1, hb1⟩ : ∃ b, b = wq2.heap.size := ⟨_, rfl⟩
      have D3 := Lib.hid (D2.out.al (b := b1) (L := #[.int .i64 0, .int .i64 0, .int .i64 0, .slice none 0 0, .int .i64 0, .int .i64 0, .slice none 0 0]) (ty := 67) hb1)
      go_simp
      rw [← hb1]
      generalize World.alloc wq2 (.cells #[.int .i64 0, .int .i64 0, .int .i64 0, .slice none 0 0, .int .i64 0, .int .i64 0, .slice none 0 0] 67) = wq3 at D3 ⊢
      refine hK.out _ _ (s27 M8.out.mb X8.out Q8.out.wr HU.out (r0 := .int .i64 un) (r1 := .int .i64 (ust : Int)) (r2 := .int .i64 ucl) (r3 := .int .i64 uhi) (r4 := .int .i64 umo) (r5 := .int .i64 (urd : Int)) (r6 := .int .i64 (uout : Int)) rfl D3.out) (fun hS3 => ?_)
      clear hK K hS D2 hb1
      have hS := Lib.hid hS3
      clear hS3
      try simp only [Act.put, List.setIfInBounds_toArray, List.set_cons_zero, List.set_cons_succ]
      refine wpAnyH_ready (rs := [13]) (by kernel_rfl) (by simp) (readyH_consL rfl (fun K hK => ?_) AllReadyH.nil)
      refine step_d27 rfl 67 (.tmp 19) (.tmp 138) rfl D3.out rfl rfl Tryd.infoSzM (by simp [Value.oneCell']) ?_
      intro wq4 D4
      refine hK.out _ _ (s27 M8.out.mb X8.out Q8.out.wr HU.out (r0 := .int .i64 un) (r1 := .int .i64 (ust : Int)) (r2 := .int .i64 ucl) (r3 := .int .i64 uhi) (r4 := .int .i64 umo) (r5 := .int .i64 (urd : Int)) (r6 := .int .i64 (uout : Int)) rfl D4.out) (fun hS4 => ?_)
      clear hK K hS D3
      have hS := Lib.hid hS4
      clear hS4
      simp only [Act.put]
      refine wpAnyH_ready (rs := [14]) (by kernel_rfl) (by simp) (readyH_consL rfl (fun K hK => ?_) AllReadyH.nil)
      refine step_d27 rfl 90 (.tmp 20) (.tmp 139) rfl D4.out.swap rfl rfl Tryd.infoSzR (by simp [Value.oneCell']) ?_
      intro wq5 H5
      have D5 := Lib.hid H5.out.swap
      clear H5
      refine hK.out _ _ (s27 M8.out.mb X8.out Q8.out.wr HU.out (r0 := .int .i64 un) (r1 := .int .i64 (ust : Int)) (r2 := .int .i64 ucl) (r3 := .int .i64 uhi) (r4 := .int .i64 umo) (r5 := .int .i64 (urd : Int)) (r6 := .int .i64 (uout : Int)) rfl D5.out) (fun hS5 => ?_)
      clear hK K hS D4
      have hS := Lib.hid hS5
      clear hS5
      simp only [Act.put]
      refine wpH_takeL (i := 15) (v := ?_) rfl (by kernel_rfl) (by kernel_rfl) (by kernel_rfl) (fun _ _ _ h => h) (Or.inl ⟨by rfl, ?_⟩) hS.out ?_
      rotate_left
      · intro wy hSy
        clear hSy
        go_simp
        try with_reducible rfl
      try simp only [Act.put, List.setIfInBounds_toArray, List.set_cons_zero, List.set_cons_succ]
      refine wpAnyH_done (by kernel_rfl) ?_ _
      exact HQ.out _ _ _ _ _ _ _ _ _ _ _ _ _ _ D5
    · obtain ⟨b1, hb1⟩ : ∃ b, b = wq1.heap.size := ⟨_, rfl⟩
      have D2 := Lib.hid (D1.out.al (b := b1) (L := #[.int .i64 0, .int .i64 0, .int .i64 0, .slice none 0 0, .int .i64 0, .int .i64 0, .slice none 0 0]) (ty := 67) hb1)
      go_simp
      rw [← hb1]
      generalize World.alloc wq1 (.cells #[.int .i64 0, .int .i64 0, .int .i64 0, .slice none 0 0, .int .i64 0, .int .i64 0, .slice none 0 0] 67) = wq2 at D2 ⊢
      refine hK.out _ _ (s27 M8.out.mb X8.out Q8.out.wr HU.out (r0 := .int .i64 un) (r1 := .int .i64 (ust : Int)) (r2 := .int .i64 ucl) (r3 := .int .i64 uhi) (r4 := .int .i64 umo) (r5 := .int .i64 (urd : Int)) (r6 := .int .i64 (uout : Int)) rfl D2.out) (fun hS2 => ?_)
      clear hK K hS D1 hb1
      have hS := Lib.hid hS2
      clear hS2
      try simp only [Act.put, List.setIfInBounds_toArray, List.set_cons_zero, List.set_cons_succ]
      refine wpAnyH_ready (rs := [6]) (by kernel_rfl) (by simp) (readyH_consL rfl (fun K hK => ?_) AllReadyH.nil)
      go_simp
      go_at_call 50
      refine (D2.out.call (fun c t => rstep_d P.out KU.out (M8.out.stpF t) HZ.out.1 HZ.out.2 ZS.out HY.out.1 HY.out.2 EU.out)).mono ?_
      rintro e wq3 ⟨rfl, D3⟩
      go_simp
      refine hK.out _ _ (s27 M8.out.mb X8.out Q8.out.wr HU.out (r0 := .int .i64 un) (r1 := .int .i64 (ust : Int)) (r2 := .int .i64 ucl) (r3 := .int .i64 uhi) (r4 := .int .i64 umo) (r5 := .int .i64 (urd : Int)) (r6 := .int .i64 (uout : Int)) rfl D3.out) (fun hS3 => ?_)
      clear hK K hS D2
      have hS := Lib.hid hS3
      clear hS3
      try simp only [Act.put, List.setIfInBounds_toArray, List.set_cons_zero, List.set_cons_succ]
      refine wpH_takeL (i := 7) (v := ?_) rfl (by kernel_rfl) (by kernel_rfl) (by kernel_rfl) (fun _ _ _ h => h) (Or.inl ⟨by rfl, ?_⟩) hS.out ?_
      rotate_left
      · intro wy hSy
        clear hSy
        go_simp
        try with_reducible rfl
      try simp only [Act.put, List.setIfInBounds_toArray, List.set_cons_zero, List.set_cons_succ]
      refine wpH_takeL (i := 8) (v := ?_) rfl (by kernel_rfl) (by kernel_rfl) (by kernel_rfl) (fun _ _ _ h => h) (Or.inl ⟨by rfl, ?_⟩) hS.out ?_
      rotate_left
      · intro wy hSy
        clear hSy
        go_simp
        try with_reducible rfl
      try simp only [Act.put, List.setIfInBounds_toArray, List.set_cons_zero, List.set_cons_succ]
      refine wpH_takeL (i := 9) (v := ?_) rfl (by kernel_rfl) (by kernel_rfl) (by kernel_rfl) (fun _ _ _ h => h) (Or.inl ⟨by rfl, ?_⟩) hS.out ?_
      rotate_left
      · intro wy hSy
        clear hSy
        go_simp
        try with_reducible rfl
      try simp only [Act.put, List.setIfInBounds_toArray, List.set_cons_zero, List.set_cons_succ]
      refine wpH_takeL (i := 10) (v := ?_) rfl (by kernel_rfl) (by kernel_rfl) (by kernel_rfl) (fun _ _ _ h => h) (Or.inl ⟨by rfl, ?_⟩) hS.out ?_
      rotate_left
      · intro wy hSy
        clear hSy
        go_simp
        try with_reducible rfl
      try simp only [Act.put, List.setIfInBounds_toArray, List.set_cons_zero, List.set_cons_succ]
      refine wpAnyH_ready (rs := [13]) (by kernel_rfl) (by simp) (readyH_consL rfl (fun K hK => ?_) AllReadyH.nil)
      refine step_d27 rfl 67 (.tmp 19) (.tmp 138) rfl D3.out rfl rfl Tryd.infoSzM (by simp [Value.oneCell']) ?_
      intro wq4 D4
      refine hK.out _ _ (s27 M8.out.mb X8.out Q8.out.wr HU.out (r0 := .int .i64 un) (r1 := .int .i64 (ust : Int)) (r2 := .int .i64 ucl) (r3 := .int .i64 uhi) (r4 := .int .i64 umo) (r5 := .int .i64 (urd : Int)) (r6 := .int .i64 (uout : Int)) rfl D4.out) (fun hS4 => ?_)
      clear hK K hS D3
      have hS := Lib.hid hS4
      clear hS4
      simp only [Act.put]
      refine wpAnyH_ready (rs := [14]) (by kernel_rfl) (by simp) (readyH_consL rfl (fun K hK => ?_) AllReadyH.nil)
      refine step_d27 rfl 90 (.tmp 20) (.tmp 139) rfl D4.out.swap rfl rfl Tryd.infoSzR (by simp [Value.oneCell']) ?_
      intro wq5 H5
      have D5 := Lib.hid H5.out.swap
      clear H5
      refine hK.out _ _ (s27 M8.out.mb X8.out Q8.out.wr HU.out (r0 := .int .i64 un) (r1 := .int .i64 (ust : Int)) (r2 := .int .i64 ucl) (r3 := .int .i64 uhi) (r4 := .int .i64 umo) (r5 := .int .i64 (urd : Int)) (r6 := .int .i64 (uout : Int)) rfl D5.out) (fun hS5 => ?_)
      clear hK K hS D4
      have hS := Lib.hid hS5
      clear hS5
      simp only [Act.put]
      refine wpH_takeL (i := 15) (v := ?_) rfl (by kernel_rfl) (by kernel_rfl) (by kernel_rfl) (fun _ _ _ h => h) (Or.inl ⟨by rfl, ?_⟩) hS.out ?_
      rotate_left
      · intro wy hSy
        clear hSy
        go_simp
        try with_reducible rfl
      try simp only [Act.put, List.setIfInBounds_toArray, List.set_cons_zero, List.set_cons_succ]
      refine wpAnyH_done (by kernel_rfl) ?_ _
      exact HQ.out _ _ _ _ _ _ _ _ _ _ _ _ _ _ D5

noncomputable def Tryd.c30 : Code := (Tryd.f10.body.bind (regionN 30)).getD .skip

set_option maxRecDepth 1000000 in
set_option maxHeartbeats 100000000 in
theorem Tryd.r30  {x9 p sh N k i lcap wcap xb yb icap gcap scap ust ucap urd uout st' m' cap' rd' out' : Nat} {lb uids ids' : List Int} {io go so uao ao' : Option Addr} {T : List TT} {a b : Addr} {un ucl uhi umo n' cl' hi' mo' z0 z1 y0 y1 zs : Int} {v0x v2x : Value} {b1 b2 : Nat} {c9 : Nat → Nat} {wx : World}
    (B1 : Hid (Blk c9 16 wx b1 [.int .i64 (2 ^ sh), .int .i64 y0, .int .i64 y0, .slice go k gcap, .int .i64 y1, .int .i64 0, .slice so 0 scap] 67)) (Y9 : Hid (Blk c9 15 wx yb [.pointer (some ⟨p, 0, none⟩), .int .i64 n', .int .i64 zs, .int .i64 cl', .int .i64 hi', .slice ao' m' cap', .int .i64 mo'] 73)) (B2 : Hid (Blk c9 17 wx b2 [.int .i64 n', .int .i64 zs, .int .i64 cl', .int .i64 hi', .int .i64 mo', .int .i64 (rd' : Int), .int .i64 (out' : Int)] 90)) (X9 : Hid (Blk c9 15 wx xb [v0x, .int .i64 (i : Int), v2x] 71))
    (HU : Hid (T[i]? = some ⟨⟨un, ust, ucl, uhi, uids, umo⟩, uao, ucap, urd, uout⟩)) (HLC : Hid (TT.lc p ⟨⟨n', st', cl', hi', ids', mo'⟩, ao', cap', rd', out'⟩ = [.pointer (some ⟨p, 0, none⟩), .int .i64 n', .int .i64 zs, .int .i64 cl', .int .i64 hi', .slice ao' m' cap', .int .i64 mo'])) (HRC : Hid (TT.rc ⟨⟨n', st', cl', hi', ids', mo'⟩, ao', cap', rd', out'⟩ = [.int .i64 n', .int .i64 zs, .int .i64 cl', .int .i64 hi', .int .i64 mo', .int .i64 (rd' : Int), .int .i64 (out' : Int)])) (M9 : Hid (MB x9 (2 ^ sh) z0 z1 (lb.drop N) (gids N k) [] k k io icap go gcap so scap c9 wx)) (Q9 : Hid (TRows p T (some a) lcap (some b) wcap c9 wx))
    (i0 : (0 : Int) ≤ (i : Int)) (i1 : (i : Int) < (T.length : Int)) {fr0 fr1 fr2 fr3 fr4 fr5 fr6 fr7 fr8 fr10 fr13 fr15 fr16 fr18 fr21 fr22 fr23 fr24 fr25 fr26 fr27 fr28 fr29 fr30 fr31 fr32 fr33 fr34 fr35 fr36 fr37 fr38 fr39 fr40 fr41 fr42 fr43 fr44 fr45 fr46 fr47 fr48 fr49 fr50 fr51 fr52 fr53 fr54 fr55 fr56 fr57 fr58 fr59 fr60 fr61 fr62 fr63 fr64 fr65 fr66 fr67 fr68 fr69 fr70 fr71 fr72 fr73 fr74 fr75 fr76 fr77 fr78 fr79 fr80 fr81 fr82 fr83 fr84 fr85 fr86 fr87 fr88 fr89 fr90 fr91 fr92 fr93 fr94 fr95 fr96 fr97 fr98 fr99 fr100 fr101 fr102 fr103 fr104 fr105 fr106 fr107 fr108 fr109 fr110 fr111 fr112 fr113 fr114 fr115 fr116 fr117 fr118 fr119 fr120 fr121 fr122 fr123 fr124 fr125 fr126 fr127 fr128 fr129 fr130 fr131 fr132 fr133 fr134 fr135 fr136 fr137 fr138 fr139 fr140 fr141 fr142 fr143 fr144 fr145 fr146 fr147 fr148 fr149 fr150 fr151 fr152 fr153 fr154 fr155 fr156 fr157 fr158 fr159 fr160 fr161 fr162 fr163 fr164 fr165 fr166 fr167 fr168 fr169 fr170 fr171 fr172 fr173 fr174 fr175 fr176 fr177 fr178 fr179 fr180 fr181 fr182 fr183 fr184 fr185 fr186 fr187 fr188 fr189 fr190 fr191 fr192 fr193 fr194 fr195 fr196 fr197 fr198 fr199 fr200 fr201 fr202 fr203 fr204 fr205 fr206 fr207 fr208 fr209 fr210 fr211 fr212 fr213 fr214 fr215 fr216 fr217 fr218 fr219 fr220 fr221 fr222 fr223 fr224 fr225 fr226 fr227 fr228 fr229 fr230 fr231 fr232 fr233 fr234 fr235 fr236 fr237 fr238 fr239 fr240 fr241 fr242 fr243 fr244 fr245 fr246 fr247 fr248 fr249 fr250 fr251 fr252 fr253 fr254 fr255 fr256 fr257 fr258 fr259 fr260 fr261 fr262 fr263 fr264 fr265 fr266 fr267 fr268 fr269 fr270 fr271 fr272 fr273 fr274 fr275 fr276 fr277 : Value} {Q0 : Exit → Act → World → Prop}
    (hQ : ∀ (w' : World), ∀ g145 g146 g147 g148 g149 g150 g151 g152 g153 g154 g155 : Value, Hid (G30 c9 wx x9 [.int .i64 (2 ^ sh), .int .i64 y0, .int .i64 y0, .slice go k gcap, .int .i64 y1, .int .i64 0, .slice so 0 scap] a T.length lcap ((T.set i ⟨⟨n', st', cl', hi', ids', mo'⟩, ao', cap', rd', out'⟩).flatMap (TT.lc p)) b wcap ((T.set i ⟨⟨n', st', cl', hi', ids', mo'⟩, ao', cap', rd', out'⟩).flatMap TT.rc) w') → Q0 .normal ⟨#[fr0, fr1, fr2, fr3, fr4, fr5, fr6, fr7, fr8, .pointer (some ⟨x9, 0, none⟩), fr10, .slice (some a) T.length lcap, .slice (some b) T.length wcap, fr13, .pointer (some ⟨xb, 0, none⟩), fr15, fr16, .pointer (some ⟨yb, 0, none⟩), fr18, .pointer (some ⟨b1, 0, none⟩), .pointer (some ⟨b2, 0, none⟩), fr21, fr22, fr23, fr24, fr25, fr26, fr27, fr28, fr29, fr30, fr31, fr32, fr33, fr34, fr35, fr36, fr37, fr38, fr39, fr40, fr41, fr42, fr43, fr44, fr45, fr46, fr47, fr48, fr49, fr50, fr51, fr52, fr53, fr54, fr55, fr56, fr57, fr58, fr59, fr60, fr61, fr62, fr63, fr64, fr65, fr66, fr67, fr68, fr69, fr70, fr71, fr72, fr73, fr74, fr75, fr76, fr77, fr78, fr79, fr80, fr81, fr82, fr83, fr84, fr85, fr86, fr87, fr88, fr89, fr90, fr91, fr92, fr93, fr94, fr95, fr96, fr97, fr98, fr99, fr100, fr101, fr102, fr103, fr104, fr105, fr106, fr107, fr108, fr109, fr110, fr111, fr112, fr113, fr114, fr115, fr116, fr117, fr118, fr119, fr120, fr121, fr122, fr123, fr124, fr125, fr126, fr127, fr128, fr129, fr130, fr131, fr132, fr133, fr134, fr135, fr136, fr137, fr138, fr139, fr140, fr141, fr142, fr143, fr144, g145, g146, g147, g148, g149, g150, g151, g152, g153, g154, g155, fr156, fr157, fr158, fr159, fr160, fr161, fr162, fr163, fr164, fr165, fr166, fr167, fr168, fr169, fr170, fr171, fr172, fr173, fr174, fr175, fr176, fr177, fr178, fr179, fr180, fr181, fr182, fr183, fr184, fr185, fr186, fr187, fr188, fr189, fr190, fr191, fr192, fr193, fr194, fr195, fr196, fr197, fr198, fr199, fr200, fr201, fr202, fr203, fr204, fr205, fr206, fr207, fr208, fr209, fr210, fr211, fr212, fr213, fr214, fr215, fr216, fr217, fr218, fr219, fr220, fr221, fr222, fr223, fr224, fr225, fr226, fr227, fr228, fr229, fr230, fr231, fr232, fr233, fr234, fr235, fr236, fr237, fr238, fr239, fr240, fr241, fr242, fr243, fr244, fr245, fr246, fr247, fr248, fr249, fr250, fr251, fr252, fr253, fr254, fr255, fr256, fr257, fr258, fr259, fr260, fr261, fr262, fr263, fr264, fr265, fr266, fr267, fr268, fr269, fr270, fr271, fr272, fr273, fr274, fr275, fr276, fr277], []⟩ w') : Code.wp Tryd.prog Tryd.c30 Q0 ⟨#[fr0, fr1, fr2, fr3, fr4, fr5, fr6, fr7, fr8, .pointer (some ⟨x9, 0, none⟩), fr10, .slice (some a) T.length lcap, .slice (some b) T.length wcap, fr13, .pointer (some ⟨xb, 0, none⟩), fr15, fr16, .pointer (some ⟨yb, 0, none⟩), fr18, .pointer (some ⟨b1, 0, none⟩), .pointer (some ⟨b2, 0, none⟩), fr21, fr22, fr23, fr24, fr25, fr26, fr27, fr28, fr29, fr30, fr31, fr32, fr33, fr34, fr35, fr36, fr37, fr38, fr39, fr40, fr41, fr42, fr43, fr44, fr45, fr46, fr47, fr48, fr49, fr50, fr51, fr52, fr53, fr54, fr55, fr56, fr57, fr58, fr59, fr60, fr61, fr62, fr63, fr64, fr65, fr66, fr67, fr68, fr69, fr70, fr71, fr72, fr73, fr74, fr75, fr76, fr77, fr78, fr79, fr80, fr81, fr82, fr83, fr84, fr85, fr86, fr87, fr88, fr89, fr90, fr91, fr92, fr93, fr94, fr95, fr96, fr97, fr98, fr99, fr100, fr101, fr102, fr103, fr104, fr105, fr106, fr107, fr108, fr109, fr110, fr111, fr112, fr113, fr114, fr115, fr116, fr117, fr118, fr119, fr120, fr121, fr122, fr123, fr124, fr125, fr126, fr127, fr128, fr129, fr130, fr131, fr132, fr133, fr134, fr135, fr136, fr137, fr138, fr139, fr140, fr141, fr142, fr143, fr144, fr145, fr146, fr147, fr148, fr149, fr150, fr151, fr152, fr153, fr154, fr155, fr156, fr157, fr158, fr159, fr160, fr161, fr162, fr163, fr164, fr165, fr166, fr167, fr168, fr169, fr170, fr171, fr172, fr173, fr174, fr175, fr176, fr177, fr178, fr179, fr180, fr181, fr182, fr183, fr184, fr185, fr186, fr187, fr188, fr189, fr190, fr191, fr192, fr193, fr194, fr195, fr196, fr197, fr198, fr199, fr200, fr201, fr202, fr203, fr204, fr205, fr206, fr207, fr208, fr209, fr210, fr211, fr212, fr213, fr214, fr215, fr216, fr217, fr218, fr219, fr220, fr221, fr222, fr223, fr224, fr225, fr226, fr227, fr228, fr229, fr230, fr231, fr232, fr233, fr234, fr235, fr236, fr237, fr238, fr239, fr240, fr241, fr242, fr243, fr244, fr245, fr246, fr247, fr248, fr249, fr250, fr251, fr252, fr253, fr254, fr255, fr256, fr257, fr258, fr259, fr260, fr261, fr262, fr263, fr264, fr265, fr266, fr267, fr268, fr269, fr270, fr271, fr272, fr273, fr274, fr275, fr276, fr277], []⟩ wx := by
  conv => arg 2; whnf
  refine wp_region_noPanic ?_
  have HQ := Lib.hid hQ
  clear hQ
  have G0 := Lib.hid (G30.start M9.out Q9.out)
  refine wp_region_held_drew (S := S30 b1 yb b2 xb (.int .i64 (2 ^ sh)) (.int .i64 y0) (.int .i64 y0) (.slice go k gcap) (.int .i64 y1) (.int .i64 0) (.slice so 0 scap) (.pointer (some ⟨p, 0, none⟩)) (.int .i64 n') (.int .i64 zs) (.int .i64 cl') (.int .i64 hi') (.slice ao' m' cap') (.int .i64 mo') (.int .i64 n') (.int .i64 zs) (.int .i64 cl') (.int .i64 hi') (.int .i64 mo') (.int .i64 (rd' : Int)) (.int .i64 (out' : Int)) (.int .i64 (i : Int))) (by kernel_rfl) (s30 B1.out Y9.out B2.out X9.out G0.out) (fun hS0 => ?_)
  have hS := Lib.hid hS0
  clear hS0
  generalize wx.drew = wq0 at G0 hS ⊢
  refine wpH_takeL (i := 0) (v := ?_) rfl (by kernel_rfl) (by kernel_rfl) (by kernel_rfl) (fun _ _ _ h => h) (Or.inl ⟨by rfl, ?_⟩) hS.out ?_
  rotate_left
  · intro wy hSy
    clear hSy
    go_simp
    try with_reducible rfl
  try simp only [Act.put, List.setIfInBounds_toArray, List.set_cons_zero, List.set_cons_succ]
  refine wpH_takeL (i := 1) (v := ?_) rfl (by kernel_rfl) (by kernel_rfl) (by kernel_rfl) (fun _ _ _ h => h) (Or.inl ⟨by rfl, ?_⟩) hS.out ?_
  rotate_left
  · intro wy hSy
    clear hSy
    go_simp
    try with_reducible rfl
  try simp only [Act.put, List.setIfInBounds_toArray, List.set_cons_zero, List.set_cons_succ]
  refine wpH_takeL (i := 2) (v := ?_) rfl (by kernel_rfl) (by kernel_rfl) (by kernel_rfl) (fun _ _ _ h => h) (Or.inl ⟨by rfl, ?_⟩) hS.out ?_
  rotate_left
  · intro wy hSy
    obtain ⟨⟨v0, v1, v2, v3, v4, v5, v6⟩, ⟨l0, l1, l2, l3, l4, l5, l6⟩, ⟨r0, r1, r2, r3, r4, r5, r6⟩, q1⟩ := hSy
    go_simp
    try with_reducible rfl
  try simp only [Act.put, List.setIfInBounds_toArray, List.set_cons_zero, List.set_cons_succ]
  refine wpH_takeL (i := 3) (v := ?_) rfl (by kernel_rfl) (by kernel_rfl) (by kernel_rfl) (fun _ _ _ h => h) (Or.inl ⟨by rfl, ?_⟩) hS.out ?_
  rotate_left
  · intro wy hSy
    clear hSy
    go_simp
    try with_reducible rfl
  try simp only [Act.put, List.setIfInBounds_toArray, List.set_cons_zero, List.set_cons_succ]
  refine wpH_takeL (i := 4) (v := ?_) rfl (by kernel_rfl) (by kernel_rfl) (by kernel_rfl) (fun _ _ _ h => h) (Or.inl ⟨by rfl, ?_⟩) hS.out ?_
  rotate_left
  · intro wy hSy
    clear hSy
    go_simp
    try with_reducible rfl
  try simp only [Act.put, List.setIfInBounds_toArray, List.set_cons_zero, List.set_cons_succ]
  refine wpH_takeL (i := 5) (v := ?_) rfl (by kernel_rfl) (by kernel_rfl) (by kernel_rfl) (fun _ _ _ h => h) (Or.inl ⟨by rfl, ?_⟩) hS.out ?_
  rotate_left
  · intro wy hSy
    obtain ⟨⟨v0, v1, v2, v3, v4, v5, v6⟩, ⟨l0, l1, l2, l3, l4, l5, l6⟩, ⟨r0, r1, r2, r3, r4, r5, r6⟩, q1⟩ := hSy
    go_simp
    try with_reducible rfl
  try simp only [Act.put, List.setIfInBounds_toArray, List.set_cons_zero, List.set_cons_succ]
  refine wpH_takeL (i := 6) (v := ?_) rfl (by kernel_rfl) (by kernel_rfl) (by kernel_rfl) (fun _ _ _ h => h) (Or.inl ⟨by rfl, ?_⟩) hS.out ?_
  rotate_left
  · intro wy hSy
    obtain ⟨⟨v0, v1, v2, v3, v4, v5, v6⟩, ⟨l0, l1, l2, l3, l4, l5, l6⟩, ⟨r0, r1, r2, r3, r4, r5, r6⟩, q1⟩ := hSy
    go_simp
    try with_reducible rfl
  try simp only [Act.put, List.setIfInBounds_toArray, List.set_cons_zero, List.set_cons_succ]
  refine wpH_takeL (i := 7) (v := ?_) rfl (by kernel_rfl) (by kernel_rfl) (by kernel_rfl) (fun _ _ _ h => h) (Or.inl ⟨by rfl, ?_⟩) hS.out ?_
  rotate_left
  · intro wy hSy
    obtain ⟨⟨v0, v1, v2, v3, v4, v5, v6⟩, ⟨l0, l1, l2, l3, l4, l5, l6⟩, ⟨r0, r1, r2, r3, r4, r5, r6⟩, q1⟩ := hSy
    go_simp
    try with_reducible rfl
  try simp only [Act.put, List.setIfInBounds_toArray, List.set_cons_zero, List.set_cons_succ]
  refine wpH_takeL (i := 8) (v := ?_) rfl (by kernel_rfl) (by kernel_rfl) (by kernel_rfl) (fun _ _ _ h => h) (Or.inl ⟨by rfl, ?_⟩) hS.out ?_
  rotate_left
  · intro wy hSy
    obtain ⟨⟨v0, v1, v2, v3, v4, v5, v6⟩, ⟨l0, l1, l2, l3, l4, l5, l6⟩, ⟨r0, r1, r2, r3, r4, r5, r6⟩, q1⟩ := hSy
    go_simp
    try with_reducible rfl
  try simp only [Act.put, List.setIfInBounds_toArray, List.set_cons_zero, List.set_cons_succ]
  refine wpAnyH_ready (rs := [9]) (by kernel_rfl) (by simp) (readyH_consL rfl (fun K hK => ?_) AllReadyH.nil)
  refine step_g30m rfl 67 (.tmp 9) (.tmp 151) rfl G0.out rfl rfl Tryd.infoSzM (by simp [Value.oneCell']) ?_
  intro wq1 G1
  refine hK.out _ _ (s30 B1.out Y9.out B2.out X9.out G1.out) (fun hS1 => ?_)
  clear hK K hS G0
  have hS := Lib.hid hS1
  clear hS1
  simp only [Act.put]
  refine wpH_takeL (i := 10) (v := ?_) rfl (by kernel_rfl) (by kernel_rfl) (by kernel_rfl) (fun _ _ _ h => h) (Or.inl ⟨by rfl, ?_⟩) hS.out ?_
  rotate_left
  · intro wy hSy
    clear hSy
    go_simp
    try with_reducible rfl
  try simp only [Act.put, List.setIfInBounds_toArray, List.set_cons_zero, List.set_cons_succ]
  refine wpAnyH_ready (rs := [11]) (by kernel_rfl) (by simp) (readyH_consL rfl (fun K hK => ?_) AllReadyH.nil)
  refine step_g30l rfl 73 (.tmp 154) (.tmp 152) rfl HU.out (u' := ⟨⟨n', st', cl', hi', ids', mo'⟩, ao', cap', rd', out'⟩) HLC.out G1.out rfl rfl Tryd.infoSzL (by simp [Value.oneCell']) ?_
  intro wq2 G2
  refine hK.out _ _ (s30 B1.out Y9.out B2.out X9.out G2.out) (fun hS2 => ?_)
  clear hK K hS G1
  have hS := Lib.hid hS2
  clear hS2
  simp only [Act.put]
  refine wpH_takeL (i := 12) (v := ?_) rfl (by kernel_rfl) (by kernel_rfl) (by kernel_rfl) (fun _ _ _ h => h) (Or.inl ⟨by rfl, ?_⟩) hS.out ?_
  rotate_left
  · intro wy hSy
    clear hSy
    go_simp
    try with_reducible rfl
  try simp only [Act.put, List.setIfInBounds_toArray, List.set_cons_zero, List.set_cons_succ]
  refine wpAnyH_ready (rs := [13]) (by kernel_rfl) (by simp) (readyH_consL rfl (fun K hK => ?_) AllReadyH.nil)
  refine step_g30r rfl 90 (.tmp 155) (.tmp 153) rfl HU.out (u' := ⟨⟨n', st', cl', hi', ids', mo'⟩, ao', cap', rd', out'⟩) HRC.out G2.out rfl rfl Tryd.infoSzR (by simp [Value.oneCell']) ?_
  intro wq3 G3
  refine hK.out _ _ (s30 B1.out Y9.out B2.out X9.out G3.out) (fun hS3 => ?_)
  clear hK K hS G2
  have hS := Lib.hid hS3
  clear hS3
  simp only [Act.put]
  refine wpAnyH_done (by kernel_rfl) ?_ _
  exact HQ.out _ _ _ _ _ _ _ _ _ _ _ _ G3

noncomputable def Tryd.c34 : Code := (Tryd.f10.body.bind (regionN 34)).getD .skip

set_option maxRecDepth 1000000 in
set_option maxHeartbeats 100000000 in
theorem Tryd.r34 {p m' cap' yb b2 : Nat} {n' zs cl' hi' mo' lst : Int} {ao' : Option Addr} {b5 b6 : Bool} {r0 r2 r3 r4 r5 r6 : Value} {c9 : Nat → Nat} {wy : World}
    (YX : Hid (Blk c9 15 wy yb [.pointer (some ⟨p, 0, none⟩), .int .i64 n', .int .i64 zs, .int .i64 cl', .int .i64 hi', .slice ao' m' cap', .int .i64 mo'] 73)) (B2X : Hid (Blk c9 17 wy b2 [r0, .int .i64 zs, r2, r3, r4, r5, r6] 90)) (LST : Hid ((if zs = 5 then hi' else -1) = lst)) (hb5 : decide (5 ≤ zs) = b5) (hb6 : (zs == 6) = b6) {fr0 fr1 fr2 fr3 fr4 fr5 fr6 fr7 fr8 fr9 fr10 fr11 fr12 fr13 fr14 fr15 fr16 fr18 fr19 fr21 fr23 fr24 fr25 fr26 fr27 fr28 fr29 fr30 fr31 fr32 fr33 fr34 fr35 fr36 fr37 fr38 fr39 fr40 fr41 fr42 fr43 fr44 fr45 fr46 fr47 fr48 fr49 fr50 fr51 fr52 fr53 fr54 fr55 fr56 fr57 fr58 fr59 fr60 fr61 fr62 fr63 fr64 fr65 fr66 fr67 fr68 fr69 fr70 fr71 fr72 fr73 fr74 fr75 fr76 fr77 fr78 fr79 fr80 fr81 fr82 fr83 fr84 fr85 fr86 fr87 fr88 fr89 fr90 fr91 fr92 fr93 fr94 fr95 fr96 fr97 fr98 fr99 fr100 fr101 fr102 fr103 fr104 fr105 fr106 fr107 fr108 fr109 fr110 fr111 fr112 fr113 fr114 fr115 fr116 fr117 fr118 fr119 fr120 fr121 fr122 fr123 fr124 fr125 fr126 fr127 fr128 fr129 fr130 fr131 fr132 fr133 fr134 fr135 fr136 fr137 fr138 fr139 fr140 fr141 fr142 fr143 fr144 fr145 fr146 fr147 fr148 fr149 fr150 fr151 fr152 fr153 fr154 fr155 fr156 fr157 fr158 fr159 fr160 fr161 fr162 fr163 fr164 fr165 fr166 fr167 fr168 fr169 fr170 fr171 fr172 fr173 fr174 fr175 fr176 fr177 fr178 fr179 fr180 fr181 fr182 fr183 fr184 fr185 fr186 fr187 fr188 fr189 fr190 fr191 fr192 fr193 fr194 fr195 fr196 fr197 fr198 fr199 fr200 fr201 fr202 fr203 fr204 fr205 fr206 fr207 fr208 fr209 fr210 fr211 fr212 fr213 fr214 fr215 fr216 fr217 fr218 fr219 fr220 fr221 fr222 fr223 fr224 fr225 fr226 fr227 fr228 fr229 fr230 fr231 fr232 fr233 fr234 fr235 fr236 fr237 fr238 fr239 fr240 fr241 fr242 fr243 fr244 fr245 fr246 fr247 fr248 fr249 fr250 fr251 fr252 fr253 fr254 fr255 fr256 fr257 fr258 fr259 fr260 fr261 fr262 fr263 fr264 fr265 fr266 fr267 fr268 fr269 fr270 fr271 fr272 fr273 fr274 fr275 fr276 fr277 : Value} {Q0 : Exit → Act → World → Prop}
    (hQ : ∀ (w' : World), ∀ g161 g162 g163 g164 g165 g166 g167 g168 g169 g170 g171 g172 g173 g174 g175 g176 g177 g178 g179 : Value, Hid (OldF c9 wy w') → Q0 .normal ⟨#[fr0, fr1, fr2, fr3, fr4, fr5, fr6, fr7, fr8, fr9, fr10, fr11, fr12, fr13, fr14, fr15, fr16, .pointer (some ⟨yb, 0, none⟩), fr18, fr19, .pointer (some ⟨b2, 0, none⟩), fr21, .int .i64 lst, fr23, fr24, fr25, fr26, fr27, fr28, fr29, fr30, fr31, fr32, fr33, fr34, fr35, fr36, fr37, fr38, fr39, fr40, fr41, fr42, fr43, fr44, fr45, fr46, fr47, fr48, fr49, fr50, fr51, fr52, fr53, fr54, fr55, fr56, fr57, fr58, fr59, fr60, fr61, fr62, fr63, fr64, fr65, fr66, fr67, fr68, fr69, fr70, fr71, fr72, fr73, fr74, fr75, fr76, fr77, fr78, fr79, fr80, fr81, fr82, fr83, fr84, fr85, fr86, fr87, fr88, fr89, fr90, fr91, fr92, fr93, fr94, fr95, fr96, fr97, fr98, fr99, fr100, fr101, fr102, fr103, fr104, fr105, fr106, fr107, fr108, fr109, fr110, fr111, fr112, fr113, fr114, fr115, fr116, fr117, fr118, fr119, fr120, fr121, fr122, fr123, fr124, fr125, fr126, fr127, fr128, fr129, fr130, fr131, fr132, fr133, fr134, fr135, fr136, fr137, fr138, fr139, fr140, fr141, fr142, fr143, fr144, fr145, fr146, fr147, fr148, fr149, fr150, fr151, fr152, fr153, fr154, fr155, fr156, fr157, fr158, fr159, fr160, g161, g162, g163, g164, g165, g166, g167, g168, g169, g170, g171, g172, g173, g174, g175, g176, g177, g178, g179, .bool false, fr181, fr182, fr183, fr184, fr185, fr186, fr187, fr188, fr189, fr190, fr191, fr192, fr193, fr194, fr195, fr196, fr197, fr198, fr199, fr200, fr201, fr202, fr203, fr204, fr205, fr206, fr207, fr208, fr209, fr210, fr211, fr212, fr213, fr214, fr215, fr216, fr217, fr218, fr219, fr220, fr221, fr222, fr223, fr224, fr225, fr226, fr227, fr228, fr229, fr230, fr231, fr232, fr233, fr234, fr235, fr236, fr237, fr238, fr239, fr240, fr241, fr242, fr243, fr244, fr245, fr246, fr247, fr248, fr249, fr250, fr251, fr252, fr253, fr254, fr255, fr256, fr257, fr258, fr259, fr260, fr261, fr262, fr263, fr264, fr265, fr266, fr267, fr268, fr269, fr270, fr271, fr272, fr273, fr274, fr275, fr276, fr277], []⟩ w') : Code.wp Tryd.prog Tryd.c34 Q0 ⟨#[fr0, fr1, fr2, fr3, fr4, fr5, fr6, fr7, fr8, fr9, fr10, fr11, fr12, fr13, fr14, fr15, fr16, .pointer (some ⟨yb, 0, none⟩), fr18, fr19, .pointer (some ⟨b2, 0, none⟩), fr21, .int .i64 lst, fr23, fr24, fr25, fr26, fr27, fr28, fr29, fr30, fr31, fr32, fr33, fr34, fr35, fr36, fr37, fr38, fr39, fr40, fr41, fr42, fr43, fr44, fr45, fr46, fr47, fr48, fr49, fr50, fr51, fr52, fr53, fr54, fr55, fr56, fr57, fr58, fr59, fr60, fr61, fr62, fr63, fr64, fr65, fr66, fr67, fr68, fr69, fr70, fr71, fr72, fr73, fr74, fr75, fr76, fr77, fr78, fr79, fr80, fr81, fr82, fr83, fr84, fr85, fr86, fr87, fr88, fr89, fr90, fr91, fr92, fr93, fr94, fr95, fr96, fr97, fr98, fr99, fr100, fr101, fr102, fr103, fr104, fr105, fr106, fr107, fr108, fr109, fr110, fr111, fr112, fr113, fr114, fr115, fr116, fr117, fr118, fr119, fr120, fr121, fr122, fr123, fr124, fr125, fr126, fr127, fr128, fr129, fr130, fr131, fr132, fr133, fr134, fr135, fr136, fr137, fr138, fr139, fr140, fr141, fr142, fr143, fr144, fr145, fr146, fr147, fr148, fr149, fr150, fr151, fr152, fr153, fr154, fr155, fr156, fr157, fr158, fr159, fr160, fr161, fr162, fr163, fr164, fr165, fr166, fr167, fr168, fr169, fr170, fr171, fr172, fr173, fr174, fr175, fr176, fr177, fr178, fr179, fr180, fr181, fr182, fr183, fr184, fr185, fr186, fr187, fr188, fr189, fr190, fr191, fr192, fr193, fr194, fr195, fr196, fr197, fr198, fr199, fr200, fr201, fr202, fr203, fr204, fr205, fr206, fr207, fr208, fr209, fr210, fr211, fr212, fr213, fr214, fr215, fr216, fr217, fr218, fr219, fr220, fr221, fr222, fr223, fr224, fr225, fr226, fr227, fr228, fr229, fr230, fr231, fr232, fr233, fr234, fr235, fr236, fr237, fr238, fr239, fr240, fr241, fr242, fr243, fr244, fr245, fr246, fr247, fr248, fr249, fr250, fr251, fr252, fr253, fr254, fr255, fr256, fr257, fr258, fr259, fr260, fr261, fr262, fr263, fr264, fr265, fr266, fr267, fr268, fr269, fr270, fr271, fr272, fr273, fr274, fr275, fr276, fr277], []⟩ wy := by
  conv => arg 2; whnf
  refine wp_region_noPanic ?_
  have HQ := Lib.hid hQ
  clear hQ
  have B5 := Lib.hid hb5
  have B6 := Lib.hid hb6
  have F0 := Lib.hid (show OldF c9 wy wy.drew from ⟨c9, (Stp.refl _ _ _).drew⟩)
  refine wp_region_held_drew (S := S34 yb b2 (.pointer (some ⟨p, 0, none⟩)) (.int .i64 n') (.int .i64 zs) (.int .i64 cl') (.int .i64 hi') (.slice ao' m' cap') (.int .i64 mo') (.int .i64 zs)) (by kernel_rfl) (s34 YX.out B2X.out F0.out) (fun hS0 => ?_)
  have hS := Lib.hid hS0
  clear hS0
  generalize wy.drew = wq0 at F0 hS ⊢
  refine wpH_takeL (i := 0) (v := ?_) rfl (by kernel_rfl) (by kernel_rfl) (by kernel_rfl) (fun _ _ _ h => h) (Or.inl ⟨by rfl, ?_⟩) hS.out ?_
  rotate_left
  · intro wy hSy
    obtain ⟨⟨l0, l1, l2, l3, l4, l5, l6⟩, r1⟩ := hSy
    go_simp
    try with_reducible rfl
  try simp only [Act.put, List.setIfInBounds_toArray, List.set_cons_zero, List.set_cons_succ]
  refine wpH_takeL (i := 2) (v := ?_) rfl (by kernel_rfl) (by kernel_rfl) (by kernel_rfl) (fun _ _ _ h => h) (Or.inl ⟨by rfl, ?_⟩) hS.out ?_
  rotate_left
  · intro wy hSy
    clear hSy
    go_simp
    try with_reducible rfl
  try simp only [Act.put, List.setIfInBounds_toArray, List.set_cons_zero, List.set_cons_succ]
  refine wpH_takeL (i := 3) (v := ?_) rfl (by kernel_rfl) (by kernel_rfl) (by kernel_rfl) (fun _ _ _ h => h) (Or.inl ⟨by rfl, ?_⟩) hS.out ?_
  rotate_left
  · intro wy hSy
    obtain ⟨⟨l0, l1, l2, l3, l4, l5, l6⟩, r1⟩ := hSy
    go_simp
    try with_reducible rfl
  try simp only [Act.put, List.setIfInBounds_toArray, List.set_cons_zero, List.set_cons_succ]
  refine wpH_takeL (i := 4) (v := ?_) rfl (by kernel_rfl) (by kernel_rfl) (by kernel_rfl) (fun _ _ _ h => h) (Or.inl ⟨by rfl, ?_⟩) hS.out ?_
  rotate_left
  · intro wy hSy
    clear hSy
    go_simp
    try with_reducible rfl
  try simp only [Act.put, List.setIfInBounds_toArray, List.set_cons_zero, List.set_cons_succ]
  refine wpAnyH_ready (rs := [1]) (by kernel_rfl) (by simp) (readyH_consL rfl (fun K hK => ?_) AllReadyH.nil)
  go_simp
  go_at_call 40
  refine (F0.out.call (fun c => tdone_any n' zs cl' hi' ao' m' cap' mo' c _ _ B5.out)).mono ?_
  rintro e wq1 ⟨rfl, F1⟩
  go_simp
  refine hK.out _ _ (s34 YX.out B2X.out F1.out) (fun hS1 => ?_)
  clear hK K hS F0
  have hS := Lib.hid hS1
  clear hS1
  try simp only [Act.put, List.setIfInBounds_toArray, List.set_cons_zero, List.set_cons_succ]
  refine wpH_takeL (i := 5) (v := ?_) rfl (by kernel_rfl) (by kernel_rfl) (by kernel_rfl) (fun _ _ _ h => h) (Or.inl ⟨by rfl, ?_⟩) hS.out ?_
  rotate_left
  · intro wy hSy
    clear hSy
    go_simp
    try with_reducible rfl
  try simp only [Act.put, List.setIfInBounds_toArray, List.set_cons_zero, List.set_cons_succ]
  refine wpH_takeL (i := 6) (v := ?_) rfl (by kernel_rfl) (by kernel_rfl) (by kernel_rfl) (fun _ _ _ h => h) (Or.inl ⟨by rfl, ?_⟩) hS.out ?_
  rotate_left
  · intro wy hSy
    clear hSy
    go_simp
    try with_reducible rfl
  try simp only [Act.put, List.setIfInBounds_toArray, List.set_cons_zero, List.set_cons_succ]
  refine wpH_takeL (i := 7) (v := ?_) rfl (by kernel_rfl) (by kernel_rfl) (by kernel_rfl) (fun _ _ _ h => h) (Or.inl ⟨by rfl, ?_⟩) hS.out ?_
  rotate_left
  · intro wy hSy
    obtain ⟨⟨l0, l1, l2, l3, l4, l5, l6⟩, r1⟩ := hSy
    go_simp
    try with_reducible rfl
  try simp only [Act.put, List.setIfInBounds_toArray, List.set_cons_zero, List.set_cons_succ]
  refine wpH_takeL (i := 9) (v := ?_) rfl (by kernel_rfl) (by kernel_rfl) (by kernel_rfl) (fun _ _ _ h => h) (Or.inl ⟨by rfl, ?_⟩) hS.out ?_
  rotate_left
  · intro wy hSy
    clear hSy
    go_simp
    try with_reducible rfl
  try simp only [Act.put, List.setIfInBounds_toArray, List.set_cons_zero, List.set_cons_succ]
  refine wpH_takeL (i := 10) (v := ?_) rfl (by kernel_rfl) (by kernel_rfl) (by kernel_rfl) (fun _ _ _ h => h) (Or.inl ⟨by rfl, ?_⟩) hS.out ?_
  rotate_left
  · intro wy hSy
    obtain ⟨⟨l0, l1, l2, l3, l4, l5, l6⟩, r1⟩ := hSy
    go_simp
    try with_reducible rfl
  try simp only [Act.put, List.setIfInBounds_toArray, List.set_cons_zero, List.set_cons_succ]
  refine wpH_takeL (i := 11) (v := ?_) rfl (by kernel_rfl) (by kernel_rfl) (by kernel_rfl) (fun _ _ _ h => h) (Or.inl ⟨by rfl, ?_⟩) hS.out ?_
  rotate_left
  · intro wy hSy
    clear hSy
    go_simp
    try with_reducible rfl
  try simp only [Act.put, List.setIfInBounds_toArray, List.set_cons_zero, List.set_cons_succ]
  refine wpAnyH_ready (rs := [8]) (by kernel_rfl) (by simp) (readyH_consL rfl (fun K hK => ?_) AllReadyH.nil)
  go_simp
  go_at_call 42
  refine (F1.out.call (fun c => tfull_any (some ⟨p, 0, none⟩) n' zs cl' hi' ao' m' cap' mo' c _ B6.out)).mono ?_
  rintro e wq2 ⟨rfl, F2⟩
  go_simp
  refine hK.out _ _ (s34 YX.out B2X.out F2.out) (fun hS2 => ?_)
  clear hK K hS F1
  have hS := Lib.hid hS2
  clear hS2
  try simp only [Act.put, List.setIfInBounds_toArray, List.set_cons_zero, List.set_cons_succ]
  refine wpH_takeL (i := 12) (v := ?_) rfl (by kernel_rfl) (by kernel_rfl) (by kernel_rfl) (fun _ _ _ h => h) (Or.inl ⟨by rfl, ?_⟩) hS.out ?_
  rotate_left
  · intro wy hSy
    clear hSy
    go_simp
    try with_reducible rfl
  try simp only [Act.put, List.setIfInBounds_toArray, List.set_cons_zero, List.set_cons_succ]
  refine wpH_takeL (i := 13) (v := ?_) rfl (by kernel_rfl) (by kernel_rfl) (by kernel_rfl) (fun _ _ _ h => h) (Or.inl ⟨by rfl, ?_⟩) hS.out ?_
  rotate_left
  · intro wy hSy
    clear hSy
    go_simp
    try with_reducible rfl
  try simp only [Act.put, List.setIfInBounds_toArray, List.set_cons_zero, List.set_cons_succ]
  refine wpH_takeL (i := 14) (v := ?_) rfl (by kernel_rfl) (by kernel_rfl) (by kernel_rfl) (fun _ _ _ h => h) (Or.inl ⟨by rfl, ?_⟩) hS.out ?_
  rotate_left
  · intro wy hSy
    clear hSy
    go_simp
    try with_reducible rfl
  try simp only [Act.put, List.setIfInBounds_toArray, List.set_cons_zero, List.set_cons_succ]
  refine wpH_takeL (i := 15) (v := ?_) rfl (by kernel_rfl) (by kernel_rfl) (by kernel_rfl) (fun _ _ _ h => h) (Or.inl ⟨by rfl, ?_⟩) hS.out ?_
  rotate_left
  · intro wy hSy
    obtain ⟨⟨l0, l1, l2, l3, l4, l5, l6⟩, r1⟩ := hSy
    go_simp
    try with_reducible rfl
  try simp only [Act.put, List.setIfInBounds_toArray, List.set_cons_zero, List.set_cons_succ]
  refine wpH_takeL (i := 17) (v := ?_) rfl (by kernel_rfl) (by kernel_rfl) (by kernel_rfl) (fun _ _ _ h => h) (Or.inl ⟨by rfl, ?_⟩) hS.out ?_
  rotate_left
  · intro wy hSy
    clear hSy
    go_simp
    try with_reducible rfl
  try simp only [Act.put, List.setIfInBounds_toArray, List.set_cons_zero, List.set_cons_succ]
  refine wpAnyH_ready (rs := [16]) (by kernel_rfl) (by simp) (readyH_consL rfl (fun K hK => ?_) AllReadyH.nil)
  go_simp
  go_at_call 48
  refine (F2.out.call (fun c => tlast_l LST.out c _)).mono ?_
  rintro e wq3 ⟨rfl, F3⟩
  go_simp
  refine hK.out _ _ (s34 YX.out B2X.out F3.out) (fun hS3 => ?_)
  clear hK K hS F2
  have hS := Lib.hid hS3
  clear hS3
  try simp only [Act.put, List.setIfInBounds_toArray, List.set_cons_zero, List.set_cons_succ]
  refine wpH_takeL (i := 18) (v := ?_) rfl (by kernel_rfl) (by kernel_rfl) (by kernel_rfl) (fun _ _ _ h => h) (Or.inl ⟨by rfl, ?_⟩) hS.out ?_
  rotate_left
  · intro wy hSy
    clear hSy
    go_simp
    try with_reducible rfl
  try simp only [Act.put, List.setIfInBounds_toArray, List.set_cons_zero, List.set_cons_succ]
  refine wpH_takeL (i := 19) (v := ?_) rfl (by kernel_rfl) (by kernel_rfl) (by kernel_rfl) (fun _ _ _ h => h) (Or.inl ⟨by rfl, ?_⟩) hS.out ?_
  rotate_left
  · intro wy hSy
    clear hSy
    go_simp
    try with_reducible rfl
  try simp only [Act.put, List.setIfInBounds_toArray, List.set_cons_zero, List.set_cons_succ]
  refine wpAnyH_done (by kernel_rfl) ?_ _
  exact HQ.out _ _ _ _ _ _ _ _ _ _ _ _ _ _ _ _ _ _ _ _ F3

end Go.Proofs.YtoifknfmamcimaaDoor

/- The walk of MultiTries. No condition but that the table of math/bits holds what the program lays there. -/
namespace Go.Proofs.YtoifknfmamcimaaDoor
open Go.RowKit

theorem wp_lastT {P : Program} {s : Code} {Q : Exit → Act → World → Prop} {a : Act} {w : World} (h : ∀ K : Act → World → Prop, (∀ a' w', Q .normal a' w' → K a' w') → s.wp P (Exit.then K Q) a w) : s.wp P Q a w :=
  wp_mono (h (Q .normal) (fun _ _ h => h)) (fun e a' w' hq => by cases e <;> exact hq)
theorem tm_w {j : Nat} (h : j ≤ 1000) : wrap64 ((j : Int) + 1) = (j : Int) + 1 := IntWalk.wrap64_in _ (by constructor <;> omega)
theorem tm_meas (m j : Nat) (h : j < m) (hm : j ≤ 1000) : m - (intOf (.int .i64 (wrap64 ((j : Int) + 1)))).toNat < m - (intOf (.int .i64 (j : Int))).toNat := by
  rw [tm_w hm]
  show m - ((j : Int) + 1).toNat < m - (j : Int).toNat
  omega
theorem claim_raised {sh N k : Nat} {lb shown : List Int} (P : POK sh N lb k shown) (n : Int) : Raised N k lb (claimR ⟨sh, 0, 1, 2, gids N k⟩ lb n).1 := by
  refine ⟨claimR_len _ _ _, ?_, fun i _ => by rw [P.claim_drop n]; exact Int.le_refl _⟩
  by_cases h : (claimR ⟨sh, 0, 1, 2, gids N k⟩ lb n).2.2 = 0
  · have := claimR_ok (S := ⟨sh, 0, 1, 2, gids N k⟩) P.ok.sq.cu h
    simp only at this
    omega
  · rw [(claimR_bad h).1]; exact Int.le_refl _
theorem more_endT {w0 : World} {p q bp gp sh N k cn : Nat} {lb : List Int} {x9 : Nat} {z0 z1 : Int} {so : Option Addr} {scap : Nat} {c : Nat → Nat} {w w8 : World} {T : List TT} {lo wo : Option Addr} {lcap wcap : Nat} (hP : POK sh N lb k []) (hk : k < 20) (hz0 : lb.getD 0 0 = z0) (hz1 : lb.getD 1 0 = z1) (hcn : cn = lb.length)
    (hR : LAt w0 p q bp gp sh (lb ++ [z0]) (gids N k ++ [(cn : Int)]) c w8) (hs : In c 12 w8 1 so 0 scap []) (hQ : TRows p T lo lcap wo wcap c w8) (hK : ∀ u ∈ T, TOK sh N k lb u)
    {io' : Option Addr} {icap' : Nat} {go' : Option Addr} {gcap' : Nat}
    (hG : G3 c w8 11 10 (R0 11 3 1 io' (k + 1) icap' ((gids N k).map (Value.int .i64) ++ [.int .i64 (cn : Int)])) (R0 10 2 1 go' (k + 1) gcap' ((lb.drop N).map (Value.int .i64) ++ [.int .i64 z0])) x9 [.int .i64 (2 ^ sh), .int .i64 z0, .int .i64 z0, .slice go' (k + 1) gcap', .int .i64 z1, .int .i64 0, .slice so 0 scap] 67 w) :
    ∃ c' lc, Hid (POK sh N lc (k + 1) []) ∧ Hid (LAt w0 p q bp gp sh lc (gids N (k + 1)) c' w) ∧ Hid (MB x9 (2 ^ sh) (lc.getD 0 0) (lc.getD 1 0) (lc.drop N) (gids N (k + 1)) [] (k + 1) (k + 1) io' icap' go' gcap' so scap c' w) ∧ Hid (TRows p T lo lcap wo wcap c' w) ∧ Hid (∀ u ∈ T, TOK sh N (k + 1) lc u) := by
  obtain ⟨c', t, hi, hg, hm⟩ := hG.ex
  obtain ⟨e0, e1, e2⟩ := hP.more_eq z0
  have hd := hP.drop_more z0
  subst hcn
  rw [e2] at hR
  refine ⟨c', lb ++ [z0], Lib.hid (by rw [← hz0]; exact hP.more hk), Lib.hid (hR.stp9 (t.mono fun _ hj => by omega)), Lib.hid ?_, Lib.hid (hQ.stp t (by decide) (by decide) (by decide)), Lib.hid (fun u hu => by rw [← hz0]; exact (hK u hu).more hP)⟩
  rw [e0, e1, hd, hz0, hz1]
  exact ⟨hm, by simpa [R0] using hg, by rw [← e2]; simpa [R0] using hi, hs.stp t (by decide)⟩

/-- Something done. -/
structure AO where
  kd : Int
  i : Int
  n : Int
def AO.cells (x : AO) : List Value := [.int .i64 x.kd, .int .i64 x.i, .int .i64 x.n]
def AO.ok (x : AO) : Prop := (-9223372036854775808 ≤ x.i ∧ x.i ≤ 9223372036854775807) ∧ -9223372036854775808 ≤ x.n ∧ x.n ≤ 9223372036854775807
theorem AO.len (x : AO) : x.cells.length = 3 := rfl

def TLoop (w0 : World) (x9 p q bp gp sh N m : Nat) (v10 v11 v12 i : Value) (wr : World) : Prop := ∃ j : Nat, i = .int .i64 j ∧ Hid (j ≤ m) ∧ TS w0 x9 p q bp gp sh N j v10 v11 v12 wr
theorem TS.up {w0 : World} {x9 p q bp gp sh N L L' : Nat} {v10 v11 v12 : Value} {wr : World} (h : TS w0 x9 p q bp gp sh N L v10 v11 v12 wr) (hl : L ≤ L') : TS w0 x9 p q bp gp sh N L' v10 v11 v12 wr := by
  obtain ⟨c, k, la, io, icap, go, gcap, so, scap, T, lo, lcap, wo, wcap, h1, h2, h3, h4, h5⟩ := h
  exact ⟨c, k, la, io, icap, go, gcap, so, scap, T, lo, lcap, wo, wcap, h1, h2, h3, Lib.hid (Nat.le_trans h4.out hl), h5⟩

set_option maxRecDepth 100000 in
set_option maxHeartbeats 100000000 in
theorem tries_in (s sh N : Nat) (oo : Option Addr) (m ocap : Nat) (ops : List AO) (w : World) (hsh : s % 7 = sh) (hN : N = 2 + 2 ^ sh) (hm : m ≤ 120)
    (ho : In (fun _ => 0) 0 w 3 oo m ocap (ops.flatMap AO.cells)) (hol : ops.length = m) (hok : ∀ x ∈ ops, x.ok) (ht : Tab w) :
    Calls Tryd.prog 10 #[.int .u8 s, .slice oo m ocap] w fun e w' => e = .returned (.bool true) ∧ Below w.heap.size w w' := by
  have Ho := Lib.hid ho
  have Hol := Lib.hid hol
  have Hok := Lib.hid hok
  have Ht := Lib.hid ht
  have Hm := Lib.hid hm
  have HNN := Lib.hid hN
  have Hsh := Lib.hid (show sh < 7 by omega)
  have t1 : decide ((120 : Int) < (m : Int)) = false := by simp; omega
  have hw2 := wrap_two_pow sh (by omega)
  have hNN : wrap64 (2 ^ (s % 7)) = 2 ^ sh := by rw [hsh, hw2]
  clear ho hol hok ht hm hN hw2 hsh
  obtain ⟨q, hq⟩ : ∃ q, q = w.heap.size := ⟨_, rfl⟩
  go_enter Tryd.func10, Tryd.ntmps10
  go_wp2_with fail
  refine (new_any (fun _ => 0) 2 _).mono ?_
  rintro e w1 ⟨rfl, c1, s1, h1⟩
  have S1 := Lib.hid (s1.up (by decide))
  have A1 := Lib.hid (show ArenaAt c1 2 w1 q [] 0 by rw [hq]; exact h1)
  have T1 := Lib.hid (Ht.out.stp s1 (by decide))
  rw [← hq]
  clear hq s1 h1
  go_wp2_with fail
  try simp only [hNN]
  clear hNN
  refine (mnew_ok A1.out sh (by have := Hsh.out; omega) (by have := two_pow_bd sh (by have := Hsh.out; omega); simp; omega) T1.out (m := 2 ^ sh) rfl).mono ?_
  rintro e w2 ⟨p, bp, gp, rfl, c2, s2, h2, q2⟩
  obtain ⟨la, hla⟩ : ∃ la : List Int, la = -1 :: -1 :: List.replicate (2 ^ sh) (-1) := ⟨_, rfl⟩
  have R2 := Lib.hid (show LAt w p q bp gp sh la (gids N 0) c2 w2 from by rw [hla]; exact ⟨S1.out.trans (s2.up (by decide)), ⟨_, h2⟩, q2⟩)
  have P2 := Lib.hid (show POK sh N la 0 [] from by rw [hla]; exact POK.start Hsh.out HNN.out)
  have Z0 := Lib.hid (show la.getD 0 0 = -1 by rw [hla]; rfl)
  have Z1 := Lib.hid (show la.getD 1 0 = -1 by rw [hla]; rfl)
  have ZD := Lib.hid (show la.drop N = [] by rw [hla]; exact List.drop_eq_nil_of_le (by have := HNN.out; simp; omega))
  clear s2 h2 q2 S1 A1 T1 hla
  go_wp2_with fail
  refine (r10new_any c2 _ (2 ^ sh)).mono ?_
  rintro e w3 ⟨rfl, c3, t3⟩
  obtain ⟨x9, hx9⟩ : ∃ x, x = w3.heap.size := ⟨_, rfl⟩
  obtain ⟨c4, hc4, T4⟩ := ((Stp.refl (fun _ => False) c3 w3).alloc (.cells #[.int .i64 (2 ^ sh), .int .i64 (-1), .int .i64 (-1), .slice none 0 0, .int .i64 (-1), .int .i64 0, .slice none 0 0] 67) 9).name
  have R4 := Lib.hid ((R2.out.stpF t3).stpF T4.out)
  have M4 := Lib.hid (show MB x9 (2 ^ sh) (la.getD 0 0) (la.getD 1 0) (la.drop N) (gids N 0) [] 0 0 none 0 none 0 none 0 c4 (w3.alloc (.cells #[.int .i64 (2 ^ sh), .int .i64 (-1), .int .i64 (-1), .slice none 0 0, .int .i64 (-1), .int .i64 0, .slice none 0 0] 67)) from by
    rw [Z0.out, Z1.out, ZD.out]
    exact ⟨by rw [hc4.out, hx9]; exact Blk.new c3 9 w3 _ _, Row.nil _ _ _ _ _, Row.nil _ _ _ _ _, In.nil _ _ _ _ _⟩)
  clear t3 hc4 T4 R2 Z0 Z1 ZD
  go_wp2_with fail
  rw [← hx9]
  clear hx9
  go_loopw [10, 11, 12, 56] (fun v10 v11 v12 i wr => TLoop w x9 p q bp gp sh N m v10 v11 v12 i wr) (fun _ _ _ i _ => m - (intOf i).toNat)
  case atStart => exact ⟨0, rfl, Lib.hid (Nat.zero_le _), c4, 0, la, none, 0, none, 0, none, 0, [], none, 0, none, 0, rfl, rfl, rfl, Lib.hid (Nat.le_refl _), P2, R4, M4, Lib.hid (TRows.start p _ _), Lib.hid (fun _ h => by cases h)⟩
  case round =>
    obtain ⟨j, rfl, Hj, c5, k, lb, io, icap, go, gcap, so, scap, T, lo, lcap, wo, wcap, rfl, rfl, rfl, HT, P, R, M, Q, K⟩ := hrel
    clear R4 P2 M4
    by_cases hlt : j < m
    · obtain ⟨x, hx⟩ : ∃ x, ops[j]? = some x := ⟨_, List.getElem?_eq_getElem (show j < ops.length by rw [Hol.out]; exact hlt)⟩
      have hInr := Ho.out.stp R.out.st (by decide)
      obtain ⟨a, ha, y0⟩ := hInr.field (fun x => AO.len x) hx (f := 0) (v := .int .i64 x.kd) rfl
      obtain ⟨a1, ha1, y1⟩ := hInr.field (fun x => AO.len x) hx (f := 1) (v := .int .i64 x.i) rfl
      obtain ⟨a2, ha2, y2⟩ := hInr.field (fun x => AO.len x) hx (f := 2) (v := .int .i64 x.n) rfl
      subst ha
      cases ha1
      cases ha2
      have z1 : wr.cell? ⟨(a.add (j * 3)).block, (a.add (j * 3)).off + 1, none⟩ = some (.int .i64 x.i) := by rw [← add_add'] at y1; exact y1
      have z2 : wr.cell? ⟨(a.add (j * 3)).block, (a.add (j * 3)).off + 2, none⟩ = some (.int .i64 x.n) := by rw [← add_add'] at y2; exact y2
      rw [Nat.add_zero] at y0
      have hxo := Hok.out x (List.mem_of_getElem? hx)
      clear hInr hx y1 y2
      obtain ⟨kd, xi, xn⟩ := x
      simp only at y0 z1 z2
      have XO := Lib.hid (show (-9223372036854775808 ≤ xi ∧ xi ≤ 9223372036854775807) ∧ -9223372036854775808 ≤ xn ∧ xn ≤ 9223372036854775807 from hxo)
      clear hxo
      obtain ⟨xb, hxb⟩ : ∃ x, x = wr.heap.size := ⟨_, rfl⟩
      obtain ⟨c6, hc6, T6⟩ := ((Stp.refl (fun _ => False) c5 wr).alloc (.cells #[.int .i64 kd, .int .i64 xi, .int .i64 xn] 71) 15).name
      have R6 := Lib.hid (R.out.stpF T6.out)
      have M6 := Lib.hid (M.out.stpF T6.out)
      have Q6 := Lib.hid (Q.out.stpF T6.out)
      have X6 := Lib.hid (show Blk c6 15 (wr.alloc (.cells #[.int .i64 kd, .int .i64 xi, .int .i64 xn] 71)) xb [.int .i64 kd, .int .i64 xi, .int .i64 xn] 71 by rw [hc6.out, hxb]; exact Blk.new c5 15 wr _ _)
      have Hlt := Lib.hid hlt
      have J120 := Lib.hid (show j < 120 by have := Hm.out; omega)
      have W8 := tm_w (j := j) (by have := J120.out; omega)
      clear hc6 T6 R M Q
      go_upto_region 15 with fail
      obtain ⟨wb, hwb⟩ : ∃ wb : World, wb = wr.alloc (.cells #[.int .i64 kd, .int .i64 xi, .int .i64 xn] 71) := ⟨_, rfl⟩
      rw [← hwb] at R6 M6 Q6 X6 ⊢
      rw [← hxb]
      clear hwb hxb y0 z1 z2
      obtain ⟨q0, q1, q2, lxb⟩ := act_cells X6.out
      have SAME := Lib.hid (show TS w x9 p q bp gp sh N (j + 1) (.slice io k icap) (.slice lo T.length lcap) (.slice wo T.length wcap) wb from ⟨c6, k, lb, io, icap, go, gcap, so, scap, T, lo, lcap, wo, wcap, rfl, rfl, rfl, Lib.hid (Nat.le_succ_of_le HT.out), P, R6, M6, Q6, K⟩)
      go_upto_block 2 with fail
      go_cut [10, 11, 12] (fun v10 v11 v12 wx => TS w x9 p q bp gp sh N (j + 1) v10 v11 v12 wx)
      case first =>
        by_cases h0 : kd = 0
        · subst h0
          as_aux_lemma =>
          by_cases hb : xn < 1 ∨ 2 ^ sh < xn
          · have hd : decide (xn < 1) = true ∨ (decide (xn < 1) = false ∧ decide ((2 : Int) ^ sh < xn) = true) := by
              by_cases h1 : xn < 1
              · exact .inl (by simpa using h1)
              · exact .inr ⟨by simpa using h1, by simp; omega⟩
            have HB := Lib.hid hb
            have A6 := Lib.hid (TA.mk R6.out M6.out Q6.out)
            clear hb SAME R6 M6 Q6
            go_wp2_with fail
            refine (mtry_not A6.out.r.sq xn HB.out).mono ?_
            rintro e w7 ⟨et, ev, rfl, c7, t7, e7⟩
            obtain ⟨yb, hyb⟩ : ∃ y, y = w7.heap.size := ⟨_, rfl⟩
            obtain ⟨c8, hc8, t8⟩ := (t7.alloc (.cells #[.pointer none, .int .i64 0, .int .i64 0, .int .i64 0, .int .i64 0, .slice none 0 0, .int .i64 0] 73) 15).name
            have E8 := Lib.hid (show ErrAt c8 (w7.alloc (.cells #[.pointer none, .int .i64 0, .int .i64 0, .int .i64 0, .int .i64 0, .slice none 0 0, .int .i64 0] 73)) (.iface et ev) 1 from by rw [hc8.out]; exact e7.stp ((Stp.refl (fun _ => False) c7 w7).alloc _ 15) id)
            have A8 := Lib.hid (A6.out.stpF t8)
            have X8 := Lib.hid (X6.out.stp t8 id)
            have Y8 := Lib.hid (show Blk c8 15 (w7.alloc (.cells #[.pointer none, .int .i64 0, .int .i64 0, .int .i64 0, .int .i64 0, .slice none 0 0, .int .i64 0] 73)) yb [.pointer none, .int .i64 0, .int .i64 0, .int .i64 0, .int .i64 0, .slice none 0 0, .int .i64 0] 73 by rw [hc8.out, hyb]; exact Blk.new c7 15 w7 _ _)
            have X7 := X6.out.stp t7 id
            clear q0 q1 q2 lxb
            obtain ⟨q0, q1, q2, lxb⟩ := act_cells X7
            clear hc8 t8 t7 e7 A6 X6 X7
            go_upto_region 18 with fail
            rw [← hyb]
            generalize w7.alloc (.cells #[.pointer none, .int .i64 0, .int .i64 0, .int .i64 0, .int .i64 0, .slice none 0 0, .int .i64 0] 73) = w8 at E8 A8 X8 Y8 ⊢
            clear hyb q0 q1 q2 lxb
            obtain ⟨q0, q1, q2, lxb⟩ := act_cells X8.out
            obtain ⟨b0, b1, b2, b3, b4, b5, b6⟩ := blk_7 Y8.out
            rcases hd with d1 | ⟨d1, d2⟩
            all_goals
              go_wp2_with fail
              refine (lawis (.inr ⟨by decide, E8.out⟩) 1).mono ?_
              rintro e wx ⟨rfl, rfl⟩
              go_wp2_with fail
              refine (tdone_nil 0 0 0 0 none 0 0 0 c8 _).mono ?_
              rintro e w9 ⟨rfl, c9, t9⟩
              have A9 := Lib.hid (A8.out.stpF t9)
              have Y9 := Lib.hid (Y8.out.stp t9 id)
              clear t9 A8 E8 Y8 X8 q0 q1 q2 lxb b0 b1 b2 b3 b4 b5 b6
              obtain ⟨b0, b1, b2, b3, b4, b5, b6⟩ := blk_7 Y9.out
              go_wp2_with fail
              refine (tlast_any none 0 0 0 0 none 0 0 0 c9 _).mono ?_
              rintro e w10 ⟨rfl, c10, t10⟩
              have FIN := Lib.hid ((A9.out.stpF t10).ts (Nat.le_succ_of_le HT.out) P.out K.out)
              clear t10 A9 Y9 b0 b1 b2 b3 b4 b5 b6
              go_wp2
              go_roundw
              case rel => exact ⟨j + 1, by go_num, Lib.hid Hlt.out, FIN.out⟩
              case measure => exact tm_meas m j Hlt.out (Nat.le_trans (Nat.le_of_lt J120.out) (by decide))
          · have H1 := Lib.hid (show 1 ≤ xn ∧ xn ≤ 2 ^ sh by omega)
            have d1 : decide (xn < 1) = false := by simp; omega
            have d2 : decide ((2 : Int) ^ sh < xn) = false := by simp; omega
            have b63 := Lib.hid (show T.length + 1 ≤ maxLen by have := HT.out; have := J120.out; unfold maxLen; omega)
            have bby := Lib.hid (show (T.length + 1) * 72 ≤ 140737488355328 by have := HT.out; have := J120.out; omega)
            have bbz := Lib.hid (show (T.length + 1) * 56 ≤ 140737488355328 by have := HT.out; have := J120.out; omega)
            have A6 := Lib.hid (TA.mk R6.out M6.out Q6.out)
            clear hb SAME R6 M6 Q6
            go_wp2_with fail
            refine (mtry_ok A6.out.r.sq xn H1.out.1 H1.out.2).mono ?_
            rintro e w7 ⟨rfl, c7, t7⟩
            obtain ⟨yb, hyb⟩ : ∃ y, y = w7.heap.size := ⟨_, rfl⟩
            obtain ⟨c8, hc8, t8⟩ := (t7.alloc (.cells #[.pointer (some ⟨p, 0, none⟩), .int .i64 xn, .int .i64 0, .int .i64 0, .int .i64 0, .slice none 0 0, .int .i64 0] 73) 15).name
            have A8 := Lib.hid (A6.out.stpF t8)
            have X8 := Lib.hid (X6.out.stp t8 id)
            have Y8 := Lib.hid (show Blk c8 15 (w7.alloc (.cells #[.pointer (some ⟨p, 0, none⟩), .int .i64 xn, .int .i64 0, .int .i64 0, .int .i64 0, .slice none 0 0, .int .i64 0] 73)) yb [.pointer (some ⟨p, 0, none⟩), .int .i64 xn, .int .i64 0, .int .i64 0, .int .i64 0, .slice none 0 0, .int .i64 0] 73 by rw [hc8.out, hyb]; exact Blk.new c7 15 w7 _ _)
            have X7 := X6.out.stp t7 id
            clear q0 q1 q2 lxb
            obtain ⟨q0, q1, q2, lxb⟩ := act_cells X7
            clear hc8 t8 t7 A6 X6 X7
            go_upto_region 18 with fail
            rw [← hyb]
            generalize w7.alloc (.cells #[.pointer (some ⟨p, 0, none⟩), .int .i64 xn, .int .i64 0, .int .i64 0, .int .i64 0, .slice none 0 0, .int .i64 0] 73) = w8 at A8 X8 Y8 ⊢
            clear hyb q0 q1 q2 lxb
            obtain ⟨q0, q1, q2, lxb⟩ := act_cells X8.out
            obtain ⟨b0, b1, b2, b3, b4, b5, b6⟩ := blk_7 Y8.out
            go_wp2_with fail
            refine (tdone_any xn 0 0 0 none 0 0 0 c8 _ _ (b := false) rfl).mono ?_
            rintro e w9 ⟨rfl, c9, t9⟩
            have A9 := Lib.hid (A8.out.stpF t9)
            have Y9 := Lib.hid (Y8.out.stp t9 id)
            have X9 := Lib.hid (X8.out.stp t9 id)
            clear t9 A8 Y8 X8 q0 q1 q2 lxb b0 b1 b2 b3 b4 b5 b6 d1 d2
            obtain ⟨q0, q1, q2, lxb⟩ := act_cells X9.out
            obtain ⟨b0, b1, b2, b3, b4, b5, b6⟩ := blk_7 Y9.out
            obtain ⟨z0, hz0⟩ : ∃ z, lb.getD 0 0 = z := ⟨_, rfl⟩
            obtain ⟨z1, hz1⟩ : ∃ z, lb.getD 1 0 = z := ⟨_, rfl⟩
            have HZ := Lib.hid (And.intro hz0 hz1)
            have GG := Lib.hid A9.out.g3
            rw [hz0, hz1] at GG
            clear hz0 hz1
            go_upto_region 23 with fail
            refine Tryd.r23 GG Y9 X9 b63 bby bbz (fun ao1 cap1 ao2 cap2 wE _ _ _ _ _ _ _ _ _ _ GE => ?_)
            obtain ⟨ce, AE⟩ := A9.out.append (u := TT.new xn) (fun c w => In.nil _ _ _ _ _) (by rw [HZ.out.1, HZ.out.2]; exact GE.out)
            have FIN := Lib.hid (AE.ts (L := j + 1) (by rw [List.length_append, List.length_singleton]; exact Nat.succ_le_succ HT.out) P.out (fun v hv => by
              rcases List.mem_append.1 hv with hv | hv
              · exact K.out v hv
              · rw [List.mem_singleton] at hv; subst hv; exact TOK.new H1.out.1 H1.out.2))
            rw [List.length_append, List.length_singleton] at FIN
            clear GE GG A9 Y9 X9 AE q0 q1 q2 lxb b0 b1 b2 b3 b4 b5 b6
            go_wp2
            go_meet
            exact FIN.out
        · by_cases h1 : kd = 1
          · subst h1
            clear h0
            as_aux_lemma =>
            by_cases hb : xi < 0 ∨ (T.length : Int) ≤ xi
            · have hd : decide (xi < 0) = true ∨ (decide (xi < 0) = false ∧ decide ((T.length : Int) ≤ xi) = true) := by
                by_cases h1 : xi < 0
                · exact .inl (by simpa using h1)
                · exact .inr ⟨by simpa using h1, by simp; omega⟩
              clear hb R6 M6 Q6
              rcases hd with d1 | ⟨d1, d2⟩
              all_goals
                go_wp2
                go_roundw
                case rel => exact ⟨j + 1, by go_num, Lib.hid Hlt.out, SAME.out⟩
                case measure => exact tm_meas m j Hlt.out (Nat.le_trans (Nat.le_of_lt J120.out) (by decide))
            · clear SAME
              obtain ⟨i, rfl⟩ : ∃ i : Nat, xi = (i : Int) := ⟨xi.toNat, by omega⟩
              have hi : i < T.length := by omega
              have i0 : (0 : Int) ≤ (i : Int) := by omega
              have i1 : (i : Int) < (T.length : Int) := by omega
              have d1 : decide ((i : Int) < 0) = false := by simp
              have d2 : decide ((T.length : Int) ≤ (i : Int)) = false := by simp; omega
              obtain ⟨u, hu⟩ : ∃ u, T[i]? = some u := ⟨_, List.getElem?_eq_getElem hi⟩
              have HU := Lib.hid hu
              have KU := Lib.hid (K.out u (List.mem_of_getElem? hu))
              have IU := Lib.hid (Q6.out.is u (List.mem_of_getElem? hu))
              obtain ⟨⟨un, ust, ucl, uhi, uids, umo⟩, uao, ucap, urd, uout⟩ := u
              obtain ⟨a, ha, -, hab, ⟨l0, l1, l2, l3, l4, l5, l6⟩, -⟩ := Row.cells7a (TT.lc_len p) Q6.out.lr hu (v0 := .pointer (some ⟨p, 0, none⟩)) (v1 := .int .i64 un) (v2 := .int .i64 (ust : Int)) (v3 := .int .i64 ucl) (v4 := .int .i64 uhi) (v5 := .slice uao uids.length ucap) (v6 := .int .i64 umo) rfl
              obtain ⟨b, hb', -, hbb, ⟨r0, r1, r2, r3, r4, r5, r6⟩, -⟩ := Row.cells7a TT.rc_len Q6.out.wr hu (v0 := .int .i64 un) (v1 := .int .i64 (ust : Int)) (v2 := .int .i64 ucl) (v3 := .int .i64 uhi) (v4 := .int .i64 umo) (v5 := .int .i64 (urd : Int)) (v6 := .int .i64 (uout : Int)) rfl
              subst ha hb'
              obtain ⟨z0, hz0⟩ : ∃ z, lb.getD 0 0 = z := ⟨_, rfl⟩
              obtain ⟨z1, hz1⟩ : ∃ z, lb.getD 1 0 = z := ⟨_, rfl⟩
              have HZ := Lib.hid (And.intro hz0 hz1)
              have M6z := M6.out
              rw [hz0, hz1] at M6z
              have M6' := Lib.hid M6z
              clear M6z hz0 hz1 M6
              clear hb hu r0 r1 r2 r3 r4 r5 r6 hbb
              go_upto_region 26 with fail
              go_wp2_with fail
              refine (ustep_d R6.out P.out KU.out IU.out).mono ?_
              rintro e w7 ⟨la', n', st', cl', hi', ids', mo', ao', m', cap', rd', out', er, zs, ev, c7, rfl, ZS, ML, EU, PN, KV, RA, DR, T7, R7, I7, E7⟩
              have M7 := Lib.hid (M6'.out.stp T7.out (by decide) (by decide) (by decide) (by decide))
              have Q7 := Lib.hid (Q6.out.stp T7.out (by decide) (by decide) (by decide))
              have X7 := Lib.hid (X6.out.stp T7.out (by decide))
              clear T7 M6' Q6 X6 R6 IU q0 q1 q2 lxb l0 l1 l2 l3 l4 l5 l6 hab
              obtain ⟨yb, hyb⟩ : ∃ y, y = w7.heap.size := ⟨_, rfl⟩
              obtain ⟨c8, hc8, t8⟩ := ((Stp.refl (fun _ => False) c7 w7).alloc (.cells #[.pointer (some ⟨p, 0, none⟩), .int .i64 n', .int .i64 zs, .int .i64 cl', .int .i64 hi', .slice ao' m' cap', .int .i64 mo'] 73) 15).name
              have R8 := Lib.hid (R7.out.stpF t8.out)
              have M8 := Lib.hid (M7.out.stpF t8.out)
              have Q8 := Lib.hid (Q7.out.stpF t8.out)
              have X8 := Lib.hid (X7.out.stp t8.out id)
              have I8 := Lib.hid (I7.out.stp t8.out id)
              have E8 := Lib.hid (E7.out.stp t8.out id)
              have Y8 := Lib.hid (show Blk c8 15 (w7.alloc (.cells #[.pointer (some ⟨p, 0, none⟩), .int .i64 n', .int .i64 zs, .int .i64 cl', .int .i64 hi', .slice ao' m' cap', .int .i64 mo'] 73)) yb [.pointer (some ⟨p, 0, none⟩), .int .i64 n', .int .i64 zs, .int .i64 cl', .int .i64 hi', .slice ao' m' cap', .int .i64 mo'] 73 by rw [hc8.out, hyb]; exact Blk.new c7 15 w7 _ _)
              clear hc8 t8 R7 M7 Q7 X7 I7 E7
              go_upto_region 27 with fail
              rw [← hyb]
              generalize w7.alloc (.cells #[.pointer (some ⟨p, 0, none⟩), .int .i64 n', .int .i64 zs, .int .i64 cl', .int .i64 hi', .slice ao' m' cap', .int .i64 mo'] 73) = w8 at R8 M8 Q8 X8 I8 E8 Y8 ⊢
              clear hyb
              obtain ⟨y0, hy0⟩ : ∃ z, la'.getD 0 0 = z := ⟨_, rfl⟩
              obtain ⟨y1, hy1⟩ : ∃ z, la'.getD 1 0 = z := ⟨_, rfl⟩
              have HY := Lib.hid (And.intro hy0 hy1)
              clear hy0 hy1
              refine Tryd.r27 P KU M8 X8 Q8 HU HZ ZS HY EU i0 i1 (fun b1 b2 wx _ _ _ _ _ _ _ _ _ _ _ D9 => ?_)
              obtain ⟨c9, t9, ⟨hb1, -⟩, ⟨hb2, -⟩⟩ := D9.out.ex
              have B1 := Lib.hid hb1
              have B2 := Lib.hid hb2
              have R9 := Lib.hid (R8.out.stpF t9)
              have M9 := Lib.hid (M8.out.stpF t9)
              have Q9 := Lib.hid (Q8.out.stpF t9)
              have X9 := Lib.hid (X8.out.stp t9 id)
              have I9 := Lib.hid (I8.out.stp t9 id)
              have E9 := Lib.hid (E8.out.stp t9 id)
              have Y9 := Lib.hid (Y8.out.stp t9 id)
              clear t9 hb1 hb2 D9 R8 M8 Q8 X8 I8 E8 Y8
              go_wp2_with fail
              refine (lawis E9.out er).mono ?_
              rintro e w9 ⟨rfl, hw9⟩
              subst hw9
              go_upto_region 30 with fail
              have HLC := Lib.hid (show TT.lc p ⟨⟨n', st', cl', hi', ids', mo'⟩, ao', cap', rd', out'⟩ = [.pointer (some ⟨p, 0, none⟩), .int .i64 n', .int .i64 zs, .int .i64 cl', .int .i64 hi', .slice ao' m' cap', .int .i64 mo'] by rw [ZS.out, ML.out]; rfl)
              have HRC := Lib.hid (show TT.rc ⟨⟨n', st', cl', hi', ids', mo'⟩, ao', cap', rd', out'⟩ = [.int .i64 n', .int .i64 zs, .int .i64 cl', .int .i64 hi', .int .i64 mo', .int .i64 (rd' : Int), .int .i64 (out' : Int)] by rw [ZS.out]; rfl)
              refine Tryd.r30 B1 Y9 B2 X9 HU HLC HRC M9 Q9 i0 i1 (fun wy _ _ _ _ _ _ _ _ _ _ _ GY => ?_)
              have TX := Lib.hid (G30.ta (u' := ⟨⟨n', st', cl', hi', ids', mo'⟩, ao', cap', rd', out'⟩) R9.out M9.out Q9.out (by have := I9.out; rw [ML.out] at this; exact this) DR.out HY.out.1 HY.out.2 GY.out)
              have YX := Lib.hid (Y9.out.stp GY.out.t (by decide))
              have B2X := Lib.hid (B2.out.stp GY.out.t (by decide))
              have KN := Lib.hid (show ∀ v ∈ T.set i ⟨⟨n', st', cl', hi', ids', mo'⟩, ao', cap', rd', out'⟩, TOK sh N k la' v from fun v hv => by
                rcases List.mem_or_eq_of_mem_set hv with hv | rfl
                · exact (K.out v hv).raised RA.out
                · exact KV.out)
              clear R9 M9 Q9 X9 I9 E9 Y9 B1 B2 GY K KV RA DR HY HZ EU KU HLC HRC P
              obtain ⟨r0, r1, r2, r3, r4, r5, r6⟩ := cl_7 B2X.out
              obtain ⟨b5, hb5⟩ : ∃ x, decide (5 ≤ zs) = x := ⟨_, rfl⟩
              obtain ⟨b6, hb6⟩ : ∃ x, (zs == 6) = x := ⟨_, rfl⟩
              have B5 := Lib.hid hb5
              have B6 := Lib.hid hb6
              clear hb5 hb6
              have hz : ((zs == 5) = true ∧ Hid ((if zs = 5 then hi' else -1) = hi')) ∨ ((zs == 5) = false ∧ Hid ((if zs = 5 then hi' else -1) = -1)) := by
                by_cases h : zs = 5
                · exact .inl ⟨by simp [h], Lib.hid (if_pos h)⟩
                · exact .inr ⟨by simp [h], Lib.hid (if_neg h)⟩
              rcases hz with ⟨z5, LST⟩ | ⟨z5, LST⟩
              all_goals
                go_upto_region 34 with fail
                clear r0 r1 r2 r3 r4 r5 r6
                refine Tryd.r34 YX B2X LST B5.out B6.out (fun wz _ _ _ _ _ _ _ _ _ _ _ _ _ _ _ _ _ _ _ FZ => ?_)
                obtain ⟨cz, tz⟩ := FZ.out
                have FIN := Lib.hid ((TX.out.stpF tz).ts (L := j + 1) (by rw [List.length_set]; exact Nat.le_succ_of_le HT.out) PN.out KN.out)
                rw [List.length_set] at FIN
                clear tz TX FZ
                go_wp2
                go_meet
                exact FIN.out
          · by_cases h2 : kd = 2
            · subst h2
              clear h0 h1
              as_aux_lemma =>
              clear SAME
              go_wp2_with fail
              refine (held_c R6.out M6.out P.out xn).mono ?_
              rintro e w7 ⟨rfl, c7, lc, t7, pc, rc, r7, m7⟩
              have TT7 := Lib.hid (show TS w x9 p q bp gp sh N (j + 1) (.slice io k icap) (.slice lo T.length lcap) (.slice wo T.length wcap) w7 from ⟨c7, k, lc, io, icap, go, gcap, so, scap, T, lo, lcap, wo, wcap, rfl, rfl, rfl, Lib.hid (Nat.le_succ_of_le HT.out), Lib.hid pc, Lib.hid r7, Lib.hid m7, Lib.hid (Q6.out.stp t7 (by unfold JH; omega) (by unfold JH; omega) (by unfold JH; omega)), Lib.hid (fun u hu => (K.out u hu).raised rc)⟩)
              clear t7 pc rc r7 m7 R6 M6 Q6 P K
              go_wp2
              go_meet
              exact TT7.out
            · by_cases h3 : kd = 3
              · subst h3
                clear h0 h1 h2
                as_aux_lemma =>
                by_cases hk : k < 20
                · have kk : decide ((20 : Int) ≤ (k : Int)) = false := by simp; omega
                  have KL := Lib.hid hk
                  have b63 := Lib.hid (show k + 1 ≤ maxLen by unfold maxLen; omega)
                  have bby := Lib.hid (show (k + 1) * 8 ≤ 140737488355328 by omega)
                  obtain ⟨cn, hcn⟩ : ∃ cn, cn = lb.length := ⟨_, rfl⟩
                  have CN := Lib.hid hcn
                  have HD1 := Lib.hid (show cn ≤ 86 by rw [hcn]; exact P.out.ok.max.1)
                  have HD2 := Lib.hid (show (cn : Int) ∉ gids N k by intro hx; obtain ⟨i, hi, he⟩ := gids_mem hx; have := P.out.len; omega)
                  have HD3 := Lib.hid (show (gids N k).length < 20 by rw [gids_len]; exact hk)
                  have OKE := Lib.hid P.out.ok
                  obtain ⟨z0, hz0⟩ : ∃ z, lb.getD 0 0 = z := ⟨_, rfl⟩
                  obtain ⟨z1, hz1⟩ : ∃ z, lb.getD 1 0 = z := ⟨_, rfl⟩
                  have HZ := Lib.hid (And.intro hz0 hz1)
                  have M6z := M6.out
                  rw [hz0, hz1] at M6z
                  have M6' := Lib.hid M6z
                  clear hk M6z
                  clear M6
                  obtain ⟨⟨m0, m1, m2, m3, m4, m5, m6⟩, -, lm⟩ := M6'.out.xs
                  clear hz0 hz1 SAME
                  go_wp2_with fail
                  refine (R6.out.alloc OKE.out z0).mono ?_
                  rintro e w7 ⟨rfl, c7, t7, r7⟩
                  rw [← CN.out]
                  have M7 := Lib.hid (M6'.out.stp t7 (by decide) (by decide) (by decide) (by decide))
                  have Q7 := Lib.hid (Q6.out.stp t7 (by decide) (by decide) (by decide))
                  have R7 := Lib.hid r7
                  clear t7 r7 M6' R6 Q6 m0 m1 m2 m3 m4 m5 m6 lm q0 q1 q2 lxb X6 hcn
                  go_wp2_with fail
                  refine (R7.out.gate).mono ?_
                  rintro e w7' ⟨rfl, rfl⟩
                  go_wp2_with fail
                  refine (R7.out.add cn HD1.out HD2.out HD3.out).mono ?_
                  rintro e w8 ⟨rfl, c8, t8, r8⟩
                  have R8 := Lib.hid r8
                  have M8 := Lib.hid (M7.out.stp t8 (by decide) (by decide) (by decide) (by decide))
                  have Q8 := Lib.hid (Q7.out.stp t8 (by decide) (by decide) (by decide))
                  clear t8 r8 M7 R7 Q7
                  have GG := Lib.hid M8.out.g3
                  obtain ⟨m1, m3, f3, lm⟩ := M8.out.g3.m
                  have IN8 := Lib.hid M8.out.sr
                  clear M8
                  go_upto_region 44 with fail
                  refine Tryd.r44 GG b63 bby (fun ao1 cap1 ao2 cap2 wE _ _ _ _ _ _ _ _ _ _ _ _ _ _ GE => ?_)
                  obtain ⟨ce, le, PE, RE, ME, QE, KE⟩ := more_endT P.out KL.out HZ.out.1 HZ.out.2 CN.out R8.out IN8.out Q8.out K.out GE.out
                  clear GE GG R8 IN8 Q8 m1 m3 f3 lm
                  go_wp2
                  go_meet
                  exact ⟨ce, k + 1, le, ao1, cap1, ao2, cap2, so, scap, T, lo, lcap, wo, wcap, rfl, rfl, rfl, Lib.hid (Nat.le_succ_of_le HT.out), PE, RE, ME, QE, KE⟩
                · have kk : decide ((20 : Int) ≤ (k : Int)) = true := by simp; omega
                  clear hk
                  go_wp2
                  go_roundw
                  case rel => exact ⟨j + 1, by go_num, Lib.hid Hlt.out, SAME.out⟩
                  case measure => exact tm_meas m j Hlt.out (Nat.le_trans (Nat.le_of_lt J120.out) (by decide))
              · by_cases h5 : kd = 5
                · subst h5
                  clear h0 h1 h2 h3
                  as_aux_lemma =>
                  clear SAME
                  go_wp2_with fail
                  refine (R6.out.claim P.out.ok xn).mono ?_
                  rintro e w7 ⟨ev, rfl, c7, t7, r7, hev⟩
                  have P7 := Lib.hid (P.out.claim xn)
                  have D7 := Lib.hid (P.out.claim_drop xn)
                  have RA := Lib.hid (claim_raised P.out xn)
                  have CE := Lib.hid (M6.out.stp t7 (by decide) (by decide) (by decide) (by decide))
                  have QE := Lib.hid (Q6.out.stp t7 (by decide) (by decide) (by decide))
                  have X7 := Lib.hid (X6.out.stp t7 (by decide))
                  have HEV := Lib.hid (show Err c7 w7 ev (claimR ⟨sh, 0, 1, 2, gids N k⟩ lb xn).2.2 from by
                    rcases hev with ⟨h1, h2⟩ | ⟨h1, -, h2⟩
                    · exact .inl ⟨h1, h2⟩
                    · exact .inr ⟨h1, h2⟩)
                  have R7 := Lib.hid r7
                  clear t7 r7 hev q0 q1 q2 lxb R6 M6 Q6 X6
                  obtain ⟨q0, q1, q2, lxb⟩ := act_cells X7.out
                  obtain ⟨⟨m0, m1, m2, m3, m4, m5, m6⟩, -, lm⟩ := CE.out.xs
                  go_wp2_with fail
                  refine (CE.out.rclaim P.out xn XO.out.2.2).mono ?_
                  rintro e w9 ⟨rfl, c9, t9⟩
                  obtain ⟨CR, hCR⟩ : ∃ CR, CR = claimR ⟨sh, 0, 1, 2, gids N k⟩ lb xn := ⟨_, rfl⟩
                  rw [← hCR] at P7 D7 RA R7 HEV ⊢
                  clear hCR
                  obtain ⟨lc, v, er⟩ := CR
                  simp only at P7 D7 RA R7 HEV ⊢
                  obtain ⟨z0, hz0⟩ : ∃ z, lc.getD 0 0 = z := ⟨_, rfl⟩
                  obtain ⟨z1, hz1⟩ : ∃ z, lc.getD 1 0 = z := ⟨_, rfl⟩
                  have HZ := Lib.hid (And.intro hz0 hz1)
                  rw [hz0, hz1]
                  clear hz0 hz1
                  have M9 := Lib.hid (CE.out.stpF t9)
                  have Q9 := Lib.hid (QE.out.stpF t9)
                  have R9 := Lib.hid (R7.out.stpF t9)
                  have E9 := Lib.hid (HEV.out.stp t9 id)
                  clear t9 m0 m1 m2 m3 m4 m5 m6 lm q0 q1 q2 lxb CE QE R7 HEV X7
                  obtain ⟨⟨m0, m1, m2, m3, m4, m5, m6⟩, ⟨f0, f1, f2, f3, f4, f5, f6⟩, lm⟩ := M9.out.xs
                  have nlm : ¬ x9 = w9.heap.size := by omega
                  have nlm2 : ¬ w9.heap.size = x9 := by omega
                  have TP := (M9.out.put7 z0 z1 M9.out.sr).2
                  have MP := (M9.out.put7 z0 z1 M9.out.sr).1
                  obtain ⟨c10, hc10, t10⟩ := (TP.alloc (.cells #[.int .i64 (2 ^ sh), .int .i64 z0, .int .i64 z0, .slice go k gcap, .int .i64 z1, .int .i64 0, .slice so 0 scap] 67) 15).name
                  obtain ⟨wd, hwd⟩ : ∃ wd : World, wd = (((((((w9.setCell ⟨x9, 0, none⟩ (.int .i64 (2 ^ sh))).setCell ⟨x9, 1, none⟩ (.int .i64 z0)).setCell ⟨x9, 2, none⟩ (.int .i64 z0)).setCell ⟨x9, 3, none⟩ (.slice go k gcap)).setCell ⟨x9, 4, none⟩ (.int .i64 z1)).setCell ⟨x9, 5, none⟩ (.int .i64 0)).setCell ⟨x9, 6, none⟩ (.slice so 0 scap)).alloc (.cells #[.int .i64 (2 ^ sh), .int .i64 z0, .int .i64 z0, .slice go k gcap, .int .i64 z1, .int .i64 0, .slice so 0 scap] 67) := ⟨_, rfl⟩
                  have MD := Lib.hid (show MB x9 (2 ^ sh) (lc.getD 0 0) (lc.getD 1 0) (lc.drop N) (gids N k) [] k k io icap go gcap so scap c10 wd by rw [hwd, D7.out, HZ.out.1, HZ.out.2, hc10.out]; exact MP.stpF ((Stp.refl (fun _ => False) c9 _).alloc _ 15))
                  have TD : Stp (· = 9) c9 c10 w9 wd := by rw [hwd]; exact t10
                  have RD := Lib.hid (R9.out.stp9 (Stp.mono TD (fun _ h => Nat.le_of_eq h.symm)))
                  have QD := Lib.hid (Q9.out.stp TD (by decide) (by decide) (by decide))
                  have ED := Lib.hid (E9.out.stp TD (by decide))
                  clear TP MP TD t10 hc10 Q9 R9 E9
                  go_wp2_with fail
                  rw [← hwd]
                  clear hwd m0 m1 m2 m3 m4 m5 m6 f0 f1 f2 f3 f4 f5 f6 lm nlm nlm2 M9
                  refine (lawis ED.out er).mono ?_
                  rintro e wx ⟨rfl, rfl⟩
                  have FIN := Lib.hid (show TS w x9 p q bp gp sh N (j + 1) (.slice io k icap) (.slice lo T.length lcap) (.slice wo T.length wcap) wd from ⟨c10, k, lc, io, icap, go, gcap, so, scap, T, lo, lcap, wo, wcap, rfl, rfl, rfl, Lib.hid (Nat.le_succ_of_le HT.out), P7, RD, MD, QD, Lib.hid (fun u hu => (K.out u hu).raised RA.out)⟩)
                  clear RD MD QD P7 RA K P ED
                  go_wp2
                  go_meet
                  exact FIN.out
                · skip
                  have k0 : (kd == 0) = false := by simpa using h0
                  have k1 : (kd == 1) = false := by simpa using h1
                  have k2 : (kd == 2) = false := by simpa using h2
                  have k3 : (kd == 3) = false := by simpa using h3
                  have k5 : (kd == 5) = false := by simpa using h5
                  clear h0 h1 h2 h3 h5
                  go_wp2
                  go_meet
                  exact SAME.out
      case rest =>
        obtain ⟨c8, k8, ln, io8, icap8, go8, gcap8, so8, scap8, U, lo8, lcap8, wo8, wcap8, rfl, rfl, rfl, HU, PN, RN, MN, QN, KN⟩ := hcut
        clear R6 M6 Q6 X6 P K q0 q1 q2 lxb SAME HT
        as_aux_lemma =>
        obtain ⟨z0, hz0⟩ : ∃ z, ln.getD 0 0 = z := ⟨_, rfl⟩
        obtain ⟨z1, hz1⟩ : ∃ z, ln.getD 1 0 = z := ⟨_, rfl⟩
        have HZ := Lib.hid (And.intro hz0 hz1)
        have MZ := Lib.hid (show MB x9 (2 ^ sh) z0 z1 (ln.drop N) (gids N k8) [] k8 k8 io8 icap8 go8 gcap8 so8 scap8 c8 wc from by rw [← hz0, ← hz1]; exact MN.out)
        clear hz0 hz1 MN
        go_wp2_with fail
        refine (mcached_ok RN.out.sq).mono ?_
        rintro e wt ⟨rfl, rfl⟩
        go_wp2_with fail
        refine (RN.out.load 1 (by have := PN.out.ok.max; omega)).mono ?_
        rintro e wt ⟨rfl, ct, tt, rt⟩
        rw [HZ.out.2]
        have RT := Lib.hid rt
        have MT := Lib.hid (MZ.out.stp tt (by decide) (by decide) (by decide) (by decide))
        have QT := Lib.hid (QN.out.stp tt (by decide) (by decide) (by decide))
        clear tt rt RN MZ QN
        obtain ⟨⟨m0, m1, m2, m3, m4, m5, m6⟩, -, lm⟩ := MT.out.xs
        go_upto_region 52 with fail
        go_region_held3 (fun w' => w'.cell? ⟨x9, 1, none⟩ = some (.int .i64 z0) ∧ w'.cell? ⟨x9, 4, none⟩ = some (.int .i64 z1))
          (first | exact ⟨by assumption, by assumption⟩ | go_keep)
          (first
            | (go_at_call 43; refine (LAt.claimed (by first | exact RT.out | exact RT.out.stpF (Stp.refl (fun _ => False) _ _).drew | exact RT.out.stpF ((Stp.refl (fun _ => False) _ _).drewN _)) (by exact PN.out.ok)).mono ?_; rw [HZ.out.1]; rintro e wv ⟨rfl, cv, tv, rv⟩; have RV := Lib.hid rv; have MV := Lib.hid (MB.stp (by first | exact MT.out | exact MT.out.stpF (Stp.refl (fun _ => False) _ _).drew | exact MT.out.stpF ((Stp.refl (fun _ => False) _ _).drewN _)) tv (by decide) (by decide) (by decide) (by decide)); have QV := Lib.hid (TRows.stp (by first | exact QT.out | exact QT.out.stpF (Stp.refl (fun _ => False) _ _).drew | exact QT.out.stpF ((Stp.refl (fun _ => False) _ _).drewN _)) tv (by decide) (by decide) (by decide)); clear tv rv; obtain ⟨⟨m0, m1, m2, m3, m4, m5, m6⟩, -, lm⟩ := MV.out.xs))
        have FIN := Lib.hid (show TS w x9 p q bp gp sh N (j + 1) (.slice io8 k8 icap8) (.slice lo8 U.length lcap8) (.slice wo8 U.length wcap8) wv from ⟨cv, k8, ln, io8, icap8, go8, gcap8, so8, scap8, U, lo8, lcap8, wo8, wcap8, rfl, rfl, rfl, HU, PN, RV, Lib.hid (by rw [HZ.out.1, HZ.out.2]; exact MV.out), QV, KN⟩)
        clear RV MV QV RT MT QT
        go_wp2
        go_roundw
        case rel => exact ⟨j + 1, by go_num, Lib.hid Hlt.out, FIN.out⟩
        case measure => exact tm_meas m j Hlt.out (Nat.le_trans (Nat.le_of_lt J120.out) (by decide))
    · have hjn : j = m := by have := Hj.out; omega
      as_aux_lemma =>
      subst hjn
      clear hlt
      have HTb := Lib.hid (R.out.tab Ht.out)
      go_wp2_with fail
      refine (awake10k 20 (by decide) c5 _ HTb.out.1 HTb.out.2).mono ?_
      rintro e w8 ⟨rfl, c8, t8⟩
      have S8 := Lib.hid (R.out.st.trans (Stp.mono t8 (J' := (2 ≤ ·)) (fun _ h => by omega)))
      clear t8
      go_wp2
      go_ret
      exact ⟨by first | rfl | simp, S8.out.fin⟩
end Go.Proofs.YtoifknfmamcimaaDoor

/- MultiTries at every input. No condition but that the table of math/bits holds what the program lays there. -/
namespace Go.Proofs.YtoifknfmamcimaaDoor
open Go.RowKit

theorem dec_ao {H : Type} {enc : TypeId × Value → H} {w : World} {base : Nat} {spare : Nat → Bool} {held : Bool} (n : Nat) (cs : List Value) (y : DataW H × List MemPlace) (h : DataW.trod enc Tryd.prog w base spare held n 71 cs = some y) : ∃ x : AO, cs = x.cells ∧ x.ok := by
  obtain ⟨hl, n', hf⟩ := dec_fields Tryd.underlying71 (by kernel_rfl) (by kernel_rfl) h
  obtain ⟨v0, z0, c0, t0⟩ := hf 0 _ rfl
  obtain ⟨v1, z1, c1, t1⟩ := hf 1 _ rfl
  obtain ⟨v2, z2, c2, t2⟩ := hf 2 _ rfl
  obtain ⟨x0, e0, _, w0⟩ := DataW.trod_int Tryd.underlying3 t0
  obtain ⟨x1, e1, _, w1⟩ := DataW.trod_int Tryd.underlying3 t1
  obtain ⟨x2, e2, _, w2⟩ := DataW.trod_int Tryd.underlying3 t2
  match cs, hl with
  | [a, b, d], _ =>
    simp at c0 c1 c2 e0 e1 e2
    subst c0 c1 c2 e0 e1 e2
    exact ⟨⟨x0, x1, x2⟩, rfl, bounds_i64 w1, bounds_i64 w2⟩

set_option maxRecDepth 100000 in
theorem tries_walk (s : Int) (oo : Option Addr) (m ocap : Nat) (ops : List AO) (w : World) (hs : 0 ≤ s ∧ s ≤ 255)
    (ho : In (fun _ => 0) 0 w 3 oo m ocap (ops.flatMap AO.cells)) (hol : ops.length = m) (hok : ∀ x ∈ ops, x.ok) (ht : Tab w) :
    Calls Tryd.prog 10 #[.int .u8 s, .slice oo m ocap] w fun e w' => e = .returned (.bool true) ∧ Below w.heap.size w w' := by
  by_cases hm : m ≤ 120
  · obtain ⟨u, rfl⟩ := Int.eq_ofNat_of_zero_le hs.1
    exact tries_in u (u % 7) _ oo m ocap ops w rfl rfl hm ho hol hok ht
  · have HT := Lib.hid (show Tab w ∧ (fun _ : Nat => 0) 1 = 0 from ⟨ht, rfl⟩)
    have k1 : decide ((120 : Int) < (m : Int)) = true := by simp; omega
    clear hs ho hol hok ht hm
    go_enter Tryd.func10, Tryd.ntmps10
    go_wp2_with fail
    refine (awake10k 10 (by decide) (fun _ => 0) _ HT.out.1 rfl).mono ?_
    rintro e w9 ⟨rfl, c9, s9⟩
    have S9 := Lib.hid (Stp.mono s9 (J' := (2 ≤ ·)) (fun k h => by omega))
    clear s9
    go_wp2
    go_ret
    exact ⟨rfl, S9.out.fin⟩
end Go.Proofs.YtoifknfmamcimaaDoor
