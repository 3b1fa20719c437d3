/- Contracts that the closing theorem wants (Dr1). No condition beyond each law's own. -/
import Derived.Test.YtiphdedfbafhkaaGreatDoorYJq
import Derived.Test.YtiphdedfbafhkaaGreatDoorYLq
import Derived.Test.YtiphdedfbafhkaaGreatDoorZDz6
import Derived.Test.YtiphdedfbafhkaaGreatDoorZDz5
import Derived.Test.YtiphdedfbafhkaaGreatDoorZDoc
import Derived.Test.YtiphdedfbafhkaaGreatDoorZCeX
namespace Go.Proofs.YtiphdedfbafhkaaGreatDoor
open Go.RowKit

section
theorem jr_col {j : Nat} (h : JR 300 j) : 301 ≤ j ∧ j ≤ 304 := by unfold JR at h; omega
theorem sj_col {i j : Nat} (h : JR 300 j ∨ j = kb 300 i ∨ j = kb 300 i + 1) : 300 ≤ j ∧ ∀ m, j ≠ kb 300 m + 5 := by
  unfold JR kb at h
  exact ⟨by omega, fun m => by unfold kb; omega⟩
theorem lawis_y {c : Nat → Nat} {w : World} {v : Value} {m : Int} (h : Err c w v m) : Calls Tryz.prog 14 #[v, .int .i64 m] w fun e w' => e = .returned (.bool true) ∧ w = w' := by
  refine (lawis h m).mono ?_
  rintro e w1 ⟨rfl, rfl⟩
  exact ⟨by simp, rfl⟩
variable {c c' : Nat → Nat} {w w' : World} {k r p : Nat}
def S46 (xb : Nat) (a b : Int) (w : World) : Prop := w.cell? ⟨xb, 1, none⟩ = some (.int .i64 a) ∧ w.cell? ⟨xb, 2, none⟩ = some (.int .i64 b)
theorem s46 {xb kk : Nat} {a b : Int} {v0 v3 v4 : Value} {ty : TypeId} (X : Blk c kk w xb [v0, .int .i64 a, .int .i64 b, v3, v4] ty) : S46 xb a b w := by
  obtain ⟨x0, x1, x2, x3, x4, lx⟩ := ro_blk X
  exact ⟨x1, x2⟩
end

noncomputable def Tryz.cdo10 : Code := (Tryz.f46.body.bind (regionN 10)).getD .skip

set_option maxRecDepth 1000000 in
set_option maxHeartbeats 100000000 in
theorem Tryz.rdo10 {xb r p kk : Nat} {a b er : Int} {v0 v3 v4 : Value} {c9 : Nat → Nat} {w9 : World} (X9 : Hid (Blk c9 0 w9 xb [v0, .int .i64 a, .int .i64 b, v3, v4] 91))
    (HC : Hid (Calls Tryz.prog 16 #[.pointer (some ⟨r, 0, none⟩), .int .i64 a, .int .i64 b] w9.drew fun e w' => ∃ ev c', e = .returned ev ∧ Stp (1 ≤ ·) c9 c' w9.drew w' ∧ Calls Tryz.prog 91 #[.pointer (some ⟨p, 0, none⟩), .int .i64 a, .int .i64 b] w' fun e2 w2 => e2 = .returned (.int .i64 er) ∧ ∃ c2, Stp (1 ≤ ·) c' c2 w' w2 ∧ JE c2 w2 kk r p ∧ Err c2 w2 ev er)) {fr2 fr3 fr4 fr6 fr7 fr8 fr9 fr10 fr11 fr12 fr13 fr14 fr15 fr16 fr17 fr18 fr19 fr20 fr21 fr22 fr23 fr24 fr25 fr26 fr27 fr28 fr29 fr30 fr31 fr32 fr33 fr34 fr35 fr36 fr37 fr38 fr39 fr40 fr41 fr42 fr43 fr44 fr45 fr46 fr47 fr48 fr49 fr50 fr51 fr52 fr53 fr54 fr55 fr56 fr57 fr58 fr59 fr60 fr61 fr62 fr63 fr64 fr65 fr66 fr67 fr68 fr69 fr70 fr71 fr72 fr73 fr74 fr75 fr76 fr77 fr78 fr79 fr80 fr81 fr82 fr83 fr84 fr85 fr86 fr87 fr88 fr89 fr90 fr91 fr92 fr93 fr94 fr95 fr96 fr97 fr98 fr99 fr100 fr101 fr102 fr103 fr104 fr105 fr106 fr107 fr108 fr109 fr110 fr111 fr112 fr113 fr114 fr115 fr116 fr117 fr118 fr119 fr120 fr121 fr122 fr123 fr124 fr125 fr126 fr127 fr128 fr129 fr130 fr131 fr132 fr133 fr134 fr135 fr136 fr137 fr138 fr139 fr140 fr141 fr142 fr143 fr144 fr145 fr146 fr147 fr148 fr149 fr150 fr151 fr152 fr153 fr154 fr155 fr156 fr157 fr158 fr159 fr160 fr161 fr162 fr163 fr164 fr165 fr166 fr167 fr168 fr169 fr170 fr171 fr172 fr173 fr174 fr175 fr176 fr177 fr178 fr179 fr180 fr181 fr182 fr183 fr184 fr185 fr186 fr187 fr188 fr189 fr190 fr191 fr192 fr193 fr194 fr195 fr196 fr197 fr198 fr199 fr200 fr201 fr202 fr203 fr204 fr205 fr206 fr207 fr208 fr209 fr210 fr211 fr212 fr213 fr214 fr215 fr216 fr217 fr218 fr219 fr220 fr221 fr222 fr223 fr224 fr225 fr226 fr227 fr228 fr229 fr230 fr231 fr232 fr233 fr234 fr235 fr236 fr237 fr238 fr239 fr240 fr241 fr242 fr243 fr244 fr245 fr246 fr247 fr248 fr249 fr250 fr251 fr252 fr253 fr254 fr255 fr256 fr257 fr258 fr259 fr260 fr261 fr262 fr263 fr264 fr265 fr266 fr267 fr268 fr269 fr270 fr271 fr272 fr273 fr274 fr275 fr276 fr277 fr278 fr279 fr280 fr281 fr282 fr283 fr284 fr285 fr286 fr287 fr288 fr289 : Value} {Q0 : Exit → Act → World → Prop}
    (hQ : ∀ (c' : Nat → Nat) (w' : World), ∀ g97 g98 g99 g100 g101 g102 g103 g104 g105 g106 g107 g108 g109 : Value, Hid (Stp (1 ≤ ·) c9 c' w9 w') → Hid (JE c' w' kk r p) → Q0 .normal ⟨#[.pointer (some ⟨r, 0, none⟩), .pointer (some ⟨p, 0, none⟩), fr2, fr3, fr4, .pointer (some ⟨xb, 0, none⟩), .bool true, fr7, fr8, fr9, fr10, fr11, fr12, fr13, fr14, fr15, fr16, fr17, fr18, fr19, fr20, fr21, fr22, fr23, fr24, fr25, fr26, fr27, fr28, fr29, fr30, fr31, fr32, fr33, fr34, fr35, fr36, fr37, fr38, fr39, fr40, fr41, fr42, fr43, fr44, fr45, fr46, fr47, fr48, fr49, fr50, fr51, fr52, fr53, fr54, fr55, fr56, fr57, fr58, fr59, fr60, fr61, fr62, fr63, fr64, fr65, fr66, fr67, fr68, fr69, fr70, fr71, fr72, fr73, fr74, fr75, fr76, fr77, fr78, fr79, fr80, fr81, fr82, fr83, fr84, fr85, fr86, fr87, fr88, fr89, fr90, fr91, fr92, fr93, fr94, fr95, fr96, g97, g98, g99, g100, g101, g102, g103, g104, g105, g106, g107, g108, g109, fr110, fr111, fr112, fr113, fr114, fr115, fr116, fr117, fr118, fr119, fr120, fr121, fr122, fr123, fr124, fr125, fr126, fr127, fr128, fr129, fr130, fr131, fr132, fr133, fr134, fr135, fr136, fr137, fr138, fr139, fr140, fr141, fr142, fr143, fr144, fr145, fr146, fr147, fr148, fr149, fr150, fr151, fr152, fr153, fr154, fr155, fr156, fr157, fr158, fr159, fr160, fr161, fr162, fr163, fr164, fr165, fr166, fr167, fr168, fr169, fr170, fr171, fr172, fr173, fr174, fr175, fr176, fr177, fr178, fr179, fr180, fr181, fr182, fr183, fr184, fr185, fr186, fr187, fr188, fr189, fr190, fr191, fr192, fr193, fr194, fr195, fr196, fr197, fr198, fr199, fr200, fr201, fr202, fr203, fr204, fr205, fr206, fr207, fr208, fr209, fr210, fr211, fr212, fr213, fr214, fr215, fr216, fr217, fr218, fr219, fr220, fr221, fr222, fr223, fr224, fr225, fr226, fr227, fr228, fr229, fr230, fr231, fr232, fr233, fr234, fr235, fr236, fr237, fr238, fr239, fr240, fr241, fr242, fr243, fr244, fr245, fr246, fr247, fr248, fr249, fr250, fr251, fr252, fr253, fr254, fr255, fr256, fr257, fr258, fr259, fr260, fr261, fr262, fr263, fr264, fr265, fr266, fr267, fr268, fr269, fr270, fr271, fr272, fr273, fr274, fr275, fr276, fr277, fr278, fr279, fr280, fr281, fr282, fr283, fr284, fr285, fr286, fr287, fr288, fr289], []⟩ w') : Code.wp Tryz.prog Tryz.cdo10 Q0 ⟨#[.pointer (some ⟨r, 0, none⟩), .pointer (some ⟨p, 0, none⟩), fr2, fr3, fr4, .pointer (some ⟨xb, 0, none⟩), fr6, fr7, fr8, fr9, fr10, fr11, fr12, fr13, fr14, fr15, fr16, fr17, fr18, fr19, fr20, fr21, fr22, fr23, fr24, fr25, fr26, fr27, fr28, fr29, fr30, fr31, fr32, fr33, fr34, fr35, fr36, fr37, fr38, fr39, fr40, fr41, fr42, fr43, fr44, fr45, fr46, fr47, fr48, fr49, fr50, fr51, fr52, fr53, fr54, fr55, fr56, fr57, fr58, fr59, fr60, fr61, fr62, fr63, fr64, fr65, fr66, fr67, fr68, fr69, fr70, fr71, fr72, fr73, fr74, fr75, fr76, fr77, fr78, fr79, fr80, fr81, fr82, fr83, fr84, fr85, fr86, fr87, fr88, fr89, fr90, fr91, fr92, fr93, fr94, fr95, fr96, fr97, fr98, fr99, fr100, fr101, fr102, fr103, fr104, fr105, fr106, fr107, fr108, fr109, fr110, fr111, fr112, fr113, fr114, fr115, fr116, fr117, fr118, fr119, fr120, fr121, fr122, fr123, fr124, fr125, fr126, fr127, fr128, fr129, fr130, fr131, fr132, fr133, fr134, fr135, fr136, fr137, fr138, fr139, fr140, fr141, fr142, fr143, fr144, fr145, fr146, fr147, fr148, fr149, fr150, fr151, fr152, fr153, fr154, fr155, fr156, fr157, fr158, fr159, fr160, fr161, fr162, fr163, fr164, fr165, fr166, fr167, fr168, fr169, fr170, fr171, fr172, fr173, fr174, fr175, fr176, fr177, fr178, fr179, fr180, fr181, fr182, fr183, fr184, fr185, fr186, fr187, fr188, fr189, fr190, fr191, fr192, fr193, fr194, fr195, fr196, fr197, fr198, fr199, fr200, fr201, fr202, fr203, fr204, fr205, fr206, fr207, fr208, fr209, fr210, fr211, fr212, fr213, fr214, fr215, fr216, fr217, fr218, fr219, fr220, fr221, fr222, fr223, fr224, fr225, fr226, fr227, fr228, fr229, fr230, fr231, fr232, fr233, fr234, fr235, fr236, fr237, fr238, fr239, fr240, fr241, fr242, fr243, fr244, fr245, fr246, fr247, fr248, fr249, fr250, fr251, fr252, fr253, fr254, fr255, fr256, fr257, fr258, fr259, fr260, fr261, fr262, fr263, fr264, fr265, fr266, fr267, fr268, fr269, fr270, fr271, fr272, fr273, fr274, fr275, fr276, fr277, fr278, fr279, fr280, fr281, fr282, fr283, fr284, fr285, fr286, fr287, fr288, fr289], []⟩ w9 := by
  conv => arg 2; whnf
  refine wp_region_noPanic ?_
  have HQ := Lib.hid hQ
  clear hQ
  have X0 := Lib.hid (X9.out.stp ((Stp.refl (fun _ => False) c9 w9).drew) id)
  have T0 := Lib.hid ((Stp.refl (1 ≤ ·) c9 w9).drew)
  have hS0 := s46 X0.out
  refine wp_region_held_drew (S := S46 xb a b) (by kernel_rfl) hS0 (fun hS1 => ?_)
  have hS := Lib.hid hS1
  clear hS1 hS0
  generalize w9.drew = wq0 at T0 X0 HC hS ⊢
  refine wpH_takeL (i := 0) (v := ?_) rfl (by kernel_rfl) (by kernel_rfl) (by kernel_rfl) (fun _ _ _ h => h) (Or.inl ⟨by rfl, ?_⟩) hS.out ?_
  rotate_left
  · intro wy hSy
    clear hSy
    go_simp
    try with_reducible rfl
  try simp only [Act.put, List.setIfInBounds_toArray, List.set_cons_zero, List.set_cons_succ]
  refine wpH_takeL (i := 1) (v := ?_) rfl (by kernel_rfl) (by kernel_rfl) (by kernel_rfl) (fun _ _ _ h => h) (Or.inl ⟨by rfl, ?_⟩) hS.out ?_
  rotate_left
  · intro wy hSy
    clear hSy
    go_simp
    try with_reducible rfl
  try simp only [Act.put, List.setIfInBounds_toArray, List.set_cons_zero, List.set_cons_succ]
  refine wpH_takeL (i := 2) (v := ?_) rfl (by kernel_rfl) (by kernel_rfl) (by kernel_rfl) (fun _ _ _ h => h) (Or.inl ⟨by rfl, ?_⟩) hS.out ?_
  rotate_left
  · intro wy hSy
    obtain ⟨s1, s2⟩ := hSy
    go_simp
    try with_reducible rfl
  try simp only [Act.put, List.setIfInBounds_toArray, List.set_cons_zero, List.set_cons_succ]
  refine wpH_takeL (i := 3) (v := ?_) rfl (by kernel_rfl) (by kernel_rfl) (by kernel_rfl) (fun _ _ _ h => h) (Or.inl ⟨by rfl, ?_⟩) hS.out ?_
  rotate_left
  · intro wy hSy
    clear hSy
    go_simp
    try with_reducible rfl
  try simp only [Act.put, List.setIfInBounds_toArray, List.set_cons_zero, List.set_cons_succ]
  refine wpH_takeL (i := 4) (v := ?_) rfl (by kernel_rfl) (by kernel_rfl) (by kernel_rfl) (fun _ _ _ h => h) (Or.inl ⟨by rfl, ?_⟩) hS.out ?_
  rotate_left
  · intro wy hSy
    obtain ⟨s1, s2⟩ := hSy
    go_simp
    try with_reducible rfl
  try simp only [Act.put, List.setIfInBounds_toArray, List.set_cons_zero, List.set_cons_succ]
  refine wpH_takeL (i := 6) (v := ?_) rfl (by kernel_rfl) (by kernel_rfl) (by kernel_rfl) (fun _ _ _ h => h) (Or.inl ⟨by rfl, ?_⟩) hS.out ?_
  rotate_left
  · intro wy hSy
    clear hSy
    go_simp
    try with_reducible rfl
  try simp only [Act.put, List.setIfInBounds_toArray, List.set_cons_zero, List.set_cons_succ]
  refine wpH_takeL (i := 7) (v := ?_) rfl (by kernel_rfl) (by kernel_rfl) (by kernel_rfl) (fun _ _ _ h => h) (Or.inl ⟨by rfl, ?_⟩) hS.out ?_
  rotate_left
  · intro wy hSy
    clear hSy
    go_simp
    try with_reducible rfl
  try simp only [Act.put, List.setIfInBounds_toArray, List.set_cons_zero, List.set_cons_succ]
  refine wpH_takeL (i := 8) (v := ?_) rfl (by kernel_rfl) (by kernel_rfl) (by kernel_rfl) (fun _ _ _ h => h) (Or.inl ⟨by rfl, ?_⟩) hS.out ?_
  rotate_left
  · intro wy hSy
    obtain ⟨s1, s2⟩ := hSy
    go_simp
    try with_reducible rfl
  try simp only [Act.put, List.setIfInBounds_toArray, List.set_cons_zero, List.set_cons_succ]
  refine wpH_takeL (i := 9) (v := ?_) rfl (by kernel_rfl) (by kernel_rfl) (by kernel_rfl) (fun _ _ _ h => h) (Or.inl ⟨by rfl, ?_⟩) hS.out ?_
  rotate_left
  · intro wy hSy
    clear hSy
    go_simp
    try with_reducible rfl
  try simp only [Act.put, List.setIfInBounds_toArray, List.set_cons_zero, List.set_cons_succ]
  refine wpH_takeL (i := 10) (v := ?_) rfl (by kernel_rfl) (by kernel_rfl) (by kernel_rfl) (fun _ _ _ h => h) (Or.inl ⟨by rfl, ?_⟩) hS.out ?_
  rotate_left
  · intro wy hSy
    obtain ⟨s1, s2⟩ := hSy
    go_simp
    try with_reducible rfl
  try simp only [Act.put, List.setIfInBounds_toArray, List.set_cons_zero, List.set_cons_succ]
  refine wpAnyH_ready (rs := [5]) (by kernel_rfl) (by simp) (readyH_consL rfl (fun K hK => ?_) AllReadyH.nil)
  go_simp
  go_at_call 16
  refine HC.out.mono ?_
  rintro e wq1 ⟨ev, c1, rfl, t1, hd1⟩
  have X1 := Lib.hid (X0.out.stp t1 (by decide))
  have T1 := Lib.hid (T0.out.trans t1)
  have HD1 := Lib.hid hd1
  clear t1 hd1
  go_simp
  refine hK.out _ _ (s46 X1.out) (fun hS1 => ?_)
  clear hK K hS
  have hS := Lib.hid hS1
  clear hS1
  try simp only [Act.put, List.setIfInBounds_toArray, List.set_cons_zero, List.set_cons_succ]
  refine wpAnyH_ready (rs := [11]) (by kernel_rfl) (by simp) (readyH_consL rfl (fun K hK => ?_) AllReadyH.nil)
  go_simp
  go_at_call 91
  refine HD1.out.mono ?_
  rintro e wq2 ⟨rfl, c2, t2, j2, e2⟩
  have X2 := Lib.hid (X1.out.stp t2 (by decide))
  have T2 := Lib.hid (T1.out.trans t2)
  have J2 := Lib.hid j2
  have E2 := Lib.hid e2
  clear t2 j2 e2
  go_simp
  refine hK.out _ _ (s46 X2.out) (fun hS2 => ?_)
  clear hK K hS
  have hS := Lib.hid hS2
  clear hS2
  try simp only [Act.put, List.setIfInBounds_toArray, List.set_cons_zero, List.set_cons_succ]
  refine wpAnyH_ready (rs := [12]) (by kernel_rfl) (by simp) (readyH_consL rfl (fun K hK => ?_) AllReadyH.nil)
  go_simp
  go_at_call 14
  refine (lawis_y E2.out).mono ?_
  rintro e wq3 ⟨rfl, rfl⟩
  go_simp
  refine hK.out _ _ (s46 X2.out) (fun hS2 => ?_)
  clear hK K hS
  have hS := Lib.hid hS2
  clear hS2
  try simp only [Act.put, List.setIfInBounds_toArray, List.set_cons_zero, List.set_cons_succ]
  refine wpH_takeL (i := 13) (v := ?_) rfl (by kernel_rfl) (by kernel_rfl) (by kernel_rfl) (fun _ _ _ h => h) (Or.inl ⟨by rfl, ?_⟩) hS.out ?_
  rotate_left
  · intro wy hSy
    clear hSy
    go_simp
    try with_reducible rfl
  try simp only [Act.put, List.setIfInBounds_toArray, List.set_cons_zero, List.set_cons_succ]
  refine wpAnyH_done (by kernel_rfl) ?_ _
  exact HQ.out c2 _ _ _ _ _ _ _ _ _ _ _ _ _ _ T2 J2

noncomputable def Tryz.cdo28 : Code := (Tryz.f46.body.bind (regionN 28)).getD .skip

set_option maxRecDepth 1000000 in
set_option maxHeartbeats 100000000 in
theorem Tryz.rdo28 {xb r p kk : Nat} {a b er : Int} {v0 v3 v4 : Value} {c9 : Nat → Nat} {w9 : World} (X9 : Hid (Blk c9 0 w9 xb [v0, .int .i64 a, .int .i64 b, v3, v4] 91))
    (HC : Hid (Calls Tryz.prog 15 #[.pointer (some ⟨r, 0, none⟩), .int .i64 a] w9.drew fun e w' => ∃ ev c', e = .returned ev ∧ Stp (1 ≤ ·) c9 c' w9.drew w' ∧ Calls Tryz.prog 97 #[.pointer (some ⟨p, 0, none⟩), .int .i64 a] w' fun e2 w2 => e2 = .returned (.int .i64 er) ∧ ∃ c2, Stp (1 ≤ ·) c' c2 w' w2 ∧ JE c2 w2 kk r p ∧ Err c2 w2 ev er)) {fr2 fr3 fr4 fr6 fr7 fr8 fr9 fr10 fr11 fr12 fr13 fr14 fr15 fr16 fr17 fr18 fr19 fr20 fr21 fr22 fr23 fr24 fr25 fr26 fr27 fr28 fr29 fr30 fr31 fr32 fr33 fr34 fr35 fr36 fr37 fr38 fr39 fr40 fr41 fr42 fr43 fr44 fr45 fr46 fr47 fr48 fr49 fr50 fr51 fr52 fr53 fr54 fr55 fr56 fr57 fr58 fr59 fr60 fr61 fr62 fr63 fr64 fr65 fr66 fr67 fr68 fr69 fr70 fr71 fr72 fr73 fr74 fr75 fr76 fr77 fr78 fr79 fr80 fr81 fr82 fr83 fr84 fr85 fr86 fr87 fr88 fr89 fr90 fr91 fr92 fr93 fr94 fr95 fr96 fr97 fr98 fr99 fr100 fr101 fr102 fr103 fr104 fr105 fr106 fr107 fr108 fr109 fr110 fr111 fr112 fr113 fr114 fr115 fr116 fr117 fr118 fr119 fr120 fr121 fr122 fr123 fr124 fr125 fr126 fr127 fr128 fr129 fr130 fr131 fr132 fr133 fr134 fr135 fr136 fr137 fr138 fr139 fr140 fr141 fr142 fr143 fr144 fr145 fr146 fr147 fr148 fr149 fr150 fr151 fr152 fr153 fr154 fr155 fr156 fr157 fr158 fr159 fr160 fr161 fr162 fr163 fr164 fr165 fr166 fr167 fr168 fr169 fr170 fr171 fr172 fr173 fr174 fr175 fr176 fr177 fr178 fr179 fr180 fr181 fr182 fr183 fr184 fr185 fr186 fr187 fr188 fr189 fr190 fr191 fr192 fr193 fr194 fr195 fr196 fr197 fr198 fr199 fr200 fr201 fr202 fr203 fr204 fr205 fr206 fr207 fr208 fr209 fr210 fr211 fr212 fr213 fr214 fr215 fr216 fr217 fr218 fr219 fr220 fr221 fr222 fr223 fr224 fr225 fr226 fr227 fr228 fr229 fr230 fr231 fr232 fr233 fr234 fr235 fr236 fr237 fr238 fr239 fr240 fr241 fr242 fr243 fr244 fr245 fr246 fr247 fr248 fr249 fr250 fr251 fr252 fr253 fr254 fr255 fr256 fr257 fr258 fr259 fr260 fr261 fr262 fr263 fr264 fr265 fr266 fr267 fr268 fr269 fr270 fr271 fr272 fr273 fr274 fr275 fr276 fr277 fr278 fr279 fr280 fr281 fr282 fr283 fr284 fr285 fr286 fr287 fr288 fr289 : Value} {Q0 : Exit → Act → World → Prop}
    (hQ : ∀ (c' : Nat → Nat) (w' : World), ∀ g212 g213 g214 g215 g216 g217 g218 g219 g220 : Value, Hid (Stp (1 ≤ ·) c9 c' w9 w') → Hid (JE c' w' kk r p) → Q0 .normal ⟨#[.pointer (some ⟨r, 0, none⟩), .pointer (some ⟨p, 0, none⟩), fr2, fr3, fr4, .pointer (some ⟨xb, 0, none⟩), .bool true, fr7, fr8, fr9, fr10, fr11, fr12, fr13, fr14, fr15, fr16, fr17, fr18, fr19, fr20, fr21, fr22, fr23, fr24, fr25, fr26, fr27, fr28, fr29, fr30, fr31, fr32, fr33, fr34, fr35, fr36, fr37, fr38, fr39, fr40, fr41, fr42, fr43, fr44, fr45, fr46, fr47, fr48, fr49, fr50, fr51, fr52, fr53, fr54, fr55, fr56, fr57, fr58, fr59, fr60, fr61, fr62, fr63, fr64, fr65, fr66, fr67, fr68, fr69, fr70, fr71, fr72, fr73, fr74, fr75, fr76, fr77, fr78, fr79, fr80, fr81, fr82, fr83, fr84, fr85, fr86, fr87, fr88, fr89, fr90, fr91, fr92, fr93, fr94, fr95, fr96, fr97, fr98, fr99, fr100, fr101, fr102, fr103, fr104, fr105, fr106, fr107, fr108, fr109, fr110, fr111, fr112, fr113, fr114, fr115, fr116, fr117, fr118, fr119, fr120, fr121, fr122, fr123, fr124, fr125, fr126, fr127, fr128, fr129, fr130, fr131, fr132, fr133, fr134, fr135, fr136, fr137, fr138, fr139, fr140, fr141, fr142, fr143, fr144, fr145, fr146, fr147, fr148, fr149, fr150, fr151, fr152, fr153, fr154, fr155, fr156, fr157, fr158, fr159, fr160, fr161, fr162, fr163, fr164, fr165, fr166, fr167, fr168, fr169, fr170, fr171, fr172, fr173, fr174, fr175, fr176, fr177, fr178, fr179, fr180, fr181, fr182, fr183, fr184, fr185, fr186, fr187, fr188, fr189, fr190, fr191, fr192, fr193, fr194, fr195, fr196, fr197, fr198, fr199, fr200, fr201, fr202, fr203, fr204, fr205, fr206, fr207, fr208, fr209, fr210, fr211, g212, g213, g214, g215, g216, g217, g218, g219, g220, fr221, fr222, fr223, fr224, fr225, fr226, fr227, fr228, fr229, fr230, fr231, fr232, fr233, fr234, fr235, fr236, fr237, fr238, fr239, fr240, fr241, fr242, fr243, fr244, fr245, fr246, fr247, fr248, fr249, fr250, fr251, fr252, fr253, fr254, fr255, fr256, fr257, fr258, fr259, fr260, fr261, fr262, fr263, fr264, fr265, fr266, fr267, fr268, fr269, fr270, fr271, fr272, fr273, fr274, fr275, fr276, fr277, fr278, fr279, fr280, fr281, fr282, fr283, fr284, fr285, fr286, fr287, fr288, fr289], []⟩ w') : Code.wp Tryz.prog Tryz.cdo28 Q0 ⟨#[.pointer (some ⟨r, 0, none⟩), .pointer (some ⟨p, 0, none⟩), fr2, fr3, fr4, .pointer (some ⟨xb, 0, none⟩), fr6, fr7, fr8, fr9, fr10, fr11, fr12, fr13, fr14, fr15, fr16, fr17, fr18, fr19, fr20, fr21, fr22, fr23, fr24, fr25, fr26, fr27, fr28, fr29, fr30, fr31, fr32, fr33, fr34, fr35, fr36, fr37, fr38, fr39, fr40, fr41, fr42, fr43, fr44, fr45, fr46, fr47, fr48, fr49, fr50, fr51, fr52, fr53, fr54, fr55, fr56, fr57, fr58, fr59, fr60, fr61, fr62, fr63, fr64, fr65, fr66, fr67, fr68, fr69, fr70, fr71, fr72, fr73, fr74, fr75, fr76, fr77, fr78, fr79, fr80, fr81, fr82, fr83, fr84, fr85, fr86, fr87, fr88, fr89, fr90, fr91, fr92, fr93, fr94, fr95, fr96, fr97, fr98, fr99, fr100, fr101, fr102, fr103, fr104, fr105, fr106, fr107, fr108, fr109, fr110, fr111, fr112, fr113, fr114, fr115, fr116, fr117, fr118, fr119, fr120, fr121, fr122, fr123, fr124, fr125, fr126, fr127, fr128, fr129, fr130, fr131, fr132, fr133, fr134, fr135, fr136, fr137, fr138, fr139, fr140, fr141, fr142, fr143, fr144, fr145, fr146, fr147, fr148, fr149, fr150, fr151, fr152, fr153, fr154, fr155, fr156, fr157, fr158, fr159, fr160, fr161, fr162, fr163, fr164, fr165, fr166, fr167, fr168, fr169, fr170, fr171, fr172, fr173, fr174, fr175, fr176, fr177, fr178, fr179, fr180, fr181, fr182, fr183, fr184, fr185, fr186, fr187, fr188, fr189, fr190, fr191, fr192, fr193, fr194, fr195, fr196, fr197, fr198, fr199, fr200, fr201, fr202, fr203, fr204, fr205, fr206, fr207, fr208, fr209, fr210, fr211, fr212, fr213, fr214, fr215, fr216, fr217, fr218, fr219, fr220, fr221, fr222, fr223, fr224, fr225, fr226, fr227, fr228, fr229, fr230, fr231, fr232, fr233, fr234, fr235, fr236, fr237, fr238, fr239, fr240, fr241, fr242, fr243, fr244, fr245, fr246, fr247, fr248, fr249, fr250, fr251, fr252, fr253, fr254, fr255, fr256, fr257, fr258, fr259, fr260, fr261, fr262, fr263, fr264, fr265, fr266, fr267, fr268, fr269, fr270, fr271, fr272, fr273, fr274, fr275, fr276, fr277, fr278, fr279, fr280, fr281, fr282, fr283, fr284, fr285, fr286, fr287, fr288, fr289], []⟩ w9 := by
  conv => arg 2; whnf
  refine wp_region_noPanic ?_
  have HQ := Lib.hid hQ
  clear hQ
  have X0 := Lib.hid (X9.out.stp ((Stp.refl (fun _ => False) c9 w9).drew) id)
  have T0 := Lib.hid ((Stp.refl (1 ≤ ·) c9 w9).drew)
  have hS0 := s46 X0.out
  refine wp_region_held_drew (S := S46 xb a b) (by kernel_rfl) hS0 (fun hS1 => ?_)
  have hS := Lib.hid hS1
  clear hS1 hS0
  generalize w9.drew = wq0 at T0 X0 HC hS ⊢
  refine wpH_takeL (i := 0) (v := ?_) rfl (by kernel_rfl) (by kernel_rfl) (by kernel_rfl) (fun _ _ _ h => h) (Or.inl ⟨by rfl, ?_⟩) hS.out ?_
  rotate_left
  · intro wy hSy
    clear hSy
    go_simp
    try with_reducible rfl
  try simp only [Act.put, List.setIfInBounds_toArray, List.set_cons_zero, List.set_cons_succ]
  refine wpH_takeL (i := 1) (v := ?_) rfl (by kernel_rfl) (by kernel_rfl) (by kernel_rfl) (fun _ _ _ h => h) (Or.inl ⟨by rfl, ?_⟩) hS.out ?_
  rotate_left
  · intro wy hSy
    clear hSy
    go_simp
    try with_reducible rfl
  try simp only [Act.put, List.setIfInBounds_toArray, List.set_cons_zero, List.set_cons_succ]
  refine wpH_takeL (i := 2) (v := ?_) rfl (by kernel_rfl) (by kernel_rfl) (by kernel_rfl) (fun _ _ _ h => h) (Or.inl ⟨by rfl, ?_⟩) hS.out ?_
  rotate_left
  · intro wy hSy
    obtain ⟨s1, s2⟩ := hSy
    go_simp
    try with_reducible rfl
  try simp only [Act.put, List.setIfInBounds_toArray, List.set_cons_zero, List.set_cons_succ]
  refine wpH_takeL (i := 4) (v := ?_) rfl (by kernel_rfl) (by kernel_rfl) (by kernel_rfl) (fun _ _ _ h => h) (Or.inl ⟨by rfl, ?_⟩) hS.out ?_
  rotate_left
  · intro wy hSy
    clear hSy
    go_simp
    try with_reducible rfl
  try simp only [Act.put, List.setIfInBounds_toArray, List.set_cons_zero, List.set_cons_succ]
  refine wpH_takeL (i := 5) (v := ?_) rfl (by kernel_rfl) (by kernel_rfl) (by kernel_rfl) (fun _ _ _ h => h) (Or.inl ⟨by rfl, ?_⟩) hS.out ?_
  rotate_left
  · intro wy hSy
    clear hSy
    go_simp
    try with_reducible rfl
  try simp only [Act.put, List.setIfInBounds_toArray, List.set_cons_zero, List.set_cons_succ]
  refine wpH_takeL (i := 6) (v := ?_) rfl (by kernel_rfl) (by kernel_rfl) (by kernel_rfl) (fun _ _ _ h => h) (Or.inl ⟨by rfl, ?_⟩) hS.out ?_
  rotate_left
  · intro wy hSy
    obtain ⟨s1, s2⟩ := hSy
    go_simp
    try with_reducible rfl
  try simp only [Act.put, List.setIfInBounds_toArray, List.set_cons_zero, List.set_cons_succ]
  refine wpAnyH_ready (rs := [3]) (by kernel_rfl) (by simp) (readyH_consL rfl (fun K hK => ?_) AllReadyH.nil)
  go_simp
  go_at_call 15
  refine HC.out.mono ?_
  rintro e wq1 ⟨ev, c1, rfl, t1, hd1⟩
  have X1 := Lib.hid (X0.out.stp t1 (by decide))
  have T1 := Lib.hid (T0.out.trans t1)
  have HD1 := Lib.hid hd1
  clear t1 hd1
  go_simp
  refine hK.out _ _ (s46 X1.out) (fun hS1 => ?_)
  clear hK K hS
  have hS := Lib.hid hS1
  clear hS1
  try simp only [Act.put, List.setIfInBounds_toArray, List.set_cons_zero, List.set_cons_succ]
  refine wpAnyH_ready (rs := [7]) (by kernel_rfl) (by simp) (readyH_consL rfl (fun K hK => ?_) AllReadyH.nil)
  go_simp
  go_at_call 97
  refine HD1.out.mono ?_
  rintro e wq2 ⟨rfl, c2, t2, j2, e2⟩
  have X2 := Lib.hid (X1.out.stp t2 (by decide))
  have T2 := Lib.hid (T1.out.trans t2)
  have J2 := Lib.hid j2
  have E2 := Lib.hid e2
  clear t2 j2 e2
  go_simp
  refine hK.out _ _ (s46 X2.out) (fun hS2 => ?_)
  clear hK K hS
  have hS := Lib.hid hS2
  clear hS2
  try simp only [Act.put, List.setIfInBounds_toArray, List.set_cons_zero, List.set_cons_succ]
  refine wpAnyH_ready (rs := [8]) (by kernel_rfl) (by simp) (readyH_consL rfl (fun K hK => ?_) AllReadyH.nil)
  go_simp
  go_at_call 14
  refine (lawis_y E2.out).mono ?_
  rintro e wq3 ⟨rfl, rfl⟩
  go_simp
  refine hK.out _ _ (s46 X2.out) (fun hS2 => ?_)
  clear hK K hS
  have hS := Lib.hid hS2
  clear hS2
  try simp only [Act.put, List.setIfInBounds_toArray, List.set_cons_zero, List.set_cons_succ]
  refine wpH_takeL (i := 9) (v := ?_) rfl (by kernel_rfl) (by kernel_rfl) (by kernel_rfl) (fun _ _ _ h => h) (Or.inl ⟨by rfl, ?_⟩) hS.out ?_
  rotate_left
  · intro wy hSy
    clear hSy
    go_simp
    try with_reducible rfl
  try simp only [Act.put, List.setIfInBounds_toArray, List.set_cons_zero, List.set_cons_succ]
  refine wpAnyH_done (by kernel_rfl) ?_ _
  exact HQ.out c2 _ _ _ _ _ _ _ _ _ _ T2 J2

section
variable {c c' : Nat → Nat} {w w' : World} {k r p ar ck tb tp : Nat} {la : List Int} {now : Int} {tl dl : List Tm} {l : List One} {D : List RD} {ao : Option Addr} {cap : Nat} {ro : Option Addr} {rcap : Nat} {R : List DR}
theorem enl_both (h : JW c w k r p ar ck tb tp la now tl dl l D ao cap ro rcap R) {i : Nat} {d : RD} {e : DR} (hd : D[i]? = some d) (he : R[i]? = some e) (b : Int) :
    Calls Tryz.prog 16 #[.pointer (some ⟨r, 0, none⟩), .int .i64 (i : Int), .int .i64 b] w fun e1 w' => ∃ ev c', e1 = .returned ev ∧ Stp (1 ≤ ·) c c' w w' ∧ Calls Tryz.prog 91 #[.pointer (some ⟨p, 0, none⟩), .int .i64 (i : Int), .int .i64 b] w' fun e2 w2 => e2 = .returned (.int .i64 (enlT l e.wl b).2) ∧ ∃ c2, Stp (1 ≤ ·) c' c2 w' w2 ∧ JE c2 w2 (k + 1) r p ∧ Err c2 w2 ev (enlT l e.wl b).2 := by
  have hwl := h.law.wlen hd
  have hr := h.law.rings i d e hd he
  refine (renlist_any h.code hd b (by omega)).mono ?_
  rintro e1 w1 ⟨ev, rfl, wo', wcap', c1, t1, m1, e1⟩
  obtain ⟨d2, tab2, deb2, sls2⟩ := h.stepC t1 (fun j hj => by unfold kb at hj; omega) (fun i _ hj => by unfold kb at hj; omega)
  refine ⟨ev, c1, rfl, t1.mono (fun j hj => by unfold kb at hj; omega), ?_⟩
  refine (r14enlist_any d2 he b (by rw [hr.wl]; omega)).mono ?_
  rintro e2 w2 ⟨rfl, a1, a2, c2, t2, d3⟩
  have hi : i < 8 := by have := (List.getElem?_eq_some_iff.1 hd).1; have := h.law.d8; omega
  obtain ⟨Q1, Q2⟩ := h.law.enl hd he b wo' a1 wcap' a2
  obtain ⟨R3, Z3⟩ := JW.stepD m1 tab2 deb2 (sls_set (d' := { d with wl := (enlT l d.wl b).1, wo := wo', wcap := wcap' }) sls2 hd rfl rfl) t2 (fun j hj => by unfold dk at hj; omega)
  refine ⟨rfl, c2, t2.mono (fun j hj => by omega), ⟨ar, ck, tb, tp, la, now, tl, dl, l, _, ao, cap, ro, rcap, _, ⟨R3, d3, Q2, Z3.1, Z3.2.1, Z3.2.2⟩⟩, ?_⟩
  rw [← Q1]
  exact e1.stp t2 (by unfold dk; omega)
theorem enl_none (h : JW c w k r p ar ck tb tp la now tl dl l D ao cap ro rcap R) (a b : Int) (ha : a < 0 ∨ (D.length : Int) ≤ a) :
    Calls Tryz.prog 16 #[.pointer (some ⟨r, 0, none⟩), .int .i64 a, .int .i64 b] w fun e1 w' => ∃ ev c', e1 = .returned ev ∧ Stp (1 ≤ ·) c c' w w' ∧ Calls Tryz.prog 91 #[.pointer (some ⟨p, 0, none⟩), .int .i64 a, .int .i64 b] w' fun e2 w2 => e2 = .returned (.int .i64 3) ∧ ∃ c2, Stp (1 ≤ ·) c' c2 w' w2 ∧ JE c2 w2 (k + 1) r p ∧ Err c2 w2 ev 3 := by
  refine (renlist_none h.code a b ha).mono ?_
  rintro e1 w1 ⟨ev, rfl, c1, t1, e1⟩
  have H1 := h.stpF t1
  refine ⟨ev, c1, rfl, t1.mono (fun _ h => h.elim), ?_⟩
  refine (r14enlist_none H1.doc a b (by rw [h.law.len]; exact ha)).mono ?_
  rintro e2 w2 ⟨rfl, rfl⟩
  exact ⟨rfl, c1, Stp.refl _ _ _, ⟨ar, ck, tb, tp, la, now, tl, dl, l, D, ao, cap, ro, rcap, R, { H1 with law := H1.law.mono (Nat.le_succ k) }⟩, e1.err (by decide)⟩
theorem halt_both (h : JW c w k r p ar ck tb tp la now tl dl l D ao cap ro rcap R) (a : Int) :
    Calls Tryz.prog 15 #[.pointer (some ⟨r, 0, none⟩), .int .i64 a] w fun e1 w' => ∃ ev c', e1 = .returned ev ∧ Stp (1 ≤ ·) c c' w w' ∧ Calls Tryz.prog 97 #[.pointer (some ⟨p, 0, none⟩), .int .i64 a] w' fun e2 w2 => e2 = .returned (.int .i64 (wrongAt l a)) ∧ ∃ c2, Stp (1 ≤ ·) c' c2 w' w2 ∧ JE c2 w2 (k + 1) r p ∧ Err c2 w2 ev (wrongAt l a) := by
  have hl := h.law.tllen
  have hl2 := h.law.tlen
  refine (rmhalt_any h.code.rm a (by omega)).mono ?_
  rintro e1 w1 ⟨ev, rfl, c1, t1, m1, e1⟩
  obtain ⟨d2, tab2, deb2, sls2⟩ := h.stepC t1 (fun j hj => by have := jr_col hj; omega) (fun i _ hj => by have := jr_col hj; unfold kb at this; omega)
  refine ⟨ev, c1, rfl, t1.mono (fun j hj => by have := jr_col hj; omega), ?_⟩
  refine (r14halt_any d2.wd a (by omega)).mono ?_
  rintro e2 w2 ⟨rfl, c2, t2, d3⟩
  obtain ⟨R3, Z3⟩ := JW.stepD (h.code.go t1 m1) tab2 deb2 sls2 t2 (fun j hj => by unfold JD at hj; omega)
  exact ⟨rfl, c2, t2.mono (fun j hj => by unfold JD at hj; omega), ⟨ar, ck, tb, tp, la, now, _, _, _, D, ao, cap, ro, rcap, R, ⟨R3, d2.go t2 d3, h.law.halt a, Z3.1, Z3.2.1, Z3.2.2⟩⟩, e1.stp t2 (by unfold JD; omega)⟩
end
section
variable {c c' : Nat → Nat} {w w' : World} {k r p : Nat}

set_option maxRecDepth 100000 in
set_option maxHeartbeats 4000000 in
theorem do14_enl0 {ar ck tb tp : Nat} {la : List Int} {now : Int} {tl dl : List Tm} {l : List One} {D : List RD} {ao : Option Addr} {cap : Nat} {ro : Option Addr} {rcap : Nat} {R : List DR} (h : JW c w k r p ar ck tb tp la now tl dl l D ao cap ro rcap R) (_hk : k < 150) (a b at0 hi : Int) (ha : a < 0 ∨ (D.length : Int) ≤ a) :
    Calls Tryz.prog 46 #[.pointer (some ⟨r, 0, none⟩), .pointer (some ⟨p, 0, none⟩), .agg #[.int .i64 2, .int .i64 a, .int .i64 b, .int .i64 at0, .int .i64 hi]] w fun e w' => e = .returned (.bool true) ∧ ∃ c', Stp (1 ≤ ·) c c' w w' ∧ JE c' w' (k + 1) r p := by
  obtain ⟨xb, hxb⟩ : ∃ x, x = w.heap.size := ⟨_, rfl⟩
  obtain ⟨c1, hc1, t1⟩ := ((Stp.refl (fun _ => False) c w).alloc (.cells #[.int .i64 2, .int .i64 a, .int .i64 b, .int .i64 at0, .int .i64 hi] 91) 0).name
  have X1 := Lib.hid (show Blk c1 0 (w.alloc (.cells #[.int .i64 2, .int .i64 a, .int .i64 b, .int .i64 at0, .int .i64 hi] 91)) xb [.int .i64 2, .int .i64 a, .int .i64 b, .int .i64 at0, .int .i64 hi] 91 by rw [hc1.out, hxb]; exact Blk.new c 0 w _ _)
  have H1 := Lib.hid (h.stpF t1.out)
  have S1 := Lib.hid (t1.out.mono (J' := (1 ≤ ·)) (fun _ h => h.elim))
  clear h hc1 t1
  go_enter Tryz.func46, Tryz.ntmps46
  go_upto_region 1 with fail
  rw [← hxb]
  generalize w.alloc (.cells #[.int .i64 2, .int .i64 a, .int .i64 b, .int .i64 at0, .int .i64 hi] 91) = w1 at X1 H1 S1 ⊢
  clear hxb
  obtain ⟨x0, x1, x2, x3, x4, lx⟩ := ro_blk X1.out
  have HC := Lib.hid (enl_none (H1.out.stpF (Stp.refl (fun _ => False) c1 w1).drew) a b ha)
  go_wp2_with fail
  refine Tryz.rdo10 (er := 3) (kk := k + 1) X1 HC ?_
  intro c2 w2 g0 g1 g2 g3 g4 g5 g6 g7 g8 g9 g10 g11 g12 T2 J2
  clear HC x0 x1 x2 x3 x4 lx X1 H1
  go_wp2
  go_ret
  exact ⟨rfl, c2, S1.out.trans T2.out, J2.out⟩

set_option maxRecDepth 100000 in
set_option maxHeartbeats 4000000 in
theorem do14_enl1 {ar ck tb tp : Nat} {la : List Int} {now : Int} {tl dl : List Tm} {l : List One} {D : List RD} {ao : Option Addr} {cap : Nat} {ro : Option Addr} {rcap : Nat} {R : List DR} (h : JW c w k r p ar ck tb tp la now tl dl l D ao cap ro rcap R) (_hk : k < 150) (b at0 hi : Int) {i : Nat} {d : RD} {e : DR} (hd : D[i]? = some d) (he : R[i]? = some e) :
    Calls Tryz.prog 46 #[.pointer (some ⟨r, 0, none⟩), .pointer (some ⟨p, 0, none⟩), .agg #[.int .i64 2, .int .i64 (i : Int), .int .i64 b, .int .i64 at0, .int .i64 hi]] w fun e w' => e = .returned (.bool true) ∧ ∃ c', Stp (1 ≤ ·) c c' w w' ∧ JE c' w' (k + 1) r p := by
  obtain ⟨xb, hxb⟩ : ∃ x, x = w.heap.size := ⟨_, rfl⟩
  obtain ⟨c1, hc1, t1⟩ := ((Stp.refl (fun _ => False) c w).alloc (.cells #[.int .i64 2, .int .i64 (i : Int), .int .i64 b, .int .i64 at0, .int .i64 hi] 91) 0).name
  have X1 := Lib.hid (show Blk c1 0 (w.alloc (.cells #[.int .i64 2, .int .i64 (i : Int), .int .i64 b, .int .i64 at0, .int .i64 hi] 91)) xb [.int .i64 2, .int .i64 (i : Int), .int .i64 b, .int .i64 at0, .int .i64 hi] 91 by rw [hc1.out, hxb]; exact Blk.new c 0 w _ _)
  have H1 := Lib.hid (h.stpF t1.out)
  have S1 := Lib.hid (t1.out.mono (J' := (1 ≤ ·)) (fun _ h => h.elim))
  clear h hc1 t1
  go_enter Tryz.func46, Tryz.ntmps46
  go_upto_region 1 with fail
  rw [← hxb]
  generalize w.alloc (.cells #[.int .i64 2, .int .i64 (i : Int), .int .i64 b, .int .i64 at0, .int .i64 hi] 91) = w1 at X1 H1 S1 ⊢
  clear hxb
  obtain ⟨x0, x1, x2, x3, x4, lx⟩ := ro_blk X1.out
  have HC := Lib.hid (enl_both (H1.out.stpF (Stp.refl (fun _ => False) c1 w1).drew) hd he b)
  go_wp2_with fail
  refine Tryz.rdo10 (er := (enlT l e.wl b).2) (kk := k + 1) X1 HC ?_
  intro c2 w2 g0 g1 g2 g3 g4 g5 g6 g7 g8 g9 g10 g11 g12 T2 J2
  clear HC x0 x1 x2 x3 x4 lx X1 H1
  go_wp2
  go_ret
  exact ⟨rfl, c2, S1.out.trans T2.out, J2.out⟩

set_option maxRecDepth 100000 in
set_option maxHeartbeats 4000000 in
theorem do14_halt {ar ck tb tp : Nat} {la : List Int} {now : Int} {tl dl : List Tm} {l : List One} {D : List RD} {ao : Option Addr} {cap : Nat} {ro : Option Addr} {rcap : Nat} {R : List DR} (h : JW c w k r p ar ck tb tp la now tl dl l D ao cap ro rcap R) (_hk : k < 150) (a b at0 hi : Int) :
    Calls Tryz.prog 46 #[.pointer (some ⟨r, 0, none⟩), .pointer (some ⟨p, 0, none⟩), .agg #[.int .i64 7, .int .i64 a, .int .i64 b, .int .i64 at0, .int .i64 hi]] w fun e w' => e = .returned (.bool true) ∧ ∃ c', Stp (1 ≤ ·) c c' w w' ∧ JE c' w' (k + 1) r p := by
  obtain ⟨xb, hxb⟩ : ∃ x, x = w.heap.size := ⟨_, rfl⟩
  obtain ⟨c1, hc1, t1⟩ := ((Stp.refl (fun _ => False) c w).alloc (.cells #[.int .i64 7, .int .i64 a, .int .i64 b, .int .i64 at0, .int .i64 hi] 91) 0).name
  have X1 := Lib.hid (show Blk c1 0 (w.alloc (.cells #[.int .i64 7, .int .i64 a, .int .i64 b, .int .i64 at0, .int .i64 hi] 91)) xb [.int .i64 7, .int .i64 a, .int .i64 b, .int .i64 at0, .int .i64 hi] 91 by rw [hc1.out, hxb]; exact Blk.new c 0 w _ _)
  have H1 := Lib.hid (h.stpF t1.out)
  have S1 := Lib.hid (t1.out.mono (J' := (1 ≤ ·)) (fun _ h => h.elim))
  clear h hc1 t1
  go_enter Tryz.func46, Tryz.ntmps46
  go_upto_region 1 with fail
  rw [← hxb]
  generalize w.alloc (.cells #[.int .i64 7, .int .i64 a, .int .i64 b, .int .i64 at0, .int .i64 hi] 91) = w1 at X1 H1 S1 ⊢
  clear hxb
  obtain ⟨x0, x1, x2, x3, x4, lx⟩ := ro_blk X1.out
  have HC := Lib.hid (halt_both (H1.out.stpF (Stp.refl (fun _ => False) c1 w1).drew) a)
  go_wp2_with fail
  refine Tryz.rdo28 (er := (wrongAt l a)) (kk := k + 1) X1 HC ?_
  intro c2 w2 g0 g1 g2 g3 g4 g5 g6 g7 g8 T2 J2
  clear HC x0 x1 x2 x3 x4 lx X1 H1
  go_wp2
  go_ret
  exact ⟨rfl, c2, S1.out.trans T2.out, J2.out⟩
end
end Go.Proofs.YtiphdedfbafhkaaGreatDoor
