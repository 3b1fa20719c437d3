/- Region 25 of MultiShares, a theorem each. No condition beyond each theorem's own. -/
import Derived.Test.YtoifknfmamcimaaDoorShZ
import Derived.Deep.CutBlock
import Derived.Deep.RegionWith
import Derived.Deep.RegionLaw
import Derived.Test.YtoifknfmamcimaaDoorMul9
import Derived.Test.YtoifknfmamcimaaDoorMem4
import Derived.Deep.RegionHeld3
namespace Go.Proofs.YtoifknfmamcimaaDoor
open Go.RowKit

theorem s25v {p : Nat} {T : List ST} {x : ST} {a z b : Addr} {lcap zcap bcap xb i : Nat} {c : Nat → Nat} {w0 w : World} {t2 : TypeId} {l0 l1 l2 l3 l4 l5 l6 u0 u1 u2 : Value} {bv : Bool} (Q : SRows p T (some a) lcap (some z) zcap (some b) bcap c w0) (X : Blk c 15 w0 xb [u0, u1, u2] t2) (hT : T[i]? = some x) (he : x.lc p = [l0, l1, l2, l3, l4, l5, l6]) (hb : x.b = bv) (h : OldF c w0 w) : S25 xb i a z b l0 l1 l2 l3 l4 l5 l6 (.int .i64 x.u.t.n) (.bool bv) u1 w := by
  rw [← hb]; exact s25 Q X hT he h

noncomputable def Tryd.cs25a : Code := (Tryd.f8.body.bind (regionN 25)).getD .skip

set_option maxRecDepth 1000000 in
set_option maxHeartbeats 100000000 in
theorem Tryd.rs25a {p i lcap zcap bcap xb um ucap : Nat} {T : List ST} {x : ST} {a z b : Addr} {un zs ucl uhi umo left : Int} {uao : Option Addr} {v0 v2 : Value} {c8 : Nat → Nat} {w8 : World}
    (Q8 : Hid (SRows p T (some a) lcap (some z) zcap (some b) bcap c8 w8)) (X8 : Hid (Blk c8 15 w8 xb [v0, .int .i64 (i : Int), v2] 71)) (HT : Hid (T[i]? = some x)) (HE : Hid (x.lc p = [.pointer (some ⟨p, 0, none⟩), .int .i64 un, .int .i64 zs, .int .i64 ucl, .int .i64 uhi, .slice uao um ucap, .int .i64 umo]))
    (i0 : (0 : Int) ≤ (i : Int)) (i1 : (i : Int) < (T.length : Int)) (HB : Hid (x.b = true)) {fr0 fr1 fr2 fr3 fr4 fr5 fr6 fr7 fr8 fr9 fr10 fr14 fr16 fr17 fr19 fr20 fr21 fr22 fr23 fr24 fr25 fr26 fr27 fr28 fr29 fr30 fr31 fr32 fr33 fr34 fr35 fr36 fr37 fr38 fr39 fr40 fr41 fr42 fr43 fr44 fr45 fr46 fr47 fr48 fr49 fr50 fr51 fr52 fr53 fr54 fr55 fr56 fr57 fr58 fr59 fr60 fr61 fr62 fr63 fr64 fr65 fr66 fr67 fr68 fr69 fr70 fr71 fr72 fr73 fr74 fr75 fr76 fr77 fr78 fr79 fr80 fr81 fr82 fr83 fr84 fr85 fr86 fr87 fr88 fr89 fr90 fr91 fr92 fr93 fr94 fr95 fr96 fr97 fr98 fr99 fr100 fr101 fr102 fr103 fr104 fr105 fr106 fr107 fr108 fr109 fr110 fr111 fr112 fr113 fr114 fr115 fr116 fr117 fr118 fr119 fr120 fr121 fr122 fr123 fr124 fr125 fr126 fr127 fr128 fr129 fr130 fr131 fr132 fr133 fr134 fr135 fr136 fr137 fr138 fr139 fr140 fr141 fr142 fr143 fr144 fr145 fr146 fr147 fr148 fr149 fr150 fr151 fr152 fr153 fr154 fr155 fr156 fr157 fr158 fr159 fr160 fr161 fr162 fr163 fr164 fr165 fr166 fr167 fr168 fr169 fr170 fr171 fr172 fr173 fr174 fr175 fr176 fr177 fr178 fr179 fr180 fr181 fr182 fr183 fr184 fr185 fr186 fr187 fr188 fr189 fr190 fr191 fr192 fr193 fr194 fr195 fr196 fr197 fr198 fr199 fr200 fr201 fr202 fr203 fr204 fr205 fr206 fr207 fr208 fr209 fr210 fr211 fr212 fr213 fr214 fr215 fr216 fr217 fr218 fr219 fr220 fr221 fr222 fr223 fr224 fr225 fr226 fr227 fr228 fr229 fr230 fr231 fr232 fr233 fr234 fr235 fr236 fr237 fr238 fr239 fr240 fr241 fr242 fr243 fr244 fr245 fr246 fr247 fr248 fr249 fr250 fr251 fr252 fr253 fr254 fr255 fr256 fr257 fr258 fr259 fr260 fr261 fr262 fr263 fr264 fr265 fr266 fr267 fr268 fr269 fr270 fr271 fr272 fr273 fr274 fr275 fr276 fr277 fr278 fr279 fr280 fr281 fr282 fr283 fr284 : Value} {Q0 : Exit → Act → World → Prop}
    (hQ : ∀ (w' : World), ∀ g103 g104 g105 g106 g107 g108 g109 g110 g111 g112 g113 g114 g115 g116 g117 g118 g119 g120 g121 g122 g123 g124 g125 g126 g127 g128 g129 : Value, Hid (E25 c8 w8 b T.length bcap ((T.map fun x => .bool x.b).set i (.bool true)) w') → Q0 .normal ⟨#[fr0, fr1, fr2, fr3, fr4, fr5, fr6, fr7, fr8, fr9, fr10, .slice (some z) T.length zcap, .slice (some a) T.length lcap, .slice (some b) T.length bcap, fr14, .pointer (some ⟨xb, 0, none⟩), fr16, fr17, .int .i64 left, fr19, fr20, fr21, fr22, fr23, fr24, fr25, fr26, fr27, fr28, fr29, fr30, fr31, fr32, fr33, fr34, fr35, fr36, fr37, fr38, fr39, fr40, fr41, fr42, fr43, fr44, fr45, fr46, fr47, fr48, fr49, fr50, fr51, fr52, fr53, fr54, fr55, fr56, fr57, fr58, fr59, fr60, fr61, fr62, fr63, fr64, fr65, fr66, fr67, fr68, fr69, fr70, fr71, fr72, fr73, fr74, fr75, fr76, fr77, fr78, fr79, fr80, fr81, fr82, fr83, fr84, fr85, fr86, fr87, fr88, fr89, fr90, fr91, fr92, fr93, fr94, fr95, fr96, fr97, fr98, fr99, fr100, fr101, fr102, g103, g104, g105, g106, g107, g108, g109, g110, g111, g112, g113, g114, g115, g116, g117, g118, g119, g120, g121, g122, g123, g124, g125, g126, g127, g128, g129, fr130, fr131, fr132, fr133, fr134, fr135, fr136, fr137, fr138, fr139, fr140, fr141, fr142, fr143, fr144, fr145, fr146, fr147, fr148, fr149, fr150, fr151, fr152, fr153, fr154, fr155, fr156, fr157, fr158, fr159, fr160, fr161, fr162, fr163, fr164, fr165, fr166, fr167, fr168, fr169, fr170, fr171, fr172, fr173, fr174, fr175, fr176, fr177, fr178, fr179, fr180, fr181, fr182, fr183, fr184, fr185, fr186, fr187, fr188, fr189, fr190, fr191, fr192, fr193, fr194, fr195, fr196, fr197, fr198, fr199, fr200, fr201, fr202, fr203, fr204, fr205, fr206, fr207, fr208, fr209, fr210, fr211, fr212, fr213, fr214, fr215, fr216, fr217, fr218, fr219, fr220, fr221, fr222, fr223, fr224, fr225, fr226, fr227, fr228, fr229, fr230, fr231, fr232, fr233, fr234, fr235, fr236, fr237, fr238, fr239, fr240, fr241, fr242, fr243, fr244, fr245, fr246, fr247, fr248, fr249, fr250, fr251, fr252, fr253, fr254, fr255, fr256, fr257, fr258, fr259, fr260, fr261, fr262, fr263, fr264, fr265, fr266, fr267, fr268, fr269, fr270, fr271, fr272, fr273, fr274, fr275, fr276, fr277, fr278, fr279, fr280, fr281, fr282, fr283, fr284], []⟩ w') : Code.wp Tryd.prog Tryd.cs25a Q0 ⟨#[fr0, fr1, fr2, fr3, fr4, fr5, fr6, fr7, fr8, fr9, fr10, .slice (some z) T.length zcap, .slice (some a) T.length lcap, .slice (some b) T.length bcap, fr14, .pointer (some ⟨xb, 0, none⟩), fr16, fr17, .int .i64 left, fr19, fr20, fr21, fr22, fr23, fr24, fr25, fr26, fr27, fr28, fr29, fr30, fr31, fr32, fr33, fr34, fr35, fr36, fr37, fr38, fr39, fr40, fr41, fr42, fr43, fr44, fr45, fr46, fr47, fr48, fr49, fr50, fr51, fr52, fr53, fr54, fr55, fr56, fr57, fr58, fr59, fr60, fr61, fr62, fr63, fr64, fr65, fr66, fr67, fr68, fr69, fr70, fr71, fr72, fr73, fr74, fr75, fr76, fr77, fr78, fr79, fr80, fr81, fr82, fr83, fr84, fr85, fr86, fr87, fr88, fr89, fr90, fr91, fr92, fr93, fr94, fr95, fr96, fr97, fr98, fr99, fr100, fr101, fr102, fr103, fr104, fr105, fr106, fr107, fr108, fr109, fr110, fr111, fr112, fr113, fr114, fr115, fr116, fr117, fr118, fr119, fr120, fr121, fr122, fr123, fr124, fr125, fr126, fr127, fr128, fr129, fr130, fr131, fr132, fr133, fr134, fr135, fr136, fr137, fr138, fr139, fr140, fr141, fr142, fr143, fr144, fr145, fr146, fr147, fr148, fr149, fr150, fr151, fr152, fr153, fr154, fr155, fr156, fr157, fr158, fr159, fr160, fr161, fr162, fr163, fr164, fr165, fr166, fr167, fr168, fr169, fr170, fr171, fr172, fr173, fr174, fr175, fr176, fr177, fr178, fr179, fr180, fr181, fr182, fr183, fr184, fr185, fr186, fr187, fr188, fr189, fr190, fr191, fr192, fr193, fr194, fr195, fr196, fr197, fr198, fr199, fr200, fr201, fr202, fr203, fr204, fr205, fr206, fr207, fr208, fr209, fr210, fr211, fr212, fr213, fr214, fr215, fr216, fr217, fr218, fr219, fr220, fr221, fr222, fr223, fr224, fr225, fr226, fr227, fr228, fr229, fr230, fr231, fr232, fr233, fr234, fr235, fr236, fr237, fr238, fr239, fr240, fr241, fr242, fr243, fr244, fr245, fr246, fr247, fr248, fr249, fr250, fr251, fr252, fr253, fr254, fr255, fr256, fr257, fr258, fr259, fr260, fr261, fr262, fr263, fr264, fr265, fr266, fr267, fr268, fr269, fr270, fr271, fr272, fr273, fr274, fr275, fr276, fr277, fr278, fr279, fr280, fr281, fr282, fr283, fr284], []⟩ w8 := by
  conv => arg 2; whnf
  refine wp_region_noPanic ?_
  have HQ := Lib.hid hQ
  clear hQ
  have HBI := Lib.hid (show (T.map fun x => Value.bool x.b)[i]? = some (.bool x.b) by simp [HT.out])
  have HBL := Lib.hid (show i < (T.map fun x => Value.bool x.b).length by rw [List.length_map]; exact (List.getElem?_eq_some_iff.1 HT.out).1)
  have F0 := Lib.hid (show OldF c8 w8 w8.drew from ⟨c8, (Stp.refl _ _ _).drew⟩)
  refine wp_region_till (S := S25 xb i a z b (.pointer (some ⟨p, 0, none⟩)) (.int .i64 un) (.int .i64 zs) (.int .i64 ucl) (.int .i64 uhi) (.slice uao um ucap) (.int .i64 umo) (.int .i64 x.u.t.n) (.bool true) (.int .i64 (i : Int))) (f := 27) (by kernel_rfl) ?_
  have hS := Lib.hid (s25v Q8.out X8.out HT.out HE.out HB.out F0.out)
  generalize w8.drew = wq0 at F0 hS ⊢
  refine wpTill_takeL (i := 0) (v := ?_) (l := [0]) rfl (by kernel_rfl) (by kernel_rfl) (by kernel_rfl) (by kernel_rfl) (by kernel_rfl) (by rfl) (fun _ _ _ h => h) (Or.inl ⟨by rfl, ?_⟩) hS.out ?_
  rotate_left
  · intro wy hSy
    clear hSy
    go_simp
    try with_reducible rfl
  try simp only [Act.put, List.setIfInBounds_toArray, List.set_cons_zero, List.set_cons_succ]
  refine wpTill_takeL (i := 1) (v := ?_) (l := [1]) rfl (by kernel_rfl) (by kernel_rfl) (by kernel_rfl) (by kernel_rfl) (by kernel_rfl) (by rfl) (fun _ _ _ h => h) (Or.inl ⟨by rfl, ?_⟩) hS.out ?_
  rotate_left
  · intro wy hSy
    clear hSy
    go_simp
    try with_reducible rfl
  try simp only [Act.put, List.setIfInBounds_toArray, List.set_cons_zero, List.set_cons_succ]
  refine wpTill_takeL (i := 2) (v := ?_) (l := [2]) rfl (by kernel_rfl) (by kernel_rfl) (by kernel_rfl) (by kernel_rfl) (by kernel_rfl) (by rfl) (fun _ _ _ h => h) (Or.inl ⟨by rfl, ?_⟩) hS.out ?_
  rotate_left
  · intro wy hSy
    obtain ⟨q1, ⟨l0, l1, l2, l3, l4, l5, l6⟩, qn, qb⟩ := hSy
    go_simp
    try with_reducible rfl
  try simp only [Act.put, List.setIfInBounds_toArray, List.set_cons_zero, List.set_cons_succ]
  refine wpTill_takeL (i := 3) (v := ?_) (l := [3]) rfl (by kernel_rfl) (by kernel_rfl) (by kernel_rfl) (by kernel_rfl) (by kernel_rfl) (by rfl) (fun _ _ _ h => h) (Or.inl ⟨by rfl, ?_⟩) hS.out ?_
  rotate_left
  · intro wy hSy
    clear hSy
    go_simp
    try with_reducible rfl
  try simp only [Act.put, List.setIfInBounds_toArray, List.set_cons_zero, List.set_cons_succ]
  refine wpTill_takeL (i := 4) (v := ?_) (l := [4]) rfl (by kernel_rfl) (by kernel_rfl) (by kernel_rfl) (by kernel_rfl) (by kernel_rfl) (by rfl) (fun _ _ _ h => h) (Or.inl ⟨by rfl, ?_⟩) hS.out ?_
  rotate_left
  · intro wy hSy
    clear hSy
    go_simp
    try with_reducible rfl
  try simp only [Act.put, List.setIfInBounds_toArray, List.set_cons_zero, List.set_cons_succ]
  refine wpTill_takeL (i := 5) (v := ?_) (l := [5]) rfl (by kernel_rfl) (by kernel_rfl) (by kernel_rfl) (by kernel_rfl) (by kernel_rfl) (by rfl) (fun _ _ _ h => h) (Or.inl ⟨by rfl, ?_⟩) hS.out ?_
  rotate_left
  · intro wy hSy
    obtain ⟨q1, ⟨l0, l1, l2, l3, l4, l5, l6⟩, qn, qb⟩ := hSy
    go_simp
    try with_reducible rfl
  try simp only [Act.put, List.setIfInBounds_toArray, List.set_cons_zero, List.set_cons_succ]
  refine wpTill_takeL (i := 6) (v := ?_) (l := [6]) rfl (by kernel_rfl) (by kernel_rfl) (by kernel_rfl) (by kernel_rfl) (by kernel_rfl) (by rfl) (fun _ _ _ h => h) (Or.inl ⟨by rfl, ?_⟩) hS.out ?_
  rotate_left
  · intro wy hSy
    clear hSy
    go_simp
    try with_reducible rfl
  try simp only [Act.put, List.setIfInBounds_toArray, List.set_cons_zero, List.set_cons_succ]
  refine wpTill_takeL (i := 7) (v := ?_) (l := [7]) rfl (by kernel_rfl) (by kernel_rfl) (by kernel_rfl) (by kernel_rfl) (by kernel_rfl) (by rfl) (fun _ _ _ h => h) (Or.inl ⟨by rfl, ?_⟩) hS.out ?_
  rotate_left
  · intro wy hSy
    obtain ⟨q1, ⟨l0, l1, l2, l3, l4, l5, l6⟩, qn, qb⟩ := hSy
    go_simp
    try with_reducible rfl
  try simp only [Act.put, List.setIfInBounds_toArray, List.set_cons_zero, List.set_cons_succ]
  refine wpTill_takeL (i := 8) (v := ?_) (l := [8]) rfl (by kernel_rfl) (by kernel_rfl) (by kernel_rfl) (by kernel_rfl) (by kernel_rfl) (by rfl) (fun _ _ _ h => h) (Or.inl ⟨by rfl, ?_⟩) hS.out ?_
  rotate_left
  · intro wy hSy
    clear hSy
    go_simp
    try with_reducible rfl
  try simp only [Act.put, List.setIfInBounds_toArray, List.set_cons_zero, List.set_cons_succ]
  refine wpTill_takeL (i := 9) (v := undef) (l := [9]) rfl (by kernel_rfl) (by kernel_rfl) (by kernel_rfl) (by kernel_rfl) (by kernel_rfl) (by rfl) (fun _ _ _ h => h) (Or.inr ⟨by rfl, rfl⟩) hS.out ?_
  try simp only [Act.put, List.setIfInBounds_toArray, List.set_cons_zero, List.set_cons_succ]
  refine wpTill_takeL (i := 10) (v := undef) (l := [10]) rfl (by kernel_rfl) (by kernel_rfl) (by kernel_rfl) (by kernel_rfl) (by kernel_rfl) (by rfl) (fun _ _ _ h => h) (Or.inr ⟨by rfl, rfl⟩) hS.out ?_
  try simp only [Act.put, List.setIfInBounds_toArray, List.set_cons_zero, List.set_cons_succ]
  refine wpTill_takeL (i := 11) (v := undef) (l := [11]) rfl (by kernel_rfl) (by kernel_rfl) (by kernel_rfl) (by kernel_rfl) (by kernel_rfl) (by rfl) (fun _ _ _ h => h) (Or.inr ⟨by rfl, rfl⟩) hS.out ?_
  try simp only [Act.put, List.setIfInBounds_toArray, List.set_cons_zero, List.set_cons_succ]
  refine wpTill_takeL (i := 12) (v := undef) (l := [12]) rfl (by kernel_rfl) (by kernel_rfl) (by kernel_rfl) (by kernel_rfl) (by kernel_rfl) (by rfl) (fun _ _ _ h => h) (Or.inr ⟨by rfl, rfl⟩) hS.out ?_
  try simp only [Act.put, List.setIfInBounds_toArray, List.set_cons_zero, List.set_cons_succ]
  refine wpTill_takeL (i := 13) (v := undef) (l := [13]) rfl (by kernel_rfl) (by kernel_rfl) (by kernel_rfl) (by kernel_rfl) (by kernel_rfl) (by rfl) (fun _ _ _ h => h) (Or.inr ⟨by rfl, rfl⟩) hS.out ?_
  try simp only [Act.put, List.setIfInBounds_toArray, List.set_cons_zero, List.set_cons_succ]
  refine wpTill_takeL (i := 14) (v := undef) (l := [14]) rfl (by kernel_rfl) (by kernel_rfl) (by kernel_rfl) (by kernel_rfl) (by kernel_rfl) (by rfl) (fun _ _ _ h => h) (Or.inr ⟨by rfl, rfl⟩) hS.out ?_
  try simp only [Act.put, List.setIfInBounds_toArray, List.set_cons_zero, List.set_cons_succ]
  refine wpTill_takeL (i := 15) (v := undef) (l := [15]) rfl (by kernel_rfl) (by kernel_rfl) (by kernel_rfl) (by kernel_rfl) (by kernel_rfl) (by rfl) (fun _ _ _ h => h) (Or.inr ⟨by rfl, rfl⟩) hS.out ?_
  try simp only [Act.put, List.setIfInBounds_toArray, List.set_cons_zero, List.set_cons_succ]
  refine wpTill_takeL (i := 16) (v := undef) (l := [16]) rfl (by kernel_rfl) (by kernel_rfl) (by kernel_rfl) (by kernel_rfl) (by kernel_rfl) (by rfl) (fun _ _ _ h => h) (Or.inr ⟨by rfl, rfl⟩) hS.out ?_
  try simp only [Act.put, List.setIfInBounds_toArray, List.set_cons_zero, List.set_cons_succ]
  refine wpTill_takeL (i := 17) (v := undef) (l := [17]) rfl (by kernel_rfl) (by kernel_rfl) (by kernel_rfl) (by kernel_rfl) (by kernel_rfl) (by rfl) (fun _ _ _ h => h) (Or.inr ⟨by rfl, rfl⟩) hS.out ?_
  try simp only [Act.put, List.setIfInBounds_toArray, List.set_cons_zero, List.set_cons_succ]
  refine wpTill_takeL (i := 18) (v := undef) (l := [18]) rfl (by kernel_rfl) (by kernel_rfl) (by kernel_rfl) (by kernel_rfl) (by kernel_rfl) (by rfl) (fun _ _ _ h => h) (Or.inr ⟨by rfl, rfl⟩) hS.out ?_
  try simp only [Act.put, List.setIfInBounds_toArray, List.set_cons_zero, List.set_cons_succ]
  refine wpTill_takeL (i := 19) (v := undef) (l := [19]) rfl (by kernel_rfl) (by kernel_rfl) (by kernel_rfl) (by kernel_rfl) (by kernel_rfl) (by rfl) (fun _ _ _ h => h) (Or.inr ⟨by rfl, rfl⟩) hS.out ?_
  try simp only [Act.put, List.setIfInBounds_toArray, List.set_cons_zero, List.set_cons_succ]
  refine wpTill_takeL (i := 20) (v := undef) (l := [20]) rfl (by kernel_rfl) (by kernel_rfl) (by kernel_rfl) (by kernel_rfl) (by kernel_rfl) (by rfl) (fun _ _ _ h => h) (Or.inr ⟨by rfl, rfl⟩) hS.out ?_
  try simp only [Act.put, List.setIfInBounds_toArray, List.set_cons_zero, List.set_cons_succ]
  refine wpTill_takeL (i := 21) (v := undef) (l := [21]) rfl (by kernel_rfl) (by kernel_rfl) (by kernel_rfl) (by kernel_rfl) (by kernel_rfl) (by rfl) (fun _ _ _ h => h) (Or.inr ⟨by rfl, rfl⟩) hS.out ?_
  try simp only [Act.put, List.setIfInBounds_toArray, List.set_cons_zero, List.set_cons_succ]
  refine wpTill_takeL (i := 22) (v := undef) (l := [22]) rfl (by kernel_rfl) (by kernel_rfl) (by kernel_rfl) (by kernel_rfl) (by kernel_rfl) (by rfl) (fun _ _ _ h => h) (Or.inr ⟨by rfl, rfl⟩) hS.out ?_
  try simp only [Act.put, List.setIfInBounds_toArray, List.set_cons_zero, List.set_cons_succ]
  refine wpTill_takeL (i := 23) (v := undef) (l := [23]) rfl (by kernel_rfl) (by kernel_rfl) (by kernel_rfl) (by kernel_rfl) (by kernel_rfl) (by rfl) (fun _ _ _ h => h) (Or.inr ⟨by rfl, rfl⟩) hS.out ?_
  try simp only [Act.put, List.setIfInBounds_toArray, List.set_cons_zero, List.set_cons_succ]
  refine wpTill_takeL (i := 24) (v := undef) (l := [24]) rfl (by kernel_rfl) (by kernel_rfl) (by kernel_rfl) (by kernel_rfl) (by kernel_rfl) (by rfl) (fun _ _ _ h => h) (Or.inr ⟨by rfl, rfl⟩) hS.out ?_
  try simp only [Act.put, List.setIfInBounds_toArray, List.set_cons_zero, List.set_cons_succ]
  refine wpTill_takeL (i := 25) (v := ?_) (l := [25]) rfl (by kernel_rfl) (by kernel_rfl) (by kernel_rfl) (by kernel_rfl) (by kernel_rfl) (by rfl) (fun _ _ _ h => h) (Or.inl ⟨by rfl, ?_⟩) hS.out ?_
  rotate_left
  · intro wy hSy
    clear hSy
    go_simp
    try with_reducible rfl
  try simp only [Act.put, List.setIfInBounds_toArray, List.set_cons_zero, List.set_cons_succ]
  refine wpTill_takeL (i := 26) (v := ?_) (l := [26]) rfl (by kernel_rfl) (by kernel_rfl) (by kernel_rfl) (by kernel_rfl) (by kernel_rfl) (by rfl) (fun _ _ _ h => h) (Or.inl ⟨by rfl, ?_⟩) hS.out ?_
  rotate_left
  · intro wy hSy
    clear hSy
    go_simp
    try with_reducible rfl
  try simp only [Act.put, List.setIfInBounds_toArray, List.set_cons_zero, List.set_cons_succ]
  refine wpTill_ready (rs := [27]) (by kernel_rfl) (by simp) (AllTill.consL rfl (fun K hK => ?_) AllTill.nil)
  obtain ⟨c1, f1, l1⟩ := b25 Q8.out.br F0.out (i := i) (v := .bool x.b) HBI.out
  have EE := Lib.hid (e25 Q8.out.br F0.out (i := i) HBL.out (.bool true))
  go_simp
  refine hK.out _ _ (fun h => absurd rfl h) ?_
  clear hK K
  refine wpTill_done (by kernel_rfl) ?_ _
  exact HQ.out _ _ _ _ _ _ _ _ _ _ _ _ _ _ _ _ _ _ _ _ _ _ _ _ _ _ _ _ EE

noncomputable def Tryd.cs25b : Code := (Tryd.f8.body.bind (regionN 25)).getD .skip

set_option maxRecDepth 1000000 in
set_option maxHeartbeats 100000000 in
theorem Tryd.rs25b {p i lcap zcap bcap xb um ucap : Nat} {T : List ST} {x : ST} {a z b : Addr} {un zs ucl uhi umo left : Int} {uao : Option Addr} {v0 v2 : Value} {c8 : Nat → Nat} {w8 : World}
    (Q8 : Hid (SRows p T (some a) lcap (some z) zcap (some b) bcap c8 w8)) (X8 : Hid (Blk c8 15 w8 xb [v0, .int .i64 (i : Int), v2] 71)) (HT : Hid (T[i]? = some x)) (HE : Hid (x.lc p = [.pointer (some ⟨p, 0, none⟩), .int .i64 un, .int .i64 zs, .int .i64 ucl, .int .i64 uhi, .slice uao um ucap, .int .i64 umo]))
    (i0 : (0 : Int) ≤ (i : Int)) (i1 : (i : Int) < (T.length : Int)) (HB : Hid (x.b = false)) (HD : decide (5 ≤ zs) = true) {fr0 fr1 fr2 fr3 fr4 fr5 fr6 fr7 fr8 fr9 fr10 fr14 fr16 fr17 fr19 fr20 fr21 fr22 fr23 fr24 fr25 fr26 fr27 fr28 fr29 fr30 fr31 fr32 fr33 fr34 fr35 fr36 fr37 fr38 fr39 fr40 fr41 fr42 fr43 fr44 fr45 fr46 fr47 fr48 fr49 fr50 fr51 fr52 fr53 fr54 fr55 fr56 fr57 fr58 fr59 fr60 fr61 fr62 fr63 fr64 fr65 fr66 fr67 fr68 fr69 fr70 fr71 fr72 fr73 fr74 fr75 fr76 fr77 fr78 fr79 fr80 fr81 fr82 fr83 fr84 fr85 fr86 fr87 fr88 fr89 fr90 fr91 fr92 fr93 fr94 fr95 fr96 fr97 fr98 fr99 fr100 fr101 fr102 fr103 fr104 fr105 fr106 fr107 fr108 fr109 fr110 fr111 fr112 fr113 fr114 fr115 fr116 fr117 fr118 fr119 fr120 fr121 fr122 fr123 fr124 fr125 fr126 fr127 fr128 fr129 fr130 fr131 fr132 fr133 fr134 fr135 fr136 fr137 fr138 fr139 fr140 fr141 fr142 fr143 fr144 fr145 fr146 fr147 fr148 fr149 fr150 fr151 fr152 fr153 fr154 fr155 fr156 fr157 fr158 fr159 fr160 fr161 fr162 fr163 fr164 fr165 fr166 fr167 fr168 fr169 fr170 fr171 fr172 fr173 fr174 fr175 fr176 fr177 fr178 fr179 fr180 fr181 fr182 fr183 fr184 fr185 fr186 fr187 fr188 fr189 fr190 fr191 fr192 fr193 fr194 fr195 fr196 fr197 fr198 fr199 fr200 fr201 fr202 fr203 fr204 fr205 fr206 fr207 fr208 fr209 fr210 fr211 fr212 fr213 fr214 fr215 fr216 fr217 fr218 fr219 fr220 fr221 fr222 fr223 fr224 fr225 fr226 fr227 fr228 fr229 fr230 fr231 fr232 fr233 fr234 fr235 fr236 fr237 fr238 fr239 fr240 fr241 fr242 fr243 fr244 fr245 fr246 fr247 fr248 fr249 fr250 fr251 fr252 fr253 fr254 fr255 fr256 fr257 fr258 fr259 fr260 fr261 fr262 fr263 fr264 fr265 fr266 fr267 fr268 fr269 fr270 fr271 fr272 fr273 fr274 fr275 fr276 fr277 fr278 fr279 fr280 fr281 fr282 fr283 fr284 : Value} {Q0 : Exit → Act → World → Prop}
    (hQ : ∀ (w' : World), ∀ g103 g104 g105 g106 g107 g108 g109 g110 g111 g112 g113 g114 g115 g116 g117 g118 g119 g120 g121 g122 g123 g124 g125 g126 g127 g128 g129 : Value, Hid (E25 c8 w8 b T.length bcap ((T.map fun x => .bool x.b).set i (.bool false)) w') → Q0 .normal ⟨#[fr0, fr1, fr2, fr3, fr4, fr5, fr6, fr7, fr8, fr9, fr10, .slice (some z) T.length zcap, .slice (some a) T.length lcap, .slice (some b) T.length bcap, fr14, .pointer (some ⟨xb, 0, none⟩), fr16, fr17, .int .i64 left, fr19, fr20, fr21, fr22, fr23, fr24, fr25, fr26, fr27, fr28, fr29, fr30, fr31, fr32, fr33, fr34, fr35, fr36, fr37, fr38, fr39, fr40, fr41, fr42, fr43, fr44, fr45, fr46, fr47, fr48, fr49, fr50, fr51, fr52, fr53, fr54, fr55, fr56, fr57, fr58, fr59, fr60, fr61, fr62, fr63, fr64, fr65, fr66, fr67, fr68, fr69, fr70, fr71, fr72, fr73, fr74, fr75, fr76, fr77, fr78, fr79, fr80, fr81, fr82, fr83, fr84, fr85, fr86, fr87, fr88, fr89, fr90, fr91, fr92, fr93, fr94, fr95, fr96, fr97, fr98, fr99, fr100, fr101, fr102, g103, g104, g105, g106, g107, g108, g109, g110, g111, g112, g113, g114, g115, g116, g117, g118, g119, g120, g121, g122, g123, g124, g125, g126, g127, g128, g129, fr130, fr131, fr132, fr133, fr134, fr135, fr136, fr137, fr138, fr139, fr140, fr141, fr142, fr143, fr144, fr145, fr146, fr147, fr148, fr149, fr150, fr151, fr152, fr153, fr154, fr155, fr156, fr157, fr158, fr159, fr160, fr161, fr162, fr163, fr164, fr165, fr166, fr167, fr168, fr169, fr170, fr171, fr172, fr173, fr174, fr175, fr176, fr177, fr178, fr179, fr180, fr181, fr182, fr183, fr184, fr185, fr186, fr187, fr188, fr189, fr190, fr191, fr192, fr193, fr194, fr195, fr196, fr197, fr198, fr199, fr200, fr201, fr202, fr203, fr204, fr205, fr206, fr207, fr208, fr209, fr210, fr211, fr212, fr213, fr214, fr215, fr216, fr217, fr218, fr219, fr220, fr221, fr222, fr223, fr224, fr225, fr226, fr227, fr228, fr229, fr230, fr231, fr232, fr233, fr234, fr235, fr236, fr237, fr238, fr239, fr240, fr241, fr242, fr243, fr244, fr245, fr246, fr247, fr248, fr249, fr250, fr251, fr252, fr253, fr254, fr255, fr256, fr257, fr258, fr259, fr260, fr261, fr262, fr263, fr264, fr265, fr266, fr267, fr268, fr269, fr270, fr271, fr272, fr273, fr274, fr275, fr276, fr277, fr278, fr279, fr280, fr281, fr282, fr283, fr284], []⟩ w') : Code.wp Tryd.prog Tryd.cs25b Q0 ⟨#[fr0, fr1, fr2, fr3, fr4, fr5, fr6, fr7, fr8, fr9, fr10, .slice (some z) T.length zcap, .slice (some a) T.length lcap, .slice (some b) T.length bcap, fr14, .pointer (some ⟨xb, 0, none⟩), fr16, fr17, .int .i64 left, fr19, fr20, fr21, fr22, fr23, fr24, fr25, fr26, fr27, fr28, fr29, fr30, fr31, fr32, fr33, fr34, fr35, fr36, fr37, fr38, fr39, fr40, fr41, fr42, fr43, fr44, fr45, fr46, fr47, fr48, fr49, fr50, fr51, fr52, fr53, fr54, fr55, fr56, fr57, fr58, fr59, fr60, fr61, fr62, fr63, fr64, fr65, fr66, fr67, fr68, fr69, fr70, fr71, fr72, fr73, fr74, fr75, fr76, fr77, fr78, fr79, fr80, fr81, fr82, fr83, fr84, fr85, fr86, fr87, fr88, fr89, fr90, fr91, fr92, fr93, fr94, fr95, fr96, fr97, fr98, fr99, fr100, fr101, fr102, fr103, fr104, fr105, fr106, fr107, fr108, fr109, fr110, fr111, fr112, fr113, fr114, fr115, fr116, fr117, fr118, fr119, fr120, fr121, fr122, fr123, fr124, fr125, fr126, fr127, fr128, fr129, fr130, fr131, fr132, fr133, fr134, fr135, fr136, fr137, fr138, fr139, fr140, fr141, fr142, fr143, fr144, fr145, fr146, fr147, fr148, fr149, fr150, fr151, fr152, fr153, fr154, fr155, fr156, fr157, fr158, fr159, fr160, fr161, fr162, fr163, fr164, fr165, fr166, fr167, fr168, fr169, fr170, fr171, fr172, fr173, fr174, fr175, fr176, fr177, fr178, fr179, fr180, fr181, fr182, fr183, fr184, fr185, fr186, fr187, fr188, fr189, fr190, fr191, fr192, fr193, fr194, fr195, fr196, fr197, fr198, fr199, fr200, fr201, fr202, fr203, fr204, fr205, fr206, fr207, fr208, fr209, fr210, fr211, fr212, fr213, fr214, fr215, fr216, fr217, fr218, fr219, fr220, fr221, fr222, fr223, fr224, fr225, fr226, fr227, fr228, fr229, fr230, fr231, fr232, fr233, fr234, fr235, fr236, fr237, fr238, fr239, fr240, fr241, fr242, fr243, fr244, fr245, fr246, fr247, fr248, fr249, fr250, fr251, fr252, fr253, fr254, fr255, fr256, fr257, fr258, fr259, fr260, fr261, fr262, fr263, fr264, fr265, fr266, fr267, fr268, fr269, fr270, fr271, fr272, fr273, fr274, fr275, fr276, fr277, fr278, fr279, fr280, fr281, fr282, fr283, fr284], []⟩ w8 := by
  conv => arg 2; whnf
  refine wp_region_noPanic ?_
  have HQ := Lib.hid hQ
  clear hQ
  have HBI := Lib.hid (show (T.map fun x => Value.bool x.b)[i]? = some (.bool x.b) by simp [HT.out])
  have HBL := Lib.hid (show i < (T.map fun x => Value.bool x.b).length by rw [List.length_map]; exact (List.getElem?_eq_some_iff.1 HT.out).1)
  have F0 := Lib.hid (show OldF c8 w8 w8.drew from ⟨c8, (Stp.refl _ _ _).drew⟩)
  refine wp_region_till (S := S25 xb i a z b (.pointer (some ⟨p, 0, none⟩)) (.int .i64 un) (.int .i64 zs) (.int .i64 ucl) (.int .i64 uhi) (.slice uao um ucap) (.int .i64 umo) (.int .i64 x.u.t.n) (.bool false) (.int .i64 (i : Int))) (f := 27) (by kernel_rfl) ?_
  have hS := Lib.hid (s25v Q8.out X8.out HT.out HE.out HB.out F0.out)
  generalize w8.drew = wq0 at F0 hS ⊢
  refine wpTill_takeL (i := 0) (v := ?_) (l := [0]) rfl (by kernel_rfl) (by kernel_rfl) (by kernel_rfl) (by kernel_rfl) (by kernel_rfl) (by rfl) (fun _ _ _ h => h) (Or.inl ⟨by rfl, ?_⟩) hS.out ?_
  rotate_left
  · intro wy hSy
    clear hSy
    go_simp
    try with_reducible rfl
  try simp only [Act.put, List.setIfInBounds_toArray, List.set_cons_zero, List.set_cons_succ]
  refine wpTill_takeL (i := 1) (v := ?_) (l := [1]) rfl (by kernel_rfl) (by kernel_rfl) (by kernel_rfl) (by kernel_rfl) (by kernel_rfl) (by rfl) (fun _ _ _ h => h) (Or.inl ⟨by rfl, ?_⟩) hS.out ?_
  rotate_left
  · intro wy hSy
    clear hSy
    go_simp
    try with_reducible rfl
  try simp only [Act.put, List.setIfInBounds_toArray, List.set_cons_zero, List.set_cons_succ]
  refine wpTill_takeL (i := 2) (v := ?_) (l := [2]) rfl (by kernel_rfl) (by kernel_rfl) (by kernel_rfl) (by kernel_rfl) (by kernel_rfl) (by rfl) (fun _ _ _ h => h) (Or.inl ⟨by rfl, ?_⟩) hS.out ?_
  rotate_left
  · intro wy hSy
    obtain ⟨q1, ⟨l0, l1, l2, l3, l4, l5, l6⟩, qn, qb⟩ := hSy
    go_simp
    try with_reducible rfl
  try simp only [Act.put, List.setIfInBounds_toArray, List.set_cons_zero, List.set_cons_succ]
  refine wpTill_takeL (i := 3) (v := ?_) (l := [3]) rfl (by kernel_rfl) (by kernel_rfl) (by kernel_rfl) (by kernel_rfl) (by kernel_rfl) (by rfl) (fun _ _ _ h => h) (Or.inl ⟨by rfl, ?_⟩) hS.out ?_
  rotate_left
  · intro wy hSy
    clear hSy
    go_simp
    try with_reducible rfl
  try simp only [Act.put, List.setIfInBounds_toArray, List.set_cons_zero, List.set_cons_succ]
  refine wpTill_takeL (i := 4) (v := ?_) (l := [4]) rfl (by kernel_rfl) (by kernel_rfl) (by kernel_rfl) (by kernel_rfl) (by kernel_rfl) (by rfl) (fun _ _ _ h => h) (Or.inl ⟨by rfl, ?_⟩) hS.out ?_
  rotate_left
  · intro wy hSy
    clear hSy
    go_simp
    try with_reducible rfl
  try simp only [Act.put, List.setIfInBounds_toArray, List.set_cons_zero, List.set_cons_succ]
  refine wpTill_takeL (i := 5) (v := ?_) (l := [5]) rfl (by kernel_rfl) (by kernel_rfl) (by kernel_rfl) (by kernel_rfl) (by kernel_rfl) (by rfl) (fun _ _ _ h => h) (Or.inl ⟨by rfl, ?_⟩) hS.out ?_
  rotate_left
  · intro wy hSy
    obtain ⟨q1, ⟨l0, l1, l2, l3, l4, l5, l6⟩, qn, qb⟩ := hSy
    go_simp
    try with_reducible rfl
  try simp only [Act.put, List.setIfInBounds_toArray, List.set_cons_zero, List.set_cons_succ]
  refine wpTill_takeL (i := 6) (v := ?_) (l := [6]) rfl (by kernel_rfl) (by kernel_rfl) (by kernel_rfl) (by kernel_rfl) (by kernel_rfl) (by rfl) (fun _ _ _ h => h) (Or.inl ⟨by rfl, ?_⟩) hS.out ?_
  rotate_left
  · intro wy hSy
    clear hSy
    go_simp
    try with_reducible rfl
  try simp only [Act.put, List.setIfInBounds_toArray, List.set_cons_zero, List.set_cons_succ]
  refine wpTill_takeL (i := 7) (v := ?_) (l := [7]) rfl (by kernel_rfl) (by kernel_rfl) (by kernel_rfl) (by kernel_rfl) (by kernel_rfl) (by rfl) (fun _ _ _ h => h) (Or.inl ⟨by rfl, ?_⟩) hS.out ?_
  rotate_left
  · intro wy hSy
    obtain ⟨q1, ⟨l0, l1, l2, l3, l4, l5, l6⟩, qn, qb⟩ := hSy
    go_simp
    try with_reducible rfl
  try simp only [Act.put, List.setIfInBounds_toArray, List.set_cons_zero, List.set_cons_succ]
  refine wpTill_takeL (i := 8) (v := ?_) (l := [8]) rfl (by kernel_rfl) (by kernel_rfl) (by kernel_rfl) (by kernel_rfl) (by kernel_rfl) (by rfl) (fun _ _ _ h => h) (Or.inl ⟨by rfl, ?_⟩) hS.out ?_
  rotate_left
  · intro wy hSy
    clear hSy
    go_simp
    try with_reducible rfl
  try simp only [Act.put, List.setIfInBounds_toArray, List.set_cons_zero, List.set_cons_succ]
  refine wpTill_takeL (i := 9) (v := ?_) (l := [9]) rfl (by kernel_rfl) (by kernel_rfl) (by kernel_rfl) (by kernel_rfl) (by kernel_rfl) (by rfl) (fun _ _ _ h => h) (Or.inl ⟨by rfl, ?_⟩) hS.out ?_
  rotate_left
  · intro wy hSy
    clear hSy
    go_simp
    try with_reducible rfl
  try simp only [Act.put, List.setIfInBounds_toArray, List.set_cons_zero, List.set_cons_succ]
  refine wpTill_takeL (i := 10) (v := ?_) (l := [10]) rfl (by kernel_rfl) (by kernel_rfl) (by kernel_rfl) (by kernel_rfl) (by kernel_rfl) (by rfl) (fun _ _ _ h => h) (Or.inl ⟨by rfl, ?_⟩) hS.out ?_
  rotate_left
  · intro wy hSy
    clear hSy
    go_simp
    try with_reducible rfl
  try simp only [Act.put, List.setIfInBounds_toArray, List.set_cons_zero, List.set_cons_succ]
  refine wpTill_takeL (i := 11) (v := ?_) (l := [11]) rfl (by kernel_rfl) (by kernel_rfl) (by kernel_rfl) (by kernel_rfl) (by kernel_rfl) (by rfl) (fun _ _ _ h => h) (Or.inl ⟨by rfl, ?_⟩) hS.out ?_
  rotate_left
  · intro wy hSy
    obtain ⟨q1, ⟨l0, l1, l2, l3, l4, l5, l6⟩, qn, qb⟩ := hSy
    go_simp
    try with_reducible rfl
  try simp only [Act.put, List.setIfInBounds_toArray, List.set_cons_zero, List.set_cons_succ]
  refine wpTill_takeL (i := 12) (v := ?_) (l := [12]) rfl (by kernel_rfl) (by kernel_rfl) (by kernel_rfl) (by kernel_rfl) (by kernel_rfl) (by rfl) (fun _ _ _ h => h) (Or.inl ⟨by rfl, ?_⟩) hS.out ?_
  rotate_left
  · intro wy hSy
    clear hSy
    go_simp
    try with_reducible rfl
  try simp only [Act.put, List.setIfInBounds_toArray, List.set_cons_zero, List.set_cons_succ]
  refine wpTill_takeL (i := 13) (v := ?_) (l := [13]) rfl (by kernel_rfl) (by kernel_rfl) (by kernel_rfl) (by kernel_rfl) (by kernel_rfl) (by rfl) (fun _ _ _ h => h) (Or.inl ⟨by rfl, ?_⟩) hS.out ?_
  rotate_left
  · intro wy hSy
    obtain ⟨q1, ⟨l0, l1, l2, l3, l4, l5, l6⟩, qn, qb⟩ := hSy
    go_simp
    try with_reducible rfl
  try simp only [Act.put, List.setIfInBounds_toArray, List.set_cons_zero, List.set_cons_succ]
  refine wpTill_ready (rs := [14]) (by kernel_rfl) (by simp) (AllTill.consL rfl (fun K hK => ?_) AllTill.nil)
  go_simp
  go_at_call 40
  refine (F0.out.call (fun c => tdone_any un zs ucl uhi uao um ucap umo c _ _ HD)).mono ?_
  rintro e wq1 ⟨rfl, F1⟩
  go_simp
  refine hK.out _ _ (fun _ => s25v Q8.out X8.out HT.out HE.out HB.out F1.out) ?_
  clear hK K hS F0
  have hS := Lib.hid (s25v Q8.out X8.out HT.out HE.out HB.out F1.out)
  try simp only [Act.put, List.setIfInBounds_toArray, List.set_cons_zero, List.set_cons_succ]
  refine wpTill_takeL (i := 15) (v := ?_) (l := [15]) rfl (by kernel_rfl) (by kernel_rfl) (by kernel_rfl) (by kernel_rfl) (by kernel_rfl) (by rfl) (fun _ _ _ h => h) (Or.inl ⟨by rfl, ?_⟩) hS.out ?_
  rotate_left
  · intro wy hSy
    clear hSy
    go_simp
    try with_reducible rfl
  try simp only [Act.put, List.setIfInBounds_toArray, List.set_cons_zero, List.set_cons_succ]
  refine wpTill_takeL (i := 16) (v := ?_) (l := [16]) rfl (by kernel_rfl) (by kernel_rfl) (by kernel_rfl) (by kernel_rfl) (by kernel_rfl) (by rfl) (fun _ _ _ h => h) (Or.inl ⟨by rfl, ?_⟩) hS.out ?_
  rotate_left
  · intro wy hSy
    clear hSy
    go_simp
    try with_reducible rfl
  try simp only [Act.put, List.setIfInBounds_toArray, List.set_cons_zero, List.set_cons_succ]
  refine wpTill_takeL (i := 17) (v := undef) (l := [17]) rfl (by kernel_rfl) (by kernel_rfl) (by kernel_rfl) (by kernel_rfl) (by kernel_rfl) (by rfl) (fun _ _ _ h => h) (Or.inr ⟨by rfl, rfl⟩) hS.out ?_
  try simp only [Act.put, List.setIfInBounds_toArray, List.set_cons_zero, List.set_cons_succ]
  refine wpTill_takeL (i := 18) (v := undef) (l := [18]) rfl (by kernel_rfl) (by kernel_rfl) (by kernel_rfl) (by kernel_rfl) (by kernel_rfl) (by rfl) (fun _ _ _ h => h) (Or.inr ⟨by rfl, rfl⟩) hS.out ?_
  try simp only [Act.put, List.setIfInBounds_toArray, List.set_cons_zero, List.set_cons_succ]
  refine wpTill_takeL (i := 19) (v := undef) (l := [19]) rfl (by kernel_rfl) (by kernel_rfl) (by kernel_rfl) (by kernel_rfl) (by kernel_rfl) (by rfl) (fun _ _ _ h => h) (Or.inr ⟨by rfl, rfl⟩) hS.out ?_
  try simp only [Act.put, List.setIfInBounds_toArray, List.set_cons_zero, List.set_cons_succ]
  refine wpTill_takeL (i := 20) (v := undef) (l := [20]) rfl (by kernel_rfl) (by kernel_rfl) (by kernel_rfl) (by kernel_rfl) (by kernel_rfl) (by rfl) (fun _ _ _ h => h) (Or.inr ⟨by rfl, rfl⟩) hS.out ?_
  try simp only [Act.put, List.setIfInBounds_toArray, List.set_cons_zero, List.set_cons_succ]
  refine wpTill_takeL (i := 21) (v := undef) (l := [21]) rfl (by kernel_rfl) (by kernel_rfl) (by kernel_rfl) (by kernel_rfl) (by kernel_rfl) (by rfl) (fun _ _ _ h => h) (Or.inr ⟨by rfl, rfl⟩) hS.out ?_
  try simp only [Act.put, List.setIfInBounds_toArray, List.set_cons_zero, List.set_cons_succ]
  refine wpTill_takeL (i := 22) (v := undef) (l := [22]) rfl (by kernel_rfl) (by kernel_rfl) (by kernel_rfl) (by kernel_rfl) (by kernel_rfl) (by rfl) (fun _ _ _ h => h) (Or.inr ⟨by rfl, rfl⟩) hS.out ?_
  try simp only [Act.put, List.setIfInBounds_toArray, List.set_cons_zero, List.set_cons_succ]
  refine wpTill_takeL (i := 23) (v := undef) (l := [23]) rfl (by kernel_rfl) (by kernel_rfl) (by kernel_rfl) (by kernel_rfl) (by kernel_rfl) (by rfl) (fun _ _ _ h => h) (Or.inr ⟨by rfl, rfl⟩) hS.out ?_
  try simp only [Act.put, List.setIfInBounds_toArray, List.set_cons_zero, List.set_cons_succ]
  refine wpTill_takeL (i := 24) (v := ?_) (l := [24]) rfl (by kernel_rfl) (by kernel_rfl) (by kernel_rfl) (by kernel_rfl) (by kernel_rfl) (by rfl) (fun _ _ _ h => h) (Or.inl ⟨by rfl, ?_⟩) hS.out ?_
  rotate_left
  · intro wy hSy
    clear hSy
    go_simp
    try with_reducible rfl
  try simp only [Act.put, List.setIfInBounds_toArray, List.set_cons_zero, List.set_cons_succ]
  refine wpTill_takeL (i := 25) (v := ?_) (l := [25]) rfl (by kernel_rfl) (by kernel_rfl) (by kernel_rfl) (by kernel_rfl) (by kernel_rfl) (by rfl) (fun _ _ _ h => h) (Or.inl ⟨by rfl, ?_⟩) hS.out ?_
  rotate_left
  · intro wy hSy
    clear hSy
    go_simp
    try with_reducible rfl
  try simp only [Act.put, List.setIfInBounds_toArray, List.set_cons_zero, List.set_cons_succ]
  refine wpTill_takeL (i := 26) (v := ?_) (l := [26]) rfl (by kernel_rfl) (by kernel_rfl) (by kernel_rfl) (by kernel_rfl) (by kernel_rfl) (by rfl) (fun _ _ _ h => h) (Or.inl ⟨by rfl, ?_⟩) hS.out ?_
  rotate_left
  · intro wy hSy
    clear hSy
    go_simp
    try with_reducible rfl
  try simp only [Act.put, List.setIfInBounds_toArray, List.set_cons_zero, List.set_cons_succ]
  refine wpTill_ready (rs := [27]) (by kernel_rfl) (by simp) (AllTill.consL rfl (fun K hK => ?_) AllTill.nil)
  obtain ⟨c1, f1, l1⟩ := b25 Q8.out.br F1.out (i := i) (v := .bool x.b) HBI.out
  have EE := Lib.hid (e25 Q8.out.br F1.out (i := i) HBL.out (.bool false))
  go_simp
  refine hK.out _ _ (fun h => absurd rfl h) ?_
  clear hK K
  refine wpTill_done (by kernel_rfl) ?_ _
  exact HQ.out _ _ _ _ _ _ _ _ _ _ _ _ _ _ _ _ _ _ _ _ _ _ _ _ _ _ _ _ EE

noncomputable def Tryd.cs25c : Code := (Tryd.f8.body.bind (regionN 25)).getD .skip

set_option maxRecDepth 1000000 in
set_option maxHeartbeats 100000000 in
theorem Tryd.rs25c {p i lcap zcap bcap xb um ucap : Nat} {T : List ST} {x : ST} {a z b : Addr} {un zs ucl uhi umo left : Int} {uao : Option Addr} {v0 v2 : Value} {c8 : Nat → Nat} {w8 : World}
    (Q8 : Hid (SRows p T (some a) lcap (some z) zcap (some b) bcap c8 w8)) (X8 : Hid (Blk c8 15 w8 xb [v0, .int .i64 (i : Int), v2] 71)) (HT : Hid (T[i]? = some x)) (HE : Hid (x.lc p = [.pointer (some ⟨p, 0, none⟩), .int .i64 un, .int .i64 zs, .int .i64 ucl, .int .i64 uhi, .slice uao um ucap, .int .i64 umo]))
    (i0 : (0 : Int) ≤ (i : Int)) (i1 : (i : Int) < (T.length : Int)) (HB : Hid (x.b = false)) (HD : decide (5 ≤ zs) = false) {lb : Bool} (HN : decide (left < x.u.t.n) = lb) {fr0 fr1 fr2 fr3 fr4 fr5 fr6 fr7 fr8 fr9 fr10 fr14 fr16 fr17 fr19 fr20 fr21 fr22 fr23 fr24 fr25 fr26 fr27 fr28 fr29 fr30 fr31 fr32 fr33 fr34 fr35 fr36 fr37 fr38 fr39 fr40 fr41 fr42 fr43 fr44 fr45 fr46 fr47 fr48 fr49 fr50 fr51 fr52 fr53 fr54 fr55 fr56 fr57 fr58 fr59 fr60 fr61 fr62 fr63 fr64 fr65 fr66 fr67 fr68 fr69 fr70 fr71 fr72 fr73 fr74 fr75 fr76 fr77 fr78 fr79 fr80 fr81 fr82 fr83 fr84 fr85 fr86 fr87 fr88 fr89 fr90 fr91 fr92 fr93 fr94 fr95 fr96 fr97 fr98 fr99 fr100 fr101 fr102 fr103 fr104 fr105 fr106 fr107 fr108 fr109 fr110 fr111 fr112 fr113 fr114 fr115 fr116 fr117 fr118 fr119 fr120 fr121 fr122 fr123 fr124 fr125 fr126 fr127 fr128 fr129 fr130 fr131 fr132 fr133 fr134 fr135 fr136 fr137 fr138 fr139 fr140 fr141 fr142 fr143 fr144 fr145 fr146 fr147 fr148 fr149 fr150 fr151 fr152 fr153 fr154 fr155 fr156 fr157 fr158 fr159 fr160 fr161 fr162 fr163 fr164 fr165 fr166 fr167 fr168 fr169 fr170 fr171 fr172 fr173 fr174 fr175 fr176 fr177 fr178 fr179 fr180 fr181 fr182 fr183 fr184 fr185 fr186 fr187 fr188 fr189 fr190 fr191 fr192 fr193 fr194 fr195 fr196 fr197 fr198 fr199 fr200 fr201 fr202 fr203 fr204 fr205 fr206 fr207 fr208 fr209 fr210 fr211 fr212 fr213 fr214 fr215 fr216 fr217 fr218 fr219 fr220 fr221 fr222 fr223 fr224 fr225 fr226 fr227 fr228 fr229 fr230 fr231 fr232 fr233 fr234 fr235 fr236 fr237 fr238 fr239 fr240 fr241 fr242 fr243 fr244 fr245 fr246 fr247 fr248 fr249 fr250 fr251 fr252 fr253 fr254 fr255 fr256 fr257 fr258 fr259 fr260 fr261 fr262 fr263 fr264 fr265 fr266 fr267 fr268 fr269 fr270 fr271 fr272 fr273 fr274 fr275 fr276 fr277 fr278 fr279 fr280 fr281 fr282 fr283 fr284 : Value} {Q0 : Exit → Act → World → Prop}
    (hQ : ∀ (w' : World), ∀ g103 g104 g105 g106 g107 g108 g109 g110 g111 g112 g113 g114 g115 g116 g117 g118 g119 g120 g121 g122 g123 g124 g125 g126 g127 g128 g129 : Value, Hid (E25 c8 w8 b T.length bcap ((T.map fun x => .bool x.b).set i (.bool lb)) w') → Q0 .normal ⟨#[fr0, fr1, fr2, fr3, fr4, fr5, fr6, fr7, fr8, fr9, fr10, .slice (some z) T.length zcap, .slice (some a) T.length lcap, .slice (some b) T.length bcap, fr14, .pointer (some ⟨xb, 0, none⟩), fr16, fr17, .int .i64 left, fr19, fr20, fr21, fr22, fr23, fr24, fr25, fr26, fr27, fr28, fr29, fr30, fr31, fr32, fr33, fr34, fr35, fr36, fr37, fr38, fr39, fr40, fr41, fr42, fr43, fr44, fr45, fr46, fr47, fr48, fr49, fr50, fr51, fr52, fr53, fr54, fr55, fr56, fr57, fr58, fr59, fr60, fr61, fr62, fr63, fr64, fr65, fr66, fr67, fr68, fr69, fr70, fr71, fr72, fr73, fr74, fr75, fr76, fr77, fr78, fr79, fr80, fr81, fr82, fr83, fr84, fr85, fr86, fr87, fr88, fr89, fr90, fr91, fr92, fr93, fr94, fr95, fr96, fr97, fr98, fr99, fr100, fr101, fr102, g103, g104, g105, g106, g107, g108, g109, g110, g111, g112, g113, g114, g115, g116, g117, g118, g119, g120, g121, g122, g123, g124, g125, g126, g127, g128, g129, fr130, fr131, fr132, fr133, fr134, fr135, fr136, fr137, fr138, fr139, fr140, fr141, fr142, fr143, fr144, fr145, fr146, fr147, fr148, fr149, fr150, fr151, fr152, fr153, fr154, fr155, fr156, fr157, fr158, fr159, fr160, fr161, fr162, fr163, fr164, fr165, fr166, fr167, fr168, fr169, fr170, fr171, fr172, fr173, fr174, fr175, fr176, fr177, fr178, fr179, fr180, fr181, fr182, fr183, fr184, fr185, fr186, fr187, fr188, fr189, fr190, fr191, fr192, fr193, fr194, fr195, fr196, fr197, fr198, fr199, fr200, fr201, fr202, fr203, fr204, fr205, fr206, fr207, fr208, fr209, fr210, fr211, fr212, fr213, fr214, fr215, fr216, fr217, fr218, fr219, fr220, fr221, fr222, fr223, fr224, fr225, fr226, fr227, fr228, fr229, fr230, fr231, fr232, fr233, fr234, fr235, fr236, fr237, fr238, fr239, fr240, fr241, fr242, fr243, fr244, fr245, fr246, fr247, fr248, fr249, fr250, fr251, fr252, fr253, fr254, fr255, fr256, fr257, fr258, fr259, fr260, fr261, fr262, fr263, fr264, fr265, fr266, fr267, fr268, fr269, fr270, fr271, fr272, fr273, fr274, fr275, fr276, fr277, fr278, fr279, fr280, fr281, fr282, fr283, fr284], []⟩ w') : Code.wp Tryd.prog Tryd.cs25c Q0 ⟨#[fr0, fr1, fr2, fr3, fr4, fr5, fr6, fr7, fr8, fr9, fr10, .slice (some z) T.length zcap, .slice (some a) T.length lcap, .slice (some b) T.length bcap, fr14, .pointer (some ⟨xb, 0, none⟩), fr16, fr17, .int .i64 left, fr19, fr20, fr21, fr22, fr23, fr24, fr25, fr26, fr27, fr28, fr29, fr30, fr31, fr32, fr33, fr34, fr35, fr36, fr37, fr38, fr39, fr40, fr41, fr42, fr43, fr44, fr45, fr46, fr47, fr48, fr49, fr50, fr51, fr52, fr53, fr54, fr55, fr56, fr57, fr58, fr59, fr60, fr61, fr62, fr63, fr64, fr65, fr66, fr67, fr68, fr69, fr70, fr71, fr72, fr73, fr74, fr75, fr76, fr77, fr78, fr79, fr80, fr81, fr82, fr83, fr84, fr85, fr86, fr87, fr88, fr89, fr90, fr91, fr92, fr93, fr94, fr95, fr96, fr97, fr98, fr99, fr100, fr101, fr102, fr103, fr104, fr105, fr106, fr107, fr108, fr109, fr110, fr111, fr112, fr113, fr114, fr115, fr116, fr117, fr118, fr119, fr120, fr121, fr122, fr123, fr124, fr125, fr126, fr127, fr128, fr129, fr130, fr131, fr132, fr133, fr134, fr135, fr136, fr137, fr138, fr139, fr140, fr141, fr142, fr143, fr144, fr145, fr146, fr147, fr148, fr149, fr150, fr151, fr152, fr153, fr154, fr155, fr156, fr157, fr158, fr159, fr160, fr161, fr162, fr163, fr164, fr165, fr166, fr167, fr168, fr169, fr170, fr171, fr172, fr173, fr174, fr175, fr176, fr177, fr178, fr179, fr180, fr181, fr182, fr183, fr184, fr185, fr186, fr187, fr188, fr189, fr190, fr191, fr192, fr193, fr194, fr195, fr196, fr197, fr198, fr199, fr200, fr201, fr202, fr203, fr204, fr205, fr206, fr207, fr208, fr209, fr210, fr211, fr212, fr213, fr214, fr215, fr216, fr217, fr218, fr219, fr220, fr221, fr222, fr223, fr224, fr225, fr226, fr227, fr228, fr229, fr230, fr231, fr232, fr233, fr234, fr235, fr236, fr237, fr238, fr239, fr240, fr241, fr242, fr243, fr244, fr245, fr246, fr247, fr248, fr249, fr250, fr251, fr252, fr253, fr254, fr255, fr256, fr257, fr258, fr259, fr260, fr261, fr262, fr263, fr264, fr265, fr266, fr267, fr268, fr269, fr270, fr271, fr272, fr273, fr274, fr275, fr276, fr277, fr278, fr279, fr280, fr281, fr282, fr283, fr284], []⟩ w8 := by
  conv => arg 2; whnf
  refine wp_region_noPanic ?_
  have HQ := Lib.hid hQ
  clear hQ
  have HBI := Lib.hid (show (T.map fun x => Value.bool x.b)[i]? = some (.bool x.b) by simp [HT.out])
  have HBL := Lib.hid (show i < (T.map fun x => Value.bool x.b).length by rw [List.length_map]; exact (List.getElem?_eq_some_iff.1 HT.out).1)
  have F0 := Lib.hid (show OldF c8 w8 w8.drew from ⟨c8, (Stp.refl _ _ _).drew⟩)
  refine wp_region_till (S := S25 xb i a z b (.pointer (some ⟨p, 0, none⟩)) (.int .i64 un) (.int .i64 zs) (.int .i64 ucl) (.int .i64 uhi) (.slice uao um ucap) (.int .i64 umo) (.int .i64 x.u.t.n) (.bool false) (.int .i64 (i : Int))) (f := 27) (by kernel_rfl) ?_
  have hS := Lib.hid (s25v Q8.out X8.out HT.out HE.out HB.out F0.out)
  generalize w8.drew = wq0 at F0 hS ⊢
  refine wpTill_takeL (i := 0) (v := ?_) (l := [0]) rfl (by kernel_rfl) (by kernel_rfl) (by kernel_rfl) (by kernel_rfl) (by kernel_rfl) (by rfl) (fun _ _ _ h => h) (Or.inl ⟨by rfl, ?_⟩) hS.out ?_
  rotate_left
  · intro wy hSy
    clear hSy
    go_simp
    try with_reducible rfl
  try simp only [Act.put, List.setIfInBounds_toArray, List.set_cons_zero, List.set_cons_succ]
  refine wpTill_takeL (i := 1) (v := ?_) (l := [1]) rfl (by kernel_rfl) (by kernel_rfl) (by kernel_rfl) (by kernel_rfl) (by kernel_rfl) (by rfl) (fun _ _ _ h => h) (Or.inl ⟨by rfl, ?_⟩) hS.out ?_
  rotate_left
  · intro wy hSy
    clear hSy
    go_simp
    try with_reducible rfl
  try simp only [Act.put, List.setIfInBounds_toArray, List.set_cons_zero, List.set_cons_succ]
  refine wpTill_takeL (i := 2) (v := ?_) (l := [2]) rfl (by kernel_rfl) (by kernel_rfl) (by kernel_rfl) (by kernel_rfl) (by kernel_rfl) (by rfl) (fun _ _ _ h => h) (Or.inl ⟨by rfl, ?_⟩) hS.out ?_
  rotate_left
  · intro wy hSy
    obtain ⟨q1, ⟨l0, l1, l2, l3, l4, l5, l6⟩, qn, qb⟩ := hSy
    go_simp
    try with_reducible rfl
  try simp only [Act.put, List.setIfInBounds_toArray, List.set_cons_zero, List.set_cons_succ]
  refine wpTill_takeL (i := 3) (v := ?_) (l := [3]) rfl (by kernel_rfl) (by kernel_rfl) (by kernel_rfl) (by kernel_rfl) (by kernel_rfl) (by rfl) (fun _ _ _ h => h) (Or.inl ⟨by rfl, ?_⟩) hS.out ?_
  rotate_left
  · intro wy hSy
    clear hSy
    go_simp
    try with_reducible rfl
  try simp only [Act.put, List.setIfInBounds_toArray, List.set_cons_zero, List.set_cons_succ]
  refine wpTill_takeL (i := 4) (v := ?_) (l := [4]) rfl (by kernel_rfl) (by kernel_rfl) (by kernel_rfl) (by kernel_rfl) (by kernel_rfl) (by rfl) (fun _ _ _ h => h) (Or.inl ⟨by rfl, ?_⟩) hS.out ?_
  rotate_left
  · intro wy hSy
    clear hSy
    go_simp
    try with_reducible rfl
  try simp only [Act.put, List.setIfInBounds_toArray, List.set_cons_zero, List.set_cons_succ]
  refine wpTill_takeL (i := 5) (v := ?_) (l := [5]) rfl (by kernel_rfl) (by kernel_rfl) (by kernel_rfl) (by kernel_rfl) (by kernel_rfl) (by rfl) (fun _ _ _ h => h) (Or.inl ⟨by rfl, ?_⟩) hS.out ?_
  rotate_left
  · intro wy hSy
    obtain ⟨q1, ⟨l0, l1, l2, l3, l4, l5, l6⟩, qn, qb⟩ := hSy
    go_simp
    try with_reducible rfl
  try simp only [Act.put, List.setIfInBounds_toArray, List.set_cons_zero, List.set_cons_succ]
  refine wpTill_takeL (i := 6) (v := ?_) (l := [6]) rfl (by kernel_rfl) (by kernel_rfl) (by kernel_rfl) (by kernel_rfl) (by kernel_rfl) (by rfl) (fun _ _ _ h => h) (Or.inl ⟨by rfl, ?_⟩) hS.out ?_
  rotate_left
  · intro wy hSy
    clear hSy
    go_simp
    try with_reducible rfl
  try simp only [Act.put, List.setIfInBounds_toArray, List.set_cons_zero, List.set_cons_succ]
  refine wpTill_takeL (i := 7) (v := ?_) (l := [7]) rfl (by kernel_rfl) (by kernel_rfl) (by kernel_rfl) (by kernel_rfl) (by kernel_rfl) (by rfl) (fun _ _ _ h => h) (Or.inl ⟨by rfl, ?_⟩) hS.out ?_
  rotate_left
  · intro wy hSy
    obtain ⟨q1, ⟨l0, l1, l2, l3, l4, l5, l6⟩, qn, qb⟩ := hSy
    go_simp
    try with_reducible rfl
  try simp only [Act.put, List.setIfInBounds_toArray, List.set_cons_zero, List.set_cons_succ]
  refine wpTill_takeL (i := 8) (v := ?_) (l := [8]) rfl (by kernel_rfl) (by kernel_rfl) (by kernel_rfl) (by kernel_rfl) (by kernel_rfl) (by rfl) (fun _ _ _ h => h) (Or.inl ⟨by rfl, ?_⟩) hS.out ?_
  rotate_left
  · intro wy hSy
    clear hSy
    go_simp
    try with_reducible rfl
  try simp only [Act.put, List.setIfInBounds_toArray, List.set_cons_zero, List.set_cons_succ]
  refine wpTill_takeL (i := 9) (v := ?_) (l := [9]) rfl (by kernel_rfl) (by kernel_rfl) (by kernel_rfl) (by kernel_rfl) (by kernel_rfl) (by rfl) (fun _ _ _ h => h) (Or.inl ⟨by rfl, ?_⟩) hS.out ?_
  rotate_left
  · intro wy hSy
    clear hSy
    go_simp
    try with_reducible rfl
  try simp only [Act.put, List.setIfInBounds_toArray, List.set_cons_zero, List.set_cons_succ]
  refine wpTill_takeL (i := 10) (v := ?_) (l := [10]) rfl (by kernel_rfl) (by kernel_rfl) (by kernel_rfl) (by kernel_rfl) (by kernel_rfl) (by rfl) (fun _ _ _ h => h) (Or.inl ⟨by rfl, ?_⟩) hS.out ?_
  rotate_left
  · intro wy hSy
    clear hSy
    go_simp
    try with_reducible rfl
  try simp only [Act.put, List.setIfInBounds_toArray, List.set_cons_zero, List.set_cons_succ]
  refine wpTill_takeL (i := 11) (v := ?_) (l := [11]) rfl (by kernel_rfl) (by kernel_rfl) (by kernel_rfl) (by kernel_rfl) (by kernel_rfl) (by rfl) (fun _ _ _ h => h) (Or.inl ⟨by rfl, ?_⟩) hS.out ?_
  rotate_left
  · intro wy hSy
    obtain ⟨q1, ⟨l0, l1, l2, l3, l4, l5, l6⟩, qn, qb⟩ := hSy
    go_simp
    try with_reducible rfl
  try simp only [Act.put, List.setIfInBounds_toArray, List.set_cons_zero, List.set_cons_succ]
  refine wpTill_takeL (i := 12) (v := ?_) (l := [12]) rfl (by kernel_rfl) (by kernel_rfl) (by kernel_rfl) (by kernel_rfl) (by kernel_rfl) (by rfl) (fun _ _ _ h => h) (Or.inl ⟨by rfl, ?_⟩) hS.out ?_
  rotate_left
  · intro wy hSy
    clear hSy
    go_simp
    try with_reducible rfl
  try simp only [Act.put, List.setIfInBounds_toArray, List.set_cons_zero, List.set_cons_succ]
  refine wpTill_takeL (i := 13) (v := ?_) (l := [13]) rfl (by kernel_rfl) (by kernel_rfl) (by kernel_rfl) (by kernel_rfl) (by kernel_rfl) (by rfl) (fun _ _ _ h => h) (Or.inl ⟨by rfl, ?_⟩) hS.out ?_
  rotate_left
  · intro wy hSy
    obtain ⟨q1, ⟨l0, l1, l2, l3, l4, l5, l6⟩, qn, qb⟩ := hSy
    go_simp
    try with_reducible rfl
  try simp only [Act.put, List.setIfInBounds_toArray, List.set_cons_zero, List.set_cons_succ]
  refine wpTill_ready (rs := [14]) (by kernel_rfl) (by simp) (AllTill.consL rfl (fun K hK => ?_) AllTill.nil)
  go_simp
  go_at_call 40
  refine (F0.out.call (fun c => tdone_any un zs ucl uhi uao um ucap umo c _ _ HD)).mono ?_
  rintro e wq1 ⟨rfl, F1⟩
  go_simp
  refine hK.out _ _ (fun _ => s25v Q8.out X8.out HT.out HE.out HB.out F1.out) ?_
  clear hK K hS F0
  have hS := Lib.hid (s25v Q8.out X8.out HT.out HE.out HB.out F1.out)
  try simp only [Act.put, List.setIfInBounds_toArray, List.set_cons_zero, List.set_cons_succ]
  refine wpTill_takeL (i := 15) (v := ?_) (l := [15]) rfl (by kernel_rfl) (by kernel_rfl) (by kernel_rfl) (by kernel_rfl) (by kernel_rfl) (by rfl) (fun _ _ _ h => h) (Or.inl ⟨by rfl, ?_⟩) hS.out ?_
  rotate_left
  · intro wy hSy
    clear hSy
    go_simp
    try with_reducible rfl
  try simp only [Act.put, List.setIfInBounds_toArray, List.set_cons_zero, List.set_cons_succ]
  refine wpTill_takeL (i := 16) (v := ?_) (l := [16]) rfl (by kernel_rfl) (by kernel_rfl) (by kernel_rfl) (by kernel_rfl) (by kernel_rfl) (by rfl) (fun _ _ _ h => h) (Or.inl ⟨by rfl, ?_⟩) hS.out ?_
  rotate_left
  · intro wy hSy
    clear hSy
    go_simp
    try with_reducible rfl
  try simp only [Act.put, List.setIfInBounds_toArray, List.set_cons_zero, List.set_cons_succ]
  refine wpTill_takeL (i := 17) (v := ?_) (l := [17]) rfl (by kernel_rfl) (by kernel_rfl) (by kernel_rfl) (by kernel_rfl) (by kernel_rfl) (by rfl) (fun _ _ _ h => h) (Or.inl ⟨by rfl, ?_⟩) hS.out ?_
  rotate_left
  · intro wy hSy
    clear hSy
    go_simp
    try with_reducible rfl
  try simp only [Act.put, List.setIfInBounds_toArray, List.set_cons_zero, List.set_cons_succ]
  refine wpTill_takeL (i := 18) (v := ?_) (l := [18]) rfl (by kernel_rfl) (by kernel_rfl) (by kernel_rfl) (by kernel_rfl) (by kernel_rfl) (by rfl) (fun _ _ _ h => h) (Or.inl ⟨by rfl, ?_⟩) hS.out ?_
  rotate_left
  · intro wy hSy
    clear hSy
    go_simp
    try with_reducible rfl
  try simp only [Act.put, List.setIfInBounds_toArray, List.set_cons_zero, List.set_cons_succ]
  refine wpTill_takeL (i := 19) (v := ?_) (l := [19]) rfl (by kernel_rfl) (by kernel_rfl) (by kernel_rfl) (by kernel_rfl) (by kernel_rfl) (by rfl) (fun _ _ _ h => h) (Or.inl ⟨by rfl, ?_⟩) hS.out ?_
  rotate_left
  · intro wy hSy
    clear hSy
    go_simp
    try with_reducible rfl
  try simp only [Act.put, List.setIfInBounds_toArray, List.set_cons_zero, List.set_cons_succ]
  refine wpTill_takeL (i := 20) (v := ?_) (l := [20]) rfl (by kernel_rfl) (by kernel_rfl) (by kernel_rfl) (by kernel_rfl) (by kernel_rfl) (by rfl) (fun _ _ _ h => h) (Or.inl ⟨by rfl, ?_⟩) hS.out ?_
  rotate_left
  · intro wy hSy
    obtain ⟨q1, ⟨l0, l1, l2, l3, l4, l5, l6⟩, qn, qb⟩ := hSy
    go_simp
    try with_reducible rfl
  try simp only [Act.put, List.setIfInBounds_toArray, List.set_cons_zero, List.set_cons_succ]
  refine wpTill_takeL (i := 21) (v := ?_) (l := [21]) rfl (by kernel_rfl) (by kernel_rfl) (by kernel_rfl) (by kernel_rfl) (by kernel_rfl) (by rfl) (fun _ _ _ h => h) (Or.inl ⟨by rfl, ?_⟩) hS.out ?_
  rotate_left
  · intro wy hSy
    clear hSy
    go_simp
    try with_reducible rfl
  try simp only [Act.put, List.setIfInBounds_toArray, List.set_cons_zero, List.set_cons_succ]
  refine wpTill_takeL (i := 22) (v := ?_) (l := [22]) rfl (by kernel_rfl) (by kernel_rfl) (by kernel_rfl) (by kernel_rfl) (by kernel_rfl) (by rfl) (fun _ _ _ h => h) (Or.inl ⟨by rfl, ?_⟩) hS.out ?_
  rotate_left
  · intro wy hSy
    obtain ⟨q1, ⟨l0, l1, l2, l3, l4, l5, l6⟩, qn, qb⟩ := hSy
    go_simp
    try with_reducible rfl
  try simp only [Act.put, List.setIfInBounds_toArray, List.set_cons_zero, List.set_cons_succ]
  refine wpTill_takeL (i := 23) (v := ?_) (l := [23]) rfl (by kernel_rfl) (by kernel_rfl) (by kernel_rfl) (by kernel_rfl) (by kernel_rfl) (by rfl) (fun _ _ _ h => h) (Or.inl ⟨by rfl, ?_⟩) hS.out ?_
  rotate_left
  · intro wy hSy
    clear hSy
    go_simp
    try with_reducible rfl
  try simp only [Act.put, List.setIfInBounds_toArray, List.set_cons_zero, List.set_cons_succ]
  refine wpTill_takeL (i := 24) (v := ?_) (l := [24]) rfl (by kernel_rfl) (by kernel_rfl) (by kernel_rfl) (by kernel_rfl) (by kernel_rfl) (by rfl) (fun _ _ _ h => h) (Or.inl ⟨by rfl, ?_⟩) hS.out ?_
  rotate_left
  · intro wy hSy
    clear hSy
    go_simp
    try with_reducible rfl
  try simp only [Act.put, List.setIfInBounds_toArray, List.set_cons_zero, List.set_cons_succ]
  refine wpTill_takeL (i := 25) (v := ?_) (l := [25]) rfl (by kernel_rfl) (by kernel_rfl) (by kernel_rfl) (by kernel_rfl) (by kernel_rfl) (by rfl) (fun _ _ _ h => h) (Or.inl ⟨by rfl, ?_⟩) hS.out ?_
  rotate_left
  · intro wy hSy
    clear hSy
    go_simp
    try with_reducible rfl
  try simp only [Act.put, List.setIfInBounds_toArray, List.set_cons_zero, List.set_cons_succ]
  refine wpTill_takeL (i := 26) (v := ?_) (l := [26]) rfl (by kernel_rfl) (by kernel_rfl) (by kernel_rfl) (by kernel_rfl) (by kernel_rfl) (by rfl) (fun _ _ _ h => h) (Or.inl ⟨by rfl, ?_⟩) hS.out ?_
  rotate_left
  · intro wy hSy
    clear hSy
    go_simp
    try with_reducible rfl
  try simp only [Act.put, List.setIfInBounds_toArray, List.set_cons_zero, List.set_cons_succ]
  refine wpTill_ready (rs := [27]) (by kernel_rfl) (by simp) (AllTill.consL rfl (fun K hK => ?_) AllTill.nil)
  obtain ⟨c1, f1, l1⟩ := b25 Q8.out.br F1.out (i := i) (v := .bool x.b) HBI.out
  have EE := Lib.hid (e25 Q8.out.br F1.out (i := i) HBL.out (.bool lb))
  go_simp
  refine hK.out _ _ (fun h => absurd rfl h) ?_
  clear hK K
  refine wpTill_done (by kernel_rfl) ?_ _
  exact HQ.out _ _ _ _ _ _ _ _ _ _ _ _ _ _ _ _ _ _ _ _ _ _ _ _ _ _ _ _ EE

end Go.Proofs.YtoifknfmamcimaaDoor

/- Region 57 of MultiShares, a theorem each. No condition beyond each theorem's own. -/
namespace Go.Proofs.YtoifknfmamcimaaDoor
open Go.RowKit

noncomputable def Tryd.cs57a : Code := (Tryd.f8.body.bind (regionN 57)).getD .skip

set_option maxRecDepth 1000000 in
set_option maxHeartbeats 100000000 in
theorem Tryd.rs57a {p i k n zcap tb ub um ucap mm mcap : Nat} {z : Addr} {ZZ : List Value} {un zs ucl uhi umo mn mzs mcl mhi mmo ni nk : Int} {uao mao : Option Addr} {c8 : Nat → Nat} {w8 : World}
    (Z8 : Hid (Row c8 14 w8 3 1 (some z) n zcap ZZ)) (HI : Hid (ZZ[i]? = some (.int .i64 ni))) (HK : Hid (ZZ[k]? = some (.int .i64 nk))) (Y8 : Hid (Blk c8 15 w8 tb [.pointer (some ⟨p, 0, none⟩), .int .i64 un, .int .i64 zs, .int .i64 ucl, .int .i64 uhi, .slice uao um ucap, .int .i64 umo] 73)) (U8 : Hid (Blk c8 15 w8 ub [.pointer (some ⟨p, 0, none⟩), .int .i64 mn, .int .i64 mzs, .int .i64 mcl, .int .i64 mhi, .slice mao mm mcap, .int .i64 mmo] 73)) {fr0 fr1 fr2 fr3 fr4 fr5 fr6 fr7 fr8 fr9 fr10 fr12 fr13 fr14 fr15 fr16 fr17 fr18 fr19 fr20 fr21 fr22 fr23 fr24 fr25 fr26 fr31 fr32 fr33 fr34 fr35 fr36 fr37 fr38 fr39 fr40 fr41 fr42 fr43 fr44 fr45 fr46 fr47 fr48 fr49 fr50 fr51 fr52 fr53 fr54 fr55 fr56 fr57 fr58 fr59 fr60 fr61 fr62 fr63 fr64 fr65 fr66 fr67 fr68 fr69 fr70 fr71 fr72 fr73 fr74 fr75 fr76 fr77 fr78 fr79 fr80 fr81 fr82 fr83 fr84 fr85 fr86 fr87 fr88 fr89 fr90 fr91 fr92 fr93 fr94 fr95 fr96 fr97 fr98 fr99 fr100 fr101 fr102 fr103 fr104 fr105 fr106 fr107 fr108 fr109 fr110 fr111 fr112 fr113 fr114 fr115 fr116 fr117 fr118 fr119 fr120 fr121 fr122 fr123 fr124 fr125 fr126 fr127 fr128 fr129 fr130 fr131 fr132 fr133 fr134 fr135 fr136 fr137 fr138 fr139 fr140 fr141 fr142 fr143 fr144 fr145 fr146 fr147 fr148 fr149 fr150 fr151 fr152 fr153 fr154 fr155 fr156 fr157 fr158 fr159 fr160 fr161 fr162 fr163 fr164 fr165 fr166 fr167 fr168 fr169 fr170 fr171 fr172 fr173 fr174 fr175 fr176 fr177 fr178 fr179 fr180 fr181 fr182 fr183 fr184 fr185 fr186 fr187 fr188 fr189 fr190 fr191 fr192 fr193 fr194 fr195 fr196 fr197 fr198 fr199 fr200 fr201 fr202 fr203 fr204 fr205 fr206 fr207 fr208 fr209 fr210 fr211 fr212 fr213 fr214 fr215 fr216 fr217 fr218 fr219 fr220 fr221 fr222 fr223 fr224 fr225 fr226 fr227 fr228 fr229 fr230 fr231 fr232 fr233 fr234 fr235 fr236 fr237 fr238 fr239 fr240 fr241 fr242 fr243 fr244 fr245 fr246 fr247 fr248 fr249 fr250 fr251 fr252 fr253 fr254 fr255 fr256 fr257 fr258 fr259 fr260 fr261 fr262 fr263 fr264 fr265 fr266 fr267 fr268 fr269 fr270 fr271 fr272 fr273 fr274 fr275 fr276 fr277 fr278 fr279 fr280 fr281 fr282 fr283 fr284 : Value} {Q0 : Exit → Act → World → Prop}
    (hQ : ∀ (w' : World), ∀ g243 g244 g245 g246 g247 g248 g249 g250 g251 g252 g253 g254 g255 g256 g257 g258 g259 g260 g261 g262 g263 g264 g265 g266 g267 g268 g269 g270 g271 g272 g273 : Value, Hid (OldF c8 w8 w') → Q0 .normal ⟨#[fr0, fr1, fr2, fr3, fr4, fr5, fr6, fr7, fr8, fr9, fr10, .slice (some z) n zcap, fr12, fr13, fr14, fr15, fr16, fr17, fr18, fr19, fr20, fr21, fr22, fr23, fr24, fr25, fr26, .int .i64 (i : Int), .pointer (some ⟨tb, 0, none⟩), .int .i64 (i : Int), .pointer (some ⟨ub, 0, none⟩), fr31, fr32, fr33, fr34, fr35, fr36, fr37, fr38, fr39, fr40, fr41, fr42, fr43, fr44, fr45, fr46, fr47, fr48, fr49, fr50, fr51, fr52, fr53, fr54, fr55, fr56, fr57, fr58, fr59, fr60, fr61, fr62, fr63, fr64, fr65, fr66, fr67, fr68, fr69, fr70, fr71, fr72, fr73, fr74, fr75, fr76, fr77, fr78, fr79, fr80, fr81, fr82, fr83, fr84, fr85, fr86, fr87, fr88, fr89, fr90, fr91, fr92, fr93, fr94, fr95, fr96, fr97, fr98, fr99, fr100, fr101, fr102, fr103, fr104, fr105, fr106, fr107, fr108, fr109, fr110, fr111, fr112, fr113, fr114, fr115, fr116, fr117, fr118, fr119, fr120, fr121, fr122, fr123, fr124, fr125, fr126, fr127, fr128, fr129, fr130, fr131, fr132, fr133, fr134, fr135, fr136, fr137, fr138, fr139, fr140, fr141, fr142, fr143, fr144, fr145, fr146, fr147, fr148, fr149, fr150, fr151, fr152, fr153, fr154, fr155, fr156, fr157, fr158, fr159, fr160, fr161, fr162, fr163, fr164, fr165, fr166, fr167, fr168, fr169, fr170, fr171, fr172, fr173, fr174, fr175, fr176, fr177, fr178, fr179, fr180, fr181, fr182, fr183, fr184, fr185, fr186, fr187, fr188, fr189, fr190, fr191, fr192, fr193, fr194, fr195, fr196, fr197, fr198, fr199, fr200, fr201, fr202, fr203, fr204, fr205, fr206, fr207, fr208, fr209, fr210, fr211, fr212, fr213, fr214, fr215, fr216, fr217, fr218, fr219, fr220, fr221, fr222, fr223, fr224, fr225, fr226, fr227, fr228, fr229, fr230, fr231, fr232, fr233, fr234, fr235, fr236, fr237, fr238, fr239, fr240, fr241, fr242, g243, g244, g245, g246, g247, g248, g249, g250, g251, g252, g253, g254, g255, g256, g257, g258, g259, g260, g261, g262, g263, g264, g265, g266, g267, g268, g269, g270, g271, g272, g273, .bool false, fr275, fr276, fr277, fr278, fr279, fr280, fr281, fr282, fr283, fr284], []⟩ w') : Code.wp Tryd.prog Tryd.cs57a Q0 ⟨#[fr0, fr1, fr2, fr3, fr4, fr5, fr6, fr7, fr8, fr9, fr10, .slice (some z) n zcap, fr12, fr13, fr14, fr15, fr16, fr17, fr18, fr19, fr20, fr21, fr22, fr23, fr24, fr25, fr26, .int .i64 (i : Int), .pointer (some ⟨tb, 0, none⟩), .int .i64 (i : Int), .pointer (some ⟨ub, 0, none⟩), fr31, fr32, fr33, fr34, fr35, fr36, fr37, fr38, fr39, fr40, fr41, fr42, fr43, fr44, fr45, fr46, fr47, fr48, fr49, fr50, fr51, fr52, fr53, fr54, fr55, fr56, fr57, fr58, fr59, fr60, fr61, fr62, fr63, fr64, fr65, fr66, fr67, fr68, fr69, fr70, fr71, fr72, fr73, fr74, fr75, fr76, fr77, fr78, fr79, fr80, fr81, fr82, fr83, fr84, fr85, fr86, fr87, fr88, fr89, fr90, fr91, fr92, fr93, fr94, fr95, fr96, fr97, fr98, fr99, fr100, fr101, fr102, fr103, fr104, fr105, fr106, fr107, fr108, fr109, fr110, fr111, fr112, fr113, fr114, fr115, fr116, fr117, fr118, fr119, fr120, fr121, fr122, fr123, fr124, fr125, fr126, fr127, fr128, fr129, fr130, fr131, fr132, fr133, fr134, fr135, fr136, fr137, fr138, fr139, fr140, fr141, fr142, fr143, fr144, fr145, fr146, fr147, fr148, fr149, fr150, fr151, fr152, fr153, fr154, fr155, fr156, fr157, fr158, fr159, fr160, fr161, fr162, fr163, fr164, fr165, fr166, fr167, fr168, fr169, fr170, fr171, fr172, fr173, fr174, fr175, fr176, fr177, fr178, fr179, fr180, fr181, fr182, fr183, fr184, fr185, fr186, fr187, fr188, fr189, fr190, fr191, fr192, fr193, fr194, fr195, fr196, fr197, fr198, fr199, fr200, fr201, fr202, fr203, fr204, fr205, fr206, fr207, fr208, fr209, fr210, fr211, fr212, fr213, fr214, fr215, fr216, fr217, fr218, fr219, fr220, fr221, fr222, fr223, fr224, fr225, fr226, fr227, fr228, fr229, fr230, fr231, fr232, fr233, fr234, fr235, fr236, fr237, fr238, fr239, fr240, fr241, fr242, fr243, fr244, fr245, fr246, fr247, fr248, fr249, fr250, fr251, fr252, fr253, fr254, fr255, fr256, fr257, fr258, fr259, fr260, fr261, fr262, fr263, fr264, fr265, fr266, fr267, fr268, fr269, fr270, fr271, fr272, fr273, fr274, fr275, fr276, fr277, fr278, fr279, fr280, fr281, fr282, fr283, fr284], []⟩ w8 := by
  conv => arg 2; whnf
  refine wp_region_noPanic ?_
  have HQ := Lib.hid hQ
  clear hQ
  have F0 := Lib.hid (show OldF c8 w8 w8.drew from ⟨c8, (Stp.refl _ _ _).drew⟩)
  refine wp_region_held_drew (S := S57 tb ub i k z (.pointer (some ⟨p, 0, none⟩)) (.int .i64 un) (.int .i64 zs) (.int .i64 ucl) (.int .i64 uhi) (.slice uao um ucap) (.int .i64 umo) (.pointer (some ⟨p, 0, none⟩)) (.int .i64 mn) (.int .i64 mzs) (.int .i64 mcl) (.int .i64 mhi) (.slice mao mm mcap) (.int .i64 mmo) (.int .i64 ni) (.int .i64 nk)) (by kernel_rfl) (s57 Z8.out HI.out HK.out Y8.out U8.out F0.out) (fun hS0 => ?_)
  have hS := Lib.hid hS0
  clear hS0
  generalize w8.drew = wq0 at F0 hS ⊢
  refine wpH_takeL (i := 0) (v := ?_) rfl (by kernel_rfl) (by kernel_rfl) (by kernel_rfl) (fun _ _ _ h => h) (Or.inl ⟨by rfl, ?_⟩) hS.out ?_
  rotate_left
  · intro wy hSy
    clear hSy
    go_simp
    try with_reducible rfl
  try simp only [Act.put, List.setIfInBounds_toArray, List.set_cons_zero, List.set_cons_succ]
  refine wpH_takeL (i := 1) (v := ?_) rfl (by kernel_rfl) (by kernel_rfl) (by kernel_rfl) (fun _ _ _ h => h) (Or.inl ⟨by rfl, ?_⟩) hS.out ?_
  rotate_left
  · intro wy hSy
    clear hSy
    go_simp
    try with_reducible rfl
  try simp only [Act.put, List.setIfInBounds_toArray, List.set_cons_zero, List.set_cons_succ]
  refine wpH_takeL (i := 2) (v := ?_) rfl (by kernel_rfl) (by kernel_rfl) (by kernel_rfl) (fun _ _ _ h => h) (Or.inl ⟨by rfl, ?_⟩) hS.out ?_
  rotate_left
  · intro wy hSy
    clear hSy
    go_simp
    try with_reducible rfl
  try simp only [Act.put, List.setIfInBounds_toArray, List.set_cons_zero, List.set_cons_succ]
  refine wpH_takeL (i := 3) (v := ?_) rfl (by kernel_rfl) (by kernel_rfl) (by kernel_rfl) (fun _ _ _ h => h) (Or.inl ⟨by rfl, ?_⟩) hS.out ?_
  rotate_left
  · intro wy hSy
    clear hSy
    go_simp
    try with_reducible rfl
  try simp only [Act.put, List.setIfInBounds_toArray, List.set_cons_zero, List.set_cons_succ]
  refine wpH_takeL (i := 4) (v := undef) rfl (by kernel_rfl) (by kernel_rfl) (by kernel_rfl) (fun _ _ _ h => h) (Or.inr ⟨by rfl, rfl⟩) hS.out ?_
  try simp only [Act.put, List.setIfInBounds_toArray, List.set_cons_zero, List.set_cons_succ]
  refine wpH_takeL (i := 5) (v := undef) rfl (by kernel_rfl) (by kernel_rfl) (by kernel_rfl) (fun _ _ _ h => h) (Or.inr ⟨by rfl, rfl⟩) hS.out ?_
  try simp only [Act.put, List.setIfInBounds_toArray, List.set_cons_zero, List.set_cons_succ]
  refine wpH_takeL (i := 6) (v := undef) rfl (by kernel_rfl) (by kernel_rfl) (by kernel_rfl) (fun _ _ _ h => h) (Or.inr ⟨by rfl, rfl⟩) hS.out ?_
  try simp only [Act.put, List.setIfInBounds_toArray, List.set_cons_zero, List.set_cons_succ]
  refine wpH_takeL (i := 7) (v := ?_) rfl (by kernel_rfl) (by kernel_rfl) (by kernel_rfl) (fun _ _ _ h => h) (Or.inl ⟨by rfl, ?_⟩) hS.out ?_
  rotate_left
  · intro wy hSy
    clear hSy
    go_simp
    try with_reducible rfl
  try simp only [Act.put, List.setIfInBounds_toArray, List.set_cons_zero, List.set_cons_succ]
  refine wpH_takeL (i := 8) (v := ?_) rfl (by kernel_rfl) (by kernel_rfl) (by kernel_rfl) (fun _ _ _ h => h) (Or.inl ⟨by rfl, ?_⟩) hS.out ?_
  rotate_left
  · intro wy hSy
    clear hSy
    go_simp
    try with_reducible rfl
  try simp only [Act.put, List.setIfInBounds_toArray, List.set_cons_zero, List.set_cons_succ]
  refine wpH_takeL (i := 9) (v := undef) rfl (by kernel_rfl) (by kernel_rfl) (by kernel_rfl) (fun _ _ _ h => h) (Or.inr ⟨by rfl, rfl⟩) hS.out ?_
  try simp only [Act.put, List.setIfInBounds_toArray, List.set_cons_zero, List.set_cons_succ]
  refine wpH_takeL (i := 10) (v := undef) rfl (by kernel_rfl) (by kernel_rfl) (by kernel_rfl) (fun _ _ _ h => h) (Or.inr ⟨by rfl, rfl⟩) hS.out ?_
  try simp only [Act.put, List.setIfInBounds_toArray, List.set_cons_zero, List.set_cons_succ]
  refine wpH_takeL (i := 11) (v := undef) rfl (by kernel_rfl) (by kernel_rfl) (by kernel_rfl) (fun _ _ _ h => h) (Or.inr ⟨by rfl, rfl⟩) hS.out ?_
  try simp only [Act.put, List.setIfInBounds_toArray, List.set_cons_zero, List.set_cons_succ]
  refine wpH_takeL (i := 12) (v := undef) rfl (by kernel_rfl) (by kernel_rfl) (by kernel_rfl) (fun _ _ _ h => h) (Or.inr ⟨by rfl, rfl⟩) hS.out ?_
  try simp only [Act.put, List.setIfInBounds_toArray, List.set_cons_zero, List.set_cons_succ]
  refine wpH_takeL (i := 13) (v := undef) rfl (by kernel_rfl) (by kernel_rfl) (by kernel_rfl) (fun _ _ _ h => h) (Or.inr ⟨by rfl, rfl⟩) hS.out ?_
  try simp only [Act.put, List.setIfInBounds_toArray, List.set_cons_zero, List.set_cons_succ]
  refine wpH_takeL (i := 14) (v := undef) rfl (by kernel_rfl) (by kernel_rfl) (by kernel_rfl) (fun _ _ _ h => h) (Or.inr ⟨by rfl, rfl⟩) hS.out ?_
  try simp only [Act.put, List.setIfInBounds_toArray, List.set_cons_zero, List.set_cons_succ]
  refine wpH_takeL (i := 15) (v := undef) rfl (by kernel_rfl) (by kernel_rfl) (by kernel_rfl) (fun _ _ _ h => h) (Or.inr ⟨by rfl, rfl⟩) hS.out ?_
  try simp only [Act.put, List.setIfInBounds_toArray, List.set_cons_zero, List.set_cons_succ]
  refine wpH_takeL (i := 16) (v := undef) rfl (by kernel_rfl) (by kernel_rfl) (by kernel_rfl) (fun _ _ _ h => h) (Or.inr ⟨by rfl, rfl⟩) hS.out ?_
  try simp only [Act.put, List.setIfInBounds_toArray, List.set_cons_zero, List.set_cons_succ]
  refine wpH_takeL (i := 17) (v := undef) rfl (by kernel_rfl) (by kernel_rfl) (by kernel_rfl) (fun _ _ _ h => h) (Or.inr ⟨by rfl, rfl⟩) hS.out ?_
  try simp only [Act.put, List.setIfInBounds_toArray, List.set_cons_zero, List.set_cons_succ]
  refine wpH_takeL (i := 18) (v := undef) rfl (by kernel_rfl) (by kernel_rfl) (by kernel_rfl) (fun _ _ _ h => h) (Or.inr ⟨by rfl, rfl⟩) hS.out ?_
  try simp only [Act.put, List.setIfInBounds_toArray, List.set_cons_zero, List.set_cons_succ]
  refine wpH_takeL (i := 19) (v := ?_) rfl (by kernel_rfl) (by kernel_rfl) (by kernel_rfl) (fun _ _ _ h => h) (Or.inl ⟨by rfl, ?_⟩) hS.out ?_
  rotate_left
  · intro wy hSy
    clear hSy
    go_simp
    try with_reducible rfl
  try simp only [Act.put, List.setIfInBounds_toArray, List.set_cons_zero, List.set_cons_succ]
  refine wpH_takeL (i := 20) (v := ?_) rfl (by kernel_rfl) (by kernel_rfl) (by kernel_rfl) (fun _ _ _ h => h) (Or.inl ⟨by rfl, ?_⟩) hS.out ?_
  rotate_left
  · intro wy hSy
    clear hSy
    go_simp
    try with_reducible rfl
  try simp only [Act.put, List.setIfInBounds_toArray, List.set_cons_zero, List.set_cons_succ]
  refine wpH_takeL (i := 21) (v := undef) rfl (by kernel_rfl) (by kernel_rfl) (by kernel_rfl) (fun _ _ _ h => h) (Or.inr ⟨by rfl, rfl⟩) hS.out ?_
  try simp only [Act.put, List.setIfInBounds_toArray, List.set_cons_zero, List.set_cons_succ]
  refine wpH_takeL (i := 22) (v := undef) rfl (by kernel_rfl) (by kernel_rfl) (by kernel_rfl) (fun _ _ _ h => h) (Or.inr ⟨by rfl, rfl⟩) hS.out ?_
  try simp only [Act.put, List.setIfInBounds_toArray, List.set_cons_zero, List.set_cons_succ]
  refine wpH_takeL (i := 23) (v := undef) rfl (by kernel_rfl) (by kernel_rfl) (by kernel_rfl) (fun _ _ _ h => h) (Or.inr ⟨by rfl, rfl⟩) hS.out ?_
  try simp only [Act.put, List.setIfInBounds_toArray, List.set_cons_zero, List.set_cons_succ]
  refine wpH_takeL (i := 24) (v := undef) rfl (by kernel_rfl) (by kernel_rfl) (by kernel_rfl) (fun _ _ _ h => h) (Or.inr ⟨by rfl, rfl⟩) hS.out ?_
  try simp only [Act.put, List.setIfInBounds_toArray, List.set_cons_zero, List.set_cons_succ]
  refine wpH_takeL (i := 25) (v := undef) rfl (by kernel_rfl) (by kernel_rfl) (by kernel_rfl) (fun _ _ _ h => h) (Or.inr ⟨by rfl, rfl⟩) hS.out ?_
  try simp only [Act.put, List.setIfInBounds_toArray, List.set_cons_zero, List.set_cons_succ]
  refine wpH_takeL (i := 26) (v := undef) rfl (by kernel_rfl) (by kernel_rfl) (by kernel_rfl) (fun _ _ _ h => h) (Or.inr ⟨by rfl, rfl⟩) hS.out ?_
  try simp only [Act.put, List.setIfInBounds_toArray, List.set_cons_zero, List.set_cons_succ]
  refine wpH_takeL (i := 27) (v := undef) rfl (by kernel_rfl) (by kernel_rfl) (by kernel_rfl) (fun _ _ _ h => h) (Or.inr ⟨by rfl, rfl⟩) hS.out ?_
  try simp only [Act.put, List.setIfInBounds_toArray, List.set_cons_zero, List.set_cons_succ]
  refine wpH_takeL (i := 28) (v := undef) rfl (by kernel_rfl) (by kernel_rfl) (by kernel_rfl) (fun _ _ _ h => h) (Or.inr ⟨by rfl, rfl⟩) hS.out ?_
  try simp only [Act.put, List.setIfInBounds_toArray, List.set_cons_zero, List.set_cons_succ]
  refine wpH_takeL (i := 29) (v := undef) rfl (by kernel_rfl) (by kernel_rfl) (by kernel_rfl) (fun _ _ _ h => h) (Or.inr ⟨by rfl, rfl⟩) hS.out ?_
  try simp only [Act.put, List.setIfInBounds_toArray, List.set_cons_zero, List.set_cons_succ]
  refine wpH_takeL (i := 30) (v := undef) rfl (by kernel_rfl) (by kernel_rfl) (by kernel_rfl) (fun _ _ _ h => h) (Or.inr ⟨by rfl, rfl⟩) hS.out ?_
  try simp only [Act.put, List.setIfInBounds_toArray, List.set_cons_zero, List.set_cons_succ]
  refine wpH_takeL (i := 31) (v := ?_) rfl (by kernel_rfl) (by kernel_rfl) (by kernel_rfl) (fun _ _ _ h => h) (Or.inl ⟨by rfl, ?_⟩) hS.out ?_
  rotate_left
  · intro wy hSy
    clear hSy
    go_simp
    try with_reducible rfl
  try simp only [Act.put, List.setIfInBounds_toArray, List.set_cons_zero, List.set_cons_succ]
  refine wpAnyH_done (by kernel_rfl) ?_ _
  exact HQ.out _ _ _ _ _ _ _ _ _ _ _ _ _ _ _ _ _ _ _ _ _ _ _ _ _ _ _ _ _ _ _ _ F0

noncomputable def Tryd.cs57b : Code := (Tryd.f8.body.bind (regionN 57)).getD .skip

set_option maxRecDepth 1000000 in
set_option maxHeartbeats 100000000 in
theorem Tryd.rs57b {p i k n zcap tb ub um ucap mm mcap : Nat} {z : Addr} {ZZ : List Value} {un zs ucl uhi umo mn mzs mcl mhi mmo ni nk lu : Int} {uao mao : Option Addr} {c8 : Nat → Nat} {w8 : World}
    (Z8 : Hid (Row c8 14 w8 3 1 (some z) n zcap ZZ)) (HI : Hid (ZZ[i]? = some (.int .i64 ni))) (HK : Hid (ZZ[k]? = some (.int .i64 nk))) (Y8 : Hid (Blk c8 15 w8 tb [.pointer (some ⟨p, 0, none⟩), .int .i64 un, .int .i64 zs, .int .i64 ucl, .int .i64 uhi, .slice uao um ucap, .int .i64 umo] 73)) (U8 : Hid (Blk c8 15 w8 ub [.pointer (some ⟨p, 0, none⟩), .int .i64 mn, .int .i64 mzs, .int .i64 mcl, .int .i64 mhi, .slice mao mm mcap, .int .i64 mmo] 73)) (LSU : Hid ((if mzs = 5 then mhi else -1) = lu)) (hne : ((k : Int) != (i : Int)) = true) (hp : decide (0 ≤ lu) = false) {fr0 fr1 fr2 fr3 fr4 fr5 fr6 fr7 fr8 fr9 fr10 fr12 fr13 fr14 fr15 fr16 fr17 fr18 fr19 fr20 fr21 fr22 fr23 fr24 fr25 fr26 fr31 fr32 fr33 fr34 fr35 fr36 fr37 fr38 fr39 fr40 fr41 fr42 fr43 fr44 fr45 fr46 fr47 fr48 fr49 fr50 fr51 fr52 fr53 fr54 fr55 fr56 fr57 fr58 fr59 fr60 fr61 fr62 fr63 fr64 fr65 fr66 fr67 fr68 fr69 fr70 fr71 fr72 fr73 fr74 fr75 fr76 fr77 fr78 fr79 fr80 fr81 fr82 fr83 fr84 fr85 fr86 fr87 fr88 fr89 fr90 fr91 fr92 fr93 fr94 fr95 fr96 fr97 fr98 fr99 fr100 fr101 fr102 fr103 fr104 fr105 fr106 fr107 fr108 fr109 fr110 fr111 fr112 fr113 fr114 fr115 fr116 fr117 fr118 fr119 fr120 fr121 fr122 fr123 fr124 fr125 fr126 fr127 fr128 fr129 fr130 fr131 fr132 fr133 fr134 fr135 fr136 fr137 fr138 fr139 fr140 fr141 fr142 fr143 fr144 fr145 fr146 fr147 fr148 fr149 fr150 fr151 fr152 fr153 fr154 fr155 fr156 fr157 fr158 fr159 fr160 fr161 fr162 fr163 fr164 fr165 fr166 fr167 fr168 fr169 fr170 fr171 fr172 fr173 fr174 fr175 fr176 fr177 fr178 fr179 fr180 fr181 fr182 fr183 fr184 fr185 fr186 fr187 fr188 fr189 fr190 fr191 fr192 fr193 fr194 fr195 fr196 fr197 fr198 fr199 fr200 fr201 fr202 fr203 fr204 fr205 fr206 fr207 fr208 fr209 fr210 fr211 fr212 fr213 fr214 fr215 fr216 fr217 fr218 fr219 fr220 fr221 fr222 fr223 fr224 fr225 fr226 fr227 fr228 fr229 fr230 fr231 fr232 fr233 fr234 fr235 fr236 fr237 fr238 fr239 fr240 fr241 fr242 fr243 fr244 fr245 fr246 fr247 fr248 fr249 fr250 fr251 fr252 fr253 fr254 fr255 fr256 fr257 fr258 fr259 fr260 fr261 fr262 fr263 fr264 fr265 fr266 fr267 fr268 fr269 fr270 fr271 fr272 fr273 fr274 fr275 fr276 fr277 fr278 fr279 fr280 fr281 fr282 fr283 fr284 : Value} {Q0 : Exit → Act → World → Prop}
    (hQ : ∀ (w' : World), ∀ g243 g244 g245 g246 g247 g248 g249 g250 g251 g252 g253 g254 g255 g256 g257 g258 g259 g260 g261 g262 g263 g264 g265 g266 g267 g268 g269 g270 g271 g272 g273 : Value, Hid (OldF c8 w8 w') → Q0 .normal ⟨#[fr0, fr1, fr2, fr3, fr4, fr5, fr6, fr7, fr8, fr9, fr10, .slice (some z) n zcap, fr12, fr13, fr14, fr15, fr16, fr17, fr18, fr19, fr20, fr21, fr22, fr23, fr24, fr25, fr26, .int .i64 (i : Int), .pointer (some ⟨tb, 0, none⟩), .int .i64 (k : Int), .pointer (some ⟨ub, 0, none⟩), fr31, fr32, fr33, fr34, fr35, fr36, fr37, fr38, fr39, fr40, fr41, fr42, fr43, fr44, fr45, fr46, fr47, fr48, fr49, fr50, fr51, fr52, fr53, fr54, fr55, fr56, fr57, fr58, fr59, fr60, fr61, fr62, fr63, fr64, fr65, fr66, fr67, fr68, fr69, fr70, fr71, fr72, fr73, fr74, fr75, fr76, fr77, fr78, fr79, fr80, fr81, fr82, fr83, fr84, fr85, fr86, fr87, fr88, fr89, fr90, fr91, fr92, fr93, fr94, fr95, fr96, fr97, fr98, fr99, fr100, fr101, fr102, fr103, fr104, fr105, fr106, fr107, fr108, fr109, fr110, fr111, fr112, fr113, fr114, fr115, fr116, fr117, fr118, fr119, fr120, fr121, fr122, fr123, fr124, fr125, fr126, fr127, fr128, fr129, fr130, fr131, fr132, fr133, fr134, fr135, fr136, fr137, fr138, fr139, fr140, fr141, fr142, fr143, fr144, fr145, fr146, fr147, fr148, fr149, fr150, fr151, fr152, fr153, fr154, fr155, fr156, fr157, fr158, fr159, fr160, fr161, fr162, fr163, fr164, fr165, fr166, fr167, fr168, fr169, fr170, fr171, fr172, fr173, fr174, fr175, fr176, fr177, fr178, fr179, fr180, fr181, fr182, fr183, fr184, fr185, fr186, fr187, fr188, fr189, fr190, fr191, fr192, fr193, fr194, fr195, fr196, fr197, fr198, fr199, fr200, fr201, fr202, fr203, fr204, fr205, fr206, fr207, fr208, fr209, fr210, fr211, fr212, fr213, fr214, fr215, fr216, fr217, fr218, fr219, fr220, fr221, fr222, fr223, fr224, fr225, fr226, fr227, fr228, fr229, fr230, fr231, fr232, fr233, fr234, fr235, fr236, fr237, fr238, fr239, fr240, fr241, fr242, g243, g244, g245, g246, g247, g248, g249, g250, g251, g252, g253, g254, g255, g256, g257, g258, g259, g260, g261, g262, g263, g264, g265, g266, g267, g268, g269, g270, g271, g272, g273, .bool false, fr275, fr276, fr277, fr278, fr279, fr280, fr281, fr282, fr283, fr284], []⟩ w') : Code.wp Tryd.prog Tryd.cs57b Q0 ⟨#[fr0, fr1, fr2, fr3, fr4, fr5, fr6, fr7, fr8, fr9, fr10, .slice (some z) n zcap, fr12, fr13, fr14, fr15, fr16, fr17, fr18, fr19, fr20, fr21, fr22, fr23, fr24, fr25, fr26, .int .i64 (i : Int), .pointer (some ⟨tb, 0, none⟩), .int .i64 (k : Int), .pointer (some ⟨ub, 0, none⟩), fr31, fr32, fr33, fr34, fr35, fr36, fr37, fr38, fr39, fr40, fr41, fr42, fr43, fr44, fr45, fr46, fr47, fr48, fr49, fr50, fr51, fr52, fr53, fr54, fr55, fr56, fr57, fr58, fr59, fr60, fr61, fr62, fr63, fr64, fr65, fr66, fr67, fr68, fr69, fr70, fr71, fr72, fr73, fr74, fr75, fr76, fr77, fr78, fr79, fr80, fr81, fr82, fr83, fr84, fr85, fr86, fr87, fr88, fr89, fr90, fr91, fr92, fr93, fr94, fr95, fr96, fr97, fr98, fr99, fr100, fr101, fr102, fr103, fr104, fr105, fr106, fr107, fr108, fr109, fr110, fr111, fr112, fr113, fr114, fr115, fr116, fr117, fr118, fr119, fr120, fr121, fr122, fr123, fr124, fr125, fr126, fr127, fr128, fr129, fr130, fr131, fr132, fr133, fr134, fr135, fr136, fr137, fr138, fr139, fr140, fr141, fr142, fr143, fr144, fr145, fr146, fr147, fr148, fr149, fr150, fr151, fr152, fr153, fr154, fr155, fr156, fr157, fr158, fr159, fr160, fr161, fr162, fr163, fr164, fr165, fr166, fr167, fr168, fr169, fr170, fr171, fr172, fr173, fr174, fr175, fr176, fr177, fr178, fr179, fr180, fr181, fr182, fr183, fr184, fr185, fr186, fr187, fr188, fr189, fr190, fr191, fr192, fr193, fr194, fr195, fr196, fr197, fr198, fr199, fr200, fr201, fr202, fr203, fr204, fr205, fr206, fr207, fr208, fr209, fr210, fr211, fr212, fr213, fr214, fr215, fr216, fr217, fr218, fr219, fr220, fr221, fr222, fr223, fr224, fr225, fr226, fr227, fr228, fr229, fr230, fr231, fr232, fr233, fr234, fr235, fr236, fr237, fr238, fr239, fr240, fr241, fr242, fr243, fr244, fr245, fr246, fr247, fr248, fr249, fr250, fr251, fr252, fr253, fr254, fr255, fr256, fr257, fr258, fr259, fr260, fr261, fr262, fr263, fr264, fr265, fr266, fr267, fr268, fr269, fr270, fr271, fr272, fr273, fr274, fr275, fr276, fr277, fr278, fr279, fr280, fr281, fr282, fr283, fr284], []⟩ w8 := by
  conv => arg 2; whnf
  refine wp_region_noPanic ?_
  have HQ := Lib.hid hQ
  clear hQ
  have F0 := Lib.hid (show OldF c8 w8 w8.drew from ⟨c8, (Stp.refl _ _ _).drew⟩)
  refine wp_region_held_drew (S := S57 tb ub i k z (.pointer (some ⟨p, 0, none⟩)) (.int .i64 un) (.int .i64 zs) (.int .i64 ucl) (.int .i64 uhi) (.slice uao um ucap) (.int .i64 umo) (.pointer (some ⟨p, 0, none⟩)) (.int .i64 mn) (.int .i64 mzs) (.int .i64 mcl) (.int .i64 mhi) (.slice mao mm mcap) (.int .i64 mmo) (.int .i64 ni) (.int .i64 nk)) (by kernel_rfl) (s57 Z8.out HI.out HK.out Y8.out U8.out F0.out) (fun hS0 => ?_)
  have hS := Lib.hid hS0
  clear hS0
  generalize w8.drew = wq0 at F0 hS ⊢
  refine wpH_takeL (i := 0) (v := ?_) rfl (by kernel_rfl) (by kernel_rfl) (by kernel_rfl) (fun _ _ _ h => h) (Or.inl ⟨by rfl, ?_⟩) hS.out ?_
  rotate_left
  · intro wy hSy
    clear hSy
    go_simp
    try with_reducible rfl
  try simp only [Act.put, List.setIfInBounds_toArray, List.set_cons_zero, List.set_cons_succ]
  refine wpH_takeL (i := 1) (v := ?_) rfl (by kernel_rfl) (by kernel_rfl) (by kernel_rfl) (fun _ _ _ h => h) (Or.inl ⟨by rfl, ?_⟩) hS.out ?_
  rotate_left
  · intro wy hSy
    clear hSy
    go_simp
    try with_reducible rfl
  try simp only [Act.put, List.setIfInBounds_toArray, List.set_cons_zero, List.set_cons_succ]
  refine wpH_takeL (i := 2) (v := ?_) rfl (by kernel_rfl) (by kernel_rfl) (by kernel_rfl) (fun _ _ _ h => h) (Or.inl ⟨by rfl, ?_⟩) hS.out ?_
  rotate_left
  · intro wy hSy
    clear hSy
    go_simp
    try with_reducible rfl
  try simp only [Act.put, List.setIfInBounds_toArray, List.set_cons_zero, List.set_cons_succ]
  refine wpH_takeL (i := 3) (v := ?_) rfl (by kernel_rfl) (by kernel_rfl) (by kernel_rfl) (fun _ _ _ h => h) (Or.inl ⟨by rfl, ?_⟩) hS.out ?_
  rotate_left
  · intro wy hSy
    clear hSy
    go_simp
    try with_reducible rfl
  try simp only [Act.put, List.setIfInBounds_toArray, List.set_cons_zero, List.set_cons_succ]
  refine wpH_takeL (i := 4) (v := ?_) rfl (by kernel_rfl) (by kernel_rfl) (by kernel_rfl) (fun _ _ _ h => h) (Or.inl ⟨by rfl, ?_⟩) hS.out ?_
  rotate_left
  · intro wy hSy
    obtain ⟨⟨l0, l1, l2, l3, l4, l5, l6⟩, ⟨m0, m1, m2, m3, m4, m5, m6⟩, qi, qk⟩ := hSy
    go_simp
    try with_reducible rfl
  try simp only [Act.put, List.setIfInBounds_toArray, List.set_cons_zero, List.set_cons_succ]
  refine wpAnyH_ready (rs := [5]) (by kernel_rfl) (by simp) (readyH_consL rfl (fun K hK => ?_) AllReadyH.nil)
  go_simp
  go_at_call 48
  refine (F0.out.call (fun c => tlast_l (sv := some ⟨p, 0, none⟩) LSU.out c _)).mono ?_
  rintro e wq1 ⟨rfl, F1⟩
  go_simp
  refine hK.out _ _ (s57 Z8.out HI.out HK.out Y8.out U8.out F1.out) (fun hS1 => ?_)
  clear hK K hS F0
  have hS := Lib.hid (s57 Z8.out HI.out HK.out Y8.out U8.out F1.out)
  clear hS1
  try simp only [Act.put, List.setIfInBounds_toArray, List.set_cons_zero, List.set_cons_succ]
  refine wpH_takeL (i := 6) (v := ?_) rfl (by kernel_rfl) (by kernel_rfl) (by kernel_rfl) (fun _ _ _ h => h) (Or.inl ⟨by rfl, ?_⟩) hS.out ?_
  rotate_left
  · intro wy hSy
    clear hSy
    go_simp
    try with_reducible rfl
  try simp only [Act.put, List.setIfInBounds_toArray, List.set_cons_zero, List.set_cons_succ]
  refine wpH_takeL (i := 7) (v := ?_) rfl (by kernel_rfl) (by kernel_rfl) (by kernel_rfl) (fun _ _ _ h => h) (Or.inl ⟨by rfl, ?_⟩) hS.out ?_
  rotate_left
  · intro wy hSy
    clear hSy
    go_simp
    try with_reducible rfl
  try simp only [Act.put, List.setIfInBounds_toArray, List.set_cons_zero, List.set_cons_succ]
  refine wpH_takeL (i := 8) (v := ?_) rfl (by kernel_rfl) (by kernel_rfl) (by kernel_rfl) (fun _ _ _ h => h) (Or.inl ⟨by rfl, ?_⟩) hS.out ?_
  rotate_left
  · intro wy hSy
    clear hSy
    go_simp
    try with_reducible rfl
  try simp only [Act.put, List.setIfInBounds_toArray, List.set_cons_zero, List.set_cons_succ]
  refine wpH_takeL (i := 9) (v := undef) rfl (by kernel_rfl) (by kernel_rfl) (by kernel_rfl) (fun _ _ _ h => h) (Or.inr ⟨by rfl, rfl⟩) hS.out ?_
  try simp only [Act.put, List.setIfInBounds_toArray, List.set_cons_zero, List.set_cons_succ]
  refine wpH_takeL (i := 10) (v := undef) rfl (by kernel_rfl) (by kernel_rfl) (by kernel_rfl) (fun _ _ _ h => h) (Or.inr ⟨by rfl, rfl⟩) hS.out ?_
  try simp only [Act.put, List.setIfInBounds_toArray, List.set_cons_zero, List.set_cons_succ]
  refine wpH_takeL (i := 11) (v := undef) rfl (by kernel_rfl) (by kernel_rfl) (by kernel_rfl) (fun _ _ _ h => h) (Or.inr ⟨by rfl, rfl⟩) hS.out ?_
  try simp only [Act.put, List.setIfInBounds_toArray, List.set_cons_zero, List.set_cons_succ]
  refine wpH_takeL (i := 12) (v := undef) rfl (by kernel_rfl) (by kernel_rfl) (by kernel_rfl) (fun _ _ _ h => h) (Or.inr ⟨by rfl, rfl⟩) hS.out ?_
  try simp only [Act.put, List.setIfInBounds_toArray, List.set_cons_zero, List.set_cons_succ]
  refine wpH_takeL (i := 13) (v := undef) rfl (by kernel_rfl) (by kernel_rfl) (by kernel_rfl) (fun _ _ _ h => h) (Or.inr ⟨by rfl, rfl⟩) hS.out ?_
  try simp only [Act.put, List.setIfInBounds_toArray, List.set_cons_zero, List.set_cons_succ]
  refine wpH_takeL (i := 14) (v := undef) rfl (by kernel_rfl) (by kernel_rfl) (by kernel_rfl) (fun _ _ _ h => h) (Or.inr ⟨by rfl, rfl⟩) hS.out ?_
  try simp only [Act.put, List.setIfInBounds_toArray, List.set_cons_zero, List.set_cons_succ]
  refine wpH_takeL (i := 15) (v := undef) rfl (by kernel_rfl) (by kernel_rfl) (by kernel_rfl) (fun _ _ _ h => h) (Or.inr ⟨by rfl, rfl⟩) hS.out ?_
  try simp only [Act.put, List.setIfInBounds_toArray, List.set_cons_zero, List.set_cons_succ]
  refine wpH_takeL (i := 16) (v := undef) rfl (by kernel_rfl) (by kernel_rfl) (by kernel_rfl) (fun _ _ _ h => h) (Or.inr ⟨by rfl, rfl⟩) hS.out ?_
  try simp only [Act.put, List.setIfInBounds_toArray, List.set_cons_zero, List.set_cons_succ]
  refine wpH_takeL (i := 17) (v := undef) rfl (by kernel_rfl) (by kernel_rfl) (by kernel_rfl) (fun _ _ _ h => h) (Or.inr ⟨by rfl, rfl⟩) hS.out ?_
  try simp only [Act.put, List.setIfInBounds_toArray, List.set_cons_zero, List.set_cons_succ]
  refine wpH_takeL (i := 18) (v := undef) rfl (by kernel_rfl) (by kernel_rfl) (by kernel_rfl) (fun _ _ _ h => h) (Or.inr ⟨by rfl, rfl⟩) hS.out ?_
  try simp only [Act.put, List.setIfInBounds_toArray, List.set_cons_zero, List.set_cons_succ]
  refine wpH_takeL (i := 19) (v := ?_) rfl (by kernel_rfl) (by kernel_rfl) (by kernel_rfl) (fun _ _ _ h => h) (Or.inl ⟨by rfl, ?_⟩) hS.out ?_
  rotate_left
  · intro wy hSy
    clear hSy
    go_simp
    try with_reducible rfl
  try simp only [Act.put, List.setIfInBounds_toArray, List.set_cons_zero, List.set_cons_succ]
  refine wpH_takeL (i := 20) (v := ?_) rfl (by kernel_rfl) (by kernel_rfl) (by kernel_rfl) (fun _ _ _ h => h) (Or.inl ⟨by rfl, ?_⟩) hS.out ?_
  rotate_left
  · intro wy hSy
    clear hSy
    go_simp
    try with_reducible rfl
  try simp only [Act.put, List.setIfInBounds_toArray, List.set_cons_zero, List.set_cons_succ]
  refine wpH_takeL (i := 21) (v := undef) rfl (by kernel_rfl) (by kernel_rfl) (by kernel_rfl) (fun _ _ _ h => h) (Or.inr ⟨by rfl, rfl⟩) hS.out ?_
  try simp only [Act.put, List.setIfInBounds_toArray, List.set_cons_zero, List.set_cons_succ]
  refine wpH_takeL (i := 22) (v := undef) rfl (by kernel_rfl) (by kernel_rfl) (by kernel_rfl) (fun _ _ _ h => h) (Or.inr ⟨by rfl, rfl⟩) hS.out ?_
  try simp only [Act.put, List.setIfInBounds_toArray, List.set_cons_zero, List.set_cons_succ]
  refine wpH_takeL (i := 23) (v := undef) rfl (by kernel_rfl) (by kernel_rfl) (by kernel_rfl) (fun _ _ _ h => h) (Or.inr ⟨by rfl, rfl⟩) hS.out ?_
  try simp only [Act.put, List.setIfInBounds_toArray, List.set_cons_zero, List.set_cons_succ]
  refine wpH_takeL (i := 24) (v := undef) rfl (by kernel_rfl) (by kernel_rfl) (by kernel_rfl) (fun _ _ _ h => h) (Or.inr ⟨by rfl, rfl⟩) hS.out ?_
  try simp only [Act.put, List.setIfInBounds_toArray, List.set_cons_zero, List.set_cons_succ]
  refine wpH_takeL (i := 25) (v := undef) rfl (by kernel_rfl) (by kernel_rfl) (by kernel_rfl) (fun _ _ _ h => h) (Or.inr ⟨by rfl, rfl⟩) hS.out ?_
  try simp only [Act.put, List.setIfInBounds_toArray, List.set_cons_zero, List.set_cons_succ]
  refine wpH_takeL (i := 26) (v := undef) rfl (by kernel_rfl) (by kernel_rfl) (by kernel_rfl) (fun _ _ _ h => h) (Or.inr ⟨by rfl, rfl⟩) hS.out ?_
  try simp only [Act.put, List.setIfInBounds_toArray, List.set_cons_zero, List.set_cons_succ]
  refine wpH_takeL (i := 27) (v := undef) rfl (by kernel_rfl) (by kernel_rfl) (by kernel_rfl) (fun _ _ _ h => h) (Or.inr ⟨by rfl, rfl⟩) hS.out ?_
  try simp only [Act.put, List.setIfInBounds_toArray, List.set_cons_zero, List.set_cons_succ]
  refine wpH_takeL (i := 28) (v := undef) rfl (by kernel_rfl) (by kernel_rfl) (by kernel_rfl) (fun _ _ _ h => h) (Or.inr ⟨by rfl, rfl⟩) hS.out ?_
  try simp only [Act.put, List.setIfInBounds_toArray, List.set_cons_zero, List.set_cons_succ]
  refine wpH_takeL (i := 29) (v := undef) rfl (by kernel_rfl) (by kernel_rfl) (by kernel_rfl) (fun _ _ _ h => h) (Or.inr ⟨by rfl, rfl⟩) hS.out ?_
  try simp only [Act.put, List.setIfInBounds_toArray, List.set_cons_zero, List.set_cons_succ]
  refine wpH_takeL (i := 30) (v := undef) rfl (by kernel_rfl) (by kernel_rfl) (by kernel_rfl) (fun _ _ _ h => h) (Or.inr ⟨by rfl, rfl⟩) hS.out ?_
  try simp only [Act.put, List.setIfInBounds_toArray, List.set_cons_zero, List.set_cons_succ]
  refine wpH_takeL (i := 31) (v := ?_) rfl (by kernel_rfl) (by kernel_rfl) (by kernel_rfl) (fun _ _ _ h => h) (Or.inl ⟨by rfl, ?_⟩) hS.out ?_
  rotate_left
  · intro wy hSy
    clear hSy
    go_simp
    try with_reducible rfl
  try simp only [Act.put, List.setIfInBounds_toArray, List.set_cons_zero, List.set_cons_succ]
  refine wpAnyH_done (by kernel_rfl) ?_ _
  exact HQ.out _ _ _ _ _ _ _ _ _ _ _ _ _ _ _ _ _ _ _ _ _ _ _ _ _ _ _ _ _ _ _ _ F1

noncomputable def Tryd.cs57c : Code := (Tryd.f8.body.bind (regionN 57)).getD .skip

set_option maxRecDepth 1000000 in
set_option maxHeartbeats 100000000 in
theorem Tryd.rs57c {p i k n zcap tb ub um ucap mm mcap : Nat} {z : Addr} {ZZ : List Value} {un zs ucl uhi umo mn mzs mcl mhi mmo ni nk lt lu : Int} {uao mao : Option Addr} {c8 : Nat → Nat} {w8 : World}
    (Z8 : Hid (Row c8 14 w8 3 1 (some z) n zcap ZZ)) (HI : Hid (ZZ[i]? = some (.int .i64 ni))) (HK : Hid (ZZ[k]? = some (.int .i64 nk))) (Y8 : Hid (Blk c8 15 w8 tb [.pointer (some ⟨p, 0, none⟩), .int .i64 un, .int .i64 zs, .int .i64 ucl, .int .i64 uhi, .slice uao um ucap, .int .i64 umo] 73)) (U8 : Hid (Blk c8 15 w8 ub [.pointer (some ⟨p, 0, none⟩), .int .i64 mn, .int .i64 mzs, .int .i64 mcl, .int .i64 mhi, .slice mao mm mcap, .int .i64 mmo] 73)) (LST : Hid ((if zs = 5 then uhi else -1) = lt)) (LSU : Hid ((if mzs = 5 then mhi else -1) = lu)) (hne : ((k : Int) != (i : Int)) = true) (hp : decide (0 ≤ lu) = true) (hw1 : IntKind.i64.wrap (lt - ni) = lt - ni) (i0 : (0 : Int) ≤ (i : Int)) (i1 : (i : Int) < (n : Int)) (h1 : decide (lt - ni < lu) = false) {fr0 fr1 fr2 fr3 fr4 fr5 fr6 fr7 fr8 fr9 fr10 fr12 fr13 fr14 fr15 fr16 fr17 fr18 fr19 fr20 fr21 fr22 fr23 fr24 fr25 fr26 fr31 fr32 fr33 fr34 fr35 fr36 fr37 fr38 fr39 fr40 fr41 fr42 fr43 fr44 fr45 fr46 fr47 fr48 fr49 fr50 fr51 fr52 fr53 fr54 fr55 fr56 fr57 fr58 fr59 fr60 fr61 fr62 fr63 fr64 fr65 fr66 fr67 fr68 fr69 fr70 fr71 fr72 fr73 fr74 fr75 fr76 fr77 fr78 fr79 fr80 fr81 fr82 fr83 fr84 fr85 fr86 fr87 fr88 fr89 fr90 fr91 fr92 fr93 fr94 fr95 fr96 fr97 fr98 fr99 fr100 fr101 fr102 fr103 fr104 fr105 fr106 fr107 fr108 fr109 fr110 fr111 fr112 fr113 fr114 fr115 fr116 fr117 fr118 fr119 fr120 fr121 fr122 fr123 fr124 fr125 fr126 fr127 fr128 fr129 fr130 fr131 fr132 fr133 fr134 fr135 fr136 fr137 fr138 fr139 fr140 fr141 fr142 fr143 fr144 fr145 fr146 fr147 fr148 fr149 fr150 fr151 fr152 fr153 fr154 fr155 fr156 fr157 fr158 fr159 fr160 fr161 fr162 fr163 fr164 fr165 fr166 fr167 fr168 fr169 fr170 fr171 fr172 fr173 fr174 fr175 fr176 fr177 fr178 fr179 fr180 fr181 fr182 fr183 fr184 fr185 fr186 fr187 fr188 fr189 fr190 fr191 fr192 fr193 fr194 fr195 fr196 fr197 fr198 fr199 fr200 fr201 fr202 fr203 fr204 fr205 fr206 fr207 fr208 fr209 fr210 fr211 fr212 fr213 fr214 fr215 fr216 fr217 fr218 fr219 fr220 fr221 fr222 fr223 fr224 fr225 fr226 fr227 fr228 fr229 fr230 fr231 fr232 fr233 fr234 fr235 fr236 fr237 fr238 fr239 fr240 fr241 fr242 fr243 fr244 fr245 fr246 fr247 fr248 fr249 fr250 fr251 fr252 fr253 fr254 fr255 fr256 fr257 fr258 fr259 fr260 fr261 fr262 fr263 fr264 fr265 fr266 fr267 fr268 fr269 fr270 fr271 fr272 fr273 fr274 fr275 fr276 fr277 fr278 fr279 fr280 fr281 fr282 fr283 fr284 : Value} {Q0 : Exit → Act → World → Prop}
    (hQ : ∀ (w' : World), ∀ g243 g244 g245 g246 g247 g248 g249 g250 g251 g252 g253 g254 g255 g256 g257 g258 g259 g260 g261 g262 g263 g264 g265 g266 g267 g268 g269 g270 g271 g272 g273 : Value, Hid (OldF c8 w8 w') → Q0 .normal ⟨#[fr0, fr1, fr2, fr3, fr4, fr5, fr6, fr7, fr8, fr9, fr10, .slice (some z) n zcap, fr12, fr13, fr14, fr15, fr16, fr17, fr18, fr19, fr20, fr21, fr22, fr23, fr24, fr25, fr26, .int .i64 (i : Int), .pointer (some ⟨tb, 0, none⟩), .int .i64 (k : Int), .pointer (some ⟨ub, 0, none⟩), fr31, fr32, fr33, fr34, fr35, fr36, fr37, fr38, fr39, fr40, fr41, fr42, fr43, fr44, fr45, fr46, fr47, fr48, fr49, fr50, fr51, fr52, fr53, fr54, fr55, fr56, fr57, fr58, fr59, fr60, fr61, fr62, fr63, fr64, fr65, fr66, fr67, fr68, fr69, fr70, fr71, fr72, fr73, fr74, fr75, fr76, fr77, fr78, fr79, fr80, fr81, fr82, fr83, fr84, fr85, fr86, fr87, fr88, fr89, fr90, fr91, fr92, fr93, fr94, fr95, fr96, fr97, fr98, fr99, fr100, fr101, fr102, fr103, fr104, fr105, fr106, fr107, fr108, fr109, fr110, fr111, fr112, fr113, fr114, fr115, fr116, fr117, fr118, fr119, fr120, fr121, fr122, fr123, fr124, fr125, fr126, fr127, fr128, fr129, fr130, fr131, fr132, fr133, fr134, fr135, fr136, fr137, fr138, fr139, fr140, fr141, fr142, fr143, fr144, fr145, fr146, fr147, fr148, fr149, fr150, fr151, fr152, fr153, fr154, fr155, fr156, fr157, fr158, fr159, fr160, fr161, fr162, fr163, fr164, fr165, fr166, fr167, fr168, fr169, fr170, fr171, fr172, fr173, fr174, fr175, fr176, fr177, fr178, fr179, fr180, fr181, fr182, fr183, fr184, fr185, fr186, fr187, fr188, fr189, fr190, fr191, fr192, fr193, fr194, fr195, fr196, fr197, fr198, fr199, fr200, fr201, fr202, fr203, fr204, fr205, fr206, fr207, fr208, fr209, fr210, fr211, fr212, fr213, fr214, fr215, fr216, fr217, fr218, fr219, fr220, fr221, fr222, fr223, fr224, fr225, fr226, fr227, fr228, fr229, fr230, fr231, fr232, fr233, fr234, fr235, fr236, fr237, fr238, fr239, fr240, fr241, fr242, g243, g244, g245, g246, g247, g248, g249, g250, g251, g252, g253, g254, g255, g256, g257, g258, g259, g260, g261, g262, g263, g264, g265, g266, g267, g268, g269, g270, g271, g272, g273, .bool false, fr275, fr276, fr277, fr278, fr279, fr280, fr281, fr282, fr283, fr284], []⟩ w') : Code.wp Tryd.prog Tryd.cs57c Q0 ⟨#[fr0, fr1, fr2, fr3, fr4, fr5, fr6, fr7, fr8, fr9, fr10, .slice (some z) n zcap, fr12, fr13, fr14, fr15, fr16, fr17, fr18, fr19, fr20, fr21, fr22, fr23, fr24, fr25, fr26, .int .i64 (i : Int), .pointer (some ⟨tb, 0, none⟩), .int .i64 (k : Int), .pointer (some ⟨ub, 0, none⟩), fr31, fr32, fr33, fr34, fr35, fr36, fr37, fr38, fr39, fr40, fr41, fr42, fr43, fr44, fr45, fr46, fr47, fr48, fr49, fr50, fr51, fr52, fr53, fr54, fr55, fr56, fr57, fr58, fr59, fr60, fr61, fr62, fr63, fr64, fr65, fr66, fr67, fr68, fr69, fr70, fr71, fr72, fr73, fr74, fr75, fr76, fr77, fr78, fr79, fr80, fr81, fr82, fr83, fr84, fr85, fr86, fr87, fr88, fr89, fr90, fr91, fr92, fr93, fr94, fr95, fr96, fr97, fr98, fr99, fr100, fr101, fr102, fr103, fr104, fr105, fr106, fr107, fr108, fr109, fr110, fr111, fr112, fr113, fr114, fr115, fr116, fr117, fr118, fr119, fr120, fr121, fr122, fr123, fr124, fr125, fr126, fr127, fr128, fr129, fr130, fr131, fr132, fr133, fr134, fr135, fr136, fr137, fr138, fr139, fr140, fr141, fr142, fr143, fr144, fr145, fr146, fr147, fr148, fr149, fr150, fr151, fr152, fr153, fr154, fr155, fr156, fr157, fr158, fr159, fr160, fr161, fr162, fr163, fr164, fr165, fr166, fr167, fr168, fr169, fr170, fr171, fr172, fr173, fr174, fr175, fr176, fr177, fr178, fr179, fr180, fr181, fr182, fr183, fr184, fr185, fr186, fr187, fr188, fr189, fr190, fr191, fr192, fr193, fr194, fr195, fr196, fr197, fr198, fr199, fr200, fr201, fr202, fr203, fr204, fr205, fr206, fr207, fr208, fr209, fr210, fr211, fr212, fr213, fr214, fr215, fr216, fr217, fr218, fr219, fr220, fr221, fr222, fr223, fr224, fr225, fr226, fr227, fr228, fr229, fr230, fr231, fr232, fr233, fr234, fr235, fr236, fr237, fr238, fr239, fr240, fr241, fr242, fr243, fr244, fr245, fr246, fr247, fr248, fr249, fr250, fr251, fr252, fr253, fr254, fr255, fr256, fr257, fr258, fr259, fr260, fr261, fr262, fr263, fr264, fr265, fr266, fr267, fr268, fr269, fr270, fr271, fr272, fr273, fr274, fr275, fr276, fr277, fr278, fr279, fr280, fr281, fr282, fr283, fr284], []⟩ w8 := by
  conv => arg 2; whnf
  refine wp_region_noPanic ?_
  have HQ := Lib.hid hQ
  clear hQ
  have F0 := Lib.hid (show OldF c8 w8 w8.drew from ⟨c8, (Stp.refl _ _ _).drew⟩)
  refine wp_region_held_drew (S := S57 tb ub i k z (.pointer (some ⟨p, 0, none⟩)) (.int .i64 un) (.int .i64 zs) (.int .i64 ucl) (.int .i64 uhi) (.slice uao um ucap) (.int .i64 umo) (.pointer (some ⟨p, 0, none⟩)) (.int .i64 mn) (.int .i64 mzs) (.int .i64 mcl) (.int .i64 mhi) (.slice mao mm mcap) (.int .i64 mmo) (.int .i64 ni) (.int .i64 nk)) (by kernel_rfl) (s57 Z8.out HI.out HK.out Y8.out U8.out F0.out) (fun hS0 => ?_)
  have hS := Lib.hid hS0
  clear hS0
  generalize w8.drew = wq0 at F0 hS ⊢
  refine wpH_takeL (i := 0) (v := ?_) rfl (by kernel_rfl) (by kernel_rfl) (by kernel_rfl) (fun _ _ _ h => h) (Or.inl ⟨by rfl, ?_⟩) hS.out ?_
  rotate_left
  · intro wy hSy
    clear hSy
    go_simp
    try with_reducible rfl
  try simp only [Act.put, List.setIfInBounds_toArray, List.set_cons_zero, List.set_cons_succ]
  refine wpH_takeL (i := 1) (v := ?_) rfl (by kernel_rfl) (by kernel_rfl) (by kernel_rfl) (fun _ _ _ h => h) (Or.inl ⟨by rfl, ?_⟩) hS.out ?_
  rotate_left
  · intro wy hSy
    clear hSy
    go_simp
    try with_reducible rfl
  try simp only [Act.put, List.setIfInBounds_toArray, List.set_cons_zero, List.set_cons_succ]
  refine wpH_takeL (i := 2) (v := ?_) rfl (by kernel_rfl) (by kernel_rfl) (by kernel_rfl) (fun _ _ _ h => h) (Or.inl ⟨by rfl, ?_⟩) hS.out ?_
  rotate_left
  · intro wy hSy
    clear hSy
    go_simp
    try with_reducible rfl
  try simp only [Act.put, List.setIfInBounds_toArray, List.set_cons_zero, List.set_cons_succ]
  refine wpH_takeL (i := 3) (v := ?_) rfl (by kernel_rfl) (by kernel_rfl) (by kernel_rfl) (fun _ _ _ h => h) (Or.inl ⟨by rfl, ?_⟩) hS.out ?_
  rotate_left
  · intro wy hSy
    clear hSy
    go_simp
    try with_reducible rfl
  try simp only [Act.put, List.setIfInBounds_toArray, List.set_cons_zero, List.set_cons_succ]
  refine wpH_takeL (i := 4) (v := ?_) rfl (by kernel_rfl) (by kernel_rfl) (by kernel_rfl) (fun _ _ _ h => h) (Or.inl ⟨by rfl, ?_⟩) hS.out ?_
  rotate_left
  · intro wy hSy
    obtain ⟨⟨l0, l1, l2, l3, l4, l5, l6⟩, ⟨m0, m1, m2, m3, m4, m5, m6⟩, qi, qk⟩ := hSy
    go_simp
    try with_reducible rfl
  try simp only [Act.put, List.setIfInBounds_toArray, List.set_cons_zero, List.set_cons_succ]
  refine wpAnyH_ready (rs := [5]) (by kernel_rfl) (by simp) (readyH_consL rfl (fun K hK => ?_) AllReadyH.nil)
  go_simp
  go_at_call 48
  refine (F0.out.call (fun c => tlast_l (sv := some ⟨p, 0, none⟩) LSU.out c _)).mono ?_
  rintro e wq1 ⟨rfl, F1⟩
  go_simp
  refine hK.out _ _ (s57 Z8.out HI.out HK.out Y8.out U8.out F1.out) (fun hS1 => ?_)
  clear hK K hS F0
  have hS := Lib.hid (s57 Z8.out HI.out HK.out Y8.out U8.out F1.out)
  clear hS1
  try simp only [Act.put, List.setIfInBounds_toArray, List.set_cons_zero, List.set_cons_succ]
  refine wpH_takeL (i := 6) (v := ?_) rfl (by kernel_rfl) (by kernel_rfl) (by kernel_rfl) (fun _ _ _ h => h) (Or.inl ⟨by rfl, ?_⟩) hS.out ?_
  rotate_left
  · intro wy hSy
    clear hSy
    go_simp
    try with_reducible rfl
  try simp only [Act.put, List.setIfInBounds_toArray, List.set_cons_zero, List.set_cons_succ]
  refine wpH_takeL (i := 7) (v := ?_) rfl (by kernel_rfl) (by kernel_rfl) (by kernel_rfl) (fun _ _ _ h => h) (Or.inl ⟨by rfl, ?_⟩) hS.out ?_
  rotate_left
  · intro wy hSy
    clear hSy
    go_simp
    try with_reducible rfl
  try simp only [Act.put, List.setIfInBounds_toArray, List.set_cons_zero, List.set_cons_succ]
  refine wpH_takeL (i := 8) (v := ?_) rfl (by kernel_rfl) (by kernel_rfl) (by kernel_rfl) (fun _ _ _ h => h) (Or.inl ⟨by rfl, ?_⟩) hS.out ?_
  rotate_left
  · intro wy hSy
    clear hSy
    go_simp
    try with_reducible rfl
  try simp only [Act.put, List.setIfInBounds_toArray, List.set_cons_zero, List.set_cons_succ]
  refine wpH_takeL (i := 9) (v := ?_) rfl (by kernel_rfl) (by kernel_rfl) (by kernel_rfl) (fun _ _ _ h => h) (Or.inl ⟨by rfl, ?_⟩) hS.out ?_
  rotate_left
  · intro wy hSy
    obtain ⟨⟨l0, l1, l2, l3, l4, l5, l6⟩, ⟨m0, m1, m2, m3, m4, m5, m6⟩, qi, qk⟩ := hSy
    go_simp
    try with_reducible rfl
  try simp only [Act.put, List.setIfInBounds_toArray, List.set_cons_zero, List.set_cons_succ]
  refine wpH_takeL (i := 11) (v := ?_) rfl (by kernel_rfl) (by kernel_rfl) (by kernel_rfl) (fun _ _ _ h => h) (Or.inl ⟨by rfl, ?_⟩) hS.out ?_
  rotate_left
  · intro wy hSy
    clear hSy
    go_simp
    try with_reducible rfl
  try simp only [Act.put, List.setIfInBounds_toArray, List.set_cons_zero, List.set_cons_succ]
  refine wpH_takeL (i := 12) (v := ?_) rfl (by kernel_rfl) (by kernel_rfl) (by kernel_rfl) (fun _ _ _ h => h) (Or.inl ⟨by rfl, ?_⟩) hS.out ?_
  rotate_left
  · intro wy hSy
    clear hSy
    go_simp
    try with_reducible rfl
  try simp only [Act.put, List.setIfInBounds_toArray, List.set_cons_zero, List.set_cons_succ]
  refine wpH_takeL (i := 13) (v := ?_) rfl (by kernel_rfl) (by kernel_rfl) (by kernel_rfl) (fun _ _ _ h => h) (Or.inl ⟨by rfl, ?_⟩) hS.out ?_
  rotate_left
  · intro wy hSy
    clear hSy
    go_simp
    try with_reducible rfl
  try simp only [Act.put, List.setIfInBounds_toArray, List.set_cons_zero, List.set_cons_succ]
  refine wpH_takeL (i := 14) (v := ?_) rfl (by kernel_rfl) (by kernel_rfl) (by kernel_rfl) (fun _ _ _ h => h) (Or.inl ⟨by rfl, ?_⟩) hS.out ?_
  rotate_left
  · intro wy hSy
    obtain ⟨⟨l0, l1, l2, l3, l4, l5, l6⟩, ⟨m0, m1, m2, m3, m4, m5, m6⟩, qi, qk⟩ := hSy
    go_simp
    try with_reducible rfl
  try simp only [Act.put, List.setIfInBounds_toArray, List.set_cons_zero, List.set_cons_succ]
  refine wpH_takeL (i := 16) (v := ?_) rfl (by kernel_rfl) (by kernel_rfl) (by kernel_rfl) (fun _ _ _ h => h) (Or.inl ⟨by rfl, ?_⟩) hS.out ?_
  rotate_left
  · intro wy hSy
    obtain ⟨⟨l0, l1, l2, l3, l4, l5, l6⟩, ⟨m0, m1, m2, m3, m4, m5, m6⟩, qi, qk⟩ := hSy
    go_simp
    try with_reducible rfl
  try simp only [Act.put, List.setIfInBounds_toArray, List.set_cons_zero, List.set_cons_succ]
  refine wpAnyH_ready (rs := [10]) (by kernel_rfl) (by simp) (readyH_consL rfl (fun K hK => ?_) AllReadyH.nil)
  go_simp
  go_at_call 48
  refine (F1.out.call (fun c => tlast_l (sv := some ⟨p, 0, none⟩) LST.out c _)).mono ?_
  rintro e wq2 ⟨rfl, F2⟩
  go_simp
  refine hK.out _ _ (s57 Z8.out HI.out HK.out Y8.out U8.out F2.out) (fun hS2 => ?_)
  clear hK K hS F1
  have hS := Lib.hid (s57 Z8.out HI.out HK.out Y8.out U8.out F2.out)
  clear hS2
  try simp only [Act.put, List.setIfInBounds_toArray, List.set_cons_zero, List.set_cons_succ]
  refine wpH_takeL (i := 15) (v := ?_) rfl (by kernel_rfl) (by kernel_rfl) (by kernel_rfl) (fun _ _ _ h => h) (Or.inl ⟨by rfl, ?_⟩) hS.out ?_
  rotate_left
  · intro wy hSy
    clear hSy
    go_simp
    try with_reducible rfl
  try simp only [Act.put, List.setIfInBounds_toArray, List.set_cons_zero, List.set_cons_succ]
  refine wpAnyH_ready (rs := [17]) (by kernel_rfl) (by simp) (readyH_consL rfl (fun K hK => ?_) AllReadyH.nil)
  go_simp
  go_at_call 48
  refine (F2.out.call (fun c => tlast_l (sv := some ⟨p, 0, none⟩) LSU.out c _)).mono ?_
  rintro e wq3 ⟨rfl, F3⟩
  go_simp
  refine hK.out _ _ (s57 Z8.out HI.out HK.out Y8.out U8.out F3.out) (fun hS3 => ?_)
  clear hK K hS F2
  have hS := Lib.hid (s57 Z8.out HI.out HK.out Y8.out U8.out F3.out)
  clear hS3
  try simp only [Act.put, List.setIfInBounds_toArray, List.set_cons_zero, List.set_cons_succ]
  refine wpH_takeL (i := 18) (v := ?_) rfl (by kernel_rfl) (by kernel_rfl) (by kernel_rfl) (fun _ _ _ h => h) (Or.inl ⟨by rfl, ?_⟩) hS.out ?_
  rotate_left
  · intro wy hSy
    clear hSy
    go_simp
    try with_reducible rfl
  try simp only [Act.put, List.setIfInBounds_toArray, List.set_cons_zero, List.set_cons_succ]
  refine wpH_takeL (i := 19) (v := ?_) rfl (by kernel_rfl) (by kernel_rfl) (by kernel_rfl) (fun _ _ _ h => h) (Or.inl ⟨by rfl, ?_⟩) hS.out ?_
  rotate_left
  · intro wy hSy
    clear hSy
    go_simp
    try with_reducible rfl
  try simp only [Act.put, List.setIfInBounds_toArray, List.set_cons_zero, List.set_cons_succ]
  refine wpH_takeL (i := 20) (v := ?_) rfl (by kernel_rfl) (by kernel_rfl) (by kernel_rfl) (fun _ _ _ h => h) (Or.inl ⟨by rfl, ?_⟩) hS.out ?_
  rotate_left
  · intro wy hSy
    clear hSy
    go_simp
    try with_reducible rfl
  try simp only [Act.put, List.setIfInBounds_toArray, List.set_cons_zero, List.set_cons_succ]
  refine wpH_takeL (i := 21) (v := undef) rfl (by kernel_rfl) (by kernel_rfl) (by kernel_rfl) (fun _ _ _ h => h) (Or.inr ⟨by rfl, rfl⟩) hS.out ?_
  try simp only [Act.put, List.setIfInBounds_toArray, List.set_cons_zero, List.set_cons_succ]
  refine wpH_takeL (i := 22) (v := undef) rfl (by kernel_rfl) (by kernel_rfl) (by kernel_rfl) (fun _ _ _ h => h) (Or.inr ⟨by rfl, rfl⟩) hS.out ?_
  try simp only [Act.put, List.setIfInBounds_toArray, List.set_cons_zero, List.set_cons_succ]
  refine wpH_takeL (i := 23) (v := undef) rfl (by kernel_rfl) (by kernel_rfl) (by kernel_rfl) (fun _ _ _ h => h) (Or.inr ⟨by rfl, rfl⟩) hS.out ?_
  try simp only [Act.put, List.setIfInBounds_toArray, List.set_cons_zero, List.set_cons_succ]
  refine wpH_takeL (i := 24) (v := undef) rfl (by kernel_rfl) (by kernel_rfl) (by kernel_rfl) (fun _ _ _ h => h) (Or.inr ⟨by rfl, rfl⟩) hS.out ?_
  try simp only [Act.put, List.setIfInBounds_toArray, List.set_cons_zero, List.set_cons_succ]
  refine wpH_takeL (i := 25) (v := undef) rfl (by kernel_rfl) (by kernel_rfl) (by kernel_rfl) (fun _ _ _ h => h) (Or.inr ⟨by rfl, rfl⟩) hS.out ?_
  try simp only [Act.put, List.setIfInBounds_toArray, List.set_cons_zero, List.set_cons_succ]
  refine wpH_takeL (i := 26) (v := undef) rfl (by kernel_rfl) (by kernel_rfl) (by kernel_rfl) (fun _ _ _ h => h) (Or.inr ⟨by rfl, rfl⟩) hS.out ?_
  try simp only [Act.put, List.setIfInBounds_toArray, List.set_cons_zero, List.set_cons_succ]
  refine wpH_takeL (i := 27) (v := undef) rfl (by kernel_rfl) (by kernel_rfl) (by kernel_rfl) (fun _ _ _ h => h) (Or.inr ⟨by rfl, rfl⟩) hS.out ?_
  try simp only [Act.put, List.setIfInBounds_toArray, List.set_cons_zero, List.set_cons_succ]
  refine wpH_takeL (i := 28) (v := undef) rfl (by kernel_rfl) (by kernel_rfl) (by kernel_rfl) (fun _ _ _ h => h) (Or.inr ⟨by rfl, rfl⟩) hS.out ?_
  try simp only [Act.put, List.setIfInBounds_toArray, List.set_cons_zero, List.set_cons_succ]
  refine wpH_takeL (i := 29) (v := undef) rfl (by kernel_rfl) (by kernel_rfl) (by kernel_rfl) (fun _ _ _ h => h) (Or.inr ⟨by rfl, rfl⟩) hS.out ?_
  try simp only [Act.put, List.setIfInBounds_toArray, List.set_cons_zero, List.set_cons_succ]
  refine wpH_takeL (i := 30) (v := undef) rfl (by kernel_rfl) (by kernel_rfl) (by kernel_rfl) (fun _ _ _ h => h) (Or.inr ⟨by rfl, rfl⟩) hS.out ?_
  try simp only [Act.put, List.setIfInBounds_toArray, List.set_cons_zero, List.set_cons_succ]
  refine wpH_takeL (i := 31) (v := ?_) rfl (by kernel_rfl) (by kernel_rfl) (by kernel_rfl) (fun _ _ _ h => h) (Or.inl ⟨by rfl, ?_⟩) hS.out ?_
  rotate_left
  · intro wy hSy
    clear hSy
    go_simp
    try with_reducible rfl
  try simp only [Act.put, List.setIfInBounds_toArray, List.set_cons_zero, List.set_cons_succ]
  refine wpAnyH_done (by kernel_rfl) ?_ _
  exact HQ.out _ _ _ _ _ _ _ _ _ _ _ _ _ _ _ _ _ _ _ _ _ _ _ _ _ _ _ _ _ _ _ _ F3

noncomputable def Tryd.cs57d : Code := (Tryd.f8.body.bind (regionN 57)).getD .skip

set_option maxRecDepth 1000000 in
set_option maxHeartbeats 100000000 in
theorem Tryd.rs57d {p i k n zcap tb ub um ucap mm mcap : Nat} {z : Addr} {ZZ : List Value} {un zs ucl uhi umo mn mzs mcl mhi mmo ni nk lt lu : Int} {uao mao : Option Addr} {c8 : Nat → Nat} {w8 : World}
    (Z8 : Hid (Row c8 14 w8 3 1 (some z) n zcap ZZ)) (HI : Hid (ZZ[i]? = some (.int .i64 ni))) (HK : Hid (ZZ[k]? = some (.int .i64 nk))) (Y8 : Hid (Blk c8 15 w8 tb [.pointer (some ⟨p, 0, none⟩), .int .i64 un, .int .i64 zs, .int .i64 ucl, .int .i64 uhi, .slice uao um ucap, .int .i64 umo] 73)) (U8 : Hid (Blk c8 15 w8 ub [.pointer (some ⟨p, 0, none⟩), .int .i64 mn, .int .i64 mzs, .int .i64 mcl, .int .i64 mhi, .slice mao mm mcap, .int .i64 mmo] 73)) (LST : Hid ((if zs = 5 then uhi else -1) = lt)) (LSU : Hid ((if mzs = 5 then mhi else -1) = lu)) (hne : ((k : Int) != (i : Int)) = true) (hp : decide (0 ≤ lu) = true) (hw1 : IntKind.i64.wrap (lt - ni) = lt - ni) (hw2 : IntKind.i64.wrap (lu - nk) = lu - nk) (i0 : (0 : Int) ≤ (i : Int)) (i1 : (i : Int) < (n : Int)) (k0 : (0 : Int) ≤ (k : Int)) (k1 : (k : Int) < (n : Int)) (h1 : decide (lt - ni < lu) = true) (h2 : decide (lu - nk < lt) = false) {fr0 fr1 fr2 fr3 fr4 fr5 fr6 fr7 fr8 fr9 fr10 fr12 fr13 fr14 fr15 fr16 fr17 fr18 fr19 fr20 fr21 fr22 fr23 fr24 fr25 fr26 fr31 fr32 fr33 fr34 fr35 fr36 fr37 fr38 fr39 fr40 fr41 fr42 fr43 fr44 fr45 fr46 fr47 fr48 fr49 fr50 fr51 fr52 fr53 fr54 fr55 fr56 fr57 fr58 fr59 fr60 fr61 fr62 fr63 fr64 fr65 fr66 fr67 fr68 fr69 fr70 fr71 fr72 fr73 fr74 fr75 fr76 fr77 fr78 fr79 fr80 fr81 fr82 fr83 fr84 fr85 fr86 fr87 fr88 fr89 fr90 fr91 fr92 fr93 fr94 fr95 fr96 fr97 fr98 fr99 fr100 fr101 fr102 fr103 fr104 fr105 fr106 fr107 fr108 fr109 fr110 fr111 fr112 fr113 fr114 fr115 fr116 fr117 fr118 fr119 fr120 fr121 fr122 fr123 fr124 fr125 fr126 fr127 fr128 fr129 fr130 fr131 fr132 fr133 fr134 fr135 fr136 fr137 fr138 fr139 fr140 fr141 fr142 fr143 fr144 fr145 fr146 fr147 fr148 fr149 fr150 fr151 fr152 fr153 fr154 fr155 fr156 fr157 fr158 fr159 fr160 fr161 fr162 fr163 fr164 fr165 fr166 fr167 fr168 fr169 fr170 fr171 fr172 fr173 fr174 fr175 fr176 fr177 fr178 fr179 fr180 fr181 fr182 fr183 fr184 fr185 fr186 fr187 fr188 fr189 fr190 fr191 fr192 fr193 fr194 fr195 fr196 fr197 fr198 fr199 fr200 fr201 fr202 fr203 fr204 fr205 fr206 fr207 fr208 fr209 fr210 fr211 fr212 fr213 fr214 fr215 fr216 fr217 fr218 fr219 fr220 fr221 fr222 fr223 fr224 fr225 fr226 fr227 fr228 fr229 fr230 fr231 fr232 fr233 fr234 fr235 fr236 fr237 fr238 fr239 fr240 fr241 fr242 fr243 fr244 fr245 fr246 fr247 fr248 fr249 fr250 fr251 fr252 fr253 fr254 fr255 fr256 fr257 fr258 fr259 fr260 fr261 fr262 fr263 fr264 fr265 fr266 fr267 fr268 fr269 fr270 fr271 fr272 fr273 fr274 fr275 fr276 fr277 fr278 fr279 fr280 fr281 fr282 fr283 fr284 : Value} {Q0 : Exit → Act → World → Prop}
    (hQ : ∀ (w' : World), ∀ g243 g244 g245 g246 g247 g248 g249 g250 g251 g252 g253 g254 g255 g256 g257 g258 g259 g260 g261 g262 g263 g264 g265 g266 g267 g268 g269 g270 g271 g272 g273 : Value, Hid (OldF c8 w8 w') → Q0 .normal ⟨#[fr0, fr1, fr2, fr3, fr4, fr5, fr6, fr7, fr8, fr9, fr10, .slice (some z) n zcap, fr12, fr13, fr14, fr15, fr16, fr17, fr18, fr19, fr20, fr21, fr22, fr23, fr24, fr25, fr26, .int .i64 (i : Int), .pointer (some ⟨tb, 0, none⟩), .int .i64 (k : Int), .pointer (some ⟨ub, 0, none⟩), fr31, fr32, fr33, fr34, fr35, fr36, fr37, fr38, fr39, fr40, fr41, fr42, fr43, fr44, fr45, fr46, fr47, fr48, fr49, fr50, fr51, fr52, fr53, fr54, fr55, fr56, fr57, fr58, fr59, fr60, fr61, fr62, fr63, fr64, fr65, fr66, fr67, fr68, fr69, fr70, fr71, fr72, fr73, fr74, fr75, fr76, fr77, fr78, fr79, fr80, fr81, fr82, fr83, fr84, fr85, fr86, fr87, fr88, fr89, fr90, fr91, fr92, fr93, fr94, fr95, fr96, fr97, fr98, fr99, fr100, fr101, fr102, fr103, fr104, fr105, fr106, fr107, fr108, fr109, fr110, fr111, fr112, fr113, fr114, fr115, fr116, fr117, fr118, fr119, fr120, fr121, fr122, fr123, fr124, fr125, fr126, fr127, fr128, fr129, fr130, fr131, fr132, fr133, fr134, fr135, fr136, fr137, fr138, fr139, fr140, fr141, fr142, fr143, fr144, fr145, fr146, fr147, fr148, fr149, fr150, fr151, fr152, fr153, fr154, fr155, fr156, fr157, fr158, fr159, fr160, fr161, fr162, fr163, fr164, fr165, fr166, fr167, fr168, fr169, fr170, fr171, fr172, fr173, fr174, fr175, fr176, fr177, fr178, fr179, fr180, fr181, fr182, fr183, fr184, fr185, fr186, fr187, fr188, fr189, fr190, fr191, fr192, fr193, fr194, fr195, fr196, fr197, fr198, fr199, fr200, fr201, fr202, fr203, fr204, fr205, fr206, fr207, fr208, fr209, fr210, fr211, fr212, fr213, fr214, fr215, fr216, fr217, fr218, fr219, fr220, fr221, fr222, fr223, fr224, fr225, fr226, fr227, fr228, fr229, fr230, fr231, fr232, fr233, fr234, fr235, fr236, fr237, fr238, fr239, fr240, fr241, fr242, g243, g244, g245, g246, g247, g248, g249, g250, g251, g252, g253, g254, g255, g256, g257, g258, g259, g260, g261, g262, g263, g264, g265, g266, g267, g268, g269, g270, g271, g272, g273, .bool false, fr275, fr276, fr277, fr278, fr279, fr280, fr281, fr282, fr283, fr284], []⟩ w') : Code.wp Tryd.prog Tryd.cs57d Q0 ⟨#[fr0, fr1, fr2, fr3, fr4, fr5, fr6, fr7, fr8, fr9, fr10, .slice (some z) n zcap, fr12, fr13, fr14, fr15, fr16, fr17, fr18, fr19, fr20, fr21, fr22, fr23, fr24, fr25, fr26, .int .i64 (i : Int), .pointer (some ⟨tb, 0, none⟩), .int .i64 (k : Int), .pointer (some ⟨ub, 0, none⟩), fr31, fr32, fr33, fr34, fr35, fr36, fr37, fr38, fr39, fr40, fr41, fr42, fr43, fr44, fr45, fr46, fr47, fr48, fr49, fr50, fr51, fr52, fr53, fr54, fr55, fr56, fr57, fr58, fr59, fr60, fr61, fr62, fr63, fr64, fr65, fr66, fr67, fr68, fr69, fr70, fr71, fr72, fr73, fr74, fr75, fr76, fr77, fr78, fr79, fr80, fr81, fr82, fr83, fr84, fr85, fr86, fr87, fr88, fr89, fr90, fr91, fr92, fr93, fr94, fr95, fr96, fr97, fr98, fr99, fr100, fr101, fr102, fr103, fr104, fr105, fr106, fr107, fr108, fr109, fr110, fr111, fr112, fr113, fr114, fr115, fr116, fr117, fr118, fr119, fr120, fr121, fr122, fr123, fr124, fr125, fr126, fr127, fr128, fr129, fr130, fr131, fr132, fr133, fr134, fr135, fr136, fr137, fr138, fr139, fr140, fr141, fr142, fr143, fr144, fr145, fr146, fr147, fr148, fr149, fr150, fr151, fr152, fr153, fr154, fr155, fr156, fr157, fr158, fr159, fr160, fr161, fr162, fr163, fr164, fr165, fr166, fr167, fr168, fr169, fr170, fr171, fr172, fr173, fr174, fr175, fr176, fr177, fr178, fr179, fr180, fr181, fr182, fr183, fr184, fr185, fr186, fr187, fr188, fr189, fr190, fr191, fr192, fr193, fr194, fr195, fr196, fr197, fr198, fr199, fr200, fr201, fr202, fr203, fr204, fr205, fr206, fr207, fr208, fr209, fr210, fr211, fr212, fr213, fr214, fr215, fr216, fr217, fr218, fr219, fr220, fr221, fr222, fr223, fr224, fr225, fr226, fr227, fr228, fr229, fr230, fr231, fr232, fr233, fr234, fr235, fr236, fr237, fr238, fr239, fr240, fr241, fr242, fr243, fr244, fr245, fr246, fr247, fr248, fr249, fr250, fr251, fr252, fr253, fr254, fr255, fr256, fr257, fr258, fr259, fr260, fr261, fr262, fr263, fr264, fr265, fr266, fr267, fr268, fr269, fr270, fr271, fr272, fr273, fr274, fr275, fr276, fr277, fr278, fr279, fr280, fr281, fr282, fr283, fr284], []⟩ w8 := by
  conv => arg 2; whnf
  refine wp_region_noPanic ?_
  have HQ := Lib.hid hQ
  clear hQ
  have F0 := Lib.hid (show OldF c8 w8 w8.drew from ⟨c8, (Stp.refl _ _ _).drew⟩)
  refine wp_region_held_drew (S := S57 tb ub i k z (.pointer (some ⟨p, 0, none⟩)) (.int .i64 un) (.int .i64 zs) (.int .i64 ucl) (.int .i64 uhi) (.slice uao um ucap) (.int .i64 umo) (.pointer (some ⟨p, 0, none⟩)) (.int .i64 mn) (.int .i64 mzs) (.int .i64 mcl) (.int .i64 mhi) (.slice mao mm mcap) (.int .i64 mmo) (.int .i64 ni) (.int .i64 nk)) (by kernel_rfl) (s57 Z8.out HI.out HK.out Y8.out U8.out F0.out) (fun hS0 => ?_)
  have hS := Lib.hid hS0
  clear hS0
  generalize w8.drew = wq0 at F0 hS ⊢
  refine wpH_takeL (i := 0) (v := ?_) rfl (by kernel_rfl) (by kernel_rfl) (by kernel_rfl) (fun _ _ _ h => h) (Or.inl ⟨by rfl, ?_⟩) hS.out ?_
  rotate_left
  · intro wy hSy
    clear hSy
    go_simp
    try with_reducible rfl
  try simp only [Act.put, List.setIfInBounds_toArray, List.set_cons_zero, List.set_cons_succ]
  refine wpH_takeL (i := 1) (v := ?_) rfl (by kernel_rfl) (by kernel_rfl) (by kernel_rfl) (fun _ _ _ h => h) (Or.inl ⟨by rfl, ?_⟩) hS.out ?_
  rotate_left
  · intro wy hSy
    clear hSy
    go_simp
    try with_reducible rfl
  try simp only [Act.put, List.setIfInBounds_toArray, List.set_cons_zero, List.set_cons_succ]
  refine wpH_takeL (i := 2) (v := ?_) rfl (by kernel_rfl) (by kernel_rfl) (by kernel_rfl) (fun _ _ _ h => h) (Or.inl ⟨by rfl, ?_⟩) hS.out ?_
  rotate_left
  · intro wy hSy
    clear hSy
    go_simp
    try with_reducible rfl
  try simp only [Act.put, List.setIfInBounds_toArray, List.set_cons_zero, List.set_cons_succ]
  refine wpH_takeL (i := 3) (v := ?_) rfl (by kernel_rfl) (by kernel_rfl) (by kernel_rfl) (fun _ _ _ h => h) (Or.inl ⟨by rfl, ?_⟩) hS.out ?_
  rotate_left
  · intro wy hSy
    clear hSy
    go_simp
    try with_reducible rfl
  try simp only [Act.put, List.setIfInBounds_toArray, List.set_cons_zero, List.set_cons_succ]
  refine wpH_takeL (i := 4) (v := ?_) rfl (by kernel_rfl) (by kernel_rfl) (by kernel_rfl) (fun _ _ _ h => h) (Or.inl ⟨by rfl, ?_⟩) hS.out ?_
  rotate_left
  · intro wy hSy
    obtain ⟨⟨l0, l1, l2, l3, l4, l5, l6⟩, ⟨m0, m1, m2, m3, m4, m5, m6⟩, qi, qk⟩ := hSy
    go_simp
    try with_reducible rfl
  try simp only [Act.put, List.setIfInBounds_toArray, List.set_cons_zero, List.set_cons_succ]
  refine wpAnyH_ready (rs := [5]) (by kernel_rfl) (by simp) (readyH_consL rfl (fun K hK => ?_) AllReadyH.nil)
  go_simp
  go_at_call 48
  refine (F0.out.call (fun c => tlast_l (sv := some ⟨p, 0, none⟩) LSU.out c _)).mono ?_
  rintro e wq1 ⟨rfl, F1⟩
  go_simp
  refine hK.out _ _ (s57 Z8.out HI.out HK.out Y8.out U8.out F1.out) (fun hS1 => ?_)
  clear hK K hS F0
  have hS := Lib.hid (s57 Z8.out HI.out HK.out Y8.out U8.out F1.out)
  clear hS1
  try simp only [Act.put, List.setIfInBounds_toArray, List.set_cons_zero, List.set_cons_succ]
  refine wpH_takeL (i := 6) (v := ?_) rfl (by kernel_rfl) (by kernel_rfl) (by kernel_rfl) (fun _ _ _ h => h) (Or.inl ⟨by rfl, ?_⟩) hS.out ?_
  rotate_left
  · intro wy hSy
    clear hSy
    go_simp
    try with_reducible rfl
  try simp only [Act.put, List.setIfInBounds_toArray, List.set_cons_zero, List.set_cons_succ]
  refine wpH_takeL (i := 7) (v := ?_) rfl (by kernel_rfl) (by kernel_rfl) (by kernel_rfl) (fun _ _ _ h => h) (Or.inl ⟨by rfl, ?_⟩) hS.out ?_
  rotate_left
  · intro wy hSy
    clear hSy
    go_simp
    try with_reducible rfl
  try simp only [Act.put, List.setIfInBounds_toArray, List.set_cons_zero, List.set_cons_succ]
  refine wpH_takeL (i := 8) (v := ?_) rfl (by kernel_rfl) (by kernel_rfl) (by kernel_rfl) (fun _ _ _ h => h) (Or.inl ⟨by rfl, ?_⟩) hS.out ?_
  rotate_left
  · intro wy hSy
    clear hSy
    go_simp
    try with_reducible rfl
  try simp only [Act.put, List.setIfInBounds_toArray, List.set_cons_zero, List.set_cons_succ]
  refine wpH_takeL (i := 9) (v := ?_) rfl (by kernel_rfl) (by kernel_rfl) (by kernel_rfl) (fun _ _ _ h => h) (Or.inl ⟨by rfl, ?_⟩) hS.out ?_
  rotate_left
  · intro wy hSy
    obtain ⟨⟨l0, l1, l2, l3, l4, l5, l6⟩, ⟨m0, m1, m2, m3, m4, m5, m6⟩, qi, qk⟩ := hSy
    go_simp
    try with_reducible rfl
  try simp only [Act.put, List.setIfInBounds_toArray, List.set_cons_zero, List.set_cons_succ]
  refine wpH_takeL (i := 11) (v := ?_) rfl (by kernel_rfl) (by kernel_rfl) (by kernel_rfl) (fun _ _ _ h => h) (Or.inl ⟨by rfl, ?_⟩) hS.out ?_
  rotate_left
  · intro wy hSy
    clear hSy
    go_simp
    try with_reducible rfl
  try simp only [Act.put, List.setIfInBounds_toArray, List.set_cons_zero, List.set_cons_succ]
  refine wpH_takeL (i := 12) (v := ?_) rfl (by kernel_rfl) (by kernel_rfl) (by kernel_rfl) (fun _ _ _ h => h) (Or.inl ⟨by rfl, ?_⟩) hS.out ?_
  rotate_left
  · intro wy hSy
    clear hSy
    go_simp
    try with_reducible rfl
  try simp only [Act.put, List.setIfInBounds_toArray, List.set_cons_zero, List.set_cons_succ]
  refine wpH_takeL (i := 13) (v := ?_) rfl (by kernel_rfl) (by kernel_rfl) (by kernel_rfl) (fun _ _ _ h => h) (Or.inl ⟨by rfl, ?_⟩) hS.out ?_
  rotate_left
  · intro wy hSy
    clear hSy
    go_simp
    try with_reducible rfl
  try simp only [Act.put, List.setIfInBounds_toArray, List.set_cons_zero, List.set_cons_succ]
  refine wpH_takeL (i := 14) (v := ?_) rfl (by kernel_rfl) (by kernel_rfl) (by kernel_rfl) (fun _ _ _ h => h) (Or.inl ⟨by rfl, ?_⟩) hS.out ?_
  rotate_left
  · intro wy hSy
    obtain ⟨⟨l0, l1, l2, l3, l4, l5, l6⟩, ⟨m0, m1, m2, m3, m4, m5, m6⟩, qi, qk⟩ := hSy
    go_simp
    try with_reducible rfl
  try simp only [Act.put, List.setIfInBounds_toArray, List.set_cons_zero, List.set_cons_succ]
  refine wpH_takeL (i := 16) (v := ?_) rfl (by kernel_rfl) (by kernel_rfl) (by kernel_rfl) (fun _ _ _ h => h) (Or.inl ⟨by rfl, ?_⟩) hS.out ?_
  rotate_left
  · intro wy hSy
    obtain ⟨⟨l0, l1, l2, l3, l4, l5, l6⟩, ⟨m0, m1, m2, m3, m4, m5, m6⟩, qi, qk⟩ := hSy
    go_simp
    try with_reducible rfl
  try simp only [Act.put, List.setIfInBounds_toArray, List.set_cons_zero, List.set_cons_succ]
  refine wpAnyH_ready (rs := [10]) (by kernel_rfl) (by simp) (readyH_consL rfl (fun K hK => ?_) AllReadyH.nil)
  go_simp
  go_at_call 48
  refine (F1.out.call (fun c => tlast_l (sv := some ⟨p, 0, none⟩) LST.out c _)).mono ?_
  rintro e wq2 ⟨rfl, F2⟩
  go_simp
  refine hK.out _ _ (s57 Z8.out HI.out HK.out Y8.out U8.out F2.out) (fun hS2 => ?_)
  clear hK K hS F1
  have hS := Lib.hid (s57 Z8.out HI.out HK.out Y8.out U8.out F2.out)
  clear hS2
  try simp only [Act.put, List.setIfInBounds_toArray, List.set_cons_zero, List.set_cons_succ]
  refine wpH_takeL (i := 15) (v := ?_) rfl (by kernel_rfl) (by kernel_rfl) (by kernel_rfl) (fun _ _ _ h => h) (Or.inl ⟨by rfl, ?_⟩) hS.out ?_
  rotate_left
  · intro wy hSy
    clear hSy
    go_simp
    try with_reducible rfl
  try simp only [Act.put, List.setIfInBounds_toArray, List.set_cons_zero, List.set_cons_succ]
  refine wpAnyH_ready (rs := [17]) (by kernel_rfl) (by simp) (readyH_consL rfl (fun K hK => ?_) AllReadyH.nil)
  go_simp
  go_at_call 48
  refine (F2.out.call (fun c => tlast_l (sv := some ⟨p, 0, none⟩) LSU.out c _)).mono ?_
  rintro e wq3 ⟨rfl, F3⟩
  go_simp
  refine hK.out _ _ (s57 Z8.out HI.out HK.out Y8.out U8.out F3.out) (fun hS3 => ?_)
  clear hK K hS F2
  have hS := Lib.hid (s57 Z8.out HI.out HK.out Y8.out U8.out F3.out)
  clear hS3
  try simp only [Act.put, List.setIfInBounds_toArray, List.set_cons_zero, List.set_cons_succ]
  refine wpH_takeL (i := 18) (v := ?_) rfl (by kernel_rfl) (by kernel_rfl) (by kernel_rfl) (fun _ _ _ h => h) (Or.inl ⟨by rfl, ?_⟩) hS.out ?_
  rotate_left
  · intro wy hSy
    clear hSy
    go_simp
    try with_reducible rfl
  try simp only [Act.put, List.setIfInBounds_toArray, List.set_cons_zero, List.set_cons_succ]
  refine wpH_takeL (i := 19) (v := ?_) rfl (by kernel_rfl) (by kernel_rfl) (by kernel_rfl) (fun _ _ _ h => h) (Or.inl ⟨by rfl, ?_⟩) hS.out ?_
  rotate_left
  · intro wy hSy
    clear hSy
    go_simp
    try with_reducible rfl
  try simp only [Act.put, List.setIfInBounds_toArray, List.set_cons_zero, List.set_cons_succ]
  refine wpH_takeL (i := 20) (v := ?_) rfl (by kernel_rfl) (by kernel_rfl) (by kernel_rfl) (fun _ _ _ h => h) (Or.inl ⟨by rfl, ?_⟩) hS.out ?_
  rotate_left
  · intro wy hSy
    clear hSy
    go_simp
    try with_reducible rfl
  try simp only [Act.put, List.setIfInBounds_toArray, List.set_cons_zero, List.set_cons_succ]
  refine wpH_takeL (i := 21) (v := ?_) rfl (by kernel_rfl) (by kernel_rfl) (by kernel_rfl) (fun _ _ _ h => h) (Or.inl ⟨by rfl, ?_⟩) hS.out ?_
  rotate_left
  · intro wy hSy
    obtain ⟨⟨l0, l1, l2, l3, l4, l5, l6⟩, ⟨m0, m1, m2, m3, m4, m5, m6⟩, qi, qk⟩ := hSy
    go_simp
    try with_reducible rfl
  try simp only [Act.put, List.setIfInBounds_toArray, List.set_cons_zero, List.set_cons_succ]
  refine wpH_takeL (i := 23) (v := ?_) rfl (by kernel_rfl) (by kernel_rfl) (by kernel_rfl) (fun _ _ _ h => h) (Or.inl ⟨by rfl, ?_⟩) hS.out ?_
  rotate_left
  · intro wy hSy
    clear hSy
    go_simp
    try with_reducible rfl
  try simp only [Act.put, List.setIfInBounds_toArray, List.set_cons_zero, List.set_cons_succ]
  refine wpH_takeL (i := 24) (v := ?_) rfl (by kernel_rfl) (by kernel_rfl) (by kernel_rfl) (fun _ _ _ h => h) (Or.inl ⟨by rfl, ?_⟩) hS.out ?_
  rotate_left
  · intro wy hSy
    clear hSy
    go_simp
    try with_reducible rfl
  try simp only [Act.put, List.setIfInBounds_toArray, List.set_cons_zero, List.set_cons_succ]
  refine wpH_takeL (i := 25) (v := ?_) rfl (by kernel_rfl) (by kernel_rfl) (by kernel_rfl) (fun _ _ _ h => h) (Or.inl ⟨by rfl, ?_⟩) hS.out ?_
  rotate_left
  · intro wy hSy
    clear hSy
    go_simp
    try with_reducible rfl
  try simp only [Act.put, List.setIfInBounds_toArray, List.set_cons_zero, List.set_cons_succ]
  refine wpH_takeL (i := 26) (v := ?_) rfl (by kernel_rfl) (by kernel_rfl) (by kernel_rfl) (fun _ _ _ h => h) (Or.inl ⟨by rfl, ?_⟩) hS.out ?_
  rotate_left
  · intro wy hSy
    obtain ⟨⟨l0, l1, l2, l3, l4, l5, l6⟩, ⟨m0, m1, m2, m3, m4, m5, m6⟩, qi, qk⟩ := hSy
    go_simp
    try with_reducible rfl
  try simp only [Act.put, List.setIfInBounds_toArray, List.set_cons_zero, List.set_cons_succ]
  refine wpH_takeL (i := 28) (v := ?_) rfl (by kernel_rfl) (by kernel_rfl) (by kernel_rfl) (fun _ _ _ h => h) (Or.inl ⟨by rfl, ?_⟩) hS.out ?_
  rotate_left
  · intro wy hSy
    obtain ⟨⟨l0, l1, l2, l3, l4, l5, l6⟩, ⟨m0, m1, m2, m3, m4, m5, m6⟩, qi, qk⟩ := hSy
    go_simp
    try with_reducible rfl
  try simp only [Act.put, List.setIfInBounds_toArray, List.set_cons_zero, List.set_cons_succ]
  refine wpAnyH_ready (rs := [22]) (by kernel_rfl) (by simp) (readyH_consL rfl (fun K hK => ?_) AllReadyH.nil)
  go_simp
  go_at_call 48
  refine (F3.out.call (fun c => tlast_l (sv := some ⟨p, 0, none⟩) LSU.out c _)).mono ?_
  rintro e wq4 ⟨rfl, F4⟩
  go_simp
  refine hK.out _ _ (s57 Z8.out HI.out HK.out Y8.out U8.out F4.out) (fun hS4 => ?_)
  clear hK K hS F3
  have hS := Lib.hid (s57 Z8.out HI.out HK.out Y8.out U8.out F4.out)
  clear hS4
  try simp only [Act.put, List.setIfInBounds_toArray, List.set_cons_zero, List.set_cons_succ]
  refine wpH_takeL (i := 27) (v := ?_) rfl (by kernel_rfl) (by kernel_rfl) (by kernel_rfl) (fun _ _ _ h => h) (Or.inl ⟨by rfl, ?_⟩) hS.out ?_
  rotate_left
  · intro wy hSy
    clear hSy
    go_simp
    try with_reducible rfl
  try simp only [Act.put, List.setIfInBounds_toArray, List.set_cons_zero, List.set_cons_succ]
  refine wpAnyH_ready (rs := [29]) (by kernel_rfl) (by simp) (readyH_consL rfl (fun K hK => ?_) AllReadyH.nil)
  go_simp
  go_at_call 48
  refine (F4.out.call (fun c => tlast_l (sv := some ⟨p, 0, none⟩) LST.out c _)).mono ?_
  rintro e wq5 ⟨rfl, F5⟩
  go_simp
  refine hK.out _ _ (s57 Z8.out HI.out HK.out Y8.out U8.out F5.out) (fun hS5 => ?_)
  clear hK K hS F4
  have hS := Lib.hid (s57 Z8.out HI.out HK.out Y8.out U8.out F5.out)
  clear hS5
  try simp only [Act.put, List.setIfInBounds_toArray, List.set_cons_zero, List.set_cons_succ]
  refine wpH_takeL (i := 30) (v := ?_) rfl (by kernel_rfl) (by kernel_rfl) (by kernel_rfl) (fun _ _ _ h => h) (Or.inl ⟨by rfl, ?_⟩) hS.out ?_
  rotate_left
  · intro wy hSy
    clear hSy
    go_simp
    try with_reducible rfl
  try simp only [Act.put, List.setIfInBounds_toArray, List.set_cons_zero, List.set_cons_succ]
  refine wpH_takeL (i := 31) (v := ?_) rfl (by kernel_rfl) (by kernel_rfl) (by kernel_rfl) (fun _ _ _ h => h) (Or.inl ⟨by rfl, ?_⟩) hS.out ?_
  rotate_left
  · intro wy hSy
    clear hSy
    go_simp
    try with_reducible rfl
  try simp only [Act.put, List.setIfInBounds_toArray, List.set_cons_zero, List.set_cons_succ]
  refine wpAnyH_done (by kernel_rfl) ?_ _
  exact HQ.out _ _ _ _ _ _ _ _ _ _ _ _ _ _ _ _ _ _ _ _ _ _ _ _ _ _ _ _ _ _ _ _ F5

end Go.Proofs.YtoifknfmamcimaaDoor

/- The walk of MultiShares. No condition but that the table of math/bits holds what the program lays there. -/
namespace Go.Proofs.YtoifknfmamcimaaDoor
open Go.RowKit

theorem tm_w {j : Nat} (h : j ≤ 1000) : wrap64 ((j : Int) + 1) = (j : Int) + 1 := IntWalk.wrap64_in _ (by constructor <;> omega)
theorem tm_meas (m j : Nat) (h : j < m) (hm : j ≤ 1000) : m - (intOf (.int .i64 (wrap64 ((j : Int) + 1)))).toNat < m - (intOf (.int .i64 (j : Int))).toNat := by
  rw [tm_w hm]
  show m - ((j : Int) + 1).toNat < m - (j : Int).toNat
  omega

/-- Something done. -/
structure AO where
  kd : Int
  i : Int
  n : Int
def AO.cells (x : AO) : List Value := [.int .i64 x.kd, .int .i64 x.i, .int .i64 x.n]
def AO.ok (x : AO) : Prop := (-9223372036854775808 ≤ x.i ∧ x.i ≤ 9223372036854775807) ∧ -9223372036854775808 ≤ x.n ∧ x.n ≤ 9223372036854775807
theorem AO.len (x : AO) : x.cells.length = 3 := rfl

/-- What the law of shares holds, part of the way. -/
def SS (w0 : World) (x9 p q bp gp sh N L : Nat) (v10 v11 v12 v13 : Value) (wr : World) : Prop :=
  ∃ (c : Nat → Nat) (k : Nat) (la : List Int) (cl : Int) (io : Option Addr) (icap : Nat) (go : Option Addr) (gcap : Nat) (T : List ST) (lo : Option Addr) (lcap : Nat) (zo : Option Addr) (zcap : Nat) (bo : Option Addr) (bcap : Nat),
    v10 = .slice io k icap ∧ v11 = .slice zo T.length zcap ∧ v12 = .slice lo T.length lcap ∧ v13 = .slice bo T.length bcap ∧ Hid (T.length ≤ L) ∧ Hid (SOK sh N k la T) ∧ Hid (LAt w0 p q bp gp sh la (gids N k) c wr) ∧ Hid (MH x9 sh cl (la.drop N) (gids N k) k io icap go gcap c wr) ∧ Hid (SRows p T lo lcap zo zcap bo bcap c wr)
def SLoop (w0 : World) (x9 p q bp gp sh N m : Nat) (v10 v11 v12 v13 i : Value) (wr : World) : Prop := ∃ j : Nat, i = .int .i64 j ∧ Hid (j ≤ m) ∧ SS w0 x9 p q bp gp sh N j v10 v11 v12 v13 wr
/-- What the gate's loop holds. -/
def GLoop (w0 : World) (x9 p q bp gp sh N k : Nat) (la : List Int) (cl : Int) (io : Option Addr) (icap : Nat) (go : Option Addr) (gcap : Nat) (T : List ST) (lo : Option Addr) (lcap : Nat) (zo : Option Addr) (zcap : Nat) (bo : Option Addr) (bcap : Nat) (i : Value) (wr : World) : Prop :=
  ∃ (c : Nat → Nat) (j : Nat), i = .int .i64 j ∧ Hid (j ≤ k) ∧ Hid (LAt w0 p q bp gp sh la (gids N k) c wr) ∧ Hid (MH x9 sh cl (la.drop N) (gids N k) k io icap go gcap c wr) ∧ Hid (SRows p T lo lcap zo zcap bo bcap c wr)
/-- What the last loops hold. -/
def ELoop (c : Nat → Nat) (w0 : World) (T : List ST) (v26 i : Value) (wr : World) : Prop := ∃ j : Nat, i = .int .i64 j ∧ Hid (j ≤ T.length) ∧ v26 = .int .i64 (shares (T.take j)) ∧ Hid (OldF c w0 wr)
def FLoop (c : Nat → Nat) (w0 : World) (n : Nat) (i : Value) (wr : World) : Prop := ∃ j : Nat, i = .int .i64 j ∧ Hid (j ≤ n) ∧ Hid (OldF c w0 wr)

section
variable {sh N k : Nat} {la : List Int} {T : List ST} {x y : ST} {c c' : Nat → Nat} {w w' : World} {p : Nat} {lo zo bo : Option Addr} {lcap zcap bcap : Nat}
theorem shares_take {j : Nat} (h : T[j]? = some x) : shares (T.take (j + 1)) = shares (T.take j) + x.share := by
  have hj : j < T.length := (List.getElem?_eq_some_iff.1 h).1
  have e : T.take (j + 1) = T.take j ++ [x] := by rw [List.take_add_one, h]; rfl
  rw [e, shares_append]
theorem shares_bd (h : SOK sh N k la T) (h6 : sh < 7) (j : Nat) : 0 ≤ shares (T.take j) ∧ shares (T.take j) ≤ 64 * T.length := by
  have hx : ∀ x ∈ T.take j, XOK sh N k la x := fun x hx => h.e x (List.mem_of_mem_take hx)
  have h1 := shares_le hx h6
  have h2 : (T.take j).length ≤ T.length := by rw [List.length_take]; omega
  refine ⟨?_, by omega⟩
  clear h1 h2
  generalize T.take j = U at hx
  induction U with
  | nil => simp [shares]
  | cons y l ih =>
    have := ih (fun z hz => hx z (List.mem_cons_of_mem _ hz))
    have := (hx y (List.mem_cons_self ..)).t.n
    simp only [shares, ST.share]
    split <;> omega
/-- What Last says of it. -/
def lastOf (x : ST) : Int := if (x.u.t.stage : Int) = 5 then x.u.t.hi else -1
theorem last_yes (h : XOK sh N k la x) (h5 : x.u.t.stage = 5) : lastOf x = x.u.t.hi ∧ 0 ≤ x.u.t.hi ∧ x.share = x.u.t.n ∧ x.u.t.hi = x.u.t.claimed + x.u.t.n ∧ -1 ≤ x.u.t.claimed := by
  have h1 := h.x5 h5
  have h2 := h.t.n
  refine ⟨by unfold lastOf; rw [if_pos (by omega)], by omega, by unfold ST.share; rw [if_pos h5], h1.2.1, h1.1⟩
theorem last_no (h5 : x.u.t.stage ≠ 5) : lastOf x = -1 ∧ x.share = 0 := ⟨by unfold lastOf; rw [if_neg (by omega)], by unfold ST.share; rw [if_neg h5]⟩
theorem SRows.mark {a : Option Addr} {b : Addr} {z : Option Addr} {i : Nat} {w0 : World} {v : Bool} (Q : SRows p T a lcap z zcap (some b) bcap c w0) (h : E25 c w0 b T.length bcap ((T.map fun x => Value.bool x.b).set i (.bool v)) w) (hT : T[i]? = some x) :
    ∃ c', Stp (· = 16) c c' w0 w ∧ SRows p (T.set i ⟨x.u, v⟩) a lcap z zcap (some b) bcap c' w := by
  obtain ⟨c', t, hr⟩ := h
  have hi : i < T.length := (List.getElem?_eq_some_iff.1 hT).1
  have eL : (T.set i ⟨x.u, v⟩).flatMap (ST.lc p) = T.flatMap (ST.lc p) := by
    have e : ∀ (T : List ST) (i : Nat), T[i]? = some x → (T.set i ⟨x.u, v⟩).flatMap (ST.lc p) = T.flatMap (ST.lc p) := by
      intro T
      induction T with
      | nil => intro i h; cases h
      | cons y l ih =>
        intro i h
        cases i with
        | zero => cases h; rfl
        | succ i => simp only [List.set_cons_succ, List.flatMap_cons]; rw [ih i (by simpa using h)]
    exact e T i hT
  have eZ : ((T.set i ⟨x.u, v⟩).map fun x => Value.int .i64 x.u.t.n) = T.map fun x => Value.int .i64 x.u.t.n := by
    rw [List.map_set]
    apply List.ext_getElem?
    intro j
    by_cases hj : i = j
    · subst hj
      rw [List.getElem?_set_self (by rw [List.length_map]; exact hi), List.getElem?_map, hT]
      rfl
    · rw [List.getElem?_set_ne hj]
  refine ⟨c', t, by rw [eL, List.length_set]; exact Q.lr.stp t (by decide), by rw [eZ, List.length_set]; exact Q.zr.stp t (by decide), by rw [List.map_set, List.length_set]; exact hr, fun y hy => ?_⟩
  rcases List.mem_or_eq_of_mem_set hy with hy | rfl
  · exact (Q.is y hy).stp t (by decide)
  · exact (Q.is x (List.mem_of_getElem? hT)).stp t (by decide)
/-- The claim's cells are stored. -/
theorem SRows.put {a b : Addr} {z : Option Addr} {i : Nat} {x' : ST} {v0 v1 v2 v3 v4 v5 v6 : Value} (Q : SRows p T (some a) lcap z zcap (some b) bcap c w) (hT : T[i]? = some x) (hn : x'.u.t.n = x.u.t.n) (hb : x'.b = x.b) (he : x'.lc p = [v0, v1, v2, v3, v4, v5, v6])
    (hs : In c 6 w 1 x'.u.ao x'.u.t.ids.length x'.u.cap (x'.u.t.ids.map (Value.int .i64))) :
    SRows p (T.set i x') (some a) lcap z zcap (some b) bcap c (put7w w (a.add (i * 7)) v0 v1 v2 v3 v4 v5 v6) ∧ Stp (· = 13) c c w (put7w w (a.add (i * 7)) v0 v1 v2 v3 v4 v5 v6) := by
  have t := put7w_stp (c := c) w (a.add (i * 7)) v0 v1 v2 v3 v4 v5 v6 (kk := 13) (by rw [add_block]; exact Q.lr.2.2.2.2.1)
  have hi : i < T.length := (List.getElem?_eq_some_iff.1 hT).1
  have eZ : ((T.set i x').map fun x => Value.int .i64 x.u.t.n) = T.map fun x => Value.int .i64 x.u.t.n := by
    rw [List.map_set, hn]
    apply List.ext_getElem?
    intro j
    by_cases hj : i = j
    · subst hj
      rw [List.getElem?_set_self (by rw [List.length_map]; exact hi), List.getElem?_map, hT]
      rfl
    · rw [List.getElem?_set_ne hj]
  have eB : ((T.set i x').map fun x => Value.bool x.b) = T.map fun x => Value.bool x.b := by
    rw [List.map_set, hb]
    apply List.ext_getElem?
    intro j
    by_cases hj : i = j
    · subst hj
      rw [List.getElem?_set_self (by rw [List.length_map]; exact hi), List.getElem?_map, hT]
      rfl
    · rw [List.getElem?_set_ne hj]
  refine ⟨⟨by rw [List.length_set]; exact Q.lr.put7a (ST.lc_len p) hT he, by rw [eZ, List.length_set]; exact Q.zr.stp t (by decide), by rw [eB, List.length_set]; exact Q.br.stp t (by decide), fun y hy => ?_⟩, t⟩
  rcases List.mem_or_eq_of_mem_set hy with hy | rfl
  · exact (Q.is y hy).stp t (by decide)
  · exact hs.stp t (by decide)
theorem SRows.g4 (h : SRows p T lo lcap zo zcap bo bcap c w) : G4 c w 13 14 16 (R0 13 73 7 lo T.length lcap (T.flatMap (ST.lc p))) (R0 14 3 1 zo T.length zcap (T.map fun x => .int .i64 x.u.t.n)) (R0 16 4 1 bo T.length bcap (T.map fun x => .bool x.b)) w :=
  ⟨by decide, by decide, by decide, by decide, by decide, by decide, R0.kp _ _ _ _ _ _ _, R0.kp _ _ _ _ _ _ _, R0.kp _ _ _ _ _ _ _, c, Stp.refl _ _ _, h.lr, h.zr, h.br⟩
theorem SRows.append {n : Int} {lo' zo' bo' : Option Addr} {lcap' zcap' bcap' : Nat} (h : SRows p T lo lcap zo zcap bo bcap c w)
    (g : G4 c w 13 14 16 (R0 13 73 7 lo' (T.length + 1) lcap' (T.flatMap (ST.lc p) ++ [.pointer (some ⟨p, 0, none⟩), .int .i64 n, .int .i64 0, .int .i64 0, .int .i64 0, .slice none 0 0, .int .i64 0])) (R0 14 3 1 zo' (T.length + 1) zcap' ((T.map fun x => .int .i64 x.u.t.n) ++ [.int .i64 n])) (R0 16 4 1 bo' (T.length + 1) bcap' ((T.map fun x => .bool x.b) ++ [.bool false])) w') :
    ∃ c', Stp (fun j => j = 13 ∨ j = 14 ∨ j = 16) c c' w w' ∧ SRows p (T ++ [ST.mk (TT.new n) false]) lo' lcap' zo' zcap' bo' bcap' c' w' := by
  obtain ⟨c', t, hl, hz, hb⟩ := g.ex
  have el : (T ++ [ST.mk (TT.new n) false]).length = T.length + 1 := by simp
  refine ⟨c', t, ?_, ?_, ?_, fun y hy => ?_⟩
  · rw [el]
    have e : (T ++ [ST.mk (TT.new n) false]).flatMap (ST.lc p) = T.flatMap (ST.lc p) ++ [.pointer (some ⟨p, 0, none⟩), .int .i64 n, .int .i64 0, .int .i64 0, .int .i64 0, .slice none 0 0, .int .i64 0] := by rw [List.flatMap_append]; rfl
    rw [e]; exact hl
  · rw [el, List.map_append]; exact hz
  · rw [el, List.map_append]; exact hb
  · rcases List.mem_append.1 hy with hy | hy
    · exact (h.is y hy).stp t (by decide)
    · rw [List.mem_singleton] at hy
      subst hy
      exact In.nil _ _ _ _ _
end

theorem OldF.named {c : Nat → Nat} {w0 w : World} (h : OldF c w0 w) : ∃ w', w' = w ∧ Hid (OldF c w0 w') := ⟨w, rfl, Lib.hid h⟩
theorem stepT_n (S : Sq) (la : List Int) (t : Tr) : (stepT S la t).2.1.n = t.n := by
  unfold stepT
  repeat' split
  all_goals first | rfl | (unfold judgeT; rfl)
theorem E25.named {c : Nat → Nat} {w0 w : World} {b : Addr} {n bcap : Nat} {BB : List Value} (h : E25 c w0 b n bcap BB w) : ∃ w', w' = w ∧ Hid (E25 c w0 b n bcap BB w') := ⟨w, rfl, Lib.hid h⟩
theorem MH.g3 {x9 sh k icap gcap : Nat} {cl : Int} {gl il : List Int} {io go : Option Addr} {c : Nat → Nat} {w : World} (h : MH x9 sh cl gl il k io icap go gcap c w) :
    G3 c w 11 10 (R0 11 3 1 io k icap (il.map (Value.int .i64))) (R0 10 2 1 go k gcap (gl.map (Value.int .i64))) x9 [.int .i64 (2 ^ sh), .int .i64 cl, .int .i64 (-1), .slice go k gcap, .int .i64 (-1), .int .i64 0, .slice none 0 0] 67 w :=
  ⟨by decide, by decide, by decide, by decide, by decide, R0.kp _ _ _ _ _ _ _, R0.kp _ _ _ _ _ _ _, c, Stp.refl _ _ _, h.ir, h.gr, h.mb⟩
theorem more_endS {w0 : World} {p q bp gp sh N k cn x9 j : Nat} {lb : List Int} {z0 cl : Int} {c : Nat → Nat} {w w8 : World} {T : List ST} {lo zo bo : Option Addr} {lcap zcap bcap : Nat} (hK : SOK sh N k lb T) (hk : k < 20) (hz0 : lb.getD 0 0 = z0) (hcn : cn = lb.length)
    (hR : LAt w0 p q bp gp sh (lb ++ [z0]) (gids N k ++ [(cn : Int)]) c w8) (hQ : SRows p T lo lcap zo zcap bo bcap c w8) (hT : T.length ≤ j)
    {io' : Option Addr} {icap' : Nat} {go' : Option Addr} {gcap' : Nat}
    (hG : G3 c w8 11 10 (R0 11 3 1 io' (k + 1) icap' ((gids N k).map (Value.int .i64) ++ [.int .i64 (cn : Int)])) (R0 10 2 1 go' (k + 1) gcap' ((lb.drop N).map (Value.int .i64) ++ [.int .i64 z0])) x9 [.int .i64 (2 ^ sh), .int .i64 cl, .int .i64 (-1), .slice go' (k + 1) gcap', .int .i64 (-1), .int .i64 0, .slice none 0 0] 67 w) :
    SS w0 x9 p q bp gp sh N (j + 1) (.slice io' (k + 1) icap') (.slice zo T.length zcap) (.slice lo T.length lcap) (.slice bo T.length bcap) w := by
  obtain ⟨c', t, hi, hg, hm⟩ := hG.ex
  obtain ⟨-, -, e2⟩ := hK.p.more_eq z0
  have hd := hK.p.drop_more z0
  subst hcn
  rw [e2] at hR
  refine ⟨c', k + 1, lb ++ [z0], cl, io', icap', go', gcap', T, lo, lcap, zo, zcap, bo, bcap, rfl, rfl, rfl, rfl, Lib.hid (Nat.le_succ_of_le hT), Lib.hid (by rw [← hz0]; exact hK.more hk), Lib.hid (hR.stp9 (t.mono fun _ hj => by omega)), Lib.hid ⟨hm, ?_, ?_⟩, Lib.hid (hQ.stp t (by decide) (by decide) (by decide) (by decide))⟩
  · rw [hd]; simpa [R0] using hg
  · rw [← e2]; simpa [R0] using hi

set_option maxRecDepth 100000 in
set_option maxHeartbeats 100000000 in
theorem shares_in (s sh N : Nat) (oo : Option Addr) (m ocap : Nat) (ops : List AO) (w : World) (hsh : s % 7 = sh) (hN : N = 2 + 2 ^ sh) (hm : m ≤ 120)
    (ho : In (fun _ => 0) 0 w 3 oo m ocap (ops.flatMap AO.cells)) (hol : ops.length = m) (hok : ∀ x ∈ ops, x.ok) (ht : Tab w) :
    Calls Tryd.prog 8 #[.int .u8 s, .slice oo m ocap] w fun e w' => e = .returned (.bool true) ∧ Below w.heap.size w w' := by
  have Ho := Lib.hid ho
  have Hol := Lib.hid hol
  have Hok := Lib.hid hok
  have Ht := Lib.hid ht
  have Hm := Lib.hid hm
  have HNN := Lib.hid hN
  have Hsh := Lib.hid (show sh < 7 by omega)
  have t1 : decide ((120 : Int) < (m : Int)) = false := by simp; omega
  have hw2 := wrap_two_pow sh (by omega)
  have hNN : wrap64 (2 ^ (s % 7)) = 2 ^ sh := by rw [hsh, hw2]
  clear ho hol hok ht hm hN hw2 hsh
  obtain ⟨q, hq⟩ : ∃ q, q = w.heap.size := ⟨_, rfl⟩
  go_enter Tryd.func8, Tryd.ntmps8
  go_wp2_with fail
  refine (new_any (fun _ => 0) 2 _).mono ?_
  rintro e w1 ⟨rfl, c1, s1, h1⟩
  have S1 := Lib.hid (s1.up (by decide))
  have A1 := Lib.hid (show ArenaAt c1 2 w1 q [] 0 by rw [hq]; exact h1)
  have T1 := Lib.hid (Ht.out.stp s1 (by decide))
  rw [← hq]
  clear hq s1 h1
  go_wp2_with fail
  try simp only [hNN]
  clear hNN
  refine (mnew_ok A1.out sh (by have := Hsh.out; omega) (by have := two_pow_bd sh (by have := Hsh.out; omega); simp; omega) T1.out (m := 2 ^ sh) rfl).mono ?_
  rintro e w2 ⟨p, bp, gp, rfl, c2, s2, h2, q2⟩
  obtain ⟨la, hla⟩ : ∃ la : List Int, la = -1 :: -1 :: List.replicate (2 ^ sh) (-1) := ⟨_, rfl⟩
  have R2 := Lib.hid (show LAt w p q bp gp sh la (gids N 0) c2 w2 from by rw [hla]; exact ⟨S1.out.trans (s2.up (by decide)), ⟨_, h2⟩, q2⟩)
  have P2 := Lib.hid (show POK sh N la 0 [] from by rw [hla]; exact POK.start Hsh.out HNN.out)
  have Z0 := Lib.hid (show la.getD 0 0 = -1 by rw [hla]; rfl)
  have ZD := Lib.hid (show la.drop N = [] by rw [hla]; exact List.drop_eq_nil_of_le (by have := HNN.out; simp; omega))
  have K2 := Lib.hid (show SOK sh N 0 la [] from ⟨P2.out, (fun _ h => by cases h), (fun _ h => absurd h (Nat.not_lt_zero _)), (fun _ _ _ _ _ h => by simp at h), by rw [Z0.out]; rfl⟩)
  clear s2 h2 q2 S1 A1 T1 hla P2
  go_wp2_with fail
  refine (r10new_any c2 _ (2 ^ sh)).mono ?_
  rintro e w3 ⟨rfl, c3, t3⟩
  obtain ⟨x9, hx9⟩ : ∃ x, x = w3.heap.size := ⟨_, rfl⟩
  obtain ⟨c4, hc4, T4⟩ := ((Stp.refl (fun _ => False) c3 w3).alloc (.cells #[.int .i64 (2 ^ sh), .int .i64 (-1), .int .i64 (-1), .slice none 0 0, .int .i64 (-1), .int .i64 0, .slice none 0 0] 67) 9).name
  have R4 := Lib.hid ((R2.out.stpF t3).stpF T4.out)
  have M4 := Lib.hid (show MH x9 sh (-1) (la.drop N) (gids N 0) 0 none 0 none 0 c4 (w3.alloc (.cells #[.int .i64 (2 ^ sh), .int .i64 (-1), .int .i64 (-1), .slice none 0 0, .int .i64 (-1), .int .i64 0, .slice none 0 0] 67)) from by
    rw [ZD.out]
    exact ⟨by rw [hc4.out, hx9]; exact Blk.new c3 9 w3 _ _, Row.nil _ _ _ _ _, Row.nil _ _ _ _ _⟩)
  clear t3 hc4 T4 R2 Z0 ZD
  go_wp2_with fail
  rw [← hx9]
  clear hx9
  go_loopw [10, 11, 12, 13, 55] (fun v10 v11 v12 v13 i wr => SLoop w x9 p q bp gp sh N m v10 v11 v12 v13 i wr) (fun _ _ _ _ i _ => m - (intOf i).toNat)
  case atStart => exact ⟨0, rfl, Lib.hid (Nat.zero_le _), c4, 0, la, -1, none, 0, none, 0, [], none, 0, none, 0, none, 0, rfl, rfl, rfl, rfl, Lib.hid (Nat.le_refl _), K2, R4, M4, Lib.hid (SRows.start p _ _)⟩
  case round =>
    obtain ⟨j, rfl, Hj, c5, k, lb, cl, io, icap, go, gcap, T, lo, lcap, zo, zcap, bo, bcap, rfl, rfl, rfl, rfl, HT, K, R, M, Q⟩ := hrel
    clear R4 K2 M4
    by_cases hlt : j < m
    · obtain ⟨x, hx⟩ : ∃ x, ops[j]? = some x := ⟨_, List.getElem?_eq_getElem (show j < ops.length by rw [Hol.out]; exact hlt)⟩
      have hInr := Ho.out.stp R.out.st (by decide)
      obtain ⟨a, ha, y0⟩ := hInr.field (fun x => AO.len x) hx (f := 0) (v := .int .i64 x.kd) rfl
      obtain ⟨a1, ha1, y1⟩ := hInr.field (fun x => AO.len x) hx (f := 1) (v := .int .i64 x.i) rfl
      obtain ⟨a2, ha2, y2⟩ := hInr.field (fun x => AO.len x) hx (f := 2) (v := .int .i64 x.n) rfl
      subst ha
      cases ha1
      cases ha2
      have z1 : wr.cell? ⟨(a.add (j * 3)).block, (a.add (j * 3)).off + 1, none⟩ = some (.int .i64 x.i) := by rw [← add_add'] at y1; exact y1
      have z2 : wr.cell? ⟨(a.add (j * 3)).block, (a.add (j * 3)).off + 2, none⟩ = some (.int .i64 x.n) := by rw [← add_add'] at y2; exact y2
      rw [Nat.add_zero] at y0
      have hxo := Hok.out x (List.mem_of_getElem? hx)
      clear hInr hx y1 y2
      obtain ⟨kd, xi, xn⟩ := x
      simp only at y0 z1 z2
      have XO := Lib.hid (show (-9223372036854775808 ≤ xi ∧ xi ≤ 9223372036854775807) ∧ -9223372036854775808 ≤ xn ∧ xn ≤ 9223372036854775807 from hxo)
      clear hxo
      obtain ⟨xb, hxb⟩ : ∃ x, x = wr.heap.size := ⟨_, rfl⟩
      obtain ⟨c6, hc6, T6⟩ := ((Stp.refl (fun _ => False) c5 wr).alloc (.cells #[.int .i64 kd, .int .i64 xi, .int .i64 xn] 71) 15).name
      have R6 := Lib.hid (R.out.stpF T6.out)
      have M6 := Lib.hid (M.out.stpF T6.out)
      have Q6 := Lib.hid (Q.out.stpF T6.out)
      have X6 := Lib.hid (show Blk c6 15 (wr.alloc (.cells #[.int .i64 kd, .int .i64 xi, .int .i64 xn] 71)) xb [.int .i64 kd, .int .i64 xi, .int .i64 xn] 71 by rw [hc6.out, hxb]; exact Blk.new c5 15 wr _ _)
      have Hlt := Lib.hid hlt
      have J120 := Lib.hid (show j < 120 by have := Hm.out; omega)
      have W8 := tm_w (j := j) (by have := J120.out; omega)
      clear hc6 T6 R M Q
      go_upto_region 15 with fail
      obtain ⟨wb, hwb⟩ : ∃ wb : World, wb = wr.alloc (.cells #[.int .i64 kd, .int .i64 xi, .int .i64 xn] 71) := ⟨_, rfl⟩
      rw [← hwb] at R6 M6 Q6 X6 ⊢
      rw [← hxb]
      clear hwb hxb y0 z1 z2
      obtain ⟨q0, q1, q2, lxb⟩ := act_cells X6.out
      have SAME := Lib.hid (show SS w x9 p q bp gp sh N (j + 1) (.slice io k icap) (.slice zo T.length zcap) (.slice lo T.length lcap) (.slice bo T.length bcap) wb from ⟨c6, k, lb, cl, io, icap, go, gcap, T, lo, lcap, zo, zcap, bo, bcap, rfl, rfl, rfl, rfl, Lib.hid (Nat.le_succ_of_le HT.out), K, R6, M6, Q6⟩)
      go_upto_block 2 with fail
      go_cut [10, 11, 12, 13] (fun v10 v11 v12 v13 wx => SS w x9 p q bp gp sh N (j + 1) v10 v11 v12 v13 wx)
      case first =>
        by_cases h0 : kd = 0
        · subst h0
          as_aux_lemma =>
          by_cases hb : xn < 1 ∨ 2 ^ sh < xn
          · have HB := Lib.hid hb
            clear hb SAME
            go_wp2_with fail
            refine (mtry_not R6.out.sq xn HB.out).mono ?_
            rintro e w7 ⟨et, ev, rfl, c7, t7, e7⟩
            have t8 := t7.alloc (.cells #[.pointer none, .int .i64 0, .int .i64 0, .int .i64 0, .int .i64 0, .slice none 0 0, .int .i64 0] 73) 15
            have FIN := Lib.hid (show SS w x9 p q bp gp sh N (j + 1) (.slice io k icap) (.slice zo T.length zcap) (.slice lo T.length lcap) (.slice bo T.length bcap) (w7.alloc (.cells #[.pointer none, .int .i64 0, .int .i64 0, .int .i64 0, .int .i64 0, .slice none 0 0, .int .i64 0] 73)) from ⟨_, k, lb, cl, io, icap, go, gcap, T, lo, lcap, zo, zcap, bo, bcap, rfl, rfl, rfl, rfl, Lib.hid (Nat.le_succ_of_le HT.out), K, Lib.hid (R6.out.stpF t8), Lib.hid (M6.out.stpF t8), Lib.hid (Q6.out.stpF t8)⟩)
            clear t7 t8 e7 R6 M6 Q6 X6 K q0 q1 q2 lxb HT
            go_wp2
            go_meet
            exact FIN.out
          · have H1 := Lib.hid (show 1 ≤ xn ∧ xn ≤ 2 ^ sh by omega)
            have b63 := Lib.hid (show T.length + 1 ≤ maxLen by have := HT.out; have := J120.out; unfold maxLen; omega)
            have bby := Lib.hid (show (T.length + 1) * 72 ≤ 140737488355328 by have := HT.out; have := J120.out; omega)
            have bbz := Lib.hid (show (T.length + 1) * 8 ≤ 140737488355328 by have := HT.out; have := J120.out; omega)
            have bbb := Lib.hid (show (T.length + 1) * 1 ≤ 140737488355328 by have := HT.out; have := J120.out; omega)
            clear hb SAME
            go_wp2_with fail
            refine (mtry_ok R6.out.sq xn H1.out.1 H1.out.2).mono ?_
            rintro e w7 ⟨rfl, c7, t7⟩
            obtain ⟨yb, hyb⟩ : ∃ y, y = w7.heap.size := ⟨_, rfl⟩
            obtain ⟨c8, hc8, t8⟩ := (t7.alloc (.cells #[.pointer (some ⟨p, 0, none⟩), .int .i64 xn, .int .i64 0, .int .i64 0, .int .i64 0, .slice none 0 0, .int .i64 0] 73) 15).name
            have R8 := Lib.hid (R6.out.stpF t8)
            have M8 := Lib.hid (M6.out.stpF t8)
            have Q8 := Lib.hid (Q6.out.stpF t8)
            have X8 := Lib.hid (X6.out.stp t8 id)
            have Y8 := Lib.hid (show Blk c8 15 (w7.alloc (.cells #[.pointer (some ⟨p, 0, none⟩), .int .i64 xn, .int .i64 0, .int .i64 0, .int .i64 0, .slice none 0 0, .int .i64 0] 73)) yb [.pointer (some ⟨p, 0, none⟩), .int .i64 xn, .int .i64 0, .int .i64 0, .int .i64 0, .slice none 0 0, .int .i64 0] 73 by rw [hc8.out, hyb]; exact Blk.new c7 15 w7 _ _)
            clear hc8 t8 t7 R6 M6 Q6 X6 q0 q1 q2 lxb
            go_upto_region 19 with fail
            rw [← hyb]
            generalize w7.alloc (.cells #[.pointer (some ⟨p, 0, none⟩), .int .i64 xn, .int .i64 0, .int .i64 0, .int .i64 0, .slice none 0 0, .int .i64 0] 73) = w8 at R8 M8 Q8 X8 Y8 ⊢
            clear hyb
            have GG := Lib.hid Q8.out.g4
            refine Tryd.rs19 GG Y8 X8 b63 bby bbz bbb (fun ao1 cap1 ao2 cap2 ao3 cap3 wE _ _ _ _ _ _ _ _ _ _ _ _ GE => ?_)
            obtain ⟨ce, te, QE⟩ := Q8.out.append GE.out
            have FIN := Lib.hid (show SS w x9 p q bp gp sh N (j + 1) (.slice io k icap) (.slice ao2 (T.length + 1) cap2) (.slice ao1 (T.length + 1) cap1) (.slice ao3 (T.length + 1) cap3) wE from ⟨ce, k, lb, cl, io, icap, go, gcap, T ++ [⟨TT.new xn, false⟩], ao1, cap1, ao2, cap2, ao3, cap3, rfl, by rw [List.length_append, List.length_singleton], by rw [List.length_append, List.length_singleton], by rw [List.length_append, List.length_singleton], Lib.hid (by rw [List.length_append, List.length_singleton]; exact Nat.succ_le_succ HT.out), Lib.hid (K.out.new H1.out.1 H1.out.2), Lib.hid (R8.out.stp9 (te.mono fun _ hj => by omega)), Lib.hid (M8.out.stp te (by decide) (by decide) (by decide)), Lib.hid QE⟩)
            clear GE GG te QE R8 M8 Q8 X8 Y8 K HT
            go_wp2
            go_meet
            exact FIN.out
        · by_cases h1 : kd = 1
          · subst h1
            clear h0
            as_aux_lemma =>
            by_cases hb : xi < 0 ∨ (T.length : Int) ≤ xi
            · have hd : decide (xi < 0) = true ∨ (decide (xi < 0) = false ∧ decide ((T.length : Int) ≤ xi) = true) := by
                by_cases h1 : xi < 0
                · exact .inl (by simpa using h1)
                · exact .inr ⟨by simpa using h1, by simp; omega⟩
              clear hb R6 M6 Q6
              rcases hd with d1 | ⟨d1, d2⟩
              all_goals
                go_wp2
                go_roundw
                case rel => exact ⟨j + 1, by go_num, Lib.hid Hlt.out, SAME.out⟩
                case measure => exact tm_meas m j Hlt.out (Nat.le_trans (Nat.le_of_lt J120.out) (by decide))
            · clear SAME
              obtain ⟨i, rfl⟩ : ∃ i : Nat, xi = (i : Int) := ⟨xi.toNat, by omega⟩
              have hi : i < T.length := by omega
              have i0 : (0 : Int) ≤ (i : Int) := by omega
              have i1 : (i : Int) < (T.length : Int) := by omega
              have d1 : decide ((i : Int) < 0) = false := by simp
              have d2 : decide ((T.length : Int) ≤ (i : Int)) = false := by simp; omega
              obtain ⟨x, hx⟩ : ∃ x, T[i]? = some x := ⟨_, List.getElem?_eq_getElem hi⟩
              have KX := Lib.hid (K.out.e x (List.mem_of_getElem? hx))
              obtain ⟨⟨⟨un, ust, ucl, uhi, uids, umo⟩, uao, ucap, urd, uout⟩, ub⟩ := x
              have HX := Lib.hid hx
              have HE := Lib.hid (show ST.lc p ⟨⟨⟨un, ust, ucl, uhi, uids, umo⟩, uao, ucap, urd, uout⟩, ub⟩ = [.pointer (some ⟨p, 0, none⟩), .int .i64 un, .int .i64 (ust : Int), .int .i64 ucl, .int .i64 uhi, .slice uao uids.length ucap, .int .i64 umo] from rfl)
              obtain ⟨a, ha, -, -, -, -⟩ := Row.cells7a (ST.lc_len p) Q6.out.lr hx rfl
              obtain ⟨z, hz, -, -, -⟩ := Q6.out.zr.cell (j := i) (v := .int .i64 un) (by simp [hx])
              obtain ⟨b, hb', -, -, -⟩ := Q6.out.br.cell (j := i) (v := .bool ub) (by simp [hx])
              subst ha hz hb'
              clear hb hx
              go_wp2_with fail
              refine (R6.out.remain K.out.p.ok).mono ?_
              rintro e w7 ⟨rfl, c7, t7, r7⟩
              obtain ⟨left, hleft⟩ : ∃ l, leftOf sh N lb = l := ⟨_, rfl⟩
              have HL := Lib.hid hleft
              have hrm : roomOf (2 ^ sh) (lb.getD 0 0) (((gids N k).map (valAt lb)).foldl min (lb.getD 0 0)) = left := by rw [← hleft, gids_vals K.out.p.len]; rfl
              rw [hrm]
              clear hrm hleft
              have R7 := Lib.hid r7
              have M7 := Lib.hid (M6.out.stp t7 (by decide) (by decide) (by decide))
              have Q7 := Lib.hid (Q6.out.stp t7 (by decide) (by decide) (by decide) (by decide))
              have X7 := Lib.hid (X6.out.stp t7 (by decide))
              clear t7 r7 R6 M6 Q6 X6 q0 q1 q2 lxb
              obtain ⟨sv, hsv⟩ : ∃ v, ST.short sh N lb ⟨⟨⟨un, ust, ucl, uhi, uids, umo⟩, uao, ucap, urd, uout⟩, ub⟩ = v := ⟨_, rfl⟩
              have SV := Lib.hid hsv
              go_upto_region 25 with fail
              go_cut [] (fun wx => Hid (E25 c7 w7 b T.length bcap ((T.map fun x => Value.bool x.b).set i (.bool sv)) wx))
              case first =>
                unfold ST.short at hsv
                simp only [HL.out] at hsv
                rcases (show ub = true ∨ (ub = false ∧ decide ((5 : Int) ≤ (ust : Int)) = true) ∨ (ub = false ∧ decide ((5 : Int) ≤ (ust : Int)) = false) by cases ub <;> cases decide ((5 : Int) ≤ (ust : Int)) <;> simp) with hub | ⟨hub, h5⟩ | ⟨hub, h5⟩
                · have e : sv = true := by rw [← hsv, hub]; rfl
                  subst e
                  refine Tryd.rs25a Q7 X7 HX HE i0 i1 (Lib.hid hub) (fun wE _ _ _ _ _ _ _ _ _ _ _ _ _ _ _ _ _ _ _ _ _ _ _ _ _ _ _ EE => ?_)
                  clear hsv R7 M7 Q7 X7 K KX
                  go_wp2
                  go_meet
                  exact EE
                · have e : sv = false := by rw [← hsv, hub, h5]; rfl
                  subst e
                  refine Tryd.rs25b Q7 X7 HX HE i0 i1 (Lib.hid hub) h5 (fun wE _ _ _ _ _ _ _ _ _ _ _ _ _ _ _ _ _ _ _ _ _ _ _ _ _ _ _ EE => ?_)
                  clear hsv R7 M7 Q7 X7 K KX
                  go_wp2
                  go_meet
                  exact EE
                · have e : decide (left < un) = sv := by rw [← hsv, hub, h5]; simp
                  refine Tryd.rs25c Q7 X7 HX HE i0 i1 (Lib.hid hub) h5 e (fun wE _ _ _ _ _ _ _ _ _ _ _ _ _ _ _ _ _ _ _ _ _ _ _ _ _ _ _ EE => ?_)
                  clear hsv R7 M7 Q7 X7 K KX
                  go_wp2
                  go_meet
                  exact EE
              case rest =>
                clear hsv
                obtain ⟨wx, hwx, EX⟩ := E25.named hcut.out
                subst hwx
                obtain ⟨c8, t8, q8⟩ := SRows.mark Q7.out EX.out HX.out
                have Q8 := Lib.hid q8
                have R8 := Lib.hid (R7.out.stp9 (t8.mono fun _ hj => by omega))
                have M8 := Lib.hid (M7.out.stp t8 (by decide) (by decide) (by decide))
                have X8 := Lib.hid (X7.out.stp t8 (by decide))
                clear t8 q8 hcut EX R7 M7 Q7 X7
                obtain ⟨V, hV⟩ : ∃ V, V = T.set i ⟨⟨⟨un, ust, ucl, uhi, uids, umo⟩, uao, ucap, urd, uout⟩, sv⟩ := ⟨_, rfl⟩
                have VL := Lib.hid (show V.length = T.length by rw [hV, List.length_set])
                have HV := Lib.hid (show V[i]? = some ⟨⟨⟨un, ust, ucl, uhi, uids, umo⟩, uao, ucap, urd, uout⟩, sv⟩ by rw [hV, List.getElem?_set_self hi])
                have VE := Lib.hid hV
                rw [← hV] at Q8
                clear hV
                have Q8l := Q8.out.lr
                rw [VL.out] at Q8l
                obtain ⟨a', ha, -, -, ⟨l0, l1, l2, l3, l4, l5, l6⟩, -⟩ := Row.cells7a (ST.lc_len p) Q8l HV.out (v0 := .pointer (some ⟨p, 0, none⟩)) (v1 := .int .i64 un) (v2 := .int .i64 (ust : Int)) (v3 := .int .i64 ucl) (v4 := .int .i64 uhi) (v5 := .slice uao uids.length ucap) (v6 := .int .i64 umo) rfl
                cases ha
                clear Q8l
                have IX := Lib.hid (Q8.out.is ⟨⟨⟨un, ust, ucl, uhi, uids, umo⟩, uao, ucap, urd, uout⟩, sv⟩ (List.mem_of_getElem? HV.out))
                obtain ⟨q0, q1, q2, lxb⟩ := act_cells X8.out
                go_wp2_with fail
                refine (ustep_d R8.out K.out.p KX.out.t IX.out).mono ?_
                rintro e w9 ⟨la', n', st', cl', hi', ids', mo', ao', m', cap', rd', out', er, zs, ev, c9, rfl, ZS, ML, EU, PN, KV, RA, DR, T9, R9, I9, E9⟩
                obtain ⟨KS, ER, XS⟩ := K.out.step Hsh.out (by have := HT.out; have := J120.out; omega) HX.out ao' cap'
                have eX : stepX sh N k lb ⟨⟨⟨un, ust, ucl, uhi, uids, umo⟩, uao, ucap, urd, uout⟩, ub⟩ ao' cap' = ⟨⟨⟨n', st', cl', hi', ids', mo'⟩, ao', cap', rd', out'⟩, sv⟩ := by unfold stepX; rw [EU.out.2, SV.out]
                rw [eX] at KS XS
                simp only [EU.out.1] at KS ER XS
                have KS' := Lib.hid KS
                have XS' := Lib.hid XS
                have hev : ev = .nilIface := by
                  rcases E9.out with ⟨-, h1⟩ | ⟨h1, -⟩
                  · exact h1
                  · exact absurd ER h1
                subst hev
                have Q9 := Lib.hid (Q8.out.stp T9.out (by decide) (by decide) (by decide) (by decide))
                have M9 := Lib.hid (M8.out.stp T9.out (by decide) (by decide) (by decide))
                have X9 := Lib.hid (X8.out.stp T9.out (by decide))
                have HN := Lib.hid (show n' = un from by have h := congrArg (fun t => t.2.1.n) EU.out.1; simp only at h; rw [← h]; exact stepT_n _ _ _)
                clear KS ER XS eX KX IX EU PN KV RA T9 E9 Q8 M8 X8 R8 K l0 l1 l2 l3 l4 l5 l6 q0 q1 q2 lxb HX HE SV HL
                obtain ⟨yb, hyb⟩ : ∃ y, y = w9.heap.size := ⟨_, rfl⟩
                obtain ⟨c10, hc10, t10⟩ := ((Stp.refl (fun _ => False) c9 w9).alloc (.cells #[.pointer (some ⟨p, 0, none⟩), .int .i64 n', .int .i64 zs, .int .i64 cl', .int .i64 hi', .slice ao' m' cap', .int .i64 mo'] 73) 15).name
                have R10 := Lib.hid (R9.out.stpF t10.out)
                have M10 := Lib.hid (M9.out.stpF t10.out)
                have Q10 := Lib.hid (Q9.out.stpF t10.out)
                have X10 := Lib.hid (X9.out.stp t10.out id)
                have I10 := Lib.hid (I9.out.stp t10.out id)
                have Y10 := Lib.hid (show Blk c10 15 (w9.alloc (.cells #[.pointer (some ⟨p, 0, none⟩), .int .i64 n', .int .i64 zs, .int .i64 cl', .int .i64 hi', .slice ao' m' cap', .int .i64 mo'] 73)) yb [.pointer (some ⟨p, 0, none⟩), .int .i64 n', .int .i64 zs, .int .i64 cl', .int .i64 hi', .slice ao' m' cap', .int .i64 mo'] 73 by rw [hc10.out, hyb]; exact Blk.new c9 15 w9 _ _)
                clear hc10 t10 R9 M9 Q9 X9 I9
                go_upto_region 27 with fail
                rw [← hyb]
                generalize w9.alloc (.cells #[.pointer (some ⟨p, 0, none⟩), .int .i64 n', .int .i64 zs, .int .i64 cl', .int .i64 hi', .slice ao' m' cap', .int .i64 mo'] 73) = w10 at R10 M10 Q10 X10 I10 Y10 ⊢
                clear hyb
                obtain ⟨l0, l1, l2, l3, l4, l5, l6⟩ := cl_7 Y10.out
                obtain ⟨q0, q1, q2, lxb⟩ := act_cells X10.out
                obtain ⟨b6, hb6⟩ : ∃ x, (zs == 6) = x := ⟨_, rfl⟩
                have B6 := Lib.hid hb6
                clear hb6
                go_wp2_with fail
                refine (tfull_any (some ⟨p, 0, none⟩) n' zs cl' hi' ao' m' cap' mo' c10 _ B6.out).mono ?_
                rintro e w11 ⟨rfl, c11, t11⟩
                have R11 := Lib.hid (R10.out.stpF t11)
                have M11 := Lib.hid (M10.out.stpF t11)
                have Q11 := Lib.hid (Q10.out.stpF t11)
                have X11 := Lib.hid (X10.out.stp t11 id)
                have I11 := Lib.hid (I10.out.stp t11 id)
                have Y11 := Lib.hid (Y10.out.stp t11 id)
                clear t11 R10 M10 Q10 X10 I10 Y10 l0 l1 l2 l3 l4 l5 l6 q0 q1 q2 lxb
                obtain ⟨l0, l1, l2, l3, l4, l5, l6⟩ := cl_7 Y11.out
                obtain ⟨q0, q1, q2, lxb⟩ := act_cells X11.out
                have Q11b := Q11.out.br
                rw [VL.out] at Q11b
                obtain ⟨b', hb2, -, hbc, -⟩ := Q11b.cell (j := i) (v := .bool sv) (by simp [HV.out])
                cases hb2
                clear Q11b
                have hfull : b6 = true → sv = true := fun h => by
                  have h6 := B6.out
                  rw [h, ZS.out] at h6
                  have h7 : (st' : Int) = 6 := by simpa using h6
                  exact XS'.out.x6 (show st' = 6 by omega)
                have Q11l := Q11.out.lr
                rw [VL.out] at Q11l
                have L11 := Lib.hid Q11l
                clear Q11l
                obtain ⟨QP, TP⟩ := SRows.put (i := i) (x' := ⟨⟨⟨n', st', cl', hi', ids', mo'⟩, ao', cap', rd', out'⟩, sv⟩) Q11.out HV.out HN.out rfl (show ST.lc p ⟨⟨⟨n', st', cl', hi', ids', mo'⟩, ao', cap', rd', out'⟩, sv⟩ = [.pointer (some ⟨p, 0, none⟩), .int .i64 n', .int .i64 zs, .int .i64 cl', .int .i64 hi', .slice ao' m' cap', .int .i64 mo'] by rw [ZS.out, ML.out]; rfl) (by have := I11.out; rw [ML.out] at this; exact this)
                have eV : V.set i ⟨⟨⟨n', st', cl', hi', ids', mo'⟩, ao', cap', rd', out'⟩, sv⟩ = T.set i ⟨⟨⟨n', st', cl', hi', ids', mo'⟩, ao', cap', rd', out'⟩, sv⟩ := by rw [VE.out, List.set_set]
                have eL : (T.set i ⟨⟨⟨n', st', cl', hi', ids', mo'⟩, ao', cap', rd', out'⟩, sv⟩).length = T.length := List.length_set ..
                rw [eV] at QP
                obtain ⟨wz, hwz⟩ : ∃ x, x = put7w w11 (a.add (i * 7)) (.pointer (some ⟨p, 0, none⟩)) (.int .i64 n') (.int .i64 zs) (.int .i64 cl') (.int .i64 hi') (.slice ao' m' cap') (.int .i64 mo') := ⟨_, rfl⟩
                rw [← hwz] at QP TP
                have FIN := Lib.hid (show SS w x9 p q bp gp sh N (j + 1) (.slice io k icap) (.slice (some z) T.length zcap) (.slice (some a) T.length lcap) (.slice (some b) T.length bcap) wz from ⟨c11, k, la', cl, io, icap, go, gcap, _, some a, lcap, some z, zcap, some b, bcap, rfl, by rw [eL], by rw [eL], by rw [eL], Lib.hid (by rw [eL]; exact Nat.le_succ_of_le HT.out), KS', Lib.hid (R11.out.stp9 (TP.mono fun _ hj => by omega)), Lib.hid (by rw [DR.out]; exact M11.out.stp TP (by decide) (by decide) (by decide)), Lib.hid QP⟩)
                clear QP TP eV eL KS' XS' R11 M11 Q11 I11 VE VL DR HN ZS ML HT
                cases b6
                · clear hfull
                  go_upto_region 29 with fail
                  clear l0 l1 l2 l3 l4 l5 l6 q0 q1 q2 lxb hbc
                  refine Tryd.rs29 L11 X11 Y11 HV i0 i1 (fun wE _ _ _ _ _ hE => ?_)
                  have hE' := hE.out
                  rw [← hwz] at hE'
                  subst hE'
                  clear L11 X11 Y11 HV hwz
                  go_wp2
                  go_meet
                  exact FIN.out
                · have hs := hfull rfl
                  subst hs
                  go_upto_region 29 with fail
                  clear l0 l1 l2 l3 l4 l5 l6 q0 q1 q2 lxb hbc
                  refine Tryd.rs29 L11 X11 Y11 HV i0 i1 (fun wE _ _ _ _ _ hE => ?_)
                  have hE' := hE.out
                  rw [← hwz] at hE'
                  subst hE'
                  clear L11 X11 Y11 HV
                  go_wp2
                  go_meet
                  exact FIN.out
          · by_cases h2 : kd = 2
            · subst h2
              clear h0 h1
              as_aux_lemma =>
              clear SAME
              go_wp2_with fail
              refine (R6.out.claimed K.out.p.ok).mono ?_
              rintro e w7 ⟨rfl, c7, t7, r7⟩
              obtain ⟨z0, hz0⟩ : ∃ z, lb.getD 0 0 = z := ⟨_, rfl⟩
              rw [hz0]
              have HZ := Lib.hid hz0
              clear hz0
              have M7 := Lib.hid (M6.out.stp t7 (by decide) (by decide) (by decide))
              have Q7 := Lib.hid (Q6.out.stp t7 (by decide) (by decide) (by decide) (by decide))
              have X7 := Lib.hid (X6.out.stp t7 (by decide))
              obtain ⟨m8, t8⟩ := M7.out.put_cl z0
              have M8 := Lib.hid m8
              have Q8 := Lib.hid (Q7.out.stp t8 (by decide) (by decide) (by decide) (by decide))
              have X8 := Lib.hid (X7.out.stp t8 (by decide))
              have R8 := Lib.hid (r7.stp9 (t8.mono fun _ hj => by omega))
              clear m8 t8 t7 r7 q0 q1 q2 lxb M6 Q6 X6 R6
              obtain ⟨⟨m0, m1, m2, m3, m4, m5, m6⟩, ⟨f0, f1, f2, f3, f4, f5, f6⟩, lm⟩ := M7.out.xs
              go_upto_region 32 with fail
              generalize w7.setCell ⟨x9, 1, none⟩ (.int .i64 z0) = w8 at M8 Q8 X8 R8 ⊢
              clear M7 Q7 X7 m0 m1 m2 m3 m4 m5 m6 f0 f1 f2 f3 f4 f5 f6 lm
              obtain ⟨q0, q1, q2, lxb⟩ := act_cells X8.out
              go_wp2_with fail
              refine (held_s R8.out (by rw [HZ.out]; exact M8.out) K.out.p xn).mono ?_
              rintro e w9 ⟨rfl, c9, lc, t9, pc, rc, e0, r9, m9⟩
              have FIN := Lib.hid (show SS w x9 p q bp gp sh N (j + 1) (.slice io k icap) (.slice zo T.length zcap) (.slice lo T.length lcap) (.slice bo T.length bcap) w9 from ⟨c9, k, lc, _, io, icap, go, gcap, T, lo, lcap, zo, zcap, bo, bcap, rfl, rfl, rfl, rfl, Lib.hid (Nat.le_succ_of_le HT.out), Lib.hid (K.out.raise pc rc e0), Lib.hid r9, Lib.hid m9, Lib.hid (Q8.out.stp t9 (by unfold JH; omega) (by unfold JH; omega) (by unfold JH; omega) (by unfold JH; omega))⟩)
              clear t9 pc rc e0 r9 m9 R8 M8 Q8 X8 K HT q0 q1 q2 lxb
              go_wp2
              go_meet
              exact FIN.out
            · by_cases h3 : kd = 3
              · subst h3
                clear h0 h1 h2
                as_aux_lemma =>
                by_cases hk : k < 20
                · have kk : decide ((20 : Int) ≤ (k : Int)) = false := by simp; omega
                  have KL := Lib.hid hk
                  have b63 := Lib.hid (show k + 1 ≤ maxLen by unfold maxLen; omega)
                  have bby := Lib.hid (show (k + 1) * 8 ≤ 140737488355328 by omega)
                  obtain ⟨cn, hcn⟩ : ∃ cn, cn = lb.length := ⟨_, rfl⟩
                  have CN := Lib.hid hcn
                  have HD1 := Lib.hid (show cn ≤ 86 by rw [hcn]; exact K.out.p.ok.max.1)
                  have HD2 := Lib.hid (show (cn : Int) ∉ gids N k by intro hx; obtain ⟨i, hi, he⟩ := gids_mem hx; have := K.out.p.len; omega)
                  have HD3 := Lib.hid (show (gids N k).length < 20 by rw [gids_len]; exact hk)
                  have OKE := Lib.hid K.out.p.ok
                  obtain ⟨z0, hz0⟩ : ∃ z, lb.getD 0 0 = z := ⟨_, rfl⟩
                  have HZ := Lib.hid hz0
                  clear hk hz0 SAME
                  go_wp2_with fail
                  refine (R6.out.claimed OKE.out).mono ?_
                  rintro e w7 ⟨rfl, c7, t7, r7⟩
                  rw [HZ.out]
                  have M7 := Lib.hid (M6.out.stp t7 (by decide) (by decide) (by decide))
                  have Q7 := Lib.hid (Q6.out.stp t7 (by decide) (by decide) (by decide) (by decide))
                  have R7 := Lib.hid r7
                  clear t7 r7 M6 R6 Q6 q0 q1 q2 lxb X6 hcn
                  go_wp2_with fail
                  refine (R7.out.alloc OKE.out z0).mono ?_
                  rintro e w8 ⟨rfl, c8, t8, r8⟩
                  rw [← CN.out]
                  have M8 := Lib.hid (M7.out.stp t8 (by decide) (by decide) (by decide))
                  have Q8 := Lib.hid (Q7.out.stp t8 (by decide) (by decide) (by decide) (by decide))
                  have R8 := Lib.hid r8
                  clear t8 r8 M7 Q7 R7
                  go_wp2_with fail
                  refine (R8.out.gate).mono ?_
                  rintro e w8' ⟨rfl, rfl⟩
                  go_wp2_with fail
                  refine (R8.out.add cn HD1.out HD2.out HD3.out).mono ?_
                  rintro e w9 ⟨rfl, c9, t9, r9⟩
                  have R9 := Lib.hid r9
                  have M9 := Lib.hid (M8.out.stp t9 (by decide) (by decide) (by decide))
                  have Q9 := Lib.hid (Q8.out.stp t9 (by decide) (by decide) (by decide) (by decide))
                  clear t9 r9 M8 R8 Q8
                  have GG := Lib.hid M9.out.g3
                  go_upto_region 40 with fail
                  refine Tryd.rs40 GG b63 bby (fun ao1 cap1 ao2 cap2 wE _ _ _ _ _ _ _ _ _ _ _ _ GE => ?_)
                  have FIN := Lib.hid (more_endS K.out KL.out HZ.out CN.out R9.out Q9.out HT.out GE.out)
                  clear GE GG R9 M9 Q9 K HT
                  go_wp2
                  go_meet
                  exact FIN.out
                · have kk : decide ((20 : Int) ≤ (k : Int)) = true := by simp; omega
                  clear hk
                  go_wp2
                  go_roundw
                  case rel => exact ⟨j + 1, by go_num, Lib.hid Hlt.out, SAME.out⟩
                  case measure => exact tm_meas m j Hlt.out (Nat.le_trans (Nat.le_of_lt J120.out) (by decide))
              · skip
                have k0 : (kd == 0) = false := by simpa using h0
                have k1 : (kd == 1) = false := by simpa using h1
                have k2 : (kd == 2) = false := by simpa using h2
                have k3 : (kd == 3) = false := by simpa using h3
                clear h0 h1 h2 h3
                go_wp2
                go_meet
                exact SAME.out
      case rest =>
        obtain ⟨c8, k8, ln, cl8, io8, icap8, go8, gcap8, U, lo8, lcap8, zo8, zcap8, bo8, bcap8, rfl, rfl, rfl, rfl, HU, KN, RN, MN, QN⟩ := hcut
        clear R6 M6 Q6 X6 K q0 q1 q2 lxb SAME HT
        as_aux_lemma =>
        obtain ⟨⟨m0, m1, m2, m3, m4, m5, m6⟩, -, lm⟩ := MN.out.xs
        have HU1 := Lib.hid (show U.length ≤ 1000 by have := HU.out; have := J120.out; omega)
        have K20 := Lib.hid KN.out.p.k20
        go_wp2_with fail
        go_loopw [208] (fun i wz => GLoop w x9 p q bp gp sh N k8 ln cl8 io8 icap8 go8 gcap8 U lo8 lcap8 zo8 zcap8 bo8 bcap8 i wz) (fun i _ => k8 - (intOf i).toNat)
        case atStart => exact ⟨c8, 0, rfl, Lib.hid (Nat.zero_le _), RN, MN, QN⟩
        case round =>
          obtain ⟨c9, l, rfl, HL, R9, M9, Q9⟩ := hrel
          clear RN MN QN m0 m1 m2 m3 m4 m5 m6 lm
          by_cases hlk : l < k8
          · have HLK := Lib.hid hlk
            obtain ⟨ga, hga, hgc, hgf, hgb⟩ := M9.out.gcell (i := l) (by rw [KN.out.p.dl]; exact hlk)
            subst hga
            obtain ⟨g, hg⟩ : ∃ g, (ln.drop N).getD l 0 = g := ⟨_, rfl⟩
            obtain ⟨z0, hz0⟩ : ∃ z, ln.getD 0 0 = z := ⟨_, rfl⟩
            have HW := Lib.hid (show z0 - 2 ^ sh ≤ g ∧ -1 ≤ g ∧ g ≤ z0 ∧ z0 ≤ 4611686018427387904 by
              have h1 := KN.out.w l hlk
              have hl : l < (ln.drop N).length := by rw [KN.out.p.dl]; exact hlk
              have h2 := KN.out.p.gl ((ln.drop N).getD l 0) (by rw [List.getD, List.getElem?_eq_getElem hl]; exact List.getElem_mem hl)
              have h3 := KN.out.p.cu
              rw [hg] at h1 h2
              rw [hz0] at h1 h2 h3
              exact ⟨h1, h2.2.2, h2.2.1, h3.2⟩)
            rw [hg] at hgc
            have HZ := Lib.hid hz0
            clear hz0 hg hgf
            have l0 : (0 : Int) ≤ (l : Int) := by omega
            have l1 : (l : Int) < (k8 : Int) := by omega
            have v1 : wrap64 (z0 - g) = z0 - g := IntWalk.wrap64_in _ (by have := HW.out; constructor <;> omega)
            have v2 : IntKind.i64.wrap (z0 - g) = z0 - g := (IntWalk.i64_left _).trans v1
            have v3 : decide ((2 : Int) ^ sh < z0 - g) = false := by have := HW.out; simp; omega
            have W9 := tm_w (j := l) (by have := K20.out; omega)
            go_wp2_with fail
            refine (R9.out.claimed KN.out.p.ok).mono ?_
            rintro e w10 ⟨rfl, c10, t10, r10⟩
            rw [HZ.out]
            have R10 := Lib.hid r10
            have M10 := Lib.hid (M9.out.stp t10 (by decide) (by decide) (by decide))
            have Q10 := Lib.hid (Q9.out.stp t10 (by decide) (by decide) (by decide) (by decide))
            clear t10 r10 R9 M9 Q9 hgc hgb
            go_wp2
            go_roundw
            case rel => exact ⟨c10, l + 1, by go_num, Lib.hid HLK.out, R10, M10, Q10⟩
            case measure => exact tm_meas k8 l HLK.out (Nat.le_trans (Nat.le_of_lt HLK.out) (Nat.le_trans K20.out (by decide)))
          · have hlk8 : l = k8 := by have := HL.out; omega
            subst hlk8
            have FIN := Lib.hid (show SS w x9 p q bp gp sh N (j + 1) (.slice io8 l icap8) (.slice zo8 U.length zcap8) (.slice lo8 U.length lcap8) (.slice bo8 U.length bcap8) _ from ⟨c9, l, ln, cl8, io8, icap8, go8, gcap8, U, lo8, lcap8, zo8, zcap8, bo8, bcap8, rfl, rfl, rfl, rfl, HU, KN, R9, M9, Q9⟩)
            clear R9 M9 Q9 hlk
            go_wp2
            go_roundw
            case rel => exact ⟨j + 1, by go_num, Lib.hid Hlt.out, FIN.out⟩
            case measure => exact tm_meas m j Hlt.out (Nat.le_trans (Nat.le_of_lt J120.out) (by decide))
    · have hjn : j = m := by have := Hj.out; omega
      as_aux_lemma =>
      subst hjn
      clear hlt
      have TL := Lib.hid (show T.length ≤ 1000 by have := HT.out; have := Hm.out; omega)
      go_wp2_with fail
      go_loopw [26, 222] (fun v26 i wz => ELoop c5 wr T v26 i wz) (fun _ i _ => T.length - (intOf i).toNat)
      case atStart => exact ⟨0, rfl, Lib.hid (Nat.zero_le _), rfl, Lib.hid ⟨c5, Stp.refl _ _ _⟩⟩
      case round =>
        obtain ⟨l, rfl, HL, rfl, FF⟩ := hrel
        obtain ⟨wq, hwq, FQ⟩ := OldF.named FF.out
        subst hwq
        clear FF
        obtain ⟨c6, t6⟩ := FQ.out
        obtain ⟨s0, hs0⟩ : ∃ s, shares (T.take l) = s := ⟨_, rfl⟩
        have HS0 := Lib.hid hs0
        rw [hs0]
        have SB := Lib.hid (shares_bd K.out Hsh.out l)
        rw [hs0] at SB
        clear hs0
        by_cases hl : l < T.length
        · have HLT := Lib.hid hl
          obtain ⟨x, hx⟩ : ∃ x, T[l]? = some x := ⟨_, List.getElem?_eq_getElem hl⟩
          have HX := Lib.hid hx
          have KX := Lib.hid (K.out.e x (List.mem_of_getElem? hx))
          have HS := Lib.hid (shares_take hx)
          rw [HS0.out] at HS
          obtain ⟨⟨⟨un, ust, ucl, uhi, uids, umo⟩, uao, ucap, urd, uout⟩, ub⟩ := x
          obtain ⟨a, ha, -, -, ⟨l0, l1, l2, l3, l4, l5, l6⟩, -⟩ := Row.cells7a (ST.lc_len p) (Q.out.stpF t6).lr hx (v0 := .pointer (some ⟨p, 0, none⟩)) (v1 := .int .i64 un) (v2 := .int .i64 (ust : Int)) (v3 := .int .i64 ucl) (v4 := .int .i64 uhi) (v5 := .slice uao uids.length ucap) (v6 := .int .i64 umo) rfl
          subst ha
          have i0 : (0 : Int) ≤ (l : Int) := by omega
          have i1 : (l : Int) < (T.length : Int) := by omega
          have W9 := tm_w (j := l) (by have := TL.out; omega)
          obtain ⟨tb, htb⟩ : ∃ y, y = wq.heap.size := ⟨_, rfl⟩
          obtain ⟨c7, hc7, t7⟩ := (t6.alloc (.cells #[.pointer (some ⟨p, 0, none⟩), .int .i64 un, .int .i64 (ust : Int), .int .i64 ucl, .int .i64 uhi, .slice uao uids.length ucap, .int .i64 umo] 73) 15).name
          have Y7 := Lib.hid (show Blk c7 15 (wq.alloc (.cells #[.pointer (some ⟨p, 0, none⟩), .int .i64 un, .int .i64 (ust : Int), .int .i64 ucl, .int .i64 uhi, .slice uao uids.length ucap, .int .i64 umo] 73)) tb [.pointer (some ⟨p, 0, none⟩), .int .i64 un, .int .i64 (ust : Int), .int .i64 ucl, .int .i64 uhi, .slice uao uids.length ucap, .int .i64 umo] 73 by rw [hc7.out, htb]; exact Blk.new c6 15 wq _ _)
          clear hc7 t6 FQ hx
          go_upto_region 52 with fail
          rw [← htb]
          generalize wq.alloc (.cells #[.pointer (some ⟨p, 0, none⟩), .int .i64 un, .int .i64 (ust : Int), .int .i64 ucl, .int .i64 uhi, .slice uao uids.length ucap, .int .i64 umo] 73) = w7 at t7 Y7 ⊢
          clear htb l0 l1 l2 l3 l4 l5 l6
          obtain ⟨l0, l1, l2, l3, l4, l5, l6⟩ := cl_7 Y7.out
          obtain ⟨lt, hlt⟩ : ∃ z, (if (ust : Int) = 5 then uhi else -1) = z := ⟨_, rfl⟩
          have LST := Lib.hid hlt
          go_wp2_with fail
          refine (tlast_l (sv := some ⟨p, 0, none⟩) LST.out c7 _).mono ?_
          rintro e w8 ⟨rfl, c8, t8⟩
          have T8 := Lib.hid (t7.out.trans t8)
          have Y8 := Lib.hid (Y7.out.stp t8 id)
          clear t7 t8 Y7 l0 l1 l2 l3 l4 l5 l6
          by_cases h5 : ust = 5
          · have e1 : lt = uhi := by rw [← hlt, if_pos (by omega)]
            have LY := Lib.hid (last_yes KX.out h5)
            simp only at LY
            have H5 := Lib.hid h5
            have E1 := Lib.hid e1
            have v1 : decide (lt < 0) = false := by have := LY.out.2.1; simp; omega
            have hun := KX.out.t.n
            simp only at hun
            have hpw := K.out.p.pw
            have s1w : wrap64 (s0 + un) = s0 + un := IntWalk.wrap64_in _ (by have := SB.out; have := TL.out; constructor <;> omega)
            have s2w : IntKind.i64.wrap (s0 + un) = s0 + un := (IntWalk.i64_left _).trans s1w
            have w1w : IntKind.i64.wrap (lt - un) = lt - un := (IntWalk.i64_left _).trans (IntWalk.wrap64_in _ (by have := LY.out; have := KX.out.t.ok.hi; simp only at this; constructor <;> omega))
            have W1W := Lib.hid w1w
            obtain ⟨z, hz, -, zc, -⟩ := (Q.out.zr.stp T8.out id).cell (j := l) (v := .int .i64 un) (by simp [HX.out])
            subst hz
            clear hlt h5 e1 hun hpw w1w
            go_wp2_with fail
            go_loopw [238] (fun i wz => FLoop c8 w8 T.length i wz) (fun i _ => T.length - (intOf i).toNat)
            case atStart => exact ⟨0, rfl, Lib.hid (Nat.zero_le _), Lib.hid ⟨c8, Stp.refl _ _ _⟩⟩
            case round =>
              clear zc v1 s1w s2w
              obtain ⟨mm, rfl, HM, FG⟩ := hrel
              obtain ⟨wu, hwu, FU⟩ := OldF.named FG.out
              subst hwu
              clear FG
              by_cases hmm : mm < T.length
              · have HMT := Lib.hid hmm
                obtain ⟨y, hy⟩ : ∃ y, T[mm]? = some y := ⟨_, List.getElem?_eq_getElem hmm⟩
                have HY := Lib.hid hy
                have KY := Lib.hid (K.out.e y (List.mem_of_getElem? hy))
                obtain ⟨⟨⟨mn, mst, mcl, mhi, mids, mmo⟩, mao, mcap, mrd, mout⟩, mb⟩ := y
                obtain ⟨c9, t9⟩ := FU.out
                obtain ⟨a', ha, -, -, ⟨l0, l1, l2, l3, l4, l5, l6⟩, -⟩ := Row.cells7a (ST.lc_len p) ((Q.out.stpF T8.out).stpF t9).lr hy (v0 := .pointer (some ⟨p, 0, none⟩)) (v1 := .int .i64 mn) (v2 := .int .i64 (mst : Int)) (v3 := .int .i64 mcl) (v4 := .int .i64 mhi) (v5 := .slice mao mids.length mcap) (v6 := .int .i64 mmo) rfl
                cases ha
                have k0 : (0 : Int) ≤ (mm : Int) := by omega
                have k1 : (mm : Int) < (T.length : Int) := by omega
                have W10 := tm_w (j := mm) (by have := TL.out; omega)
                obtain ⟨bx, hbx⟩ : ∃ y, y = wu.heap.size := ⟨_, rfl⟩
                obtain ⟨c10, hc10, t10⟩ := (t9.alloc (.cells #[.pointer (some ⟨p, 0, none⟩), .int .i64 mn, .int .i64 (mst : Int), .int .i64 mcl, .int .i64 mhi, .slice mao mids.length mcap, .int .i64 mmo] 73) 15).name
                have U10 := Lib.hid (show Blk c10 15 (wu.alloc (.cells #[.pointer (some ⟨p, 0, none⟩), .int .i64 mn, .int .i64 (mst : Int), .int .i64 mcl, .int .i64 mhi, .slice mao mids.length mcap, .int .i64 mmo] 73)) bx [.pointer (some ⟨p, 0, none⟩), .int .i64 mn, .int .i64 (mst : Int), .int .i64 mcl, .int .i64 mhi, .slice mao mids.length mcap, .int .i64 mmo] 73 by rw [hc10.out, hbx]; exact Blk.new c9 15 wu _ _)
                clear hc10 t9 FU hy
                go_upto_region 57 with fail
                rw [← hbx]
                generalize wu.alloc (.cells #[.pointer (some ⟨p, 0, none⟩), .int .i64 mn, .int .i64 (mst : Int), .int .i64 mcl, .int .i64 mhi, .slice mao mids.length mcap, .int .i64 mmo] 73) = w10 at t10 U10 ⊢
                clear hbx l0 l1 l2 l3 l4 l5 l6
                have T10 := Lib.hid t10.out
                have Y10 := Lib.hid (Y8.out.stp T10.out id)
                have Z10 := Lib.hid ((Q.out.zr.stp T8.out id).stp T10.out id)
                have HI := Lib.hid (show (T.map fun x => Value.int .i64 x.u.t.n)[l]? = some (.int .i64 un) by simp [HX.out])
                have HK := Lib.hid (show (T.map fun x => Value.int .i64 x.u.t.n)[mm]? = some (.int .i64 mn) by simp [HY.out])
                clear t10
                by_cases he : mm = l
                · subst he
                  refine Tryd.rs57a Z10 HI HK Y10 U10 (fun wE _ _ _ _ _ _ _ _ _ _ _ _ _ _ _ _ _ _ _ _ _ _ _ _ _ _ _ _ _ _ _ FE => ?_)
                  have FE2 := Lib.hid (show Hid (OldF c8 w8 wE) from Lib.hid (by obtain ⟨cE, tE⟩ := FE.out; exact ⟨cE, T10.out.trans tE⟩))
                  clear FE Z10 Y10 U10 HI HK
                  go_wp2
                  go_roundw
                  case rel => exact ⟨mm + 1, by go_num, Lib.hid HMT.out, FE2.out⟩
                  case measure => exact tm_meas T.length mm HMT.out (Nat.le_trans (Nat.le_of_lt HMT.out) TL.out)
                · have hne : ((mm : Int) != (l : Int)) = true := by simp; omega
                  obtain ⟨lu, hlu⟩ : ∃ z, (if (mst : Int) = 5 then mhi else -1) = z := ⟨_, rfl⟩
                  have LSU := Lib.hid hlu
                  by_cases h5' : mst = 5
                  · have e2 : lu = mhi := by rw [← hlu, if_pos (by omega)]
                    have LZ := last_yes KY.out h5'
                    simp only at LZ
                    have hp : decide (0 ≤ lu) = true := by have := LZ.2.1; simp; omega
                    have hd := K.out.d l mm _ _ (fun e => he e.symm) HX.out HY.out H5.out h5'
                    simp only at hd
                    have hw2 : IntKind.i64.wrap (lu - mn) = lu - mn := (IntWalk.i64_left _).trans (IntWalk.wrap64_in _ (by have h1 := KY.out.t.ok.hi; have h2 := KY.out.t.n; simp only at h1 h2; constructor <;> omega))
                    have hE1 := E1.out
                    have hLY := LY.out
                    by_cases hc : lt - un < lu
                    · have h1 : decide (lt - un < lu) = true := by simpa using hc
                      have h2 : decide (lu - mn < lt) = false := by simp; omega
                      clear hlu LZ hd hE1 hLY e2 hc
                      refine Tryd.rs57d Z10 HI HK Y10 U10 LST LSU hne hp W1W.out hw2 i0 i1 k0 k1 h1 h2 (fun wE _ _ _ _ _ _ _ _ _ _ _ _ _ _ _ _ _ _ _ _ _ _ _ _ _ _ _ _ _ _ _ FE => ?_)
                      have FE2 := Lib.hid (show Hid (OldF c8 w8 wE) from Lib.hid (by obtain ⟨cE, tE⟩ := FE.out; exact ⟨cE, T10.out.trans tE⟩))
                      clear FE Z10 Y10 U10 HI HK
                      go_wp2
                      go_roundw
                      case rel => exact ⟨mm + 1, by go_num, Lib.hid HMT.out, FE2.out⟩
                      case measure => exact tm_meas T.length mm HMT.out (Nat.le_trans (Nat.le_of_lt HMT.out) TL.out)
                    · have h1 : decide (lt - un < lu) = false := by simpa using hc
                      clear hlu LZ hd hE1 hLY e2 hc hw2
                      refine Tryd.rs57c Z10 HI HK Y10 U10 LST LSU hne hp W1W.out i0 i1 h1 (fun wE _ _ _ _ _ _ _ _ _ _ _ _ _ _ _ _ _ _ _ _ _ _ _ _ _ _ _ _ _ _ _ FE => ?_)
                      have FE2 := Lib.hid (show Hid (OldF c8 w8 wE) from Lib.hid (by obtain ⟨cE, tE⟩ := FE.out; exact ⟨cE, T10.out.trans tE⟩))
                      clear FE Z10 Y10 U10 HI HK
                      go_wp2
                      go_roundw
                      case rel => exact ⟨mm + 1, by go_num, Lib.hid HMT.out, FE2.out⟩
                      case measure => exact tm_meas T.length mm HMT.out (Nat.le_trans (Nat.le_of_lt HMT.out) TL.out)
                  · have e2 : lu = -1 := by rw [← hlu, if_neg (by omega)]
                    have hp : decide (0 ≤ lu) = false := by simp; omega
                    clear hlu e2
                    refine Tryd.rs57b Z10 HI HK Y10 U10 LSU hne hp (fun wE _ _ _ _ _ _ _ _ _ _ _ _ _ _ _ _ _ _ _ _ _ _ _ _ _ _ _ _ _ _ _ FE => ?_)
                    have FE2 := Lib.hid (show Hid (OldF c8 w8 wE) from Lib.hid (by obtain ⟨cE, tE⟩ := FE.out; exact ⟨cE, T10.out.trans tE⟩))
                    clear FE Z10 Y10 U10 HI HK
                    go_wp2
                    go_roundw
                    case rel => exact ⟨mm + 1, by go_num, Lib.hid HMT.out, FE2.out⟩
                    case measure => exact tm_meas T.length mm HMT.out (Nat.le_trans (Nat.le_of_lt HMT.out) TL.out)
              · have hmT : mm = T.length := by have := HM.out; omega
                obtain ⟨c9, t9⟩ := FU.out
                have FIN := Lib.hid (show OldF c5 wr wu from ⟨c9, T8.out.trans t9⟩)
                have HSE := Lib.hid (show s0 + un = shares (T.take (l + 1)) by rw [HS.out, LY.out.2.2.1])
                clear t9 FU Y8 T8
                subst hmT
                go_wp2
                go_roundw
                case rel => exact ⟨l + 1, by go_num, Lib.hid HLT.out, by rw [HSE.out], FIN⟩
                case measure => exact tm_meas T.length l HLT.out (Nat.le_trans (Nat.le_of_lt HLT.out) TL.out)
          · have e1 : lt = -1 := by rw [← hlt, if_neg (by omega)]
            subst e1
            have HSE := Lib.hid (show s0 = shares (T.take (l + 1)) by rw [HS.out, (last_no h5).2]; omega)
            have FIN := Lib.hid (show OldF c5 wr w8 from ⟨c8, T8.out⟩)
            clear hlt T8 Y8
            go_wp2
            go_roundw
            case rel => exact ⟨l + 1, by go_num, Lib.hid HLT.out, by rw [HSE.out], FIN⟩
            case measure => exact tm_meas T.length l HLT.out (Nat.le_trans (Nat.le_of_lt HLT.out) TL.out)
        · have hlT : l = T.length := by have := HL.out; omega
          subst hlT
          have HTb := Lib.hid ((R.out.stpF t6).tab Ht.out)
          obtain ⟨z0, hz0⟩ : ∃ z, lb.getD 0 0 = z := ⟨_, rfl⟩
          have HZ := Lib.hid hz0
          have hs1 : s0 = z0 + 1 := by rw [← HS0.out, List.take_length, ← hz0]; exact K.out.s
          have hcu := K.out.p.cu
          rw [hz0] at hcu
          have v1 : wrap64 (s0 - 1) = z0 := by rw [hs1, Int.add_sub_cancel]; exact IntWalk.wrap64_in _ (by constructor <;> omega)
          have v2 : IntKind.i64.wrap (s0 - 1) = z0 := (IntWalk.i64_left _).trans v1
          have R6 := Lib.hid (R.out.stpF t6)
          clear t6 FQ hl hz0 hcu hs1
          go_wp2_with fail
          refine (awake10k 20 (by decide) c6 _ HTb.out.1 HTb.out.2).mono ?_
          rintro e w8 ⟨rfl, c8, t8⟩
          have R8 := Lib.hid (R6.out.stp9 (t8.mono fun _ hj => by omega))
          clear t8 R6
          go_wp2_with fail
          refine (R8.out.claimed K.out.p.ok).mono ?_
          rintro e w9 ⟨rfl, c9, t9, r9⟩
          rw [HZ.out]
          have S9 := Lib.hid r9.st
          clear t9 r9 R8
          go_wp2
          go_ret
          exact ⟨by first | rfl | simp, S9.out.fin⟩
end Go.Proofs.YtoifknfmamcimaaDoor

/- MultiShares at every input. No condition but that the table of math/bits holds what the program lays there. -/
namespace Go.Proofs.YtoifknfmamcimaaDoor
open Go.RowKit

theorem dec_ao {H : Type} {enc : TypeId × Value → H} {w : World} {base : Nat} {spare : Nat → Bool} {held : Bool} (n : Nat) (cs : List Value) (y : DataW H × List MemPlace) (h : DataW.trod enc Tryd.prog w base spare held n 71 cs = some y) : ∃ x : AO, cs = x.cells ∧ x.ok := by
  obtain ⟨hl, n', hf⟩ := dec_fields Tryd.underlying71 (by kernel_rfl) (by kernel_rfl) h
  obtain ⟨v0, z0, c0, t0⟩ := hf 0 _ rfl
  obtain ⟨v1, z1, c1, t1⟩ := hf 1 _ rfl
  obtain ⟨v2, z2, c2, t2⟩ := hf 2 _ rfl
  obtain ⟨x0, e0, _, w0⟩ := DataW.trod_int Tryd.underlying3 t0
  obtain ⟨x1, e1, _, w1⟩ := DataW.trod_int Tryd.underlying3 t1
  obtain ⟨x2, e2, _, w2⟩ := DataW.trod_int Tryd.underlying3 t2
  match cs, hl with
  | [a, b, d], _ =>
    simp at c0 c1 c2 e0 e1 e2
    subst c0 c1 c2 e0 e1 e2
    exact ⟨⟨x0, x1, x2⟩, rfl, bounds_i64 w1, bounds_i64 w2⟩

set_option maxRecDepth 100000 in
theorem shares_walk (s : Int) (oo : Option Addr) (m ocap : Nat) (ops : List AO) (w : World) (hs : 0 ≤ s ∧ s ≤ 255)
    (ho : In (fun _ => 0) 0 w 3 oo m ocap (ops.flatMap AO.cells)) (hol : ops.length = m) (hok : ∀ x ∈ ops, x.ok) (ht : Tab w) :
    Calls Tryd.prog 8 #[.int .u8 s, .slice oo m ocap] w fun e w' => e = .returned (.bool true) ∧ Below w.heap.size w w' := by
  by_cases hm : m ≤ 120
  · obtain ⟨u, rfl⟩ := Int.eq_ofNat_of_zero_le hs.1
    exact shares_in u (u % 7) _ oo m ocap ops w rfl rfl hm ho hol hok ht
  · have HT := Lib.hid (show Tab w ∧ (fun _ : Nat => 0) 1 = 0 from ⟨ht, rfl⟩)
    have k1 : decide ((120 : Int) < (m : Int)) = true := by simp; omega
    clear hs ho hol hok ht hm
    go_enter Tryd.func8, Tryd.ntmps8
    go_wp2_with fail
    refine (awake10k 10 (by decide) (fun _ => 0) _ HT.out.1 rfl).mono ?_
    rintro e w9 ⟨rfl, c9, s9⟩
    have S9 := Lib.hid (Stp.mono s9 (J' := (2 ≤ ·)) (fun k h => by omega))
    clear s9
    go_wp2
    go_ret
    exact ⟨rfl, S9.out.fin⟩
end Go.Proofs.YtoifknfmamcimaaDoor
