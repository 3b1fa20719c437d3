/- What turns nothing old, without colours. No condition beyond each lemma's own. -/
import Derived.Test.YtoifknfmamcimaaDoorMul15
import Derived.BigQuiet
import Derived.Test.YtoifknfmamcimaaDoorAvailRef
import Derived.Test.YtoifknfmamcimaaDoorMem5
import Derived.Deep.RegionHeld3
import Derived.OrdersHeld
import Derived.RegionTactic
namespace Go.Proofs.YtoifknfmamcimaaDoor
open Go.RowKit
/-- What turns nothing old. -/
def SF (c : Nat → Nat) (w w' : World) : Prop := ∃ c', Stp (fun _ => False) c c' w w'
theorem SF.drew {c : Nat → Nat} {a w : World} (h : SF c a w) : SF c a w.drew := by obtain ⟨c', h⟩ := h; exact ⟨c', h.drew⟩
theorem SF.alloc {c : Nat → Nat} {a w : World} (h : SF c a w) {o : Obj} : SF c a (w.alloc o) := by obtain ⟨c', h⟩ := h; exact ⟨_, h.alloc o 9⟩
theorem SF.set {c : Nat → Nat} {a w : World} {b : Nat} (hp : a.heap.size ≤ b) (h : SF c a w) {j : Nat} {s : Option Nat} {v : Value} : SF c a (w.setCell ⟨b, j, s⟩ v) := by obtain ⟨c', h⟩ := h; exact ⟨c', h.setNew (p := ⟨b, j, s⟩) v hp⟩
end Go.Proofs.YtoifknfmamcimaaDoor

/- The document's layer 9 (Least, Wrong, Enough, Remaining) and New, Claim of layer 10. No condition beyond each contract's own. -/
namespace Go.Proofs.YtoifknfmamcimaaDoor
open Go.RowKit

set_option maxRecDepth 100000 in
theorem r10new_any (c : Nat → Nat) (w : World) (sl : Int) :
    Calls Tryd.prog 37 #[.int .i64 sl] w fun e w' => e = .returned (.agg #[.int .i64 sl, .int .i64 (-1), .int .i64 (-1), .slice none 0 0, .int .i64 (-1), .int .i64 0, .slice none 0 0]) ∧ ∃ c', Stp (fun _ => False) c c' w w' := by
  have key : ∀ w, Calls Tryd.prog 77 #[.int .i64 sl] w fun e w' => e = .returned (.agg #[.int .i64 sl, .int .i64 (-1), .int .i64 (-1), .slice none 0 0, .int .i64 (-1), .int .i64 0]) ∧ w' = w.alloc (.cells #[.int .i64 sl, .int .i64 (-1), .int .i64 (-1), .slice none 0 0, .int .i64 (-1), .int .i64 0] 65) := fun w => by
    go_enter Tryd.func77, Tryd.ntmps77
    go_wp2
    exact bodyPost_ret (v := .agg #[.int .i64 sl, .int .i64 (-1), .int .i64 (-1), .slice none 0 0, .int .i64 (-1), .int .i64 0]) (by simp [results, Tryd.results77, go_sem]) rfl ⟨rfl, rfl⟩
  have RS := Lib.hid (show SF c w w from ⟨c, Stp.refl _ _ _⟩)
  go_enter Tryd.func37, Tryd.ntmps37
  go_wp2_with (go_at_call 77; refine (key _).mono ?_; rintro e w' ⟨rfl, rfl⟩)
  refine bodyPost_ret (v := .agg #[.int .i64 sl, .int .i64 (-1), .int .i64 (-1), .slice none 0 0, .int .i64 (-1), .int .i64 0, .slice none 0 0]) (by simp [results, Tryd.results37, go_sem, *]) rfl ⟨rfl, show SF _ _ _ from ?_⟩
  repeat' first
    | with_reducible exact RS.out
    | with_reducible apply SF.drew
    | with_reducible apply SF.set (Nat.le_refl _)
    | with_reducible apply SF.alloc

def refWrong (sl cl n : Int) : Int := if n < 1 ∨ sl < n then 1 else if 4611686018427387904 - n < cl then 15 else 0

set_option maxRecDepth 100000 in
theorem r09wrong_any (c : Nat → Nat) (w : World) (sl cl pb sn sc : Int) (go : Option Addr) (ng gcap : Nat) (n : Int) (hw' : 1 ≤ n → wrap64 (4611686018427387904 - n) = 4611686018427387904 - n) :
    Calls Tryd.prog 85 #[.agg #[.int .i64 sl, .int .i64 cl, .int .i64 pb, .slice go ng gcap, .int .i64 sn, .int .i64 sc], .int .i64 n] w fun e w' => e = .returned (.int .i64 (refWrong sl cl n)) ∧ ∃ c', Stp (fun _ => False) c c' w w' := by
  have T := Lib.hid ((Stp.refl (fun _ => False) c w).alloc (.cells #[.int .i64 sl, .int .i64 cl, .int .i64 pb, .slice go ng gcap, .int .i64 sn, .int .i64 sc] 65) 9)
  unfold refWrong
  by_cases h1 : n < 1
  · have t1 : decide (n < 1) = true := by simpa using h1
    rw [if_pos (.inl h1)]
    clear h1 hw'
    go_enter Tryd.func85, Tryd.ntmps85
    go_wp2
    go_ret
    exact ⟨rfl, _, T.out⟩
  · have t1 : decide (n < 1) = false := by simpa using h1
    have hw := hw' (Int.not_lt.1 h1)
    clear hw'
    by_cases h2 : sl < n
    · have t2 : decide (sl < n) = true := by simpa using h2
      rw [if_pos (.inr h2)]
      clear h1 h2 hw
      go_enter Tryd.func85, Tryd.ntmps85
      go_wp2
      go_ret
      exact ⟨rfl, _, T.out⟩
    · have t2 : decide (sl < n) = false := by simpa using h2
      rw [if_neg (fun h => h.elim h1 h2)]
      by_cases h3 : 4611686018427387904 - n < cl
      · have t3 : decide (4611686018427387904 - n < cl) = true := by simpa using h3
        rw [if_pos h3]
        clear h1 h2 h3
        go_enter Tryd.func85, Tryd.ntmps85
        go_wp2
        go_ret
        exact ⟨rfl, _, T.out⟩
      · have t3 : decide (4611686018427387904 - n < cl) = false := by simpa using h3
        rw [if_neg h3]
        clear h1 h2 h3
        go_enter Tryd.func85, Tryd.ntmps85
        go_wp2
        go_ret
        exact ⟨rfl, _, T.out⟩

set_option maxRecDepth 100000 in
theorem r09enough_any (c : Nat → Nat) (w : World) (sl cl pb sn sc : Int) (go : Option Addr) (ng gcap : Nat) (hi : Int) (hw : wrap64 (hi - sl) = hi - sl) {b : Bool} (hb : decide (hi - sl ≤ sn ∧ sn ≤ cl) = b) :
    Calls Tryd.prog 86 #[.agg #[.int .i64 sl, .int .i64 cl, .int .i64 pb, .slice go ng gcap, .int .i64 sn, .int .i64 sc], .int .i64 hi] w fun e w' => e = .returned (.bool b) ∧ ∃ c', Stp (fun _ => False) c c' w w' := by
  have T := Lib.hid ((Stp.refl (fun _ => False) c w).alloc (.cells #[.int .i64 sl, .int .i64 cl, .int .i64 pb, .slice go ng gcap, .int .i64 sn, .int .i64 sc] 65) 9)
  subst hb
  by_cases h1 : hi - sl ≤ sn
  · by_cases h2 : sn ≤ cl
    · rw [decide_eq_true (⟨h1, h2⟩ : hi - sl ≤ sn ∧ sn ≤ cl)]
      go_enter Tryd.func86, Tryd.ntmps86
      go_wp2
      go_ret
      exact ⟨by first | rfl | simp, _, T.out⟩
    · rw [decide_eq_false (fun h : hi - sl ≤ sn ∧ sn ≤ cl => h2 h.2)]
      go_enter Tryd.func86, Tryd.ntmps86
      go_wp2
      go_ret
      exact ⟨by first | rfl | simp, _, T.out⟩
  · rw [decide_eq_false (fun h : hi - sl ≤ sn ∧ sn ≤ cl => h1 h.1)]
    go_enter Tryd.func86, Tryd.ntmps86
    go_wp2
    go_ret
    exact ⟨by first | rfl | simp, _, T.out⟩

set_option maxRecDepth 100000 in
theorem r09least_any {k : Nat} (c : Nat → Nat) (w : World) (sl cl pb sn sc : Int) (go : Option Addr) (ng gcap : Nat) {l : List Int} (h : In c k w 1 go ng gcap (l.map (Value.int .i64))) :
    Calls Tryd.prog 87 #[.agg #[.int .i64 sl, .int .i64 cl, .int .i64 pb, .slice go ng gcap, .int .i64 sn, .int .i64 sc]] w fun e w' => e = .returned (.int .i64 (l.foldl min pb)) ∧ ∃ c', Stp (fun _ => False) c c' w w' := by
  have hl : l.length = ng := by simpa using h.1
  have hm : ng ≤ 9223372036854775807 := by have h1 := h.2.1; have h2 := h.2.2.1; simp only [maxLen] at h2; omega
  obtain ⟨c1, hc1, T⟩ := ((Stp.refl (fun _ => False) c w).alloc (.cells #[.int .i64 sl, .int .i64 cl, .int .i64 pb, .slice go ng gcap, .int .i64 sn, .int .i64 sc] 65) 9).name
  obtain ⟨x, hx⟩ : ∃ x, x = w.heap.size := ⟨_, rfl⟩
  have B := Lib.hid (show Blk c1 9 (w.alloc (.cells #[.int .i64 sl, .int .i64 cl, .int .i64 pb, .slice go ng gcap, .int .i64 sn, .int .i64 sc] 65)) x [.int .i64 sl, .int .i64 cl, .int .i64 pb, .slice go ng gcap, .int .i64 sn, .int .i64 sc] 65 by rw [hc1.out, hx]; exact Blk.new c 9 w _ _)
  have H := Lib.hid (h.stp T.out id)
  have Hl := Lib.hid hl
  clear h hl hc1
  obtain ⟨wb, hwb⟩ : ∃ wb : World, wb = w.alloc (.cells #[.int .i64 sl, .int .i64 cl, .int .i64 pb, .slice go ng gcap, .int .i64 sn, .int .i64 sc] 65) := ⟨_, rfl⟩
  rw [← hwb] at H B T
  have y2 := B.out.cell 2
  have y3 := B.out.cell 3
  simp at y2 y3
  go_enter Tryd.func87, Tryd.ntmps87
  go_upto_region 1 with fail
  rw [← hx, ← hwb]
  clear hx hwb
  go_wp2
  go_loop [3, 4] (fun m i => ∃ (j : Nat) (x : Int), i = .int .i64 j ∧ j ≤ ng ∧ m = .int .i64 x ∧ Hid (x = (l.take j).foldl min pb)) (fun _ i => ng - (intOf i).toNat)
  case atStart => exact ⟨0, pb, rfl, Nat.zero_le _, rfl, Lib.hid rfl⟩
  case round =>
    obtain ⟨j, x, rfl, hj, rfl, hx⟩ := hrel
    by_cases hlt : j < ng
    · obtain ⟨a, ha, hc⟩ := H.out.ints hlt
      subst ha
      have Hf := Lib.hid (fold_take (l := l) (f := id) (m := pb) (j := j) (by rw [Hl.out]; exact hlt))
      generalize l.getD j 0 = y at *
      by_cases hy : y < x
      · have t : decide (y < x) = true := by simpa using hy
        go_wp2
        go_round
        case rel => exact ⟨j + 1, y, by go_num, by omega, rfl, Lib.hid (by have := Hf.out; simp only [List.map_id, id] at this; rw [this, ← hx.out]; omega)⟩
        case measure => simp [intOf]; omega
      · have t : decide (y < x) = false := by simpa using hy
        go_wp2
        go_round
        case rel => exact ⟨j + 1, x, by go_num, by omega, rfl, Lib.hid (by have := Hf.out; simp only [List.map_id, id] at this; rw [this, ← hx.out]; omega)⟩
        case measure => simp [intOf]; omega
    · have hjn : j = ng := by omega
      have Hj := Lib.hid hjn
      clear hjn
      go_wp2
      go_ret
      exact ⟨by rw [hx.out, Hj.out, ← Hl.out, List.take_length]; rfl, c1, T.out⟩

/-- The document's Claim's own boxes. -/
structure CB (c0 : Nat → Nat) (w0 : World) (k x2 x4 : Nat) (cs : List Value) (c : Nat → Nat) (w : World) : Prop where
  st : Stp (fun _ => False) c0 c w0 w
  b2 : Blk c k w x2 cs 67
  b4 : Blk c k w x4 [.int .i64 0, .int .i64 0, .int .i64 0, .slice none 0 0, .int .i64 0, .int .i64 0, .slice none 0 0] 67
  d : x2 ≠ x4
  n : w0.heap.size ≤ x2 ∧ w0.heap.size ≤ x4
theorem CB.start (c : Nat → Nat) (w : World) (k : Nat) (cs : List Value) :
    ∃ c', CB c w k w.heap.size (w.heap.size + 1) cs c' ((w.alloc (.cells cs.toArray 67)).alloc (.cells #[.int .i64 0, .int .i64 0, .int .i64 0, .slice none 0 0, .int .i64 0, .int .i64 0, .slice none 0 0] 67)) := by
  obtain ⟨w1, hw1⟩ : ∃ w1, w1 = w.alloc (.cells cs.toArray 67) := ⟨_, rfl⟩
  have z1 : w.heap.size + 1 = w1.heap.size := by rw [hw1]; simp
  have s1 : Stp (fun _ => False) c (paint c w.heap.size k) w w1 := by rw [hw1]; exact (Stp.refl _ c w).alloc _ _
  have b1 : Blk (paint c w.heap.size k) k w1 w.heap.size cs 67 := by rw [hw1]; exact Blk.new c k w cs _
  rw [← hw1]
  obtain ⟨c1, hc1⟩ : ∃ c1, c1 = paint c w.heap.size k := ⟨_, rfl⟩
  rw [← hc1] at s1 b1
  have s2 := (Stp.refl (fun _ => False) c1 w1).alloc (.cells #[.int .i64 0, .int .i64 0, .int .i64 0, .slice none 0 0, .int .i64 0, .int .i64 0, .slice none 0 0] 67) k
  exact ⟨_, s1.trans s2, b1.stp s2 id, by rw [z1]; exact Blk.new c1 k w1 [.int .i64 0, .int .i64 0, .int .i64 0, .slice none 0 0, .int .i64 0, .int .i64 0, .slice none 0 0] _, by omega, by omega⟩
section
variable {c0 : Nat → Nat} {w0 : World} {k x2 x4 : Nat} {cs : List Value} {c c' : Nat → Nat} {w w' : World}
theorem CB.put2 (h : CB c0 w0 k x2 x4 cs c w) (j : Nat) (v : Value) : CB c0 w0 k x2 x4 (cs.set j v) c (w.setCell ⟨x2, j, none⟩ v) :=
  ⟨h.st.setNew (p := ⟨x2, j, none⟩) v h.n.1, h.b2.set j v, h.b4.other _ (fun e => h.d e), h.d, h.n⟩
theorem CB.stpF (h : CB c0 w0 k x2 x4 cs c w) (t : Stp (fun _ => False) c c' w w') : CB c0 w0 k x2 x4 cs c' w' :=
  ⟨h.st.trans t, h.b2.stp t id, h.b4.stp t id, h.d, h.n⟩
theorem cl_7 {p : Nat} {ty : TypeId} {v0 v1 v2 v3 v4 v5 v6 : Value} (h : Blk c k w p [v0, v1, v2, v3, v4, v5, v6] ty) : w.cell? ⟨p, 0, none⟩ = some v0 ∧ w.cell? ⟨p, 1, none⟩ = some v1 ∧ w.cell? ⟨p, 2, none⟩ = some v2 ∧ w.cell? ⟨p, 3, none⟩ = some v3 ∧ w.cell? ⟨p, 4, none⟩ = some v4 ∧ w.cell? ⟨p, 5, none⟩ = some v5 ∧ w.cell? ⟨p, 6, none⟩ = some v6 :=
  ⟨by simpa using h.cell 0, by simpa using h.cell 1, by simpa using h.cell 2, by simpa using h.cell 3, by simpa using h.cell 4, by simpa using h.cell 5, by simpa using h.cell 6⟩
theorem cl_f7 {p : Nat} {ty : TypeId} (h : Blk c k w p cs ty) : (w.frozen? ⟨p, 0, none⟩ = false ∧ w.frozen? ⟨p, 1, none⟩ = false ∧ w.frozen? ⟨p, 2, none⟩ = false ∧ w.frozen? ⟨p, 3, none⟩ = false ∧ w.frozen? ⟨p, 4, none⟩ = false ∧ w.frozen? ⟨p, 5, none⟩ = false ∧ w.frozen? ⟨p, 6, none⟩ = false) ∧ p < w.heap.size :=
  ⟨⟨h.free 0, h.free 1, h.free 2, h.free 3, h.free 4, h.free 5, h.free 6⟩, h.lt⟩
end

set_option maxRecDepth 100000 in
set_option maxHeartbeats 4000000 in
theorem r10claim_wrong {k : Nat} (c : Nat → Nat) (w : World) (sl cl pb sn sc : Int) (go : Option Addr) (ng gcap : Nat) (so : Option Addr) (ns scap : Nat) (n : Int) {l : List Int} (h : In c k w 1 go ng gcap (l.map (Value.int .i64))) (hwn : 1 ≤ n → wrap64 (4611686018427387904 - n) = 4611686018427387904 - n) (hr : refWrong sl cl n ≠ 0) :
    Calls Tryd.prog 51 #[.agg #[.int .i64 sl, .int .i64 cl, .int .i64 pb, .slice go ng gcap, .int .i64 sn, .int .i64 sc, .slice so ns scap], .int .i64 n] w fun e w' => e = .returned (.tuple #[.agg #[.int .i64 sl, .int .i64 cl, .int .i64 pb, .slice go ng gcap, .int .i64 sn, .int .i64 sc, .slice so ns scap], .int .i64 0, .int .i64 (refWrong sl cl n)]) ∧ ∃ c', Stp (fun _ => False) c c' w w' := by
  obtain ⟨c1, r1⟩ := CB.start c w 9 [.int .i64 sl, .int .i64 cl, .int .i64 pb, .slice go ng gcap, .int .i64 sn, .int .i64 sc, .slice so ns scap]
  have R1 := Lib.hid r1
  have HI := Lib.hid h
  have HWN := Lib.hid hwn
  obtain ⟨x2, hx2⟩ : ∃ x, x = w.heap.size := ⟨_, rfl⟩
  obtain ⟨x4, hx4⟩ : ∃ x, x = w.heap.size + 1 := ⟨_, rfl⟩
  clear r1 h hwn
  go_enter Tryd.func51, Tryd.ntmps51
  go_upto_region 1 with fail
  rw [← hx4, ← hx2] at R1
  rw [← hx4, ← hx2]
  clear hx2 hx4
  obtain ⟨wb, hwb⟩ : ∃ wb : World, wb = (w.alloc (.cells #[.int .i64 sl, .int .i64 cl, .int .i64 pb, .slice go ng gcap, .int .i64 sn, .int .i64 sc, .slice so ns scap] 67)).alloc (.cells #[.int .i64 0, .int .i64 0, .int .i64 0, .slice none 0 0, .int .i64 0, .int .i64 0, .slice none 0 0] 67) := ⟨_, rfl⟩
  have R2 := Lib.hid (show CB c w 9 x2 x4 [.int .i64 sl, .int .i64 cl, .int .i64 pb, .slice go ng gcap, .int .i64 sn, .int .i64 sc, .slice so ns scap] c1 wb by rw [hwb]; exact R1.out)
  rw [← hwb]
  clear hwb R1
  obtain ⟨s0, s1, s2, s3, s4, s5, s6⟩ := cl_7 R2.out.b2
  obtain ⟨⟨f0, f1, f2, f3, f4, f5, f6⟩, l2⟩ := cl_f7 R2.out.b2
  obtain ⟨u0, u1, u2, u3, u4, u5, u6⟩ := cl_7 R2.out.b4
  obtain ⟨⟨g0, g1, g2, g3, g4, g5, g6⟩, l4⟩ := cl_f7 R2.out.b4
  have d24 : x2 ≠ x4 := R2.out.d
  have d42 : x4 ≠ x2 := d24.symm
  go_wp2_with fail
  refine (r09wrong_any c1 _ sl cl pb sn sc go ng gcap n HWN.out).mono ?_
  rintro e w3 ⟨rfl, c3, t3⟩
  have R3 := Lib.hid (R2.out.stpF t3)
  clear s0 s1 s2 s3 s4 s5 s6 f0 f1 f2 f3 f4 f5 f6 l2 u0 u1 u2 u3 u4 u5 u6 g0 g1 g2 g3 g4 g5 g6 l4 t3 R2
  obtain ⟨s0, s1, s2, s3, s4, s5, s6⟩ := cl_7 R3.out.b2
  obtain ⟨⟨f0, f1, f2, f3, f4, f5, f6⟩, l2⟩ := cl_f7 R3.out.b2
  obtain ⟨u0, u1, u2, u3, u4, u5, u6⟩ := cl_7 R3.out.b4
  obtain ⟨⟨g0, g1, g2, g3, g4, g5, g6⟩, l4⟩ := cl_f7 R3.out.b4
  obtain ⟨er, her⟩ : ∃ er, er = refWrong sl cl n := ⟨_, rfl⟩
  rw [← her] at hr ⊢
  have hr' : (er != 0) = true := by simpa using hr
  have HER := Lib.hid her
  clear her hr
  have RS := Lib.hid (show SF c w _ from ⟨_, R3.out.st⟩)
  have N2 := Lib.hid R3.out.n.1
  have N4 := Lib.hid R3.out.n.2
  go_wp2
  refine bodyPost_ret (v := .tuple #[.agg #[.int .i64 sl, .int .i64 cl, .int .i64 pb, .slice go ng gcap, .int .i64 sn, .int .i64 sc, .slice so ns scap], .int .i64 0, .int .i64 (refWrong sl cl n)]) ?_ rfl ?_
  · simp [results, Tryd.results51, go_sem, *]
    exact HER.out
  · refine ⟨rfl, show SF _ _ _ from ?_⟩
    repeat' first
      | with_reducible exact RS.out
      | with_reducible apply SF.drew
      | with_reducible apply SF.set N2.out
      | with_reducible apply SF.set N4.out

set_option maxRecDepth 100000 in
set_option maxHeartbeats 4000000 in
theorem r10claim_en {k : Nat} (c : Nat → Nat) (w : World) (sl cl pb sn sc : Int) (go : Option Addr) (ng gcap : Nat) (so : Option Addr) (ns scap : Nat) (n : Int) {l : List Int} (h : In c k w 1 go ng gcap (l.map (Value.int .i64))) (hwn : 1 ≤ n → wrap64 (4611686018427387904 - n) = 4611686018427387904 - n) (hr : refWrong sl cl n = 0) (hw1 : wrap64 (cl + n) = cl + n) (hw2 : wrap64 (cl + n - sl) = cl + n - sl) (hb : decide (cl + n - sl ≤ sn ∧ sn ≤ cl) = true) :
    Calls Tryd.prog 51 #[.agg #[.int .i64 sl, .int .i64 cl, .int .i64 pb, .slice go ng gcap, .int .i64 sn, .int .i64 sc, .slice so ns scap], .int .i64 n] w fun e w' => e = .returned (.tuple #[.agg #[.int .i64 sl, .int .i64 (cl + n), .int .i64 (cl + n), .slice go ng gcap, .int .i64 sn, .int .i64 sc, .slice so ns scap], .int .i64 (cl + n), .int .i64 0]) ∧ ∃ c', Stp (fun _ => False) c c' w w' := by
  obtain ⟨c1, r1⟩ := CB.start c w 9 [.int .i64 sl, .int .i64 cl, .int .i64 pb, .slice go ng gcap, .int .i64 sn, .int .i64 sc, .slice so ns scap]
  have R1 := Lib.hid r1
  have W1 := Lib.hid hw1
  have W2 := Lib.hid hw2
  have HB := Lib.hid hb
  clear hw1 hw2 hb
  have HI := Lib.hid h
  have HWN := Lib.hid hwn
  obtain ⟨x2, hx2⟩ : ∃ x, x = w.heap.size := ⟨_, rfl⟩
  obtain ⟨x4, hx4⟩ : ∃ x, x = w.heap.size + 1 := ⟨_, rfl⟩
  clear r1 h hwn
  go_enter Tryd.func51, Tryd.ntmps51
  go_upto_region 1 with fail
  rw [← hx4, ← hx2] at R1
  rw [← hx4, ← hx2]
  clear hx2 hx4
  obtain ⟨wb, hwb⟩ : ∃ wb : World, wb = (w.alloc (.cells #[.int .i64 sl, .int .i64 cl, .int .i64 pb, .slice go ng gcap, .int .i64 sn, .int .i64 sc, .slice so ns scap] 67)).alloc (.cells #[.int .i64 0, .int .i64 0, .int .i64 0, .slice none 0 0, .int .i64 0, .int .i64 0, .slice none 0 0] 67) := ⟨_, rfl⟩
  have R2 := Lib.hid (show CB c w 9 x2 x4 [.int .i64 sl, .int .i64 cl, .int .i64 pb, .slice go ng gcap, .int .i64 sn, .int .i64 sc, .slice so ns scap] c1 wb by rw [hwb]; exact R1.out)
  rw [← hwb]
  clear hwb R1
  obtain ⟨s0, s1, s2, s3, s4, s5, s6⟩ := cl_7 R2.out.b2
  obtain ⟨⟨f0, f1, f2, f3, f4, f5, f6⟩, l2⟩ := cl_f7 R2.out.b2
  obtain ⟨u0, u1, u2, u3, u4, u5, u6⟩ := cl_7 R2.out.b4
  obtain ⟨⟨g0, g1, g2, g3, g4, g5, g6⟩, l4⟩ := cl_f7 R2.out.b4
  have d24 : x2 ≠ x4 := R2.out.d
  have d42 : x4 ≠ x2 := d24.symm
  go_wp2_with fail
  refine (r09wrong_any c1 _ sl cl pb sn sc go ng gcap n HWN.out).mono ?_
  rintro e w3 ⟨rfl, c3, t3⟩
  have R3 := Lib.hid (R2.out.stpF t3)
  clear s0 s1 s2 s3 s4 s5 s6 f0 f1 f2 f3 f4 f5 f6 l2 u0 u1 u2 u3 u4 u5 u6 g0 g1 g2 g3 g4 g5 g6 l4 t3 R2
  obtain ⟨s0, s1, s2, s3, s4, s5, s6⟩ := cl_7 R3.out.b2
  obtain ⟨⟨f0, f1, f2, f3, f4, f5, f6⟩, l2⟩ := cl_f7 R3.out.b2
  obtain ⟨u0, u1, u2, u3, u4, u5, u6⟩ := cl_7 R3.out.b4
  obtain ⟨⟨g0, g1, g2, g3, g4, g5, g6⟩, l4⟩ := cl_f7 R3.out.b4
  rw [hr]
  have E1 := W1.out
  go_wp2_with fail
  refine (r09enough_any c3 _ sl cl pb sn sc go ng gcap (cl + n) W2.out (b := true) HB.out).mono ?_
  rintro e w4 ⟨rfl, c4, t4⟩
  have R4 := Lib.hid (R3.out.stpF t4)
  clear s0 s1 s2 s3 s4 s5 s6 f0 f1 f2 f3 f4 f5 f6 l2 u0 u1 u2 u3 u4 u5 u6 g0 g1 g2 g3 g4 g5 g6 l4 t4 R3
  obtain ⟨s0, s1, s2, s3, s4, s5, s6⟩ := cl_7 R4.out.b2
  obtain ⟨⟨f0, f1, f2, f3, f4, f5, f6⟩, l2⟩ := cl_f7 R4.out.b2
  obtain ⟨u0, u1, u2, u3, u4, u5, u6⟩ := cl_7 R4.out.b4
  obtain ⟨⟨g0, g1, g2, g3, g4, g5, g6⟩, l4⟩ := cl_f7 R4.out.b4
  have RS := Lib.hid (show SF c w _ from ⟨_, R4.out.st⟩)
  have N2 := Lib.hid R4.out.n.1
  have N4 := Lib.hid R4.out.n.2
  go_wp2
  refine bodyPost_ret (v := .tuple #[.agg #[.int .i64 sl, .int .i64 (cl + n), .int .i64 (cl + n), .slice go ng gcap, .int .i64 sn, .int .i64 sc, .slice so ns scap], .int .i64 (cl + n), .int .i64 0]) ?_ rfl ?_
  · simp [results, Tryd.results51, go_sem, *]
  · refine ⟨rfl, show SF _ _ _ from ?_⟩
    repeat' first
      | with_reducible exact RS.out
      | with_reducible apply SF.drew
      | with_reducible apply SF.set N2.out
      | with_reducible apply SF.set N4.out

set_option maxRecDepth 100000 in
set_option maxHeartbeats 4000000 in
theorem r10claim_full {k : Nat} (c : Nat → Nat) (w : World) (sl cl pb sn sc : Int) (go : Option Addr) (ng gcap : Nat) (so : Option Addr) (ns scap : Nat) (n : Int) {l : List Int} (h : In c k w 1 go ng gcap (l.map (Value.int .i64))) (hwn : 1 ≤ n → wrap64 (4611686018427387904 - n) = 4611686018427387904 - n) (hr : refWrong sl cl n = 0) (hw1 : wrap64 (cl + n) = cl + n) (hw2 : wrap64 (cl + n - sl) = cl + n - sl) (hb : decide (cl + n - sl ≤ sn ∧ sn ≤ cl) = false) {le : Int} (hle : l.foldl min pb = le) (hk0 : decide (le < cl + n - sl) = true) :
    Calls Tryd.prog 51 #[.agg #[.int .i64 sl, .int .i64 cl, .int .i64 pb, .slice go ng gcap, .int .i64 sn, .int .i64 sc, .slice so ns scap], .int .i64 n] w fun e w' => e = .returned (.tuple #[.agg #[.int .i64 sl, .int .i64 cl, .int .i64 pb, .slice go ng gcap, .int .i64 sn, .int .i64 sc, .slice so ns scap], .int .i64 0, .int .i64 10]) ∧ ∃ c', Stp (fun _ => False) c c' w w' := by
  obtain ⟨c1, r1⟩ := CB.start c w 9 [.int .i64 sl, .int .i64 cl, .int .i64 pb, .slice go ng gcap, .int .i64 sn, .int .i64 sc, .slice so ns scap]
  have R1 := Lib.hid r1
  have W1 := Lib.hid hw1
  have W2 := Lib.hid hw2
  have HB := Lib.hid hb
  clear hw1 hw2 hb
  have HL := Lib.hid hk0
  clear hk0
  have HI := Lib.hid h
  have HWN := Lib.hid hwn
  obtain ⟨x2, hx2⟩ : ∃ x, x = w.heap.size := ⟨_, rfl⟩
  obtain ⟨x4, hx4⟩ : ∃ x, x = w.heap.size + 1 := ⟨_, rfl⟩
  clear r1 h hwn
  go_enter Tryd.func51, Tryd.ntmps51
  go_upto_region 1 with fail
  rw [← hx4, ← hx2] at R1
  rw [← hx4, ← hx2]
  clear hx2 hx4
  obtain ⟨wb, hwb⟩ : ∃ wb : World, wb = (w.alloc (.cells #[.int .i64 sl, .int .i64 cl, .int .i64 pb, .slice go ng gcap, .int .i64 sn, .int .i64 sc, .slice so ns scap] 67)).alloc (.cells #[.int .i64 0, .int .i64 0, .int .i64 0, .slice none 0 0, .int .i64 0, .int .i64 0, .slice none 0 0] 67) := ⟨_, rfl⟩
  have R2 := Lib.hid (show CB c w 9 x2 x4 [.int .i64 sl, .int .i64 cl, .int .i64 pb, .slice go ng gcap, .int .i64 sn, .int .i64 sc, .slice so ns scap] c1 wb by rw [hwb]; exact R1.out)
  rw [← hwb]
  clear hwb R1
  obtain ⟨s0, s1, s2, s3, s4, s5, s6⟩ := cl_7 R2.out.b2
  obtain ⟨⟨f0, f1, f2, f3, f4, f5, f6⟩, l2⟩ := cl_f7 R2.out.b2
  obtain ⟨u0, u1, u2, u3, u4, u5, u6⟩ := cl_7 R2.out.b4
  obtain ⟨⟨g0, g1, g2, g3, g4, g5, g6⟩, l4⟩ := cl_f7 R2.out.b4
  have d24 : x2 ≠ x4 := R2.out.d
  have d42 : x4 ≠ x2 := d24.symm
  go_wp2_with fail
  refine (r09wrong_any c1 _ sl cl pb sn sc go ng gcap n HWN.out).mono ?_
  rintro e w3 ⟨rfl, c3, t3⟩
  have R3 := Lib.hid (R2.out.stpF t3)
  clear s0 s1 s2 s3 s4 s5 s6 f0 f1 f2 f3 f4 f5 f6 l2 u0 u1 u2 u3 u4 u5 u6 g0 g1 g2 g3 g4 g5 g6 l4 t3 R2
  obtain ⟨s0, s1, s2, s3, s4, s5, s6⟩ := cl_7 R3.out.b2
  obtain ⟨⟨f0, f1, f2, f3, f4, f5, f6⟩, l2⟩ := cl_f7 R3.out.b2
  obtain ⟨u0, u1, u2, u3, u4, u5, u6⟩ := cl_7 R3.out.b4
  obtain ⟨⟨g0, g1, g2, g3, g4, g5, g6⟩, l4⟩ := cl_f7 R3.out.b4
  rw [hr]
  have E1 := W1.out
  go_wp2_with fail
  refine (r09enough_any c3 _ sl cl pb sn sc go ng gcap (cl + n) W2.out (b := false) HB.out).mono ?_
  rintro e w4 ⟨rfl, c4, t4⟩
  have R4 := Lib.hid (R3.out.stpF t4)
  clear s0 s1 s2 s3 s4 s5 s6 f0 f1 f2 f3 f4 f5 f6 l2 u0 u1 u2 u3 u4 u5 u6 g0 g1 g2 g3 g4 g5 g6 l4 t4 R3
  obtain ⟨s0, s1, s2, s3, s4, s5, s6⟩ := cl_7 R4.out.b2
  obtain ⟨⟨f0, f1, f2, f3, f4, f5, f6⟩, l2⟩ := cl_f7 R4.out.b2
  obtain ⟨u0, u1, u2, u3, u4, u5, u6⟩ := cl_7 R4.out.b4
  obtain ⟨⟨g0, g1, g2, g3, g4, g5, g6⟩, l4⟩ := cl_f7 R4.out.b4
  go_wp2_with fail
  refine (r09least_any c4 _ sl cl pb sn sc go ng gcap (HI.out.stp R4.out.st id)).mono ?_
  rintro e w5 ⟨rfl, c5, t5⟩
  have R5 := Lib.hid (R4.out.stpF t5)
  have E2 := W2.out
  clear s0 s1 s2 s3 s4 s5 s6 f0 f1 f2 f3 f4 f5 f6 l2 u0 u1 u2 u3 u4 u5 u6 g0 g1 g2 g3 g4 g5 g6 l4 t5 R4
  obtain ⟨s0, s1, s2, s3, s4, s5, s6⟩ := cl_7 R5.out.b2
  obtain ⟨⟨f0, f1, f2, f3, f4, f5, f6⟩, l2⟩ := cl_f7 R5.out.b2
  obtain ⟨u0, u1, u2, u3, u4, u5, u6⟩ := cl_7 R5.out.b4
  obtain ⟨⟨g0, g1, g2, g3, g4, g5, g6⟩, l4⟩ := cl_f7 R5.out.b4
  rw [hle]
  have hk := HL.out
  have RS := Lib.hid (show SF c w _ from ⟨_, R5.out.st⟩)
  have N2 := Lib.hid R5.out.n.1
  have N4 := Lib.hid R5.out.n.2
  go_wp2
  refine bodyPost_ret (v := .tuple #[.agg #[.int .i64 sl, .int .i64 cl, .int .i64 pb, .slice go ng gcap, .int .i64 sn, .int .i64 sc, .slice so ns scap], .int .i64 0, .int .i64 10]) ?_ rfl ?_
  · simp [results, Tryd.results51, go_sem, *]
  · refine ⟨rfl, show SF _ _ _ from ?_⟩
    repeat' first
      | with_reducible exact RS.out
      | with_reducible apply SF.drew
      | with_reducible apply SF.set N2.out
      | with_reducible apply SF.set N4.out

set_option maxRecDepth 100000 in
set_option maxHeartbeats 4000000 in
theorem r10claim_room {k : Nat} (c : Nat → Nat) (w : World) (sl cl pb sn sc : Int) (go : Option Addr) (ng gcap : Nat) (so : Option Addr) (ns scap : Nat) (n : Int) {l : List Int} (h : In c k w 1 go ng gcap (l.map (Value.int .i64))) (hwn : 1 ≤ n → wrap64 (4611686018427387904 - n) = 4611686018427387904 - n) (hr : refWrong sl cl n = 0) (hw1 : wrap64 (cl + n) = cl + n) (hw2 : wrap64 (cl + n - sl) = cl + n - sl) (hb : decide (cl + n - sl ≤ sn ∧ sn ≤ cl) = false) {le : Int} (hle : l.foldl min pb = le) (hk0 : decide (le < cl + n - sl) = false) :
    Calls Tryd.prog 51 #[.agg #[.int .i64 sl, .int .i64 cl, .int .i64 pb, .slice go ng gcap, .int .i64 sn, .int .i64 sc, .slice so ns scap], .int .i64 n] w fun e w' => e = .returned (.tuple #[.agg #[.int .i64 sl, .int .i64 (cl + n), .int .i64 (cl + n), .slice go ng gcap, .int .i64 le, .int .i64 sc, .slice so ns scap], .int .i64 (cl + n), .int .i64 0]) ∧ ∃ c', Stp (fun _ => False) c c' w w' := by
  obtain ⟨c1, r1⟩ := CB.start c w 9 [.int .i64 sl, .int .i64 cl, .int .i64 pb, .slice go ng gcap, .int .i64 sn, .int .i64 sc, .slice so ns scap]
  have R1 := Lib.hid r1
  have W1 := Lib.hid hw1
  have W2 := Lib.hid hw2
  have HB := Lib.hid hb
  clear hw1 hw2 hb
  have HL := Lib.hid hk0
  clear hk0
  have HI := Lib.hid h
  have HWN := Lib.hid hwn
  obtain ⟨x2, hx2⟩ : ∃ x, x = w.heap.size := ⟨_, rfl⟩
  obtain ⟨x4, hx4⟩ : ∃ x, x = w.heap.size + 1 := ⟨_, rfl⟩
  clear r1 h hwn
  go_enter Tryd.func51, Tryd.ntmps51
  go_upto_region 1 with fail
  rw [← hx4, ← hx2] at R1
  rw [← hx4, ← hx2]
  clear hx2 hx4
  obtain ⟨wb, hwb⟩ : ∃ wb : World, wb = (w.alloc (.cells #[.int .i64 sl, .int .i64 cl, .int .i64 pb, .slice go ng gcap, .int .i64 sn, .int .i64 sc, .slice so ns scap] 67)).alloc (.cells #[.int .i64 0, .int .i64 0, .int .i64 0, .slice none 0 0, .int .i64 0, .int .i64 0, .slice none 0 0] 67) := ⟨_, rfl⟩
  have R2 := Lib.hid (show CB c w 9 x2 x4 [.int .i64 sl, .int .i64 cl, .int .i64 pb, .slice go ng gcap, .int .i64 sn, .int .i64 sc, .slice so ns scap] c1 wb by rw [hwb]; exact R1.out)
  rw [← hwb]
  clear hwb R1
  obtain ⟨s0, s1, s2, s3, s4, s5, s6⟩ := cl_7 R2.out.b2
  obtain ⟨⟨f0, f1, f2, f3, f4, f5, f6⟩, l2⟩ := cl_f7 R2.out.b2
  obtain ⟨u0, u1, u2, u3, u4, u5, u6⟩ := cl_7 R2.out.b4
  obtain ⟨⟨g0, g1, g2, g3, g4, g5, g6⟩, l4⟩ := cl_f7 R2.out.b4
  have d24 : x2 ≠ x4 := R2.out.d
  have d42 : x4 ≠ x2 := d24.symm
  go_wp2_with fail
  refine (r09wrong_any c1 _ sl cl pb sn sc go ng gcap n HWN.out).mono ?_
  rintro e w3 ⟨rfl, c3, t3⟩
  have R3 := Lib.hid (R2.out.stpF t3)
  clear s0 s1 s2 s3 s4 s5 s6 f0 f1 f2 f3 f4 f5 f6 l2 u0 u1 u2 u3 u4 u5 u6 g0 g1 g2 g3 g4 g5 g6 l4 t3 R2
  obtain ⟨s0, s1, s2, s3, s4, s5, s6⟩ := cl_7 R3.out.b2
  obtain ⟨⟨f0, f1, f2, f3, f4, f5, f6⟩, l2⟩ := cl_f7 R3.out.b2
  obtain ⟨u0, u1, u2, u3, u4, u5, u6⟩ := cl_7 R3.out.b4
  obtain ⟨⟨g0, g1, g2, g3, g4, g5, g6⟩, l4⟩ := cl_f7 R3.out.b4
  rw [hr]
  have E1 := W1.out
  go_wp2_with fail
  refine (r09enough_any c3 _ sl cl pb sn sc go ng gcap (cl + n) W2.out (b := false) HB.out).mono ?_
  rintro e w4 ⟨rfl, c4, t4⟩
  have R4 := Lib.hid (R3.out.stpF t4)
  clear s0 s1 s2 s3 s4 s5 s6 f0 f1 f2 f3 f4 f5 f6 l2 u0 u1 u2 u3 u4 u5 u6 g0 g1 g2 g3 g4 g5 g6 l4 t4 R3
  obtain ⟨s0, s1, s2, s3, s4, s5, s6⟩ := cl_7 R4.out.b2
  obtain ⟨⟨f0, f1, f2, f3, f4, f5, f6⟩, l2⟩ := cl_f7 R4.out.b2
  obtain ⟨u0, u1, u2, u3, u4, u5, u6⟩ := cl_7 R4.out.b4
  obtain ⟨⟨g0, g1, g2, g3, g4, g5, g6⟩, l4⟩ := cl_f7 R4.out.b4
  go_wp2_with fail
  refine (r09least_any c4 _ sl cl pb sn sc go ng gcap (HI.out.stp R4.out.st id)).mono ?_
  rintro e w5 ⟨rfl, c5, t5⟩
  have R5 := Lib.hid (R4.out.stpF t5)
  have E2 := W2.out
  clear s0 s1 s2 s3 s4 s5 s6 f0 f1 f2 f3 f4 f5 f6 l2 u0 u1 u2 u3 u4 u5 u6 g0 g1 g2 g3 g4 g5 g6 l4 t5 R4
  obtain ⟨s0, s1, s2, s3, s4, s5, s6⟩ := cl_7 R5.out.b2
  obtain ⟨⟨f0, f1, f2, f3, f4, f5, f6⟩, l2⟩ := cl_f7 R5.out.b2
  obtain ⟨u0, u1, u2, u3, u4, u5, u6⟩ := cl_7 R5.out.b4
  obtain ⟨⟨g0, g1, g2, g3, g4, g5, g6⟩, l4⟩ := cl_f7 R5.out.b4
  rw [hle]
  have hk := HL.out
  have RS := Lib.hid (show SF c w _ from ⟨_, R5.out.st⟩)
  have N2 := Lib.hid R5.out.n.1
  have N4 := Lib.hid R5.out.n.2
  go_wp2
  refine bodyPost_ret (v := .tuple #[.agg #[.int .i64 sl, .int .i64 (cl + n), .int .i64 (cl + n), .slice go ng gcap, .int .i64 le, .int .i64 sc, .slice so ns scap], .int .i64 (cl + n), .int .i64 0]) ?_ rfl ?_
  · simp [results, Tryd.results51, go_sem, *]
  · refine ⟨rfl, show SF _ _ _ from ?_⟩
    repeat' first
      | with_reducible exact RS.out
      | with_reducible apply SF.drew
      | with_reducible apply SF.set N2.out
      | with_reducible apply SF.set N4.out
end Go.Proofs.YtoifknfmamcimaaDoor

/- The document's Remaining (layer 9) and Publish (layer 10); a sequencer's Publish of too many, its Highest from below. No condition beyond each contract's own. -/
namespace Go.Proofs.YtoifknfmamcimaaDoor
open Go.RowKit

theorem lst6 {c : Nat → Nat} {k : Nat} {w : World} {p : Nat} {ty : TypeId} {v0 v1 v2 v3 v4 v5 : Value} (h : Blk c k w p [v0, v1, v2, v3, v4, v5] ty) : w.cell? ⟨p, 0, none⟩ = some v0 ∧ w.cell? ⟨p, 1, none⟩ = some v1 ∧ w.cell? ⟨p, 2, none⟩ = some v2 ∧ w.cell? ⟨p, 3, none⟩ = some v3 ∧ w.cell? ⟨p, 4, none⟩ = some v4 ∧ w.cell? ⟨p, 5, none⟩ = some v5 :=
  ⟨by simpa using h.cell 0, by simpa using h.cell 1, by simpa using h.cell 2, by simpa using h.cell 3, by simpa using h.cell 4, by simpa using h.cell 5⟩

set_option maxRecDepth 100000 in
set_option maxHeartbeats 1000000 in
theorem r09remain_any {k : Nat} (c : Nat → Nat) (w : World) (sl cl pb sn sc : Int) (go : Option Addr) (ng gcap : Nat) {l : List Int} (h : In c k w 1 go ng gcap (l.map (Value.int .i64))) {le : Int} (hle : l.foldl min pb = le) (hw1 : wrap64 (cl - le) = cl - le) (hw2 : wrap64 (sl - (cl - le)) = sl - (cl - le)) {y : Int} (hy : (sl - (cl - le) < 0 ∧ y = 0) ∨ (¬ sl - (cl - le) < 0 ∧ y = sl - (cl - le))) :
    Calls Tryd.prog 57 #[.agg #[.int .i64 sl, .int .i64 cl, .int .i64 pb, .slice go ng gcap, .int .i64 sn, .int .i64 sc]] w fun e w' => e = .returned (.int .i64 y) ∧ ∃ c', Stp (fun _ => False) c c' w w' := by
  obtain ⟨c1, hc1, T⟩ := ((Stp.refl (fun _ => False) c w).alloc (.cells #[.int .i64 sl, .int .i64 cl, .int .i64 pb, .slice go ng gcap, .int .i64 sn, .int .i64 sc] 65) 9).name
  obtain ⟨x, hx⟩ : ∃ x, x = w.heap.size := ⟨_, rfl⟩
  have B := Lib.hid (show Blk c1 9 (w.alloc (.cells #[.int .i64 sl, .int .i64 cl, .int .i64 pb, .slice go ng gcap, .int .i64 sn, .int .i64 sc] 65)) x [.int .i64 sl, .int .i64 cl, .int .i64 pb, .slice go ng gcap, .int .i64 sn, .int .i64 sc] 65 by rw [hc1.out, hx]; exact Blk.new c 9 w _ _)
  have HI := Lib.hid (h.stp T.out id)
  clear h hc1
  obtain ⟨wb, hwb⟩ : ∃ wb : World, wb = w.alloc (.cells #[.int .i64 sl, .int .i64 cl, .int .i64 pb, .slice go ng gcap, .int .i64 sn, .int .i64 sc] 65) := ⟨_, rfl⟩
  rw [← hwb] at HI B T
  obtain ⟨y0, y1, y2, y3, y4, y5⟩ := lst6 B.out
  have hv1 : IntKind.i64.wrap (cl - le) = cl - le := (IntWalk.i64_left _).trans hw1
  have hv2 : IntKind.i64.wrap (sl - (cl - le)) = sl - (cl - le) := (IntWalk.i64_left _).trans hw2
  go_enter Tryd.func57, Tryd.ntmps57
  go_upto_region 1 with fail
  rw [← hx, ← hwb]
  clear hx hwb
  go_region_held3 (fun w' => w'.cell? ⟨x, 0, none⟩ = some (.int .i64 sl) ∧ w'.cell? ⟨x, 1, none⟩ = some (.int .i64 cl) ∧ w'.cell? ⟨x, 2, none⟩ = some (.int .i64 pb) ∧ w'.cell? ⟨x, 3, none⟩ = some (.slice go ng gcap) ∧ w'.cell? ⟨x, 4, none⟩ = some (.int .i64 sn) ∧ w'.cell? ⟨x, 5, none⟩ = some (.int .i64 sc))
    (first | exact ⟨by assumption, by assumption, by assumption, by assumption, by assumption, by assumption⟩ | go_keep)
    (first
      | (go_at_call 87; refine (r09least_any c1 _ sl cl pb sn sc go ng gcap (by first | exact HI.out | exact HI.out.stp (Stp.refl (fun _ => False) _ _).drew id | exact HI.out.stp ((Stp.refl (fun _ => False) _ _).drewN _) id)).mono ?_; rintro e w2 ⟨rfl, c2, t2⟩; have T2 := Lib.hid t2; rw [hle]; obtain ⟨y0, y1, y2, y3, y4, y5⟩ := lst6 (B.out.stp (by first | exact t2 | exact (Stp.refl (fun _ => False) _ _).drew.trans t2 | exact ((Stp.refl (fun _ => False) _ _).drewN _).trans t2) id)))
  have T3 : Hid (Stp (fun _ => False) c c2 w w2) := Lib.hid (T.out.trans (by first | exact T2.out | exact (Stp.refl (fun _ => False) _ _).drew.trans T2.out | exact ((Stp.refl (fun _ => False) _ _).drewN _).trans T2.out))
  rcases hy with ⟨k1, rfl⟩ | ⟨k1, rfl⟩
  all_goals
    go_wp2
    go_ret
    exact ⟨by first | rfl | simp, _, T3.out⟩

theorem pubs_sub {lo hi : Int} (h1 : 0 ≤ lo) (h2 : lo ≤ hi) (h3 : hi ≤ 4611686018427387904) : wrap64 (hi - lo) = hi - lo := IntWalk.wrap64_in _ (by constructor <;> omega)

set_option maxRecDepth 100000 in
set_option maxHeartbeats 1000000 in
theorem r10pub_bad (c : Nat → Nat) (w : World) (sl cl pb sn sc : Int) (go : Option Addr) (ng gcap : Nat) (so : Option Addr) (ns scap : Nat) (lo hi : Int) (h : decide (lo < 0) = true ∨ (decide (lo < 0) = false ∧ decide (hi < lo) = true) ∨ (decide (lo < 0) = false ∧ decide (hi < lo) = false ∧ decide (cl < hi) = true) ∨ (decide (lo < 0) = false ∧ decide (hi < lo) = false ∧ decide (cl < hi) = false ∧ wrap64 (hi - lo) = hi - lo ∧ decide (sl ≤ hi - lo) = true)) :
    Calls Tryd.prog 58 #[.agg #[.int .i64 sl, .int .i64 cl, .int .i64 pb, .slice go ng gcap, .int .i64 sn, .int .i64 sc, .slice so ns scap], .int .i64 lo, .int .i64 hi] w fun e w' => e = .returned (.tuple #[.agg #[.int .i64 sl, .int .i64 cl, .int .i64 pb, .slice go ng gcap, .int .i64 sn, .int .i64 sc, .slice so ns scap], .int .i64 1]) ∧ ∃ c', Stp (fun _ => False) c c' w w' := by
  obtain ⟨c1, r1⟩ := CB.start c w 9 [.int .i64 sl, .int .i64 cl, .int .i64 pb, .slice go ng gcap, .int .i64 sn, .int .i64 sc, .slice so ns scap]
  have R1 := Lib.hid r1
  obtain ⟨x2, hx2⟩ : ∃ x, x = w.heap.size := ⟨_, rfl⟩
  obtain ⟨x4, hx4⟩ : ∃ x, x = w.heap.size + 1 := ⟨_, rfl⟩
  clear r1
  rcases h with k1 | ⟨k1, k2⟩ | ⟨k1, k2, k3⟩ | ⟨k1, k2, k3, k4, k5⟩
  all_goals
    go_enter Tryd.func58, Tryd.ntmps58
    go_upto_region 1 with fail
    rw [← hx4, ← hx2] at R1
    rw [← hx4, ← hx2]
    clear hx2 hx4
    obtain ⟨wb, hwb⟩ : ∃ wb : World, wb = (w.alloc (.cells #[.int .i64 sl, .int .i64 cl, .int .i64 pb, .slice go ng gcap, .int .i64 sn, .int .i64 sc, .slice so ns scap] 67)).alloc (.cells #[.int .i64 0, .int .i64 0, .int .i64 0, .slice none 0 0, .int .i64 0, .int .i64 0, .slice none 0 0] 67) := ⟨_, rfl⟩
    have R2 := Lib.hid (show CB c w 9 x2 x4 [.int .i64 sl, .int .i64 cl, .int .i64 pb, .slice go ng gcap, .int .i64 sn, .int .i64 sc, .slice so ns scap] c1 wb by rw [hwb]; exact R1.out)
    rw [← hwb]
    clear hwb R1
    obtain ⟨s0, s1, s2, s3, s4, s5, s6⟩ := cl_7 R2.out.b2
    obtain ⟨⟨f0, f1, f2, f3, f4, f5, f6⟩, l2⟩ := cl_f7 R2.out.b2
    obtain ⟨u0, u1, u2, u3, u4, u5, u6⟩ := cl_7 R2.out.b4
    obtain ⟨⟨g0, g1, g2, g3, g4, g5, g6⟩, l4⟩ := cl_f7 R2.out.b4
    have d24 : x2 ≠ x4 := R2.out.d
    have d42 : x4 ≠ x2 := d24.symm
    have RS := Lib.hid (show SF c w _ from ⟨_, R2.out.st⟩)
    have N2 := Lib.hid R2.out.n.1
    have N4 := Lib.hid R2.out.n.2
    go_wp2
    refine bodyPost_ret (v := .tuple #[.agg #[.int .i64 sl, .int .i64 cl, .int .i64 pb, .slice go ng gcap, .int .i64 sn, .int .i64 sc, .slice so ns scap], .int .i64 1]) ?_ rfl ?_
    · simp [results, Tryd.results58, go_sem, *]
    · refine ⟨rfl, show SF _ _ _ from ?_⟩
      repeat' first
        | with_reducible exact RS.out
        | with_reducible apply SF.drew
        | with_reducible apply SF.set N2.out
        | with_reducible apply SF.set N4.out

theorem Stp.setB {J : Nat → Prop} {c c' : Nat → Nat} {a w : World} {b : Nat} (hp : a.heap.size ≤ b) (h : Stp J c c' a w) {j : Nat} {s : Option Nat} {v : Value} : Stp J c c' a (w.setCell ⟨b, j, s⟩ v) := h.setNew (p := ⟨b, j, s⟩) v hp
theorem Stp.setK {c : Nat → Nat} {a w : World} {b k : Nat} (hb : c b = k) (h : Stp (· = k) c c a w) {j : Nat} {s : Option Nat} {v : Value} : Stp (· = k) c c a (w.setCell ⟨b, j, s⟩ v) := h.setCell (p := ⟨b, j, s⟩) v hb

def PubRel (c0 : Nat → Nat) (w0 : World) (kr x2 x4 : Nat) (cs : List Value) (shown : List Int) (lo hi : Int) (v i : Value) (wr : World) : Prop :=
  ∃ (c : Nat → Nat) (j : Nat) (ao : Option Addr) (cap : Nat), v = .slice ao (shown.length + j) cap ∧ i = .int .i64 (lo + j) ∧ Hid (lo + j ≤ hi + 1) ∧ Hid (Stp (· = kr) c0 c w0 wr ∧ Blk c 9 wr x2 cs 67 ∧ Blk c 9 wr x4 [.int .i64 0, .int .i64 0, .int .i64 0, .slice none 0 0, .int .i64 0, .int .i64 0, .slice none 0 0] 67) ∧ Hid (Row c kr wr 2 1 ao (shown.length + j) cap ((shown ++ runOf lo j).map (Value.int .i64)))

set_option maxRecDepth 100000 in
set_option maxHeartbeats 2000000 in
theorem r10pub_ok {k : Nat} (c : Nat → Nat) (w : World) (sl cl pb sn sc : Int) (go : Option Addr) (ng gcap : Nat) (so : Option Addr) (ns scap : Nat) (lo hi : Int) {shown : List Int} (hs : In c k w 1 so ns scap (shown.map (Value.int .i64))) (kr : Nat) (hkr : kr ≠ 9) (hn : ns ≤ 10000) (g1 : 0 ≤ lo) (g2 : lo ≤ hi) (g3 : hi ≤ cl) (g4 : hi - lo < sl) (g5 : cl ≤ 4611686018427387904) (g6 : sl ≤ 64) :
    Calls Tryd.prog 58 #[.agg #[.int .i64 sl, .int .i64 cl, .int .i64 pb, .slice go ng gcap, .int .i64 sn, .int .i64 sc, .slice so ns scap], .int .i64 lo, .int .i64 hi] w fun e w' => ∃ so' scap', e = .returned (.tuple #[.agg #[.int .i64 sl, .int .i64 cl, .int .i64 pb, .slice go ng gcap, .int .i64 sn, .int .i64 sc, .slice so' (ns + (hi - lo + 1).toNat) scap'], .int .i64 0]) ∧ ∃ c', Stp (· = kr) c c' w w' ∧ Row c' kr w' 2 1 so' (ns + (hi - lo + 1).toNat) scap' ((shown ++ runOf lo (hi - lo + 1).toNat).map (Value.int .i64)) := by
  obtain ⟨c1, r1⟩ := CB.start c w 9 [.int .i64 sl, .int .i64 cl, .int .i64 pb, .slice go ng gcap, .int .i64 sn, .int .i64 sc, .slice so ns scap]
  have R1 := Lib.hid r1
  have HSL := Lib.hid (show shown.length = ns by simpa using hs.1)
  have HS := Lib.hid hs
  have k1 : decide (lo < 0) = false := by simp; omega
  have k2 : decide (hi < lo) = false := by simp; omega
  have k3 : decide (cl < hi) = false := by simp; omega
  have k4 := pubs_sub g1 g2 (Int.le_trans g3 g5)
  have k5 : decide (sl ≤ hi - lo) = false := by simp; omega
  have G := Lib.hid (show (0 ≤ lo ∧ lo ≤ hi ∧ hi ≤ 4611686018427387904 ∧ hi - lo < 64 ∧ ns ≤ 10000) from ⟨g1, g2, by omega, by omega, hn⟩)
  have HK := Lib.hid hkr
  obtain ⟨x2, hx2⟩ : ∃ x, x = w.heap.size := ⟨_, rfl⟩
  obtain ⟨x4, hx4⟩ : ∃ x, x = w.heap.size + 1 := ⟨_, rfl⟩
  clear r1 hs g1 g2 g3 g4 g5 g6 hn hkr
  go_enter Tryd.func58, Tryd.ntmps58
  go_upto_region 1 with fail
  rw [← hx4, ← hx2] at R1
  rw [← hx4, ← hx2]
  clear hx2 hx4
  obtain ⟨wb, hwb⟩ : ∃ wb : World, wb = (w.alloc (.cells #[.int .i64 sl, .int .i64 cl, .int .i64 pb, .slice go ng gcap, .int .i64 sn, .int .i64 sc, .slice so ns scap] 67)).alloc (.cells #[.int .i64 0, .int .i64 0, .int .i64 0, .slice none 0 0, .int .i64 0, .int .i64 0, .slice none 0 0] 67) := ⟨_, rfl⟩
  have R2 := Lib.hid (show CB c w 9 x2 x4 [.int .i64 sl, .int .i64 cl, .int .i64 pb, .slice go ng gcap, .int .i64 sn, .int .i64 sc, .slice so ns scap] c1 wb by rw [hwb]; exact R1.out)
  rw [← hwb]
  clear hwb R1
  obtain ⟨s0, s1, s2, s3, s4, s5, s6⟩ := cl_7 R2.out.b2
  obtain ⟨⟨f0, f1, f2, f3, f4, f5, f6⟩, l2⟩ := cl_f7 R2.out.b2
  obtain ⟨u0, u1, u2, u3, u4, u5, u6⟩ := cl_7 R2.out.b4
  obtain ⟨⟨g0, g1, g2, g3, g4, g5, g6⟩, l4⟩ := cl_f7 R2.out.b4
  have d1 : Hid (0 + ns ≤ maxLen) := Lib.hid (by have := G.out; unfold maxLen; omega)
  have d2 : Hid ((0 + ns) * 8 ≤ 140737488355328) := Lib.hid (by have := G.out; omega)
  go_wp2_with (at_builtin; refine wpList_append_row _ rfl (.tmp 34) (.tmp 36) 22 rfl c1 kr 2 (.int .i64 0) 1 8 Tryd.underlying22 Tryd.info2 rfl none 0 0 [] rfl (Row.nil _ _ _ _ _) _ ns (shown.map (Value.int .i64)) rfl (HS.out.stp R2.out.st id).src (fun u hu => by obtain ⟨x, _, rfl⟩ := List.mem_map.1 hu; rfl) d1.out d2.out ?_)
  intro ao3 cap3 w3 hr3 st3 ot3
  have t3 := st3.ofOthers ot3
  obtain ⟨c3, hc3, T3⟩ := t3.name
  rw [← hc3.out] at hr3
  have R3 := Lib.hid (show Stp (· = kr) c c3 w w3 ∧ Blk c3 9 w3 x2 [.int .i64 sl, .int .i64 cl, .int .i64 pb, .slice go ng gcap, .int .i64 sn, .int .i64 sc, .slice so ns scap] 67 ∧ Blk c3 9 w3 x4 [.int .i64 0, .int .i64 0, .int .i64 0, .slice none 0 0, .int .i64 0, .int .i64 0, .slice none 0 0] 67 from ⟨(R2.out.st.trans T3.out).mono (fun _ h => h.elim), R2.out.b2.stp T3.out id, R2.out.b4.stp T3.out id⟩)
  have D24 := Lib.hid R2.out.d
  have N4 := Lib.hid R2.out.n.2
  have A3 := Lib.hid (show Row c3 kr w3 2 1 ao3 (shown.length + 0) cap3 ((shown ++ runOf lo 0).map (Value.int .i64)) by rw [HSL.out]; simpa [runOf] using hr3)
  clear hr3 st3 ot3 t3 hc3 T3 s0 s1 s2 s3 s4 s5 s6 f0 f1 f2 f3 f4 f5 f6 l2 u0 u1 u2 u3 u4 u5 u6 g0 g1 g2 g3 g4 g5 g6 l4 R2
  try simp only [Nat.zero_add]
  go_wp2
  go_loopw [8, 9] (fun v i wr => PubRel c w kr x2 x4 [.int .i64 sl, .int .i64 cl, .int .i64 pb, .slice go ng gcap, .int .i64 sn, .int .i64 sc, .slice so ns scap] shown lo hi v i wr) (fun _ i _ => (hi + 1 - intOf i).toNat)
  case atStart => exact ⟨c3, 0, ao3, cap3, by rw [HSL.out]; first | rfl | simp, by simp, Lib.hid (by have := G.out; omega), R3, A3⟩
  case round =>
    obtain ⟨c5, j, ao, cap, rfl, rfl, Hj, R5, A5⟩ := hrel
    clear R3 A3
    by_cases hlt : lo + (j : Int) ≤ hi
    · have Hlt := Lib.hid hlt
      have w1 : wrap64 (lo + (j : Int) + 1) = lo + (j : Int) + 1 := IntWalk.wrap64_in _ (by have := G.out; constructor <;> omega)
      have d3 : Hid (shown.length + j + 1 ≤ maxLen) := Lib.hid (by have := G.out; have := HSL.out; unfold maxLen; omega)
      have d4 : Hid ((shown.length + j + 1) * 8 ≤ 140737488355328) := Lib.hid (by have := G.out; have := HSL.out; omega)
      go_wp2_with (at_builtin; refine wpList_append_row _ rfl (.tmp 44) (.tmp 46) 22 rfl _ kr 2 (.int .i64 0) 1 8 Tryd.underlying22 Tryd.info2 rfl ao (shown.length + j) cap ((shown ++ runOf lo j).map (Value.int .i64)) rfl (A5.out.alloc _ kr) _ 1 [.int .i64 (lo + j)] rfl (Src.one _ _ _) (by simp [Value.oneCell']) d3.out d4.out ?_)
      intro ao6 cap6 w6 hr6 st6 ot6
      have t6 := ((Stp.refl (· = kr) c5 wr).alloc (.cells #[.int .i64 (lo + j)] 2) kr).trans st6
      obtain ⟨c6, hc6, T6⟩ := t6.name
      have A6 := Lib.hid (show Row c6 kr w6 2 1 ao6 (shown.length + (j + 1)) cap6 ((shown ++ runOf lo (j + 1)).map (Value.int .i64)) by rw [hc6.out, runOf_succ, ← List.append_assoc, List.map_append, ← Nat.add_assoc]; simpa using hr6)
      have R6 := Lib.hid (show Stp (· = kr) c c6 w w6 ∧ Blk c6 9 w6 x2 [.int .i64 sl, .int .i64 cl, .int .i64 pb, .slice go ng gcap, .int .i64 sn, .int .i64 sc, .slice so ns scap] 67 ∧ Blk c6 9 w6 x4 [.int .i64 0, .int .i64 0, .int .i64 0, .slice none 0 0, .int .i64 0, .int .i64 0, .slice none 0 0] 67 from ⟨R5.out.1.trans T6.out, R5.out.2.1.stp T6.out (fun h => HK.out h.symm), R5.out.2.2.stp T6.out (fun h => HK.out h.symm)⟩)
      clear hr6 st6 ot6 t6 hc6 T6
      go_wp2
      go_roundw
      case rel => exact ⟨c6, j + 1, ao6, cap6, rfl, by rw [Int.natCast_add, ← Int.add_assoc]; go_num, Lib.hid (by have := Hlt.out; omega), R6, A6⟩
      case measure => have := Hlt.out; simp only [intOf]; omega
    · have hj : j = (hi - lo + 1).toNat := by have := Hj.out; have := G.out; omega
      have HJ := Lib.hid hj
      clear hj
      obtain ⟨s0, s1, s2, s3, s4, s5, s6⟩ := cl_7 R5.out.2.1
      obtain ⟨⟨f0, f1, f2, f3, f4, f5, f6⟩, l2⟩ := cl_f7 R5.out.2.1
      obtain ⟨u0, u1, u2, u3, u4, u5, u6⟩ := cl_7 R5.out.2.2
      obtain ⟨⟨g0, g1, g2, g3, g4, g5, g6⟩, l4⟩ := cl_f7 R5.out.2.2
      have d24 : x2 ≠ x4 := D24.out
      have d42 : x4 ≠ x2 := d24.symm
      have C4 := Lib.hid R5.out.2.2.1
      have HSL' := HSL.out
      go_wp2
      refine bodyPost_ret (v := .tuple #[.agg #[.int .i64 sl, .int .i64 cl, .int .i64 pb, .slice go ng gcap, .int .i64 sn, .int .i64 sc, .slice ao (shown.length + j) cap], .int .i64 0]) ?_ rfl ?_
      · simp [results, Tryd.results58, go_sem, *]
      · have A6 : Row c5 kr wr 2 1 ao (ns + (hi - lo + 1).toNat) cap ((shown ++ runOf lo (hi - lo + 1).toNat).map (Value.int .i64)) := by rw [← HJ.out, ← HSL.out]; exact A5.out
        rw [List.map_append] at A6
        refine ⟨ao, cap, by rw [← HJ.out, HSL.out], c5, ?_, Row.stp (J := (· = 9)) A6 ?_ HK.out⟩
        · repeat' first
            | with_reducible exact R5.out.1
            | with_reducible apply Stp.setB N4.out
        · have Z := Lib.hid (Stp.refl (· = 9) c5 wr)
          repeat' first
            | with_reducible exact Z.out
            | with_reducible apply Stp.setK C4.out

section
variable {c0 : Nat → Nat} {w0 : World} {K p q bp gp : Nat} {S : Sq} {la : List Int} {c : Nat → Nat} {w : World}
theorem PAt.highbad_c (h : PAt c0 w0 K p q bp gp S la c w) (lo hi : Int) (h0 : lo < 0) :
    Calls Tryd.prog 88 #[.pointer (some ⟨bp, 0, none⟩), .pointer (some ⟨q, 0, none⟩), .int .i64 lo, .int .i64 hi] w fun e w' => ∃ ev, e = .returned (.tuple #[.int .i64 0, ev]) ∧ ∃ c', Hid (PAt c0 w0 K p q bp gp S la c' w' ∧ ErrAt c' w' ev 5) ∧ (w'.cell? ⟨p, 0, none⟩ = some (.pointer (some ⟨q, 0, none⟩)) ∧ w'.cell? ⟨p, 1, none⟩ = some (.int .i64 S.sh) ∧ w'.cell? ⟨p, 2, none⟩ = some (.int .i64 S.cur) ∧ w'.cell? ⟨p, 3, none⟩ = some (.int .i64 S.cac) ∧ w'.cell? ⟨p, 4, none⟩ = some (.pointer (some ⟨bp, 0, none⟩)) ∧ w'.cell? ⟨p, 5, none⟩ = some (.pointer (some ⟨gp, 0, none⟩)) ∧ p < w'.heap.size) := by
  refine (avhigh_bad (c := c) lo hi 5 (by rw [if_pos (.inl h0)]) (.inl h0)).mono ?_
  rintro e w' ⟨ev, rfl, c', t, he⟩
  exact ⟨ev, rfl, c', Lib.hid ⟨h.stpF t, he⟩, (h.stpF t).sq.cs⟩
end

section
variable {c : Nat → Nat} {K : Nat} {w : World} {p q bp gp : Nat} {S : Sq} {la : List Int}
set_option maxRecDepth 100000 in
theorem mhigh_low (ha : ArenaS c K w q la) (hB : SeqIs c (K + 1) w p q bp gp S) {v : Int} (hcu : S.cur < la.length) (hv : la.getD S.cur 0 = v) (lo : Int) (h0 : lo < 0) :
    Calls Tryd.prog 53 #[.pointer (some ⟨p, 0, none⟩), .int .i64 lo] w fun e w' => ∃ ev, e = .returned (.tuple #[.int .i64 0, ev]) ∧ ∃ c', Stp (· = K) c c' w w' ∧ ArenaS c' K w' q la ∧ SeqIs c' (K + 1) w' p q bp gp S ∧ ErrAt c' w' ev 5 := by
  have R1 := Lib.hid (show PAt c w K p q bp gp S la c w from ⟨Stp.refl _ _ _, ha, hB⟩)
  have Hcu := Lib.hid hcu
  have Hv := Lib.hid hv
  have H0 := Lib.hid h0

  obtain ⟨s0, s1, s2, s3, s4, s5, lp⟩ := hB.cs
  clear ha hB hcu hv h0
  go_enter Tryd.func53, Tryd.ntmps53
  go_upto_region 3 with fail
  go_region_held3 (fun w' => w'.cell? ⟨p, 0, none⟩ = some (.pointer (some ⟨q, 0, none⟩)) ∧ w'.cell? ⟨p, 1, none⟩ = some (.int .i64 S.sh) ∧ w'.cell? ⟨p, 2, none⟩ = some (.int .i64 S.cur) ∧ w'.cell? ⟨p, 3, none⟩ = some (.int .i64 S.cac) ∧ w'.cell? ⟨p, 4, none⟩ = some (.pointer (some ⟨bp, 0, none⟩)) ∧ w'.cell? ⟨p, 5, none⟩ = some (.pointer (some ⟨gp, 0, none⟩)))
    (first | exact ⟨by assumption, by assumption, by assumption, by assumption, by assumption, by assumption⟩ | go_keep)
    (first
      | (go_at_call 31; refine (PAt.load_c (by first | exact R1.out | exact R1.out.stpF (Stp.refl (fun _ => False) _ _).drew | exact R1.out.stpF ((Stp.refl (fun _ => False) _ _).drewN _)) (by exact Hcu.out) (by exact Hv.out)).mono ?_; rintro e w2 ⟨rfl, c2, R2, ⟨s0, s1, s2, s3, s4, s5, lp⟩⟩))
  go_upto_region 6 with fail
  go_region_held3 (fun w' => w'.cell? ⟨p, 0, none⟩ = some (.pointer (some ⟨q, 0, none⟩)) ∧ w'.cell? ⟨p, 1, none⟩ = some (.int .i64 S.sh) ∧ w'.cell? ⟨p, 2, none⟩ = some (.int .i64 S.cur) ∧ w'.cell? ⟨p, 3, none⟩ = some (.int .i64 S.cac) ∧ w'.cell? ⟨p, 4, none⟩ = some (.pointer (some ⟨bp, 0, none⟩)) ∧ w'.cell? ⟨p, 5, none⟩ = some (.pointer (some ⟨gp, 0, none⟩)))
    (first | exact ⟨by assumption, by assumption, by assumption, by assumption, by assumption, by assumption⟩ | go_keep)
    (first
      | (go_at_call 88; refine (PAt.highbad_c (by first | exact R2.out | exact R2.out.stpF (Stp.refl (fun _ => False) _ _).drew | exact R2.out.stpF ((Stp.refl (fun _ => False) _ _).drewN _)) lo v (by exact H0.out)).mono ?_; rintro e w3 ⟨ev, rfl, c3, R3, ⟨s0, s1, s2, s3, s4, s5, lp⟩⟩))
  go_wp2
  go_ret2
  exact ⟨ev, rfl, c3, R3.out.1.st, R3.out.1.ar, R3.out.1.sq, R3.out.2⟩

set_option maxRecDepth 100000 in
theorem mpublish_wide (ha : ArenaS c K w q la) (hB : SeqIs c (K + 1) w p q bp gp S) {v : Int} (hcu : S.cur < la.length) (hv : la.getD S.cur 0 = v) (lo hi : Int) (h0 : 0 ≤ lo) (h1 : lo ≤ hi) (h2 : hi ≤ v) (h3 : 2 ^ S.sh ≤ hi - lo) (h4 : v ≤ 4611686018427387904) :
    Calls Tryd.prog 26 #[.pointer (some ⟨p, 0, none⟩), .int .i64 lo, .int .i64 hi] w fun e w' => ∃ ev, e = .returned ev ∧ ∃ c', Stp (· = K) c c' w w' ∧ ArenaS c' K w' q la ∧ SeqIs c' (K + 1) w' p q bp gp S ∧ ErrAt c' w' ev 1 := by
  have R1 := Lib.hid (show PAt c w K p q bp gp S la c w from ⟨Stp.refl _ _ _, ha, hB⟩)
  have Hcu := Lib.hid hcu
  have Hv := Lib.hid hv
  have Hsh := Lib.hid hB.bf.1
  have t1 : decide (lo < 0) = false := by simp; omega
  have t2 : decide (hi < lo) = false := by simp; omega
  have t3 : decide (v < hi) = false := by simp; omega
  have t4 : decide ((2 : Int) ^ S.sh ≤ hi - lo) = true := by simpa using h3
  have F1 := Lib.hid (show wrap64 (hi - lo) = hi - lo from IntWalk.wrap64_in _ (by constructor <;> omega))
  obtain ⟨s0, s1, s2, s3, s4, s5, lp⟩ := hB.cs
  clear ha hB hcu hv h0 h1 h2 h3 h4
  go_enter Tryd.func26, Tryd.ntmps26
  go_upto_region 3 with fail
  go_region_held3 (fun w' => w'.cell? ⟨p, 0, none⟩ = some (.pointer (some ⟨q, 0, none⟩)) ∧ w'.cell? ⟨p, 1, none⟩ = some (.int .i64 S.sh) ∧ w'.cell? ⟨p, 2, none⟩ = some (.int .i64 S.cur) ∧ w'.cell? ⟨p, 3, none⟩ = some (.int .i64 S.cac) ∧ w'.cell? ⟨p, 4, none⟩ = some (.pointer (some ⟨bp, 0, none⟩)) ∧ w'.cell? ⟨p, 5, none⟩ = some (.pointer (some ⟨gp, 0, none⟩)))
    (first | exact ⟨by assumption, by assumption, by assumption, by assumption, by assumption, by assumption⟩ | go_keep)
    (first
      | (go_at_call 31; refine (PAt.load_c (by first | exact R1.out | exact R1.out.stpF (Stp.refl (fun _ => False) _ _).drew | exact R1.out.stpF ((Stp.refl (fun _ => False) _ _).drewN _)) (by exact Hcu.out) (by exact Hv.out)).mono ?_; rintro e w2 ⟨rfl, c2, R2, ⟨s0, s1, s2, s3, s4, s5, lp⟩⟩))
  have E1 := F1.out
  go_wp2_with fail
  refine (slots_k S.sh Hsh.out _).mono ?_
  rintro e w4 ⟨rfl, hw4⟩
  have T4 := Lib.hid ((Stp.refl (fun _ => False) c2 w2).alloc (.cells #[.int .i64 S.sh] 108) 0)
  rw [hw4] at T4
  have R4 := Lib.hid (R2.out.stpF T4.out)
  clear hw4 T4 s0 s1 s2 s3 s4 s5 lp
  obtain ⟨s0, s1, s2, s3, s4, s5, lp⟩ := R4.out.sq.cs
  go_wp2_with fail
  refine (wrap_some _ _ _ _ _).mono ?_
  rintro e w5 ⟨rfl, rfl⟩
  obtain ⟨c4, R4'⟩ : ∃ c4, Hid (PAt c w K p q bp gp S la c4 w4) := ⟨_, R4⟩
  have T5 := Lib.hid ((Stp.refl (fun _ => False) c4 w4).alloc (.cells #[.string ⟨#[112, 117, 98, 108, 105, 115, 104]⟩, .int .i64 hi, .iface 119 (.int .i64 1)] 152) 1)
  have E5 := Lib.hid (ErrAt.new c4 w4 ⟨#[112, 117, 98, 108, 105, 115, 104]⟩ hi 1)
  have R5 := Lib.hid (R4'.out.stpF T5.out)
  go_wp2
  go_ret
  exact ⟨_, rfl, _, R5.out.st, R5.out.ar, R5.out.sq, E5.out⟩
end
end Go.Proofs.YtoifknfmamcimaaDoor

/- What claims and publications leave, in plain Lean; the document's numbers beside a sequencer. No condition beyond each law's own. -/
namespace Go.Proofs.YtoifknfmamcimaaDoor
open Go.RowKit

/-- The cells of those who hold back, one behind the other. -/
def gids (N k : Nat) : List Int := (List.range k).map fun i => ((N + i : Nat) : Int)
theorem gids_len (N k : Nat) : (gids N k).length = k := by simp [gids]
theorem gids_succ (N k : Nat) : gids N (k + 1) = gids N k ++ [((N + k : Nat) : Int)] := by simp [gids, List.range_succ]
theorem gids_mem {N k : Nat} {x : Int} (h : x ∈ gids N k) : ∃ i : Nat, i < k ∧ x = ((N + i : Nat) : Int) := by
  obtain ⟨i, hi, rfl⟩ := List.mem_map.1 h
  exact ⟨i, List.mem_range.1 hi, rfl⟩
theorem gids_get {N k i : Nat} (h : i < k) : (gids N k).getD i 0 = ((N + i : Nat) : Int) := by
  simp [gids, List.getD, h]
theorem gids_vals {la : List Int} {N k : Nat} (h : N + k = la.length) : (gids N k).map (valAt la) = la.drop N := by
  apply List.ext_getElem
  · simp [gids]; omega
  · intro i h1 h2
    simp [gids] at h1
    simp only [gids, List.map_map, List.getElem_map, List.getElem_range, Function.comp, valAt, List.getElem_drop, Int.toNat_natCast]
    simp [List.getD, show N + i < la.length by omega]

/-- Whether one may go on so far is right: the cells, the document's list. -/
structure POK (sh N : Nat) (la : List Int) (k : Nat) (shown : List Int) : Prop where
  ok : LOK sh la (gids N k)
  hN : N = 2 + 2 ^ sh
  len : N + k = la.length
  cu : -1 ≤ la.getD 0 0 ∧ la.getD 0 0 ≤ 4611686018427387904
  ca : la.getD 1 0 ≤ la.getD 0 0
  gl : ∀ v ∈ la.drop N, la.getD 1 0 ≤ v ∧ v ≤ la.getD 0 0 ∧ -1 ≤ v
  sa : ShownAs la shown 2 sh
  sp : ∀ x ∈ shown, 0 ≤ x

theorem ShownAs.congr {la la' shown : List Int} {sh : Nat} (hsh : sh < 21) (h : ShownAs la shown 2 sh) (he : ∀ i, i < 2 ^ sh → la'.getD (2 + i) 0 = la.getD (2 + i) 0) : ShownAs la' shown 2 sh := fun seq h0 => by
  rw [← h seq h0, shownAt, shownAt, he _ (slotOf_lt sh seq hsh).1]

theorem fold_low {x : Int} : ∀ (l : List Int) (m : Int), x ≤ m → (∀ v ∈ l, x ≤ v) → x ≤ l.foldl min m
  | [], _, h, _ => h
  | y :: l, m, h, hl => fold_low l (min m y) (by have := hl y (List.mem_cons_self ..); omega) fun v hv => hl v (List.mem_cons_of_mem _ hv)
theorem fold_top : ∀ (l : List Int) (m : Int), l.foldl min m ≤ m ∧ ∀ v ∈ l, l.foldl min m ≤ v
  | [], m => ⟨Int.le_refl _, fun _ h => by cases h⟩
  | y :: l, m => by
    obtain ⟨h1, h2⟩ := fold_top l (min m y)
    rw [List.foldl_cons]
    exact ⟨by omega, fun v hv => by rcases List.mem_cons.1 hv with rfl | hv; omega; exact h2 v hv⟩

section
variable {sh N k : Nat} {la shown : List Int}
theorem POK.pw (h : POK sh N la k shown) : 1 ≤ (2 : Int) ^ sh ∧ (2 : Int) ^ sh ≤ 64 := by
  have h1 := pow7 h.ok.lt
  have := two_pow_cast sh
  omega
theorem POK.k20 (h : POK sh N la k shown) : k ≤ 20 := by have := h.ok.il; rw [gids_len] at this; exact this
theorem POK.n3 (h : POK sh N la k shown) : 3 ≤ N ∧ N ≤ 66 := by have := pow7 h.ok.lt; have := h.hN; omega
theorem POK.start (hsh : sh < 7) (hN : N = 2 + 2 ^ sh) : POK sh N (-1 :: -1 :: List.replicate (2 ^ sh) (-1)) 0 [] := by
  refine ⟨⟨hsh, by simp [gids]; omega, (fun x hx => by obtain ⟨i, hi, -⟩ := gids_mem hx; omega), by simp [gids]⟩, hN, by simp; omega, by simp, by simp, fun v hv => ?_, ?_, fun x hx => by cases hx⟩
  · rw [List.drop_eq_nil_of_le (by simp; omega)] at hv; cases hv
  · exact ShownAs.start [-1, -1] sh (by omega)
/-- Only the cursor's cell and the cell of what was seen last are others. -/
theorem POK.low (h : POK sh N la k shown) {la' : List Int} (hl : la'.length = la.length) (hd : la'.drop 2 = la.drop 2) (hc : la.getD 0 0 ≤ la'.getD 0 0 ∧ la'.getD 0 0 ≤ 4611686018427387904) (ha : la'.getD 1 0 ≤ la'.getD 0 0) (hg : ∀ v ∈ la.drop N, la'.getD 1 0 ≤ v) : POK sh N la' k shown := by
  have h3 := h.n3
  have hdN : la'.drop N = la.drop N := by
    rw [show N = 2 + (N - 2) by omega, ← List.drop_drop, ← List.drop_drop, hd]
  refine ⟨h.ok.len hl, h.hN, by rw [hl]; exact h.len, by have := h.cu; omega, ha, fun v hv => ?_, h.sa.congr (by have := h.ok.lt; omega) fun i hi => ?_, h.sp⟩
  · rw [hdN] at hv
    have := h.gl v hv
    exact ⟨hg v hv, by omega, this.2.2⟩
  · have : (la'.drop 2)[i]? = (la.drop 2)[i]? := by rw [hd]
    rw [List.getElem?_drop, List.getElem?_drop] at this
    rw [List.getD, List.getD, this]
theorem POK.least (h : POK sh N la k shown) : la.getD 1 0 ≤ ((la.drop N).foldl min (la.getD 0 0)) ∧ (la.drop N).foldl min (la.getD 0 0) ≤ la.getD 0 0 ∧ -1 ≤ (la.drop N).foldl min (la.getD 0 0) :=
  ⟨fold_low _ _ h.ca fun v hv => (h.gl v hv).1, (fold_top _ _).1, fold_low _ _ h.cu.1 fun v hv => (h.gl v hv).2.2⟩
theorem POK.claim (h : POK sh N la k shown) (n : Int) : POK sh N (claimR ⟨sh, 0, 1, 2, gids N k⟩ la n).1 k shown := by
  have hm := h.ok.max
  unfold claimR
  simp only [gids_vals h.len]
  match la, hm with
  | x :: y :: r, hm =>
    have hcu := h.cu
    have hca := h.ca
    have hgl := h.gl
    simp only [List.getD_cons_zero, List.getD_cons_succ] at hcu hca hgl ⊢
    split
    · exact h
    · split
      · exact h
      · rename_i h1 h2
        have hn := nextErr_zero (Decidable.not_not.1 h2)
        split
        · exact h.low rfl rfl ⟨by simp; omega, by simp; omega⟩ (by simp; omega) fun v hv => (hgl v hv).1
        · split
          · exact h
          · have ht := fold_top ((x :: y :: r).drop N) x
            exact h.low rfl rfl ⟨by simp; omega, by simp; omega⟩ (by simp; omega) fun v hv => ht.2 v hv
/-- The document's Claim's error is the model's. -/
theorem POK.err (h : POK sh N la k shown) {n : Int} : refWrong (2 ^ sh) (la.getD 0 0) n = (if n < 1 ∨ 2 ^ sh < n then 1 else nextErr (la.getD 0 0) n) := by
  have h1 := h.cu
  have h2 := h.pw
  unfold refWrong nextErr
  split
  · rfl
  · rw [if_neg (show ¬ (n < 1 ∨ 1048576 < n) by omega), if_neg (show ¬ la.getD 0 0 < -1 by omega)]
/-- Whether there was room. -/
theorem POK.short (h : POK sh N la k shown) (n : Int) {d : Int} (hd : roomOf (2 ^ sh) (la.getD 0 0) ((la.drop N).foldl min (la.getD 0 0)) = d) :
    ((claimR ⟨sh, 0, 1, 2, gids N k⟩ la n).2.2 = 0 → ¬ d < n) ∧ ((claimR ⟨sh, 0, 1, 2, gids N k⟩ la n).2.2 = 10 → d < n) := by
  have h1 := h.cu
  have h2 := h.pw
  have h3 := h.least
  unfold claimR
  simp only [gids_vals h.len]
  generalize (la.drop N).foldl min (la.getD 0 0) = le at *
  generalize la.getD 0 0 = x at *
  generalize la.getD 1 0 = y at *
  generalize (2 : Int) ^ sh = m at *
  unfold roomOf at hd
  rw [if_neg (by omega)] at hd
  have hd2 : d = if m ≤ x - le then 0 else m - (x - le) := hd.symm
  by_cases g1 : n < 1 ∨ m < n
  · rw [if_pos g1]; exact ⟨(fun e => by cases e), (fun e => by cases e)⟩
  rw [if_neg g1]
  by_cases g2 : nextErr x n = 0
  · rw [if_neg (fun h => h g2)]
    by_cases g3 : x + n - m ≤ y ∧ y ≤ x
    · rw [if_pos g3]
      refine ⟨fun _ => ?_, fun e => by cases e⟩
      rw [hd2]; split <;> omega
    · rw [if_neg g3]
      by_cases g4 : le < x + n - m
      · rw [if_pos g4]
        refine ⟨(fun e => by cases e), fun _ => ?_⟩
        rw [hd2]; split <;> omega
      · rw [if_neg g4]
        refine ⟨fun _ => ?_, fun e => by cases e⟩
        rw [hd2]; split <;> omega
  · rw [if_pos g2]
    unfold nextErr at g2 ⊢
    simp only at g2 ⊢
    split
    · exact ⟨(fun e => by cases e), (fun e => by cases e)⟩
    · split
      · exact ⟨(fun e => by cases e), (fun e => by cases e)⟩
      · split
        · exact ⟨(fun e => by cases e), (fun e => by cases e)⟩
        · rename_i a b c; rw [if_neg a, if_neg b, if_neg c] at g2; exact absurd rfl g2
theorem POK.room (h : POK sh N la k shown) {le d : Int} (hle : (la.drop N).foldl min (la.getD 0 0) = le) (hd : roomOf (2 ^ sh) (la.getD 0 0) le = d) :
    (2 ^ sh - (la.getD 0 0 - le) < 0 ∧ d = 0) ∨ (¬ 2 ^ sh - (la.getD 0 0 - le) < 0 ∧ d = 2 ^ sh - (la.getD 0 0 - le)) := by
  have h1 := h.cu
  have h2 := h.pw
  have h3 := h.least
  rw [hle] at h3
  unfold roomOf at hd
  rw [if_neg (by omega)] at hd
  split at hd <;> omega
theorem POK.w (h : POK sh N la k shown) {le : Int} (hle : (la.drop N).foldl min (la.getD 0 0) = le) : wrap64 (la.getD 0 0 - le) = la.getD 0 0 - le ∧ wrap64 (2 ^ sh - (la.getD 0 0 - le)) = 2 ^ sh - (la.getD 0 0 - le) := by
  have h1 := h.cu
  have h2 := h.pw
  have h3 := h.least
  rw [hle] at h3
  exact ⟨IntWalk.wrap64_in _ (by constructor <;> omega), IntWalk.wrap64_in _ (by constructor <;> omega)⟩
theorem POK.hold (h : POK sh N la k shown) {i : Nat} (hi : i < k) {v : Int} (h0 : (la.drop N).getD i 0 ≤ v) (h1 : v ≤ la.getD 0 0) : POK sh N (la.set (N + i) v) k shown := by
  have h3 := h.n3
  have hl := h.len
  have hc : (la.set (N + i) v).getD 0 0 = la.getD 0 0 := by simp [List.getD, List.getElem?_set_ne (show N + i ≠ 0 by omega)]
  have ha : (la.set (N + i) v).getD 1 0 = la.getD 1 0 := by simp [List.getD, List.getElem?_set_ne (show N + i ≠ 1 by omega)]
  have hdl : i < (la.drop N).length := by simp; omega
  have hg := h.gl ((la.drop N).getD i 0) (by rw [List.getD, List.getElem?_eq_getElem hdl]; exact List.getElem_mem _)
  refine ⟨h.ok.len (by simp), h.hN, by simpa using h.len, by rw [hc]; exact h.cu, by rw [hc, ha]; exact h.ca, fun x hx => ?_, h.sa.congr (by have := h.ok.lt; omega) fun j hj => ?_, h.sp⟩
  · rw [hc, ha]
    rw [List.drop_set, if_neg (by omega)] at hx
    rcases List.mem_or_eq_of_mem_set hx with hx | rfl
    · exact h.gl x hx
    · omega
  · have := h.hN
    simp [List.getD, List.getElem?_set_ne (show N + i ≠ 2 + j by omega)]
theorem POK.drop_hold (_h : POK sh N la k shown) {i : Nat} (v : Int) : (la.set (N + i) v).drop N = (la.drop N).set i v := by
  rw [List.drop_set, if_neg (by omega), Nat.add_sub_cancel_left]
theorem POK.more (h : POK sh N la k shown) (hk : k < 20) : POK sh N (la ++ [la.getD 0 0]) (k + 1) shown := by
  have h3 := h.n3
  have hl := h.len
  have hc : ∀ j, j < la.length → (la ++ [la.getD 0 0]).getD j 0 = la.getD j 0 := fun j hj => by simp [List.getD, List.getElem?_append_left hj]
  have hc0 := hc 0 (by omega)
  have hc1 := hc 1 (by omega)
  refine ⟨?_, h.hN, by simp; omega, by rw [hc0]; exact h.cu, by rw [hc0, hc1]; exact h.ca, fun x hx => ?_, h.sa.congr (by have := h.ok.lt; omega) fun j hj => hc _ (by have := h.hN; omega), h.sp⟩
  · rw [gids_succ, hl]
    exact h.ok.add _ (by rw [gids_len]; exact hk)
  · rw [hc0, hc1]
    rw [List.drop_append_of_le_length (by omega)] at hx
    rcases List.mem_append.1 hx with hx | hx
    · exact h.gl x hx
    · rw [List.mem_singleton] at hx
      subst hx
      exact ⟨h.ca, Int.le_refl _, h.cu.1⟩
theorem POK.drop_more (h : POK sh N la k shown) (v : Int) : (la ++ [v]).drop N = la.drop N ++ [v] := List.drop_append_of_le_length (by have := h.len; omega)
theorem POK.dl (h : POK sh N la k shown) : (la.drop N).length = k := by have := h.len; simp; omega

theorem showAll_other {la : List Int} {sh : Nat} (hsh : sh < 21) {lo : Int} {j : Nat} (hj : j < 2 ∨ 2 + 2 ^ sh ≤ j) : ∀ n : Nat, (showAll la 2 sh lo n)[j]? = la[j]?
  | 0 => rfl
  | n + 1 => by
    have := (slotOf_lt sh (lo + (n : Nat)) hsh).1
    rw [showAll_succ, List.getElem?_set_ne (by omega), showAll_other hsh hj n]
theorem POK.publish (h : POK sh N la k shown) {lo : Int} (h0 : 0 ≤ lo) (n : Nat) : POK sh N (showAll la 2 sh lo n) k (shown ++ runOf lo n) ∧ (showAll la 2 sh lo n).drop N = la.drop N ∧ (showAll la 2 sh lo n).getD 0 0 = la.getD 0 0 ∧ (showAll la 2 sh lo n).getD 1 0 = la.getD 1 0 := by
  have hsh : sh < 21 := by have := h.ok.lt; omega
  have hc : (showAll la 2 sh lo n).getD 0 0 = la.getD 0 0 := by rw [List.getD, List.getD, showAll_other hsh (.inl (by decide))]
  have ha : (showAll la 2 sh lo n).getD 1 0 = la.getD 1 0 := by rw [List.getD, List.getD, showAll_other hsh (.inl (by decide))]
  have hd : (showAll la 2 sh lo n).drop N = la.drop N := by
    apply List.ext_getElem?
    intro i
    rw [List.getElem?_drop, List.getElem?_drop, showAll_other hsh (.inr (by have := h.hN; omega))]
  refine ⟨⟨h.ok.len (showAll_len ..), h.hN, by rw [showAll_len]; exact h.len, by rw [hc]; exact h.cu, by rw [hc, ha]; exact h.ca, by rw [hd, hc, ha]; exact h.gl, h.sa.run hsh (by have := h.len; have := h.hN; omega) lo h0 n, fun x hx => ?_⟩, hd, hc, ha⟩
  rcases List.mem_append.1 hx with hx | hx
  · exact h.sp x hx
  · obtain ⟨i, -, rfl⟩ := List.mem_map.1 hx
    omega
end

/-- The document's numbers, and the law's list of cells. -/
structure MB (x9 : Nat) (sl cl sn : Int) (gl il shown : List Int) (kg ki : Nat) (io : Option Addr) (icap : Nat) (go : Option Addr) (gcap : Nat) (so : Option Addr) (scap : Nat) (c : Nat → Nat) (w : World) : Prop where
  mb : Blk c 9 w x9 [.int .i64 sl, .int .i64 cl, .int .i64 cl, .slice go kg gcap, .int .i64 sn, .int .i64 0, .slice so shown.length scap] 67
  gr : Row c 10 w 2 1 go kg gcap (gl.map (Value.int .i64))
  ir : Row c 11 w 3 1 io ki icap (il.map (Value.int .i64))
  sr : In c 12 w 1 so shown.length scap (shown.map (Value.int .i64))

section
variable {x9 : Nat} {sl cl sn : Int} {gl il shown : List Int} {kg ki : Nat} {io : Option Addr} {icap : Nat} {go : Option Addr} {gcap : Nat} {so : Option Addr} {scap : Nat} {c c' : Nat → Nat} {w w' : World}
theorem MB.stp {J : Nat → Prop} (h : MB x9 sl cl sn gl il shown kg ki io icap go gcap so scap c w) (t : Stp J c c' w w') (h9 : ¬ J 9) (h10 : ¬ J 10) (h11 : ¬ J 11) (h12 : ¬ J 12) : MB x9 sl cl sn gl il shown kg ki io icap go gcap so scap c' w' :=
  ⟨h.mb.stp t h9, h.gr.stp t h10, h.ir.stp t h11, h.sr.stp t h12⟩
theorem MB.stpF (h : MB x9 sl cl sn gl il shown kg ki io icap go gcap so scap c w) (t : Stp (fun _ => False) c c' w w') : MB x9 sl cl sn gl il shown kg ki io icap go gcap so scap c' w' := h.stp t id id id id
theorem MB.xs (h : MB x9 sl cl sn gl il shown kg ki io icap go gcap so scap c w) : (w.cell? ⟨x9, 0, none⟩ = some (.int .i64 sl) ∧ w.cell? ⟨x9, 1, none⟩ = some (.int .i64 cl) ∧ w.cell? ⟨x9, 2, none⟩ = some (.int .i64 cl) ∧ w.cell? ⟨x9, 3, none⟩ = some (.slice go kg gcap) ∧ w.cell? ⟨x9, 4, none⟩ = some (.int .i64 sn) ∧ w.cell? ⟨x9, 5, none⟩ = some (.int .i64 0) ∧ w.cell? ⟨x9, 6, none⟩ = some (.slice so shown.length scap)) ∧ (w.frozen? ⟨x9, 0, none⟩ = false ∧ w.frozen? ⟨x9, 1, none⟩ = false ∧ w.frozen? ⟨x9, 2, none⟩ = false ∧ w.frozen? ⟨x9, 3, none⟩ = false ∧ w.frozen? ⟨x9, 4, none⟩ = false ∧ w.frozen? ⟨x9, 5, none⟩ = false ∧ w.frozen? ⟨x9, 6, none⟩ = false) ∧ x9 < w.heap.size :=
  ⟨cl_7 h.mb, (cl_f7 h.mb).1, (cl_f7 h.mb).2⟩
/-- The document's numbers are stored anew. -/
theorem MB.put7 (h : MB x9 sl cl sn gl il shown kg ki io icap go gcap so scap c w) (cl' sn' : Int) {shown' : List Int} {so' : Option Addr} {scap' : Nat} (hs : In c 12 w 1 so' shown'.length scap' (shown'.map (Value.int .i64))) :
    MB x9 sl cl' sn' gl il shown' kg ki io icap go gcap so' scap' c (((((((w.setCell ⟨x9, 0, none⟩ (.int .i64 sl)).setCell ⟨x9, 1, none⟩ (.int .i64 cl')).setCell ⟨x9, 2, none⟩ (.int .i64 cl')).setCell ⟨x9, 3, none⟩ (.slice go kg gcap)).setCell ⟨x9, 4, none⟩ (.int .i64 sn')).setCell ⟨x9, 5, none⟩ (.int .i64 0)).setCell ⟨x9, 6, none⟩ (.slice so' shown'.length scap')) ∧
    Stp (· = 9) c c w (((((((w.setCell ⟨x9, 0, none⟩ (.int .i64 sl)).setCell ⟨x9, 1, none⟩ (.int .i64 cl')).setCell ⟨x9, 2, none⟩ (.int .i64 cl')).setCell ⟨x9, 3, none⟩ (.slice go kg gcap)).setCell ⟨x9, 4, none⟩ (.int .i64 sn')).setCell ⟨x9, 5, none⟩ (.int .i64 0)).setCell ⟨x9, 6, none⟩ (.slice so' shown'.length scap')) := by
  have hz := h.mb.1
  have t := (((((((Stp.refl (· = 9) c w).setCell (p := ⟨x9, 0, none⟩) (.int .i64 sl) hz).setCell (p := ⟨x9, 1, none⟩) (.int .i64 cl') hz).setCell (p := ⟨x9, 2, none⟩) (.int .i64 cl') hz).setCell (p := ⟨x9, 3, none⟩) (.slice go kg gcap) hz).setCell (p := ⟨x9, 4, none⟩) (.int .i64 sn') hz).setCell (p := ⟨x9, 5, none⟩) (.int .i64 0) hz).setCell (p := ⟨x9, 6, none⟩) (.slice so' shown'.length scap') hz
  exact ⟨⟨((((((h.mb.set 0 (.int .i64 sl)).set 1 (.int .i64 cl')).set 2 (.int .i64 cl')).set 3 (.slice go kg gcap)).set 4 (.int .i64 sn')).set 5 (.int .i64 0)).set 6 (.slice so' shown'.length scap'), h.gr.stp t (by decide), h.ir.stp t (by decide), hs.stp t (by decide)⟩, t⟩
end
end Go.Proofs.YtoifknfmamcimaaDoor

/- The document's Claim, Publish, Remaining beside a sequencer, as one contract each; Highest of a law's sequencer. No condition beyond each contract's own. -/
namespace Go.Proofs.YtoifknfmamcimaaDoor
open Go.RowKit

theorem claimR_err {S : Sq} {la : List Int} {n e : Int} (h : (if n < 1 ∨ 2 ^ S.sh < n then 1 else nextErr (la.getD S.cur 0) n) = e) (he : e ≠ 0) : claimR S la n = (la, 0, e) := by
  unfold claimR
  split at h
  · rename_i h1; rw [if_pos h1, ← h]
  · rename_i h1; rw [if_neg h1, if_pos (by rw [h]; exact he), h]

section
variable {sh N k : Nat} {la shown : List Int} {x9 : Nat} {io : Option Addr} {icap : Nat} {go : Option Addr} {gcap : Nat} {so : Option Addr} {scap : Nat} {c : Nat → Nat} {w : World} {il : List Int} {ki : Nat}
theorem MB.rclaim (h : MB x9 (2 ^ sh) (la.getD 0 0) (la.getD 1 0) (la.drop N) il shown k ki io icap go gcap so scap c w) (p : POK sh N la k shown) (n : Int) (hn : n ≤ 9223372036854775807) :
    Calls Tryd.prog 51 #[.agg #[.int .i64 (2 ^ sh), .int .i64 (la.getD 0 0), .int .i64 (la.getD 0 0), .slice go k gcap, .int .i64 (la.getD 1 0), .int .i64 0, .slice so shown.length scap], .int .i64 n] w fun e w' =>
      e = .returned (.tuple #[.agg #[.int .i64 (2 ^ sh), .int .i64 ((claimR ⟨sh, 0, 1, 2, gids N k⟩ la n).1.getD 0 0), .int .i64 ((claimR ⟨sh, 0, 1, 2, gids N k⟩ la n).1.getD 0 0), .slice go k gcap, .int .i64 ((claimR ⟨sh, 0, 1, 2, gids N k⟩ la n).1.getD 1 0), .int .i64 0, .slice so shown.length scap], .int .i64 (claimR ⟨sh, 0, 1, 2, gids N k⟩ la n).2.1, .int .i64 (claimR ⟨sh, 0, 1, 2, gids N k⟩ la n).2.2]) ∧ ∃ c', Stp (fun _ => False) c c' w w' := by
  have hwn : 1 ≤ n → wrap64 (4611686018427387904 - n) = 4611686018427387904 - n := fun h1 => IntWalk.wrap64_in _ (by constructor <;> omega)
  have herr := p.err (n := n)
  by_cases hr : refWrong (2 ^ sh) (la.getD 0 0) n = 0
  · rw [hr] at herr
    have h1 : ¬ (n < 1 ∨ 2 ^ sh < n) := fun h1 => by rw [if_pos h1] at herr; cases herr
    rw [if_neg h1] at herr
    have hz := nextErr_zero herr.symm
    have hp := p.pw
    have hm := p.ok.max
    have w1 : wrap64 (la.getD 0 0 + n) = la.getD 0 0 + n := IntWalk.wrap64_in _ (by constructor <;> omega)
    have w2 : wrap64 (la.getD 0 0 + n - 2 ^ sh) = la.getD 0 0 + n - 2 ^ sh := IntWalk.wrap64_in _ (by clear w1; constructor <;> omega)
    by_cases h2 : la.getD 0 0 + n - 2 ^ sh ≤ la.getD 1 0 ∧ la.getD 1 0 ≤ la.getD 0 0
    · have e : claimR ⟨sh, 0, 1, 2, gids N k⟩ la n = (la.set 0 (la.getD 0 0 + n), la.getD 0 0 + n, 0) := by
        rw [claimR, if_neg h1, if_neg (fun h => h herr.symm), if_pos h2]
      have e0 : (la.set 0 (la.getD 0 0 + n)).getD 0 0 = la.getD 0 0 + n := by simp [List.getD, show 0 < la.length by clear w1 w2; omega]
      have e1 : (la.set 0 (la.getD 0 0 + n)).getD 1 0 = la.getD 1 0 := by simp [List.getD]
      rw [e]
      simp only [e0, e1]
      exact r10claim_en c w _ _ _ _ _ _ _ _ _ _ _ n h.gr.toIn hwn hr w1 w2 (decide_eq_true h2)
    · obtain ⟨le, hle⟩ : ∃ le, (la.drop N).foldl min (la.getD 0 0) = le := ⟨_, rfl⟩
      by_cases h3 : le < la.getD 0 0 + n - 2 ^ sh
      · have e : claimR ⟨sh, 0, 1, 2, gids N k⟩ la n = (la, 0, 10) := by
          rw [claimR, if_neg h1, if_neg (fun h => h herr.symm), if_neg h2, gids_vals p.len, if_pos (by rw [hle]; exact h3)]
        rw [e]
        exact r10claim_full c w _ _ _ _ _ _ _ _ _ _ _ n h.gr.toIn hwn hr w1 w2 (decide_eq_false h2) hle (decide_eq_true h3)
      · have e : claimR ⟨sh, 0, 1, 2, gids N k⟩ la n = ((la.set 1 le).set 0 (la.getD 0 0 + n), la.getD 0 0 + n, 0) := by
          rw [claimR, if_neg h1, if_neg (fun h => h herr.symm), if_neg h2, gids_vals p.len, if_neg (by rw [hle]; exact h3), hle]
        have e0 : ((la.set 1 le).set 0 (la.getD 0 0 + n)).getD 0 0 = la.getD 0 0 + n := by simp [List.getD, show 0 < la.length by clear w1 w2; omega]
        have e1 : ((la.set 1 le).set 0 (la.getD 0 0 + n)).getD 1 0 = le := by simp [List.getD, show 1 < la.length by clear w1 w2; omega]
        rw [e]
        simp only [e0, e1]
        exact r10claim_room c w _ _ _ _ _ _ _ _ _ _ _ n h.gr.toIn hwn hr w1 w2 (decide_eq_false h2) hle (decide_eq_false h3)
  · have e := claimR_err (S := ⟨sh, 0, 1, 2, gids N k⟩) herr.symm hr
    rw [e]
    exact r10claim_wrong c w _ _ _ _ _ _ _ _ _ _ _ n h.gr.toIn hwn hr
theorem MB.rremain (h : MB x9 (2 ^ sh) (la.getD 0 0) (la.getD 1 0) (la.drop N) il shown k ki io icap go gcap so scap c w) (p : POK sh N la k shown) {d : Int} (hd : roomOf (2 ^ sh) (la.getD 0 0) ((la.drop N).foldl min (la.getD 0 0)) = d) :
    Calls Tryd.prog 57 #[.agg #[.int .i64 (2 ^ sh), .int .i64 (la.getD 0 0), .int .i64 (la.getD 0 0), .slice go k gcap, .int .i64 (la.getD 1 0), .int .i64 0]] w fun e w' =>
      e = .returned (.int .i64 d) ∧ ∃ c', Stp (fun _ => False) c c' w w' :=
  r09remain_any c w _ _ _ _ _ _ _ _ h.gr.toIn rfl (p.w rfl).1 (p.w rfl).2 (p.room rfl hd)
theorem MB.rpub_ok (h : MB x9 (2 ^ sh) (la.getD 0 0) (la.getD 1 0) (la.drop N) il shown k ki io icap go gcap so scap c w) (p : POK sh N la k shown) (hn : shown.length ≤ 10000) (lo hi : Int) (h1 : 0 ≤ lo) (h2 : lo ≤ hi) (h3 : hi ≤ la.getD 0 0) (h4 : hi - lo < 2 ^ sh) :
    Calls Tryd.prog 58 #[.agg #[.int .i64 (2 ^ sh), .int .i64 (la.getD 0 0), .int .i64 (la.getD 0 0), .slice go k gcap, .int .i64 (la.getD 1 0), .int .i64 0, .slice so shown.length scap], .int .i64 lo, .int .i64 hi] w fun e w' =>
      ∃ so' scap', e = .returned (.tuple #[.agg #[.int .i64 (2 ^ sh), .int .i64 (la.getD 0 0), .int .i64 (la.getD 0 0), .slice go k gcap, .int .i64 (la.getD 1 0), .int .i64 0, .slice so' (shown ++ runOf lo (hi - lo + 1).toNat).length scap'], .int .i64 0]) ∧ ∃ c', Stp (· = 12) c c' w w' ∧ In c' 12 w' 1 so' (shown ++ runOf lo (hi - lo + 1).toNat).length scap' ((shown ++ runOf lo (hi - lo + 1).toNat).map (Value.int .i64)) := by
  refine (r10pub_ok c w _ _ _ _ _ _ _ _ _ _ _ lo hi h.sr 12 (by decide) hn h1 h2 h3 h4 p.cu.2 p.pw.2).mono ?_
  rintro e w' ⟨so', scap', rfl, c', t, r⟩
  have el : (shown ++ runOf lo (hi - lo + 1).toNat).length = shown.length + (hi - lo + 1).toNat := by simp [runOf]
  rw [el]
  exact ⟨so', scap', rfl, c', t, r.toIn⟩
end

section
variable {w0 : World} {p q bp gp sh N k : Nat} {la shown : List Int} {c : Nat → Nat} {w : World}
theorem LAt.publish (h : LAt w0 p q bp gp sh la (gids N k) c w) (o : POK sh N la k shown) (lo hi : Int) (h1 : 0 ≤ lo) (h2 : lo ≤ hi) (h3 : hi ≤ la.getD 0 0) (h4 : hi - lo < 2 ^ sh) :
    Calls Tryd.prog 26 #[.pointer (some ⟨p, 0, none⟩), .int .i64 lo, .int .i64 hi] w fun e w' => e = .returned .nilIface ∧ ∃ c', Stp (· = 2) c c' w w' ∧ LAt w0 p q bp gp sh (showAll la 2 sh lo (hi - lo + 1).toNat) (gids N k) c' w' := by
  refine (mpublish_ok h.ar h.sq o.ok.sq.cu rfl lo hi (by have := o.len; have := o.hN; simp only; omega) h1 h2 h3 h4 o.cu.2).mono ?_
  rintro e w' ⟨rfl, c', t, a, s⟩
  exact ⟨rfl, c', t, h.st.trans (t.up (by decide)), a, s⟩
theorem LAt.publish_bad (h : LAt w0 p q bp gp sh la (gids N k) c w) (o : POK sh N la k shown) (lo hi : Int) (hb : lo < 0 ∨ hi < lo ∨ la.getD 0 0 < hi ∨ 2 ^ sh ≤ hi - lo) :
    Calls Tryd.prog 26 #[.pointer (some ⟨p, 0, none⟩), .int .i64 lo, .int .i64 hi] w fun e w' => ∃ ev, e = .returned ev ∧ ∃ c', Stp (· = 2) c c' w w' ∧ LAt w0 p q bp gp sh la (gids N k) c' w' ∧ ErrAt c' w' ev 1 := by
  by_cases h1 : lo < 0 ∨ hi < lo ∨ la.getD 0 0 < hi
  · refine (mpublish_bad h.ar h.sq o.ok.sq.cu rfl lo hi h1).mono ?_
    rintro e w' ⟨ev, rfl, c', t, a, s, he⟩
    exact ⟨ev, rfl, c', t, ⟨h.st.trans (t.up (by decide)), a, s⟩, he⟩
  · refine (mpublish_wide h.ar h.sq o.ok.sq.cu rfl lo hi (by omega) (by omega) (by simp only; omega) (by rcases hb with h | h | h | h; omega; omega; omega; exact h) o.cu.2).mono ?_
    rintro e w' ⟨ev, rfl, c', t, a, s, he⟩
    exact ⟨ev, rfl, c', t, ⟨h.st.trans (t.up (by decide)), a, s⟩, he⟩
end
theorem POK.claim_drop {sh N k : Nat} {la shown : List Int} (h : POK sh N la k shown) (n : Int) : (claimR ⟨sh, 0, 1, 2, gids N k⟩ la n).1.drop N = la.drop N := by
  have h3 := h.n3
  unfold claimR
  repeat' split
  all_goals first | rfl | (simp only; rw [List.drop_set, if_pos (by omega), List.drop_set, if_pos (by omega)]) | (simp only; rw [List.drop_set, if_pos (by omega)])

section
variable {x9 : Nat} {sl cl sn : Int} {gl il shown : List Int} {kg ki : Nat} {io : Option Addr} {icap : Nat} {go : Option Addr} {gcap : Nat} {so : Option Addr} {scap : Nat} {c c' : Nat → Nat} {w w' : World}
/-- The document's list of what is shown is another one. -/
theorem MB.pub (h : MB x9 sl cl sn gl il shown kg ki io icap go gcap so scap c w) (t : Stp (· = 12) c c' w w') {shown' : List Int} {so' : Option Addr} {scap' : Nat} (hs : In c' 12 w' 1 so' shown'.length scap' (shown'.map (Value.int .i64))) :
    MB x9 sl cl sn gl il shown' kg ki io icap go gcap so' scap' c' (((((((w'.setCell ⟨x9, 0, none⟩ (.int .i64 sl)).setCell ⟨x9, 1, none⟩ (.int .i64 cl)).setCell ⟨x9, 2, none⟩ (.int .i64 cl)).setCell ⟨x9, 3, none⟩ (.slice go kg gcap)).setCell ⟨x9, 4, none⟩ (.int .i64 sn)).setCell ⟨x9, 5, none⟩ (.int .i64 0)).setCell ⟨x9, 6, none⟩ (.slice so' shown'.length scap')) ∧
    Stp (· = 9) c' c' w' (((((((w'.setCell ⟨x9, 0, none⟩ (.int .i64 sl)).setCell ⟨x9, 1, none⟩ (.int .i64 cl)).setCell ⟨x9, 2, none⟩ (.int .i64 cl)).setCell ⟨x9, 3, none⟩ (.slice go kg gcap)).setCell ⟨x9, 4, none⟩ (.int .i64 sn)).setCell ⟨x9, 5, none⟩ (.int .i64 0)).setCell ⟨x9, 6, none⟩ (.slice so' shown'.length scap')) := by
  have hm := h.mb.stp t (by decide)
  have hz := hm.1
  have t9 := (((((((Stp.refl (· = 9) c' w').setCell (p := ⟨x9, 0, none⟩) (.int .i64 sl) hz).setCell (p := ⟨x9, 1, none⟩) (.int .i64 cl) hz).setCell (p := ⟨x9, 2, none⟩) (.int .i64 cl) hz).setCell (p := ⟨x9, 3, none⟩) (.slice go kg gcap) hz).setCell (p := ⟨x9, 4, none⟩) (.int .i64 sn) hz).setCell (p := ⟨x9, 5, none⟩) (.int .i64 0) hz).setCell (p := ⟨x9, 6, none⟩) (.slice so' shown'.length scap') hz
  exact ⟨⟨((((((hm.set 0 (.int .i64 sl)).set 1 (.int .i64 cl)).set 2 (.int .i64 cl)).set 3 (.slice go kg gcap)).set 4 (.int .i64 sn)).set 5 (.int .i64 0)).set 6 (.slice so' shown'.length scap'), (h.gr.stp t (by decide)).stp t9 (by decide), (h.ir.stp t (by decide)).stp t9 (by decide), hs.stp t9 (by decide)⟩, t9⟩
end
theorem pub_decs {sl cl lo hi : Int} (hb : lo < 0 ∨ hi < lo ∨ cl < hi ∨ sl ≤ hi - lo) (hc : cl ≤ 4611686018427387904) : decide (lo < 0) = true ∨ (decide (lo < 0) = false ∧ decide (hi < lo) = true) ∨ (decide (lo < 0) = false ∧ decide (hi < lo) = false ∧ decide (cl < hi) = true) ∨ (decide (lo < 0) = false ∧ decide (hi < lo) = false ∧ decide (cl < hi) = false ∧ wrap64 (hi - lo) = hi - lo ∧ decide (sl ≤ hi - lo) = true) := by
  by_cases h1 : lo < 0
  · exact .inl (by simpa using h1)
  · by_cases h2 : hi < lo
    · exact .inr (.inl ⟨by simpa using h1, by simpa using h2⟩)
    · by_cases h3 : cl < hi
      · exact .inr (.inr (.inl ⟨by simpa using h1, by simpa using h2, by simpa using h3⟩))
      · refine .inr (.inr (.inr ⟨by simpa using h1, by simpa using h2, by simpa using h3, pubs_sub (by omega) (by omega) (by omega), ?_⟩))
        have : sl ≤ hi - lo := by omega
        simpa using this
end Go.Proofs.YtoifknfmamcimaaDoor

/- One who holds back is raised, in the document's numbers. No condition beyond each lemma's own. -/
namespace Go.Proofs.YtoifknfmamcimaaDoor
open Go.RowKit

section
variable {x9 : Nat} {sl cl sn : Int} {gl il shown : List Int} {kg ki : Nat} {io : Option Addr} {icap : Nat} {go : Option Addr} {gcap : Nat} {so : Option Addr} {scap : Nat} {c : Nat → Nat} {w : World}
theorem MB.gcell (h : MB x9 sl cl sn gl il shown kg ki io icap go gcap so scap c w) {i : Nat} (hi : i < gl.length) : ∃ ga : Addr, go = some ga ∧ w.cell? (ga.add i) = some (.int .i64 (gl.getD i 0)) ∧ w.frozen? (ga.add i) = false ∧ (ga.add i).block < w.heap.size := by
  obtain ⟨a, h1, h2, h3, h4, h5, h6⟩ := h.gr.cell (j := i) (v := .int .i64 (gl.getD i 0)) (by simp [List.getD, hi])
  exact ⟨a, h1, h3, h4, World.block_lt_of_cell? _ _ h3⟩
theorem MB.icell (h : MB x9 sl cl sn gl il shown kg ki io icap go gcap so scap c w) {i : Nat} (hi : i < il.length) : ∃ ia : Addr, io = some ia ∧ w.cell? (ia.add i) = some (.int .i64 (il.getD i 0)) := by
  obtain ⟨a, h1, h2, h3, -⟩ := h.ir.cell (j := i) (v := .int .i64 (il.getD i 0)) (by simp [List.getD, hi])
  exact ⟨a, h1, h3⟩
theorem MB.put_gate {ga : Addr} (h : MB x9 sl cl sn gl il shown kg ki io icap (some ga) gcap so scap c w) {i : Nat} (hi : i < gl.length) (v : Int) :
    MB x9 sl cl sn (gl.set i v) il shown kg ki io icap (some ga) gcap so scap c (w.setCell (ga.add i) (.int .i64 v)) ∧ Stp (· = 10) c c w (w.setCell (ga.add i) (.int .i64 v)) := by
  obtain ⟨a, h1, h2, h3, h4, h5, h6⟩ := h.gr.cell (j := i) (v := .int .i64 (gl.getD i 0)) (by simp [List.getD, hi])
  cases h1
  have t : Stp (· = 10) c c w (w.setCell (ga.add i) (.int .i64 v)) := (Stp.refl (· = 10) c w).setCell (p := ga.add i) _ (by rw [h5]; exact h6)
  have hr := h.gr.set i (.int .i64 v) (by simpa using hi)
  rw [← List.map_set, ← h5] at hr
  exact ⟨⟨h.mb.stp t (by decide), hr, h.ir.stp t (by decide), h.sr.stp t (by decide)⟩, t⟩
end
theorem hold_pick {v : Int} {n : Nat} (h : 0 ≤ v) (hn : 0 < n) : ∃ id : Nat, id < n ∧ v.tmod (n : Int) = (id : Int) := by
  obtain ⟨u, rfl⟩ := Int.eq_ofNat_of_zero_le h
  exact ⟨u % n, Nat.mod_lt _ hn, by rw [← Int.ofNat_tmod]⟩
theorem hold_seven {v : Int} (h : 0 ≤ v) : ∃ d : Nat, d < 7 ∧ v.tmod 7 = (d : Int) := by
  obtain ⟨d, h1, h2⟩ := hold_pick (n := 7) h (by decide)
  exact ⟨d, h1, h2⟩
theorem POK.hold_w {sh N k : Nat} {la shown : List Int} (h : POK sh N la k shown) {i d : Nat} (hi : i < k) (hd : d < 7) : wrap64 ((la.drop N).getD i 0 + (d : Int)) = (la.drop N).getD i 0 + (d : Int) ∧ (la.drop N).getD i 0 ≤ la.getD 0 0 := by
  have hdl : i < (la.drop N).length := by rw [h.dl]; exact hi
  have hg := h.gl ((la.drop N).getD i 0) (by rw [List.getD, List.getElem?_eq_getElem hdl]; exact List.getElem_mem _)
  have := h.cu
  exact ⟨IntWalk.wrap64_in _ (by constructor <;> omega), hg.2.1⟩
theorem POK.hold_eq {sh N k : Nat} {la shown : List Int} (h : POK sh N la k shown) {i : Nat} (v : Int) : (la.set (N + i) v).getD 0 0 = la.getD 0 0 ∧ (la.set (N + i) v).getD 1 0 = la.getD 1 0 ∧ (la.set (N + i) v).drop N = (la.drop N).set i v := by
  have h3 := h.n3
  exact ⟨by simp [List.getD, List.getElem?_set_ne (show N + i ≠ 0 by omega)], by simp [List.getD, List.getElem?_set_ne (show N + i ≠ 1 by omega)], h.drop_hold v⟩
section
variable {w0 : World} {p q bp gp sh N k cn id : Nat} {lb shown : List Int} {x9 : Nat} {sl cl sn : Int} {gl : List Int} {icap gcap scap : Nat} {ia ga : Addr} {so : Option Addr} {c : Nat → Nat} {w : World} {y : Int}
theorem MB.hcells (h : MB x9 sl cl sn gl (gids N k) shown k k (some ia) icap (some ga) gcap so scap c w) (hi : id < k) (hl : gl.length = k) (hcn : cn = N + id) (hy : gl.getD id 0 = y) :
    w.cell? (ia.add id) = some (.int .i64 (cn : Int)) ∧ w.cell? ⟨x9, 3, none⟩ = some (.slice (some ga) k gcap) ∧ w.cell? (ga.add id) = some (.int .i64 y) := by
  obtain ⟨a, h1, h2, -, -⟩ := h.gcell (i := id) (by rw [hl]; exact hi)
  obtain ⟨b, h3, h4⟩ := h.icell (i := id) (by rw [gids_len]; exact hi)
  cases h1
  cases h3
  rw [gids_get hi, ← hcn] at h4
  rw [hy] at h2
  exact ⟨h4, h.xs.1.2.2.2.1, h2⟩
theorem hold_store (hR : LAt w0 p q bp gp sh lb (gids N k) c w) (hM : MB x9 sl cl sn gl (gids N k) shown k k (some ia) icap (some ga) gcap so scap c w) (hi : id < k) (hl : gl.length = k) (hcn : cn = N + id) (hlt : cn < lb.length) (hy : gl.getD id 0 = y) :
    Calls Tryd.prog 49 #[.pointer (some ⟨q, 0, none⟩), .int .i64 cn, .int .i64 y] w fun e w' => e = .returned .nilIface ∧ ∃ c', Hid (LAt w0 p q bp gp sh (lb.set cn y) (gids N k) c' w' ∧ MB x9 sl cl sn gl (gids N k) shown k k (some ia) icap (some ga) gcap so scap c' w') ∧
      (w'.cell? (ia.add id) = some (.int .i64 (cn : Int)) ∧ w'.cell? ⟨x9, 3, none⟩ = some (.slice (some ga) k gcap) ∧ w'.cell? (ga.add id) = some (.int .i64 y)) := by
  refine (hR.store cn y hlt).mono ?_
  rintro e w' ⟨rfl, c', t, r⟩
  have hM' := hM.stp t (by decide) (by decide) (by decide) (by decide)
  exact ⟨rfl, c', Lib.hid ⟨r, hM'⟩, hM'.hcells hi hl hcn hy⟩
theorem hold_end (hP : POK sh N lb k shown) (hi : id < k) (hcn : cn = N + id) (h0 : (lb.drop N).getD id 0 ≤ y) (h1 : y ≤ lb.getD 0 0)
    (hR : LAt w0 p q bp gp sh (lb.set cn y) (gids N k) c w ∧ MB x9 (2 ^ sh) (lb.getD 0 0) (lb.getD 1 0) ((lb.drop N).set id y) (gids N k) shown k k (some ia) icap (some ga) gcap so scap c w) :
    ∃ lc, Hid (POK sh N lc k shown) ∧ Hid (LAt w0 p q bp gp sh lc (gids N k) c w) ∧ Hid (MB x9 (2 ^ sh) (lc.getD 0 0) (lc.getD 1 0) (lc.drop N) (gids N k) shown k k (some ia) icap (some ga) gcap so scap c w) := by
  subst hcn
  obtain ⟨e0, e1, e2⟩ := hP.hold_eq (i := id) y
  exact ⟨_, Lib.hid (hP.hold hi h0 h1), Lib.hid hR.1, Lib.hid (by rw [e0, e1, e2]; exact hR.2)⟩
theorem hold_gate {g' : Option Addr} (hM : MB x9 sl cl sn gl (gids N k) shown k k (some ia) icap (some ga) gcap so scap c w) (hR : LAt w0 p q bp gp sh lb (gids N k) c w) (hi : id < gl.length) (v : Int) (_e : g' = some ga) :
    Hid (LAt w0 p q bp gp sh lb (gids N k) c (w.setCell (ga.add id) (.int .i64 v)).drew ∧ MB x9 sl cl sn (gl.set id v) (gids N k) shown k k (some ia) icap (some ga) gcap so scap c (w.setCell (ga.add id) (.int .i64 v)).drew) := by
  obtain ⟨m, t⟩ := hM.put_gate hi v
  exact Lib.hid ⟨hR.stp9 (Stp.mono t.drew (fun _ h => by omega)), m.stpF (Stp.refl (fun _ => False) _ _).drew⟩
end
theorem getD_set {l : List Int} {i : Nat} {v : Int} (h : i < l.length) : (l.set i v).getD i 0 = v := by simp [List.getD, h]
end Go.Proofs.YtoifknfmamcimaaDoor

/- Two appends in a region that draws its order, each onto a row of its own, of one cell a piece; a block beside them. No condition beyond each lemma's own. -/
namespace Go.Proofs.YtoifknfmamcimaaDoor
open Go.RowKit

/-- What a part of the region has come to: not begun, its new array laid, appended. -/
def R0 (k : Nat) (e : TypeId) (m : Nat) (ao : Option Addr) (n cap : Nat) (xs : List Value) : (Nat → Nat) → World → Prop := fun c w => Row c k w e m ao n cap xs
def R1 (k : Nat) (e : TypeId) (m : Nat) (ao : Option Addr) (n cap : Nat) (xs : List Value) (b : Nat) (news : List Value) : (Nat → Nat) → World → Prop := fun c w => Row c k w e m ao n cap xs ∧ ∃ t, Blk c 15 w b news t
def Kp (k : Nat) (P : (Nat → Nat) → World → Prop) : Prop := ∀ (J : Nat → Prop) (c c' : Nat → Nat) (w w' : World), ¬ J k → ¬ J 15 → Stp J c c' w w' → P c w → P c' w'
theorem R0.kp (k : Nat) (e : TypeId) (m : Nat) (ao : Option Addr) (n cap : Nat) (xs : List Value) : Kp k (R0 k e m ao n cap xs) := fun _ _ _ _ _ h _ t r => Row.stp r t h
theorem R1.kp (k : Nat) (e : TypeId) (m : Nat) (ao : Option Addr) (n cap : Nat) (xs : List Value) (b : Nat) (news : List Value) : Kp k (R1 k e m ao n cap xs b news) := fun _ _ _ _ _ h h' t r => ⟨r.1.stp t h, r.2.elim fun ty hb => ⟨ty, hb.stp t h'⟩⟩

structure G3 (c0 : Nat → Nat) (w0 : World) (ka kb : Nat) (A B : (Nat → Nat) → World → Prop) (x9 : Nat) (L : List Value) (ty : TypeId) (w : World) : Prop where
  ka9 : ka ≠ 9
  kb9 : kb ≠ 9
  kab : ka ≠ kb
  kal : 9 ≤ ka ∧ ka ≠ 15
  kbl : 9 ≤ kb ∧ kb ≠ 15
  pa : Kp ka A
  pb : Kp kb B
  ex : ∃ c, Stp (fun j => j = 9 ∨ j = ka ∨ j = kb) c0 c w0 w ∧ A c w ∧ B c w ∧ Blk c 9 w x9 L ty

section
variable {P : Program} {c0 : Nat → Nat} {w0 : World} {ka kb : Nat} {A B : (Nat → Nat) → World → Prop} {x9 : Nat} {L : List Value} {ty : TypeId} {w : World}
theorem G3.swap (h : G3 c0 w0 ka kb A B x9 L ty w) : G3 c0 w0 kb ka B A x9 L ty w := by
  obtain ⟨c, h1, h2, h3, h4⟩ := h.ex
  exact ⟨h.kb9, h.ka9, Ne.symm h.kab, h.kbl, h.kal, h.pb, h.pa, c, h1.mono (fun _ hj => by omega), h3, h2, h4⟩
theorem G3.drew (h : G3 c0 w0 ka kb A B x9 L ty w) : G3 c0 w0 ka kb A B x9 L ty w.drew := by
  obtain ⟨c, h1, h2, h3, h4⟩ := h.ex
  have t : Stp (fun _ => False) c c w w.drew := (Stp.refl _ _ _).drew
  exact ⟨h.ka9, h.kb9, h.kab, h.kal, h.kbl, h.pa, h.pb, c, h1.drew, h.pa _ _ _ _ _ id id t h2, h.pb _ _ _ _ _ id id t h3, h4.stp t id⟩
/-- The first part's new array is laid. -/
theorem G3.b1 {e : TypeId} {m : Nat} {ao : Option Addr} {n cap : Nat} {xs : List Value} (h : G3 c0 w0 ka kb (R0 ka e m ao n cap xs) B x9 L ty w) {b : Nat} {news : Array Value} {t : TypeId} (hb : b = w.heap.size) :
    G3 c0 w0 ka kb (R1 ka e m ao n cap xs b news.toList) B x9 L ty (w.alloc (.cells news t)) := by
  obtain ⟨c, h1, h2, h3, h4⟩ := h.ex
  subst hb
  have t' := (Stp.refl (fun _ => False) c w).alloc (.cells news t) 15
  have hn : Blk (paint c w.heap.size 15) 15 (w.alloc (.cells news t)) w.heap.size news.toList t := by
    have := Blk.new c 15 w news.toList t
    rwa [Array.toArray_toList] at this
  exact ⟨h.ka9, h.kb9, h.kab, h.kal, h.kbl, R1.kp _ _ _ _ _ _ _ _ _, h.pb, _, h1.alloc _ 15, ⟨Row.stp h2 t' id, t, hn⟩, h.pb _ _ _ _ _ id id t' h3, h4.stp t' id⟩
theorem G3.b2 {e : TypeId} {m : Nat} {ao : Option Addr} {n cap : Nat} {xs : List Value} (h : G3 c0 w0 ka kb A (R0 kb e m ao n cap xs) x9 L ty w) {b : Nat} {news : Array Value} {t : TypeId} (hb : b = w.heap.size) :
    G3 c0 w0 ka kb A (R1 kb e m ao n cap xs b news.toList) x9 L ty (w.alloc (.cells news t)) := (h.swap.b1 hb).swap
/-- A cell of the block is stored to. -/
theorem G3.st (h : G3 c0 w0 ka kb A B x9 L ty w) {i : Nat} {v : Value} : G3 c0 w0 ka kb A B x9 (L.set i v) ty (w.setCell ⟨x9, i, none⟩ v) := by
  obtain ⟨c, h1, h2, h3, h4⟩ := h.ex
  have t : Stp (· = 9) c c w (w.setCell ⟨x9, i, none⟩ v) := (Stp.refl (· = 9) c w).setCell (p := ⟨x9, i, none⟩) v h4.1
  exact ⟨h.ka9, h.kb9, h.kab, h.kal, h.kbl, h.pa, h.pb, c, h1.trans (t.mono fun _ h => .inl h), h.pa _ _ _ _ _ (fun h' => h.ka9 h') (by decide) t h2, h.pb _ _ _ _ _ (fun h' => h.kb9 h') (by decide) t h3, h4.set i v⟩
theorem G3.m {v0 v1 v2 v3 v4 v5 v6 : Value} (h : G3 c0 w0 ka kb A B x9 [v0, v1, v2, v3, v4, v5, v6] ty w) : w.cell? ⟨x9, 1, none⟩ = some v1 ∧ w.cell? ⟨x9, 3, none⟩ = some v3 ∧ w.frozen? ⟨x9, 3, none⟩ = false ∧ x9 < w.heap.size := by
  obtain ⟨c, h1, h2, h3, h4⟩ := h.ex
  exact ⟨by simpa using h4.cell 1, by simpa using h4.cell 3, h4.free 3, h4.lt⟩

theorem stepG {ops : Array Oper} {o : Oper} {a : Act} {K : Act → World → Prop} {Q : Exit → Act → World → Prop} {E : Prop} (hg : o.guard = none) (s x : Operand) (t : TypeId)
    (hop : o.op = Op.call { callee := Callee.builtin Builtin.append, args := #[s, x], argTypes := #[t, t] })
    (e : TypeId) (z : Value) (size bytes : Nat) (ht : P.underlying t = some (.slice e)) (hinfo : (P.info? e).map (fun i => (i.zero, i.size, i.bytes)) = some (some z, size, bytes)) (hzs : z.cells.size = size)
    {ao : Option Addr} {n cap : Nat} {xs : List Value} {b m : Nat} {news : List Value} (h : G3 c0 w0 ka kb (R1 ka e size ao n cap xs b news) B x9 L ty w)
    (hs : a.eval s = .slice ao n cap) (hx : a.eval x = .slice (some ⟨b, 0, none⟩) m m) (hm : news.length = m * size) (h1 : ∀ u ∈ news, u.oneCell' = true)
    (h63 : n + m ≤ maxLen) (hbytes : (n + m) * bytes ≤ 140737488355328)
    (hK : ∀ ao' cap' w', Hid (G3 c0 w0 ka kb (R0 ka e size ao' (n + m) cap' (xs ++ news)) B x9 L ty w') → K (a.put o.dst (.slice ao' (n + m) cap')) w') :
    if Region.wanted o (yielded ops a.tmps) = true then Oper.wp P o a w K Q else E := by
  obtain ⟨c, h1', ⟨h2, t2, hb⟩, h3, h4⟩ := h.ex
  have hsrc : Src w size (.slice (some ⟨b, 0, none⟩) m m) m news := (Row.blk (size := size) (n := m) hb hm (by omega)).src
  refine step_row hg s x t hop c ka e z size bytes ht hinfo hzs ao n cap xs hs h2 _ m news hx hsrc h1 h63 hbytes ?_
  intro ao' cap' w' hr hst _
  refine hK ao' cap' w' (Lib.hid ⟨h.ka9, h.kb9, h.kab, h.kal, h.kbl, R0.kp _ _ _ _ _ _ _, h.pb, _, h1'.trans (hst.mono fun _ hj => .inr (.inl hj)), hr, h.pb _ _ _ _ _ (fun hj => h.kab hj.symm) (fun hj => h.kal.2 hj.symm) hst h3, h4.stp hst (fun hj => h.ka9 hj.symm)⟩)
end

section
variable {w0 : World} {p q bp gp sh N k cn : Nat} {lb shown : List Int} {x9 : Nat} {sl cl sn z0 z1 : Int} {gl il : List Int} {kg ki : Nat} {io go so : Option Addr} {icap gcap scap : Nat} {c : Nat → Nat} {w w8 : World}
theorem MB.g3 (h : MB x9 sl cl sn gl il shown kg ki io icap go gcap so scap c w) :
    G3 c w 11 10 (R0 11 3 1 io ki icap (il.map (Value.int .i64))) (R0 10 2 1 go kg gcap (gl.map (Value.int .i64))) x9 [.int .i64 sl, .int .i64 cl, .int .i64 cl, .slice go kg gcap, .int .i64 sn, .int .i64 0, .slice so shown.length scap] 67 w :=
  ⟨by decide, by decide, by decide, by decide, by decide, R0.kp _ _ _ _ _ _ _, R0.kp _ _ _ _ _ _ _, c, Stp.refl _ _ _, h.ir, h.gr, h.mb⟩
theorem POK.more_eq (h : POK sh N lb k shown) (v : Int) : (lb ++ [v]).getD 0 0 = lb.getD 0 0 ∧ (lb ++ [v]).getD 1 0 = lb.getD 1 0 ∧ gids N k ++ [(lb.length : Int)] = gids N (k + 1) := by
  have h3 := h.n3
  have hl := h.len
  have hc : ∀ j, j < lb.length → (lb ++ [v]).getD j 0 = lb.getD j 0 := fun j hj => by simp [List.getD, List.getElem?_append_left hj]
  exact ⟨hc 0 (by omega), hc 1 (by omega), by rw [gids_succ, hl]⟩
theorem more_end (hP : POK sh N lb k shown) (hk : k < 20) (hz0 : lb.getD 0 0 = z0) (hz1 : lb.getD 1 0 = z1) (hcn : cn = lb.length)
    (hR : LAt w0 p q bp gp sh (lb ++ [z0]) (gids N k ++ [(cn : Int)]) c w8) (hs : In c 12 w8 1 so shown.length scap (shown.map (Value.int .i64)))
    {io' : Option Addr} {icap' : Nat} {go' : Option Addr} {gcap' : Nat}
    (hG : G3 c w8 11 10 (R0 11 3 1 io' (k + 1) icap' ((gids N k).map (Value.int .i64) ++ [.int .i64 (cn : Int)])) (R0 10 2 1 go' (k + 1) gcap' ((lb.drop N).map (Value.int .i64) ++ [.int .i64 z0])) x9 [.int .i64 (2 ^ sh), .int .i64 z0, .int .i64 z0, .slice go' (k + 1) gcap', .int .i64 z1, .int .i64 0, .slice so shown.length scap] 67 w) :
    ∃ c' lc, Hid (POK sh N lc (k + 1) shown) ∧ Hid (LAt w0 p q bp gp sh lc (gids N (k + 1)) c' w) ∧ Hid (MB x9 (2 ^ sh) (lc.getD 0 0) (lc.getD 1 0) (lc.drop N) (gids N (k + 1)) shown (k + 1) (k + 1) io' icap' go' gcap' so scap c' w) := by
  obtain ⟨c', t, hi, hg, hm⟩ := hG.ex
  obtain ⟨e0, e1, e2⟩ := hP.more_eq z0
  have hd := hP.drop_more z0
  subst hcn
  rw [e2] at hR
  refine ⟨c', lb ++ [z0], Lib.hid (by rw [← hz0]; exact hP.more hk), Lib.hid (hR.stp9 (t.mono fun _ hj => by omega)), Lib.hid ?_⟩
  rw [e0, e1, hd, hz0, hz1]
  exact ⟨hm, by simpa [R0] using hg, by rw [← e2]; simpa [R0] using hi, hs.stp t (by decide)⟩
end
end Go.Proofs.YtoifknfmamcimaaDoor

/- A region that draws its order and ends in a store: what is loaded ahead of that store may be taken first, as long as each operation but that store leaves the loaded cells as they were. No condition beyond each law's own. -/
namespace Go.Proofs.YtoifknfmamcimaaDoor
open Go.RowKit

section
variable {P : Program} {ops : Array Oper} {Q : Exit → Act → World → Prop} {md : Region.Mode} {S : World → Prop} {f : Nat}

/-- In whatever order the rest comes up; S behind each operation but f. -/
def wpTill (P : Program) (md : Region.Mode) (ops : Array Oper) (Q : Exit → Act → World → Prop) (S : World → Prop) (f : Nat) : Nat → Array Bool → Act → World → Prop
  | 0, d, a, w => Region.ready md ops d = [] ∧ Q .normal a w
  | n + 1, d, a, w => (Region.ready md ops d = [] → Q .normal a w) ∧ ∀ j ∈ Region.ready md ops d, wpOp P ops Q j (fun a' w' => (j ≠ f → S w') ∧ wpTill P md ops Q S f n (d.setIfInBounds j true) a' w') a w

theorem wpTill.any : ∀ (n : Nat) (d : Array Bool) (a : Act) (w : World), wpTill P md ops Q S f n d a w → wpAny P md ops Q n d a w
  | 0, _, _, _, h => h
  | n + 1, _, _, _, h => ⟨h.1, fun j hj => wpOp_mono (fun a' w' g => wpTill.any n _ a' w' g.2) (h.2 j hj)⟩

/-- Whatever has come up, all that it waits for has come up. -/
def waitedB (md : Region.Mode) (ops : Array Oper) (d : Array Bool) : Bool :=
  (List.range ops.size).all fun k => !d.getD k false || ((ops[k]?).map fun o => o.after.all fun e => !Region.binds md e || d.getD e.on false).getD true
def Waited (md : Region.Mode) (ops : Array Oper) (d : Array Bool) : Prop := ∀ k o, ops[k]? = some o → d.getD k false = true → ∀ e ∈ o.after, Region.binds md e = true → d.getD e.on false = true
theorem waited_of {d : Array Bool} (h : waitedB md ops d = true) : Waited md ops d := fun k o ho hk e he hb => by
  have hlt : k < ops.size := (Array.getElem?_eq_some_iff.1 ho).1
  have h1 := (List.all_eq_true.1 h) k (List.mem_range.2 hlt)
  rw [hk, ho] at h1
  simp only [Bool.not_true, Bool.false_or, Option.map_some, Option.getD_some, Array.all_eq_true_iff_forall_mem, Bool.or_eq_true, Bool.not_eq_true'] at h1
  rcases h1 e he with h2 | h2
  · rw [h2] at hb; cases hb
  · exact h2
theorem Waited.set {d : Array Bool} (h : Waited md ops d) {j : Nat} (hj : j ∈ Region.ready md ops d) : Waited md ops (d.setIfInBounds j true) := fun k o ho hk e he hb => by
  by_cases hkj : j = k
  · subst hkj
    obtain ⟨-, o', ho', ha⟩ := mem_ready.1 hj
    rw [ho] at ho'
    cases ho'
    exact getD_set_true (ha e he hb)
  · rw [getD_set_ne false hkj] at hk
    exact getD_set_true (h k o ho hk e he hb)

/-- Each of the list waits for the next one. -/
def pathB (md : Region.Mode) (ops : Array Oper) : Nat → List Nat → Bool
  | _, [] => true
  | k, x :: l => ((ops[k]?).map fun o => o.after.any fun e => Region.binds md e && e.on == x).getD false && pathB md ops x l
theorem path_up {d : Array Bool} (h : Waited md ops d) : ∀ (l : List Nat) (k : Nat), (∀ o, ops[k]? = some o → ∀ e ∈ o.after, Region.binds md e = true → d.getD e.on false = true) → pathB md ops k l = true → ∀ x ∈ l, d.getD x false = true
  | [], _, _, _, x, hx => by cases hx
  | y :: l, k, hk, hp, x, hx => by
    simp only [pathB, Bool.and_eq_true] at hp
    obtain ⟨h1, h2⟩ := hp
    have hy : d.getD y false = true := by
      cases ho : ops[k]? with
      | none => rw [ho] at h1; cases h1
      | some o =>
        rw [ho] at h1
        simp only [Option.map_some, Option.getD_some, Array.any_eq_true', Bool.and_eq_true, beq_iff_eq] at h1
        obtain ⟨e, he, hb, rfl⟩ := h1
        exact hk o ho e he hb
    rcases List.mem_cons.1 hx with rfl | hx
    · exact hy
    · exact path_up h l y (fun o ho => h y o ho hy) h2 x hx

theorem wpTill_first {i : Nat} {oi : Oper} {v : Value} {l : List Nat} (hi : ops[i]? = some oi) (hsel : ∀ (j : Nat) (o : Oper) cs b, ops[j]? = some o → o.op ≠ .select cs b)
    (hQ : ∀ c a w, Q (.panic c) (a.put oi.dst v) w → Q (.panic c) a w) (hp : pathB md ops f l = true) (hl : i ∈ l) :
    ∀ (n : Nat) (d : Array Bool) (a : Act) (w : World), Waited md ops d →
      (∀ j oj, ops[j]? = some oj → j ≠ i → d.getD j true = false → (∀ e ∈ oj.after, Region.binds md e = true → e.on ≠ i) → oi.apart ops oj = true) →
      i ∈ Region.ready md ops d → YieldsIf P ops S oi v a → S w →
      wpTill P md ops Q S f n (d.setIfInBounds i true) (a.put oi.dst v) w → wpTill P md ops Q S f (n + 1) d a w := by
  intro n
  induction n with
  | zero =>
    intro d a w _ _ hr hy hS H
    refine ⟨fun g => (by rw [g] at hr; cases hr), fun j hj => ?_⟩
    by_cases hji : j = i
    · subst hji; exact hy.wpOp hi hS ⟨fun _ => hS, H⟩
    · have g := ready_mono hj hji
      rw [H.1] at g
      cases g
  | succ n ih =>
    intro d a w hw hfree hr hy hS H
    have hun := (mem_ready.1 hr).1
    refine ⟨fun g => (by rw [g] at hr; cases hr), fun j hj => ?_⟩
    by_cases hji : j = i
    · subst hji; exact hy.wpOp hi hS ⟨fun _ => hS, H⟩
    · obtain ⟨hju, oj, hoj, hall⟩ := mem_ready.1 hj
      have hfalse : d.getD i false = true → False := fun g => by
        rcases Nat.lt_or_ge i d.size with h' | h'
        · simp [h'] at g hun; rw [hun] at g; cases g
        · simp [Array.getElem?_eq_none h'] at g
      have hjf : j ≠ f := fun g => by
        subst g
        exact hfalse (path_up hw l j (fun o ho e he hb => by rw [hoj] at ho; cases ho; exact hall e he hb) hp i hl)
      have h1 := H.2 j (ready_mono hj hji)
      have hnot : ∀ e ∈ oj.after, Region.binds md e = true → e.on ≠ i := fun e he hb g => hfalse (g ▸ hall e he hb)
      have h2 := wpOp_putIf hoj (hfree j oj hoj hji hju hnot) (fun cs b => hsel i oi cs b hi) (fun cs b => hsel j oj cs b hoj) hQ hy h1
      have hfree' : ∀ k ok, ops[k]? = some ok → k ≠ i → (d.setIfInBounds j true).getD k true = false →
          (∀ e ∈ ok.after, Region.binds md e = true → e.on ≠ i) → oi.apart ops ok = true := fun k ok hk hki hku hno => by
        refine hfree k ok hk hki ?_ hno
        by_cases hjk : j = k
        · subst hjk; exact hju
        · rw [getD_set_ne true hjk] at hku; exact hku
      refine wpOp_mono (fun a' w' g => ⟨g.2.1, ih (d.setIfInBounds j true) a' w' (hw.set hj) hfree' (ready_mono hr (Ne.symm hji)) g.1 (g.2.1 hjf) ?_⟩) h2
      rw [Array.setIfInBounds_comm _ _ hji]
      exact g.2.2

theorem wpTill_take {i : Nat} {oi : Oper} {v : Value} {l : List Nat} {n : Nat} {d : Array Bool} {a : Act} {w : World} (hi : ops[i]? = some oi)
    (hs : Region.noSelect ops = true) (hf : Region.free md ops d i = true) (hr : (Region.ready md ops d).contains i = true) (hw : waitedB md ops d = true) (hp : pathB md ops f l = true) (hl : l.contains i = true)
    (hQ : ∀ c a w, Q (.panic c) (a.put oi.dst v) w → Q (.panic c) a w) (hy : YieldsIf P ops S oi v a) (hS : S w)
    (h : wpTill P md ops Q S f n (d.setIfInBounds i true) (a.put oi.dst v) w) : wpTill P md ops Q S f (n + 1) d a w :=
  wpTill_first hi (Region.noSelect_spec hs) hQ hp (by simpa using hl) n d a w (waited_of hw) (Region.free_spec hi hf) (by simpa using hr) hy hS h

/-- Whichever of them comes up. -/
def AllTill (P : Program) (md : Region.Mode) (ops : Array Oper) (Q : Exit → Act → World → Prop) (S : World → Prop) (f n : Nat) (d : Array Bool) (a : Act) (w : World) (rs : List Nat) : Prop :=
  ∀ j ∈ rs, wpOp P ops Q j (fun a' w' => (j ≠ f → S w') ∧ wpTill P md ops Q S f n (d.setIfInBounds j true) a' w') a w
theorem AllTill.nil {n : Nat} {d : Array Bool} {a : Act} {w : World} : AllTill P md ops Q S f n d a w [] := fun _ h => by cases h
theorem AllTill.cons {n : Nat} {d : Array Bool} {a : Act} {w : World} {i : Nat} {o : Oper} {rs : List Nat} (ho : ops[i]? = some o)
    (h : ∀ K' : Act → World → Prop, Hid (∀ a w, (i ≠ f → S w) → wpTill P md ops Q S f n (d.setIfInBounds i true) a w → K' a w) → if Region.wanted o (yielded ops a.tmps) = true then Oper.wp P o a w K' Q else K' (a.put o.dst undef) w)
    (hs : AllTill P md ops Q S f n d a w rs) : AllTill P md ops Q S f n d a w (i :: rs) := fun j hj => by
  rcases List.mem_cons.1 hj with rfl | hj
  · exact wpOp_step ho (fun K' hK => h K' (Lib.hid fun a w h1 h2 => hK a w ⟨h1, h2⟩))
  · exact hs j hj
theorem wpTill_ready {rs : List Nat} {n : Nat} {d : Array Bool} {a : Act} {w : World} (hr : Region.ready md ops d = rs) (hne : rs ≠ [])
    (h : AllTill P md ops Q S f n d a w rs) : wpTill P md ops Q S f (n + 1) d a w := ⟨fun h0 => absurd (hr ▸ h0) hne, hr ▸ h⟩
theorem wpTill_done {d : Array Bool} {a : Act} {w : World} (hr : Region.ready md ops d = []) (h : Q .normal a w) : ∀ n, wpTill P md ops Q S f n d a w
  | 0 => ⟨hr, h⟩
  | _ + 1 => ⟨fun _ => h, by rw [hr]; simp⟩
theorem wp_region_till {id : Nat} {a : Act} {w : World} (hm : P.follows .mixedOrders = true) (h : wpTill P .any ops Q S f ops.size (Array.replicate ops.size false) a w.drew) : (Code.region id ops true).wp P Q a w :=
  wp_region_any hm (wpTill.any _ _ _ _ h)
end

/-- The operation of a place, as it is written. -/
def nthO : List Oper → Nat → Option Oper
  | [], _ => none
  | x :: _, 0 => some x
  | _ :: l, n + 1 => nthO l n
theorem nthO_eq : ∀ (l : List Oper) (i : Nat), l.toArray[i]? = nthO l i
  | [], _ => by simp [nthO]
  | x :: l, 0 => by simp [nthO]
  | x :: l, n + 1 => by
    have := nthO_eq l n
    simpa [nthO] using this
section
variable {P : Program} {L : List Oper} {Q : Exit → Act → World → Prop} {md : Region.Mode} {S : World → Prop} {f : Nat}
theorem wpTill_takeL {i : Nat} {oi : Oper} {v : Value} {l : List Nat} {n : Nat} {d : Array Bool} {a : Act} {w : World} (hi : nthO L i = some oi)
    (hs : Region.noSelect L.toArray = true) (hf : Region.free md L.toArray d i = true) (hr : (Region.ready md L.toArray d).contains i = true) (hw : waitedB md L.toArray d = true) (hp : pathB md L.toArray f l = true) (hl : l.contains i = true)
    (hQ : ∀ c a w, Q (.panic c) (a.put oi.dst v) w → Q (.panic c) a w) (hy : YieldsIf P L.toArray S oi v a) (hS : S w)
    (h : wpTill P md L.toArray Q S f n (d.setIfInBounds i true) (a.put oi.dst v) w) : wpTill P md L.toArray Q S f (n + 1) d a w :=
  wpTill_take ((nthO_eq L i).trans hi) hs hf hr hw hp hl hQ hy hS h
theorem AllTill.consL {n : Nat} {d : Array Bool} {a : Act} {w : World} {i : Nat} {o : Oper} {rs : List Nat} (ho : nthO L i = some o)
    (h : ∀ K' : Act → World → Prop, Hid (∀ a w, (i ≠ f → S w) → wpTill P md L.toArray Q S f n (d.setIfInBounds i true) a w → K' a w) → if Region.wanted o (yielded L.toArray a.tmps) = true then Oper.wp P o a w K' Q else K' (a.put o.dst undef) w)
    (hs : AllTill P md L.toArray Q S f n d a w rs) : AllTill P md L.toArray Q S f n d a w (i :: rs) := AllTill.cons ((nthO_eq L i).trans ho) h hs
end
end Go.Proofs.YtoifknfmamcimaaDoor
