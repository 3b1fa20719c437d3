/- Contracts that the closing theorem wants (RgA). No condition beyond each law's own. -/
import Derived.Test.YtiphdedfbafhkaaGreatDoorZSnX
import Derived.Test.YtiphdedfbafhkaaGreatDoorZMulY
import Derived.Test.YtiphdedfbafhkaaGreatDoorZRoomX
import Derived.OrdersHeld
import Derived.RegionTactic
import Derived.Test.YtiphdedfbafhkaaGreatDoorZBB
import Derived.Deep.CutBlock
import Derived.Deep.RegionWith
import Derived.Deep.RegionLaw
import Derived.Deep.RegionHeld3
import Derived.Great.BuildSlice
namespace Go.Proofs.YtiphdedfbafhkaaGreatDoor
open Go.RowKit

theorem cells15 {c : Nat → Nat} {k : Nat} {w : World} {b : Nat} {t : TypeId} {v0 v1 v2 v3 v4 v5 v6 v7 v8 v9 v10 v11 v12 v13 v14 : Value} (h : Blk c k w b [v0, v1, v2, v3, v4, v5, v6, v7, v8, v9, v10, v11, v12, v13, v14] t) :
    w.cell? ⟨b, 0, none⟩ = some v0 ∧ w.cell? ⟨b, 1, none⟩ = some v1 ∧ w.cell? ⟨b, 2, none⟩ = some v2 ∧ w.cell? ⟨b, 3, none⟩ = some v3 ∧ w.cell? ⟨b, 4, none⟩ = some v4 ∧ w.cell? ⟨b, 5, none⟩ = some v5 ∧ w.cell? ⟨b, 6, none⟩ = some v6 ∧ w.cell? ⟨b, 7, none⟩ = some v7 ∧ w.cell? ⟨b, 8, none⟩ = some v8 ∧ w.cell? ⟨b, 9, none⟩ = some v9 ∧ w.cell? ⟨b, 10, none⟩ = some v10 ∧ w.cell? ⟨b, 11, none⟩ = some v11 ∧ w.cell? ⟨b, 12, none⟩ = some v12 ∧ w.cell? ⟨b, 13, none⟩ = some v13 ∧ w.cell? ⟨b, 14, none⟩ = some v14 :=
  ⟨by simpa using h.cell 0, by simpa using h.cell 1, by simpa using h.cell 2, by simpa using h.cell 3, by simpa using h.cell 4, by simpa using h.cell 5, by simpa using h.cell 6, by simpa using h.cell 7, by simpa using h.cell 8, by simpa using h.cell 9, by simpa using h.cell 10, by simpa using h.cell 11, by simpa using h.cell 12, by simpa using h.cell 13, by simpa using h.cell 14⟩
theorem frees15 {c : Nat → Nat} {k : Nat} {w : World} {b : Nat} {t : TypeId} {cs : List Value} (h : Blk c k w b cs t) :
    w.frozen? ⟨b, 0, none⟩ = false ∧ w.frozen? ⟨b, 1, none⟩ = false ∧ w.frozen? ⟨b, 2, none⟩ = false ∧ w.frozen? ⟨b, 3, none⟩ = false ∧ w.frozen? ⟨b, 4, none⟩ = false ∧ w.frozen? ⟨b, 5, none⟩ = false ∧ w.frozen? ⟨b, 6, none⟩ = false ∧ w.frozen? ⟨b, 7, none⟩ = false ∧ w.frozen? ⟨b, 8, none⟩ = false ∧ w.frozen? ⟨b, 9, none⟩ = false ∧ w.frozen? ⟨b, 10, none⟩ = false ∧ w.frozen? ⟨b, 11, none⟩ = false ∧ w.frozen? ⟨b, 12, none⟩ = false ∧ w.frozen? ⟨b, 13, none⟩ = false ∧ w.frozen? ⟨b, 14, none⟩ = false :=
  ⟨h.free 0, h.free 1, h.free 2, h.free 3, h.free 4, h.free 5, h.free 6, h.free 7, h.free 8, h.free 9, h.free 10, h.free 11, h.free 12, h.free 13, h.free 14⟩

section
variable {c c' : Nat → Nat} {k K : Nat} {w w' : World} {p q gp sh cid : Nat} {cl ca sc : Int} {ids : List Int} {la : List Int}
set_option maxRecDepth 100000 in
theorem rcdone_s (c : Nat → Nat) (p : Nat) (hi : Int) (ao : Option Addr) (m cap : Nat) (most : Int) (seen done full : Bool) (w : World) :
    Calls Tryz.prog 39 #[.agg #[.bool false, .pointer (some ⟨p, 0, none⟩), .int .i64 hi, .slice ao m cap, .int .i64 most, .bool seen, .bool done, .bool full, .pointer none, .int .i64 0, .int .i64 0, .int .i64 0, .int .i64 0, .slice none 0 0, .int .i64 0]] w fun e w' => e = .returned (.bool done) ∧ ∃ c', Stp (fun _ => False) c c' w w' := by
  obtain ⟨c1, -, S1⟩ := ((Stp.refl (fun _ => False) c w).alloc (.cells #[.bool false, .pointer (some ⟨p, 0, none⟩), .int .i64 hi, .slice ao m cap, .int .i64 most, .bool seen, .bool done, .bool full, .pointer none, .int .i64 0, .int .i64 0, .int .i64 0, .int .i64 0, .slice none 0 0, .int .i64 0] 38) 0).name
  go_enter Tryz.func39, Tryz.ntmps39
  go_wp2_with fail
  refine (sndone_any c1 _ hi ao m cap most seen done full _).mono ?_
  rintro e w2 ⟨rfl, c2, t2⟩
  go_wp2
  go_ret
  exact ⟨by first | rfl | simp, c2, (S1.out.trans t2)⟩

set_option maxRecDepth 100000 in
theorem rcdone_m (c : Nat → Nat) (p : Nat) (n stage claimed hi : Int) (ao : Option Addr) (m cap : Nat) (most : Int) (w : World) {b : Bool} (hb : decide (5 ≤ stage) = b) :
    Calls Tryz.prog 39 #[.agg #[.bool true, .pointer none, .int .i64 0, .slice none 0 0, .int .i64 0, .bool false, .bool false, .bool false, .pointer (some ⟨p, 0, none⟩), .int .i64 n, .int .i64 stage, .int .i64 claimed, .int .i64 hi, .slice ao m cap, .int .i64 most]] w fun e w' => e = .returned (.bool b) ∧ ∃ c', Stp (fun _ => False) c c' w w' := by
  obtain ⟨c1, -, S1⟩ := ((Stp.refl (fun _ => False) c w).alloc (.cells #[.bool true, .pointer none, .int .i64 0, .slice none 0 0, .int .i64 0, .bool false, .bool false, .bool false, .pointer (some ⟨p, 0, none⟩), .int .i64 n, .int .i64 stage, .int .i64 claimed, .int .i64 hi, .slice ao m cap, .int .i64 most] 38) 0).name
  go_enter Tryz.func39, Tryz.ntmps39
  go_wp2_with fail
  refine (tdone_any n stage claimed hi ao m cap most c1 _ _ hb).mono ?_
  rintro e w2 ⟨rfl, c2, t2⟩
  go_wp2
  go_ret
  exact ⟨by first | rfl | simp, c2, (S1.out.trans t2)⟩

set_option maxRecDepth 100000 in
theorem rcfull_s (c : Nat → Nat) (p : Nat) (hi : Int) (ao : Option Addr) (m cap : Nat) (most : Int) (seen done : Bool) (w : World) :
    Calls Tryz.prog 41 #[.agg #[.bool false, .pointer (some ⟨p, 0, none⟩), .int .i64 hi, .slice ao m cap, .int .i64 most, .bool seen, .bool done, .bool false, .pointer none, .int .i64 0, .int .i64 0, .int .i64 0, .int .i64 0, .slice none 0 0, .int .i64 0]] w fun e w' => e = .returned (.bool false) ∧ ∃ c', Stp (fun _ => False) c c' w w' := by
  obtain ⟨c1, hc1, S1⟩ := ((Stp.refl (fun _ => False) c w).alloc (.cells #[.bool false, .pointer (some ⟨p, 0, none⟩), .int .i64 hi, .slice ao m cap, .int .i64 most, .bool seen, .bool done, .bool false, .pointer none, .int .i64 0, .int .i64 0, .int .i64 0, .int .i64 0, .slice none 0 0, .int .i64 0] 38) 0).name
  have B1 := Lib.hid (show Blk c1 0 (w.alloc (.cells #[.bool false, .pointer (some ⟨p, 0, none⟩), .int .i64 hi, .slice ao m cap, .int .i64 most, .bool seen, .bool done, .bool false, .pointer none, .int .i64 0, .int .i64 0, .int .i64 0, .int .i64 0, .slice none 0 0, .int .i64 0] 38)) w.heap.size [.bool false, .pointer (some ⟨p, 0, none⟩), .int .i64 hi, .slice ao m cap, .int .i64 most, .bool seen, .bool done, .bool false, .pointer none, .int .i64 0, .int .i64 0, .int .i64 0, .int .i64 0, .slice none 0 0, .int .i64 0] 38 by rw [hc1.out]; exact Blk.new c 0 w _ _)
  clear hc1
  go_enter Tryz.func41, Tryz.ntmps41
  go_wp2_with fail
  refine (snfull_any c1 _ hi ao m cap most seen done false _).mono ?_
  rintro e w2 ⟨rfl, c2, t2⟩
  obtain ⟨y0, y1, y2, y3, y4, y5, y6, y7, y8, y9, y10, y11, y12, y13, y14⟩ := cells15 (B1.out.stp t2 id)
  go_wp2_with fail
  refine (tfull_any none 0 0 0 0 none 0 0 0 c2 _ (b := false) rfl).mono ?_
  rintro e w3 ⟨rfl, c3, t3⟩
  go_wp2
  go_ret
  exact ⟨by first | rfl | simp, c3, ((S1.out.trans t2).trans t3)⟩

set_option maxRecDepth 100000 in
theorem rcfull_s1 (c : Nat → Nat) (p : Nat) (hi : Int) (ao : Option Addr) (m cap : Nat) (most : Int) (seen done : Bool) (w : World) :
    Calls Tryz.prog 41 #[.agg #[.bool false, .pointer (some ⟨p, 0, none⟩), .int .i64 hi, .slice ao m cap, .int .i64 most, .bool seen, .bool done, .bool true, .pointer none, .int .i64 0, .int .i64 0, .int .i64 0, .int .i64 0, .slice none 0 0, .int .i64 0]] w fun e w' => e = .returned (.bool true) ∧ ∃ c', Stp (fun _ => False) c c' w w' := by
  obtain ⟨c1, -, S1⟩ := ((Stp.refl (fun _ => False) c w).alloc (.cells #[.bool false, .pointer (some ⟨p, 0, none⟩), .int .i64 hi, .slice ao m cap, .int .i64 most, .bool seen, .bool done, .bool true, .pointer none, .int .i64 0, .int .i64 0, .int .i64 0, .int .i64 0, .slice none 0 0, .int .i64 0] 38) 0).name
  go_enter Tryz.func41, Tryz.ntmps41
  go_wp2_with fail
  refine (snfull_any c1 _ hi ao m cap most seen done true _).mono ?_
  rintro e w2 ⟨rfl, c2, t2⟩
  go_wp2
  go_ret
  exact ⟨by first | rfl | simp, c2, (S1.out.trans t2)⟩

set_option maxRecDepth 100000 in
theorem rcfull_m (c : Nat → Nat) (p : Nat) (n stage claimed hi : Int) (ao : Option Addr) (m cap : Nat) (most : Int) (w : World) {b : Bool} (hb : (stage == 6) = b) :
    Calls Tryz.prog 41 #[.agg #[.bool true, .pointer none, .int .i64 0, .slice none 0 0, .int .i64 0, .bool false, .bool false, .bool false, .pointer (some ⟨p, 0, none⟩), .int .i64 n, .int .i64 stage, .int .i64 claimed, .int .i64 hi, .slice ao m cap, .int .i64 most]] w fun e w' => e = .returned (.bool b) ∧ ∃ c', Stp (fun _ => False) c c' w w' := by
  obtain ⟨c1, hc1, S1⟩ := ((Stp.refl (fun _ => False) c w).alloc (.cells #[.bool true, .pointer none, .int .i64 0, .slice none 0 0, .int .i64 0, .bool false, .bool false, .bool false, .pointer (some ⟨p, 0, none⟩), .int .i64 n, .int .i64 stage, .int .i64 claimed, .int .i64 hi, .slice ao m cap, .int .i64 most] 38) 0).name
  have B1 := Lib.hid (show Blk c1 0 (w.alloc (.cells #[.bool true, .pointer none, .int .i64 0, .slice none 0 0, .int .i64 0, .bool false, .bool false, .bool false, .pointer (some ⟨p, 0, none⟩), .int .i64 n, .int .i64 stage, .int .i64 claimed, .int .i64 hi, .slice ao m cap, .int .i64 most] 38)) w.heap.size [.bool true, .pointer none, .int .i64 0, .slice none 0 0, .int .i64 0, .bool false, .bool false, .bool false, .pointer (some ⟨p, 0, none⟩), .int .i64 n, .int .i64 stage, .int .i64 claimed, .int .i64 hi, .slice ao m cap, .int .i64 most] 38 by rw [hc1.out]; exact Blk.new c 0 w _ _)
  clear hc1
  go_enter Tryz.func41, Tryz.ntmps41
  go_wp2_with fail
  refine (snfull_any c1 none 0 none 0 0 0 false false false _).mono ?_
  rintro e w2 ⟨rfl, c2, t2⟩
  obtain ⟨y0, y1, y2, y3, y4, y5, y6, y7, y8, y9, y10, y11, y12, y13, y14⟩ := cells15 (B1.out.stp t2 id)
  go_wp2_with fail
  refine (tfull_any (some ⟨p, 0, none⟩) n stage claimed hi ao m cap most c2 _ hb).mono ?_
  rintro e w3 ⟨rfl, c3, t3⟩
  go_wp2
  go_ret
  exact ⟨by first | rfl | simp, c3, ((S1.out.trans t2).trans t3)⟩

set_option maxRecDepth 100000 in
theorem rclast_s (c : Nat → Nat) (p : Nat) (hi : Int) (ao : Option Addr) (m cap : Nat) (most : Int) (seen done full : Bool) (w : World) {x : Int} (hx : (if done = true ∧ full = false then hi else -1) = x) :
    Calls Tryz.prog 133 #[.agg #[.bool false, .pointer (some ⟨p, 0, none⟩), .int .i64 hi, .slice ao m cap, .int .i64 most, .bool seen, .bool done, .bool full, .pointer none, .int .i64 0, .int .i64 0, .int .i64 0, .int .i64 0, .slice none 0 0, .int .i64 0]] w fun e w' => e = .returned (.int .i64 x) ∧ ∃ c', Stp (fun _ => False) c c' w w' := by
  obtain ⟨c1, -, S1⟩ := ((Stp.refl (fun _ => False) c w).alloc (.cells #[.bool false, .pointer (some ⟨p, 0, none⟩), .int .i64 hi, .slice ao m cap, .int .i64 most, .bool seen, .bool done, .bool full, .pointer none, .int .i64 0, .int .i64 0, .int .i64 0, .int .i64 0, .slice none 0 0, .int .i64 0] 38) 0).name
  go_enter Tryz.func133, Tryz.ntmps133
  go_wp2_with fail
  refine (hx ▸ snlast_any c1 _ hi ao m cap most seen done full _).mono ?_
  rintro e w2 ⟨rfl, c2, t2⟩
  go_wp2
  go_ret
  exact ⟨by first | rfl | simp, c2, (S1.out.trans t2)⟩

set_option maxRecDepth 100000 in
theorem rclast_m (c : Nat → Nat) (p : Nat) (n stage claimed hi : Int) (ao : Option Addr) (m cap : Nat) (most : Int) (w : World) {x : Int} (hx : (if stage = 5 then hi else -1) = x) :
    Calls Tryz.prog 133 #[.agg #[.bool true, .pointer none, .int .i64 0, .slice none 0 0, .int .i64 0, .bool false, .bool false, .bool false, .pointer (some ⟨p, 0, none⟩), .int .i64 n, .int .i64 stage, .int .i64 claimed, .int .i64 hi, .slice ao m cap, .int .i64 most]] w fun e w' => e = .returned (.int .i64 x) ∧ ∃ c', Stp (fun _ => False) c c' w w' := by
  obtain ⟨c1, -, S1⟩ := ((Stp.refl (fun _ => False) c w).alloc (.cells #[.bool true, .pointer none, .int .i64 0, .slice none 0 0, .int .i64 0, .bool false, .bool false, .bool false, .pointer (some ⟨p, 0, none⟩), .int .i64 n, .int .i64 stage, .int .i64 claimed, .int .i64 hi, .slice ao m cap, .int .i64 most] 38) 0).name
  go_enter Tryz.func133, Tryz.ntmps133
  go_wp2_with fail
  refine (hx ▸ tlast_any (some ⟨p, 0, none⟩) n stage claimed hi ao m cap most c1 _).mono ?_
  rintro e w2 ⟨rfl, c2, t2⟩
  go_wp2
  go_ret
  exact ⟨by first | rfl | simp, c2, (S1.out.trans t2)⟩

end
end Go.Proofs.YtiphdedfbafhkaaGreatDoor

namespace Go.Proofs.YtiphdedfbafhkaaGreatDoor
open Go.RowKit

/-- A ring, as it is: its kind, its size, where its parts lie, which cells are its own, how far a single one came, who holds back, who waits. -/
structure RD where
  many : Bool
  sh : Nat
  g : Nat
  sl : Value
  sp : Nat
  bp : Nat
  gp : Nat
  cur : Nat
  cac : Nat
  first : Nat
  cl : Int
  ca : Int
  sc : Int
  ids : List Int
  wl : List Int
  wo : Option Addr
  wcap : Nat
def RD.kind (d : RD) : Int := if d.many = true then 1 else 0
def RD.one (d : RD) : Value := if d.many = true then .pointer none else .pointer (some ⟨d.sp, 0, none⟩)
def RD.two (d : RD) : Value := if d.many = true then .pointer (some ⟨d.sp, 0, none⟩) else .pointer none
/-- The colours of a ring's own parts begin here. -/
def kb (K i : Nat) : Nat := K + 20 + 10 * i
/-- A ring of a room. -/
structure RI (c : Nat → Nat) (K k : Nat) (w : World) (q : Nat) (d : RD) : Prop where
  gb : Blk c k w d.g [.int .i64 d.kind, d.sl, d.one, d.two, .slice d.wo d.wl.length d.wcap] 107
  wr : Row c (k + 1) w 3 1 d.wo d.wl.length d.wcap (d.wl.map (Value.int .i64))
  sq : d.many = true → SeqIs c (K + 11) w d.sp q d.bp d.gp ⟨d.sh, d.cur, d.cac, d.first, d.ids⟩
  sn : d.many = false → SnAt c (k + 2) w d.sp q d.gp d.sh d.cur d.cl d.ca d.sc d.ids
/-- A room with its rings. -/
structure RMs (c : Nat → Nat) (K : Nat) (w : World) (r ar ck tb : Nat) (la : List Int) (now : Int) (tl : List Tm) (l : List One) (D : List RD) (ao : Option Addr) (cap : Nat) : Prop where
  rm : RM c K w r ar ck tb (.slice ao D.length cap) la now tl l
  rr : Row c (K + 6) w 105 1 ao D.length cap (D.map fun d => .pointer (some ⟨d.g, 0, none⟩))
  rg : ∀ (i : Nat) (d : RD), D[i]? = some d → RI c K (kb K i) w ar d

section
variable {c c' : Nat → Nat} {K k : Nat} {w w' : World} {r ar ck tb q : Nat} {la la' : List Int} {now : Int} {tl : List Tm} {l : List One} {D : List RD} {ao : Option Addr} {cap i : Nat} {d : RD}
theorem RI.stp {J : Nat → Prop} (h : RI c K k w q d) (t : Stp J c c' w w') (h0 : ¬ J k) (h1 : ¬ J (k + 1)) (h2 : ¬ J (k + 2)) (h3 : ¬ J (k + 3)) (h4 : ¬ J (K + 11)) (h5 : ¬ J (K + 12)) (h6 : ¬ J (K + 13)) : RI c' K k w' q d :=
  ⟨h.gb.stp t h0, h.wr.stp t h1, fun e => (h.sq e).stp t h4 h5 h6, fun e => (h.sn e).stp t h2 h3⟩
theorem RMs.stpF (h : RMs c K w r ar ck tb la now tl l D ao cap) (t : Stp (fun _ => False) c c' w w') : RMs c' K w' r ar ck tb la now tl l D ao cap :=
  ⟨h.rm.stpF t, h.rr.stp t id, fun i d hd => (h.rg i d hd).stp t id id id id id id id⟩
theorem RMs.stp0 (h : RMs c K w r ar ck tb la now tl l D ao cap) (hK : 2 ≤ K) (t : Stp (· = 0) c c' w w') : RMs c' K w' r ar ck tb la now tl l D ao cap :=
  ⟨h.rm.stp t (by omega) (by omega) (by omega) (by omega) (by omega), h.rr.stp t (by omega), fun i d hd => (h.rg i d hd).stp t (by unfold kb; omega) (by unfold kb; omega) (by unfold kb; omega) (by unfold kb; omega) (by omega) (by omega) (by omega)⟩
theorem RMs.arena (h : RMs c K w r ar ck tb la now tl l D ao cap) (t : Stp (· = K + 10) c c' w w') (a : ArenaS c' (K + 10) w' ar la') : RMs c' K w' r ar ck tb la' now tl l D ao cap :=
  ⟨⟨h.rm.rb.stp t (by omega), a, h.rm.ca.stp t (by omega) (by omega), h.rm.ta.stp t (by omega)⟩, h.rr.stp t (by omega), fun i d hd => (h.rg i d hd).stp t (by unfold kb; omega) (by unfold kb; omega) (by unfold kb; omega) (by unfold kb; omega) (by omega) (by omega) (by omega)⟩
theorem RMs.sn {cl' ca' sc' : Int} (h : RMs c K w r ar ck tb la now tl l D ao cap) (hd : D[i]? = some d) (hm : d.many = false) (t : Stp (fun j => j = kb K i + 2 ∨ j = K + 10) c c' w w') (a : ArenaS c' (K + 10) w' ar la') (s : SnAt c' (kb K i + 2) w' d.sp ar d.gp d.sh d.cur cl' ca' sc' d.ids) :
    RMs c' K w' r ar ck tb la' now tl l (D.set i { d with cl := cl', ca := ca', sc := sc' }) ao cap := by
  have hi : i < D.length := (List.getElem?_eq_some_iff.1 hd).1
  have em : (D.set i { d with cl := cl', ca := ca', sc := sc' }).map (fun d => Value.pointer (some ⟨d.g, 0, none⟩)) = D.map fun d => Value.pointer (some ⟨d.g, 0, none⟩) := by
    rw [List.map_set]
    apply List.ext_getElem?
    intro j
    by_cases hj : i = j
    · subst hj
      rw [List.getElem?_set_self (by rw [List.length_map]; exact hi), List.getElem?_map, hd]
      rfl
    · rw [List.getElem?_set_ne hj]
  refine ⟨⟨?_, a, h.rm.ca.stp t (by unfold kb; omega) (by unfold kb; omega), h.rm.ta.stp t (by unfold kb; omega)⟩, ?_, fun j y hy => ?_⟩
  · rw [List.length_set]; exact h.rm.rb.stp t (by unfold kb; omega)
  · rw [em, List.length_set]; exact h.rr.stp t (by unfold kb; omega)
  · by_cases hj : i = j
    · subst hj
      rw [List.getElem?_set_self hi] at hy
      cases hy
      have h0 := h.rg i d hd
      exact ⟨h0.gb.stp t (by unfold kb; omega), h0.wr.stp t (by unfold kb; omega), fun e => absurd e (by simp [hm]), fun _ => s⟩
    · rw [List.getElem?_set_ne hj] at hy
      exact (h.rg j y hy).stp t (by unfold kb; omega) (by unfold kb; omega) (by unfold kb; omega) (by unfold kb; omega) (by unfold kb; omega) (by unfold kb; omega) (by unfold kb; omega)

set_option maxRecDepth 100000 in
theorem rat_c (h : RMs c K w r ar ck tb la now tl l D ao cap) (hd : D[i]? = some d) :
    Calls Tryz.prog 55 #[.pointer (some ⟨r, 0, none⟩), .int .i64 (i : Int)] w fun e w' => e = .returned (.tuple #[.pointer (some ⟨d.g, 0, none⟩), .nilIface]) ∧ w = w' := by
  have hi : i < D.length := (List.getElem?_eq_some_iff.1 hd).1
  have c3 := h.rm.rb.cell 3
  simp at c3
  obtain ⟨a, ha, hs, hc, -, -, -⟩ := h.rr.cell (j := i) (v := .pointer (some ⟨d.g, 0, none⟩)) (by simp [hd])
  subst ha
  have i0 : (0 : Int) ≤ (i : Int) := by omega
  have i1 : (i : Int) < (D.length : Int) := by omega
  have d1 : decide ((i : Int) < 0) = false := by simp
  have d2 : decide ((D.length : Int) ≤ (i : Int)) = false := by simp; omega
  clear h hd hs
  go_enter Tryz.func55, Tryz.ntmps55
  go_wp2
  go_ret2
  exact ⟨rfl, rfl⟩

theorem ring_cells {k b : Nat} {t : TypeId} {v0 v1 v2 v3 v4 : Value} (h : Blk c k w b [v0, v1, v2, v3, v4] t) : w.cell? ⟨b, 0, none⟩ = some v0 ∧ w.cell? ⟨b, 1, none⟩ = some v1 ∧ w.cell? ⟨b, 2, none⟩ = some v2 ∧ w.cell? ⟨b, 3, none⟩ = some v3 ∧ w.cell? ⟨b, 4, none⟩ = some v4 ∧ b < w.heap.size :=
  ⟨by simpa using h.cell 0, by simpa using h.cell 1, by simpa using h.cell 2, by simpa using h.cell 3, by simpa using h.cell 4, h.lt⟩
theorem RMs.one (h : RMs c K w r ar ck tb la now tl l D ao cap) (hd : D[i]? = some d) (hm : d.many = false) : w.cell? ⟨d.g, 0, none⟩ = some (.int .i64 0) ∧ w.cell? ⟨d.g, 2, none⟩ = some (.pointer (some ⟨d.sp, 0, none⟩)) ∧ d.g < w.heap.size := by
  obtain ⟨h0, -, h2, -, -, h5⟩ := ring_cells (h.rg i d hd).gb
  unfold RD.kind at h0
  unfold RD.one at h2
  rw [hm] at h0 h2
  exact ⟨h0, h2, h5⟩
theorem RMs.two (h : RMs c K w r ar ck tb la now tl l D ao cap) (hd : D[i]? = some d) (hm : d.many = true) : w.cell? ⟨d.g, 0, none⟩ = some (.int .i64 1) ∧ w.cell? ⟨d.g, 3, none⟩ = some (.pointer (some ⟨d.sp, 0, none⟩)) ∧ d.g < w.heap.size := by
  obtain ⟨h0, -, -, h3, -, h5⟩ := ring_cells (h.rg i d hd).gb
  unfold RD.kind at h0
  unfold RD.two at h3
  rw [hm] at h0 h3
  exact ⟨h0, h3, h5⟩

/-- A claim of a single ring is begun: it is enough what was seen last. -/
theorem rclaim_done (hK : 2 ≤ K) (h : RMs c K w r ar ck tb la now tl l D ao cap) (hd : D[i]? = some d) (hm : d.many = false) (hsh : d.sh < 21) (n : Int) (h1 : 1 ≤ n) (h2 : n ≤ 2 ^ d.sh) (hn : nextErr d.cl n = 0) (hb : -1 ≤ d.cl ∧ d.cl ≤ 4611686018427387904) (hx : d.cl + n - 2 ^ d.sh ≤ d.ca) (hx2 : d.ca ≤ d.cl) :
    Calls Tryz.prog 8 #[.pointer (some ⟨r, 0, none⟩), .int .i64 (i : Int), .int .i64 n] w fun e w' => e = .returned (.tuple #[.agg #[.bool false, .pointer (some ⟨d.sp, 0, none⟩), .int .i64 (d.cl + n), .slice none 0 0, .int .i64 0, .bool false, .bool true, .bool false, .pointer none, .int .i64 0, .int .i64 0, .int .i64 0, .int .i64 0, .slice none 0 0, .int .i64 0], .nilIface]) ∧ ∃ c', Stp (fun j => j = kb K i + 2 ∨ j = K + 10) c c' w w' ∧
      RMs c' K w' r ar ck tb la now tl l (D.set i { d with cl := d.cl + n, ca := d.ca, sc := d.sc }) ao cap := by
  obtain ⟨rb, hrb⟩ : ∃ x, x = w.heap.size := ⟨_, rfl⟩
  have HRB := Lib.hid (show w.heap.size ≤ rb by omega)
  obtain ⟨c1, hc1, t1⟩ := ((Stp.refl (fun _ => False) c w).alloc (.cells #[.bool false, .pointer none, .int .i64 0, .slice none 0 0, .int .i64 0, .bool false, .bool false, .bool false, .pointer none, .int .i64 0, .int .i64 0, .int .i64 0, .int .i64 0, .slice none 0 0, .int .i64 0] 38) 0).name
  have H1 := Lib.hid (h.stpF t1.out)
  have B1 := Lib.hid (show Blk c1 0 (w.alloc (.cells #[.bool false, .pointer none, .int .i64 0, .slice none 0 0, .int .i64 0, .bool false, .bool false, .bool false, .pointer none, .int .i64 0, .int .i64 0, .int .i64 0, .int .i64 0, .slice none 0 0, .int .i64 0] 38)) rb [.bool false, .pointer none, .int .i64 0, .slice none 0 0, .int .i64 0, .bool false, .bool false, .bool false, .pointer none, .int .i64 0, .int .i64 0, .int .i64 0, .int .i64 0, .slice none 0 0, .int .i64 0] 38 by rw [hc1.out, hrb]; exact Blk.new c 0 w _ _)
  have HD := Lib.hid hd
  have HM := Lib.hid hm
  have HS := Lib.hid (sntry_done (by unfold kb; omega) ((H1.out.rg i d hd).sn hm) hsh n h1 h2 hn hb hx hx2)
  obtain ⟨k0, k2, kl⟩ := H1.out.one hd hm
  clear h hd hm hsh h1 h2 hn hb hx hx2 hc1
  go_enter Tryz.func8, Tryz.ntmps8
  go_upto_region 1 with fail
  rw [← hrb]
  generalize w.alloc (.cells #[.bool false, .pointer none, .int .i64 0, .slice none 0 0, .int .i64 0, .bool false, .bool false, .bool false, .pointer none, .int .i64 0, .int .i64 0, .int .i64 0, .int .i64 0, .slice none 0 0, .int .i64 0] 38) = w1 at t1 H1 B1 HS k0 k2 kl ⊢
  clear hrb
  go_wp2_with fail
  refine (rat_c H1.out HD.out).mono ?_
  rintro e w1' ⟨rfl, rfl⟩
  go_wp2_with fail
  refine HS.out.mono ?_
  rintro e w2 ⟨rfl, c2, t2, s2⟩
  have T2 := Lib.hid (show Stp (fun j => j = kb K i + 2 ∨ j = K + 10) c1 c2 _ w2 from t2.mono fun _ h => .inl h)
  have R2 := Lib.hid (H1.out.sn HD.out HM.out T2.out (H1.out.rm.aa.imp fun _ a => a.stp t2 (by unfold kb; omega)) s2)
  have B2 := Lib.hid (B1.out.stp t2 (by unfold kb; omega))
  have S2 := Lib.hid ((Stp.mono t1.out (fun _ h => h.elim)).trans T2.out)
  clear t2 s2 k0 k2 kl HS H1 B1 t1 T2
  obtain ⟨c3, hc3, t3⟩ := ((Stp.refl (fun _ => False) c2 w2).alloc (.cells #[.pointer (some ⟨d.sp, 0, none⟩), .int .i64 (d.cl + n), .slice none 0 0, .int .i64 0, .bool false, .bool true, .bool false] 33) 0).name
  have R3 := Lib.hid (R2.out.stpF t3.out)
  have B3 := Lib.hid (B2.out.stp t3.out id)
  have S3 := Lib.hid (S2.out.trans (Stp.mono t3.out (fun _ h => h.elim)))
  have Y3 := Lib.hid (show Blk c3 0 (w2.alloc (.cells #[.pointer (some ⟨d.sp, 0, none⟩), .int .i64 (d.cl + n), .slice none 0 0, .int .i64 0, .bool false, .bool true, .bool false] 33)) w2.heap.size [.pointer (some ⟨d.sp, 0, none⟩), .int .i64 (d.cl + n), .slice none 0 0, .int .i64 0, .bool false, .bool true, .bool false] 33 by rw [hc3.out]; exact Blk.new c2 0 w2 _ _)
  clear R2 B2 S2 hc3 t3
  obtain ⟨l0, l1, l2, l3, l4, l5, l6⟩ := cells7 Y3.out
  obtain ⟨y0, y1, y2, y3, y4, y5, y6, y7, y8, y9, y10, y11, y12, y13, y14⟩ := cells15 B3.out
  obtain ⟨z0, z1, z2, z3, z4, z5, z6, z7, z8, z9, z10, z11, z12, z13, z14⟩ := frees15 B3.out
  have lb := B3.out.lt
  have TF := Lib.hid ((((((((((((((((Stp.refl (· = 0) c3 (w2.alloc (.cells #[.pointer (some ⟨d.sp, 0, none⟩), .int .i64 (d.cl + n), .slice none 0 0, .int .i64 0, .bool false, .bool true, .bool false] 33))).setCell (p := ⟨rb, 0, none⟩) (.bool false) B3.out.1).setCell (p := ⟨rb, 1, none⟩) (.pointer (some ⟨d.sp, 0, none⟩)) B3.out.1).setCell (p := ⟨rb, 2, none⟩) (.int .i64 (d.cl + n)) B3.out.1).setCell (p := ⟨rb, 3, none⟩) (.slice none 0 0) B3.out.1).setCell (p := ⟨rb, 4, none⟩) (.int .i64 0) B3.out.1).setCell (p := ⟨rb, 5, none⟩) (.bool false) B3.out.1).setCell (p := ⟨rb, 6, none⟩) (.bool true) B3.out.1).setCell (p := ⟨rb, 7, none⟩) (.bool false) B3.out.1).setCell (p := ⟨rb, 8, none⟩) (.pointer none) B3.out.1).setCell (p := ⟨rb, 9, none⟩) (.int .i64 0) B3.out.1).setCell (p := ⟨rb, 10, none⟩) (.int .i64 0) B3.out.1).setCell (p := ⟨rb, 11, none⟩) (.int .i64 0) B3.out.1).setCell (p := ⟨rb, 12, none⟩) (.int .i64 0) B3.out.1).setCell (p := ⟨rb, 13, none⟩) (.slice none 0 0) B3.out.1).setCell (p := ⟨rb, 14, none⟩) (.int .i64 0) B3.out.1)
  have SF := Lib.hid ((((((((((((((((S3.out).setNew (p := ⟨rb, 0, none⟩) (.bool false) HRB.out).setNew (p := ⟨rb, 1, none⟩) (.pointer (some ⟨d.sp, 0, none⟩)) HRB.out).setNew (p := ⟨rb, 2, none⟩) (.int .i64 (d.cl + n)) HRB.out).setNew (p := ⟨rb, 3, none⟩) (.slice none 0 0) HRB.out).setNew (p := ⟨rb, 4, none⟩) (.int .i64 0) HRB.out).setNew (p := ⟨rb, 5, none⟩) (.bool false) HRB.out).setNew (p := ⟨rb, 6, none⟩) (.bool true) HRB.out).setNew (p := ⟨rb, 7, none⟩) (.bool false) HRB.out).setNew (p := ⟨rb, 8, none⟩) (.pointer none) HRB.out).setNew (p := ⟨rb, 9, none⟩) (.int .i64 0) HRB.out).setNew (p := ⟨rb, 10, none⟩) (.int .i64 0) HRB.out).setNew (p := ⟨rb, 11, none⟩) (.int .i64 0) HRB.out).setNew (p := ⟨rb, 12, none⟩) (.int .i64 0) HRB.out).setNew (p := ⟨rb, 13, none⟩) (.slice none 0 0) HRB.out).setNew (p := ⟨rb, 14, none⟩) (.int .i64 0) HRB.out)
  have RF := Lib.hid (R3.out.stp0 hK TF.out)
  clear TF S3 R3 Y3 B3
  go_wp2
  exact bodyPost_ret (v := .tuple #[.agg #[.bool false, .pointer (some ⟨d.sp, 0, none⟩), .int .i64 (d.cl + n), .slice none 0 0, .int .i64 0, .bool false, .bool true, .bool false, .pointer none, .int .i64 0, .int .i64 0, .int .i64 0, .int .i64 0, .slice none 0 0, .int .i64 0], .nilIface]) (by clear SF RF HD HM HRB; simp [results, Tryz.results8, go_sem, *]) rfl ⟨rfl, c3, SF.out, RF.out⟩
end
end Go.Proofs.YtiphdedfbafhkaaGreatDoor

namespace Go.Proofs.YtiphdedfbafhkaaGreatDoor
open Go.RowKit

section
variable {c c' : Nat → Nat} {K k : Nat} {w w' : World} {r ar ck tb q : Nat} {la la' : List Int} {now : Int} {tl : List Tm} {l : List One} {D : List RD} {ao : Option Addr} {cap i : Nat} {d : RD}
set_option maxRecDepth 100000 in
theorem rshow_s (h : RMs c K w r ar ck tb la now tl l D ao cap) (hd : D[i]? = some d) (hm : d.many = false) (hc : d.cur < la.length) (at0 hi : Int) (h0 : at0 ≤ hi) (h1 : la.getD d.cur 0 < hi) (h2 : hi ≤ d.cl) (h3 : -9223372036854775808 ≤ hi ∧ hi ≤ 4611686018427387904) :
    Calls Tryz.prog 9 #[.pointer (some ⟨r, 0, none⟩), .int .i64 (i : Int), .int .i64 at0, .int .i64 hi] w fun e w' => e = .returned (.tuple #[.int .i64 (hi + 1), .nilIface]) ∧ ∃ c', Stp (· = K + 10) c c' w w' ∧ RMs c' K w' r ar ck tb (la.set d.cur hi) now tl l D ao cap := by
  have H := Lib.hid h
  have HD := Lib.hid hd
  have HS := Lib.hid (snpublish_ok ((h.rg i d hd).sn hm) h.rm.aa (by unfold kb; omega) (by unfold kb; omega) hc hi h1 h2)
  obtain ⟨k0, k2, kl⟩ := h.one hd hm
  have v1 : wrap64 (hi + 1) = hi + 1 := IntWalk.wrap64_in _ (by constructor <;> omega)
  have v2 : IntKind.i64.wrap (hi + 1) = hi + 1 := (IntWalk.i64_left _).trans v1
  have g0 : decide (hi < at0) = false := by simp; omega
  clear h hd hm hc h0 h1 h2 h3
  go_enter Tryz.func9, Tryz.ntmps9
  go_wp2_with fail
  refine (rat_c H.out HD.out).mono ?_
  rintro e w1 ⟨rfl, rfl⟩
  go_wp2_with fail
  refine HS.out.mono ?_
  rintro e w2 ⟨rfl, c2, t2, a2, -⟩
  have T2 := Lib.hid t2
  have R2 := Lib.hid (H.out.arena t2 a2)
  clear t2 a2 k0 k2 kl HS
  go_wp2
  go_ret2
  exact ⟨rfl, c2, T2.out, R2.out⟩

set_option maxRecDepth 100000 in
theorem rshow_m (h : RMs c K w r ar ck tb la now tl l D ao cap) (hd : D[i]? = some d) (hm : d.many = true) {v : Int} (hc : d.cur < la.length) (hv : la.getD d.cur 0 = v) (hf : d.first + 2 ^ d.sh ≤ la.length) (at0 hi : Int) (h0 : at0 ≤ hi) (h1 : 0 ≤ at0) (h2 : at0 ≤ v) (h3 : v ≤ 4611686018427387904) :
    Calls Tryz.prog 9 #[.pointer (some ⟨r, 0, none⟩), .int .i64 (i : Int), .int .i64 at0, .int .i64 hi] w fun e w' => e = .returned (.tuple #[.int .i64 (at0 + 1), .nilIface]) ∧ ∃ c', Stp (· = K + 10) c c' w w' ∧ RMs c' K w' r ar ck tb (showAll la d.first d.sh at0 1) now tl l D ao cap := by
  have H := Lib.hid h
  have HD := Lib.hid hd
  have hp : (0 : Int) < 2 ^ d.sh := Int.pow_pos (by decide)
  have HS0 := mpublish_ok h.rm.aa ((h.rg i d hd).sq hm) hc hv at0 at0 hf h1 (Int.le_refl _) h2 (by simp only; omega) h3
  have e1 : (at0 - at0 + 1).toNat = 1 := by omega
  rw [e1] at HS0
  have HS := Lib.hid HS0
  obtain ⟨k0, k3, kl⟩ := h.two hd hm
  have v1 : wrap64 (at0 + 1) = at0 + 1 := IntWalk.wrap64_in _ (by constructor <;> omega)
  have v2 : IntKind.i64.wrap (at0 + 1) = at0 + 1 := (IntWalk.i64_left _).trans v1
  have g0 : decide (hi < at0) = false := by simp; omega
  clear h hd hm hc h0 h1 h2 h3 hv hf hp HS0 e1
  go_enter Tryz.func9, Tryz.ntmps9
  go_wp2_with fail
  refine (rat_c H.out HD.out).mono ?_
  rintro e w1 ⟨rfl, rfl⟩
  go_wp2_with fail
  refine HS.out.mono ?_
  rintro e w2 ⟨rfl, c2, t2, a2, -⟩
  have T2 := Lib.hid t2
  have R2 := Lib.hid (H.out.arena t2 a2)
  clear t2 a2 k0 k3 kl HS
  go_wp2
  go_ret2
  exact ⟨rfl, c2, T2.out, R2.out⟩

set_option maxRecDepth 100000 in
theorem rpub_m (h : RMs c K w r ar ck tb la now tl l D ao cap) (hd : D[i]? = some d) (hm : d.many = true) {v : Int} (hc : d.cur < la.length) (hv : la.getD d.cur 0 = v) (hf : d.first + 2 ^ d.sh ≤ la.length) (lo : Int) (h0 : 0 ≤ lo) (h1 : lo ≤ 4611686018427387904) (h2 : v ≤ 4611686018427387904) (h3 : -9223372036854775808 ≤ v) :
    Calls Tryz.prog 33 #[.pointer (some ⟨r, 0, none⟩), .int .i64 (i : Int), .int .i64 lo] w fun e w' => ∃ x, e = .returned (.tuple #[.int .i64 x, .nilIface]) ∧ HiAt la d.first d.sh lo v x ∧ ∃ c', Stp (· = K + 10) c c' w w' ∧ RMs c' K w' r ar ck tb la now tl l D ao cap := by
  have H := Lib.hid h
  have HD := Lib.hid hd
  have HS := Lib.hid (mhigh_ok h.rm.aa ((h.rg i d hd).sq hm) hc hv lo hf h0 h1 h2 h3)
  obtain ⟨k0, k3, kl⟩ := h.two hd hm
  have g0 : decide (lo < 0) = false := by simp; omega
  have g1 : decide ((4611686018427387904 : Int) < lo) = false := by simp; omega
  clear h hd hm hc h0 h1 h2 h3 hv hf
  go_enter Tryz.func33, Tryz.ntmps33
  go_wp2_with fail
  refine (rat_c H.out HD.out).mono ?_
  rintro e w1 ⟨rfl, rfl⟩
  go_wp2_with fail
  refine HS.out.mono ?_
  rintro e w2 ⟨x, rfl, hx, c2, t2, a2, -⟩
  have HX := Lib.hid hx
  have T2 := Lib.hid t2
  have R2 := Lib.hid (H.out.arena t2 a2)
  clear t2 a2 k0 k3 kl HS hx
  go_wp2
  go_ret2
  exact ⟨x, rfl, HX.out, c2, T2.out, R2.out⟩

set_option maxRecDepth 100000 in
theorem rpub_s (h : RMs c K w r ar ck tb la now tl l D ao cap) (hd : D[i]? = some d) (hm : d.many = false) (hc : d.cur < la.length) (lo : Int) (h0 : 0 ≤ lo) (h1 : lo ≤ 4611686018427387904) (h2 : lo - 1 ≤ la.getD d.cur 0) :
    Calls Tryz.prog 33 #[.pointer (some ⟨r, 0, none⟩), .int .i64 (i : Int), .int .i64 lo] w fun e w' => e = .returned (.tuple #[.int .i64 (la.getD d.cur 0), .nilIface]) ∧ ∃ c', Stp (· = K + 10) c c' w w' ∧ RMs c' K w' r ar ck tb la now tl l D ao cap := by
  have H := Lib.hid h
  have HD := Lib.hid hd
  have HS := Lib.hid (snpublished_c ((h.rg i d hd).sn hm) h.rm.aa (by unfold kb; omega) (by unfold kb; omega) hc)
  obtain ⟨k0, k2, kl⟩ := h.one hd hm
  obtain ⟨v, hv⟩ : ∃ v, la.getD d.cur 0 = v := ⟨_, rfl⟩
  rw [hv] at HS h2 ⊢
  have g0 : decide (lo < 0) = false := by simp; omega
  have g1 : decide ((4611686018427387904 : Int) < lo) = false := by simp; omega
  have v1 : wrap64 (lo - 1) = lo - 1 := IntWalk.wrap64_in _ (by constructor <;> omega)
  have v2 : IntKind.i64.wrap (lo - 1) = lo - 1 := (IntWalk.i64_left _).trans v1
  have hmax : max v (lo - 1) = v := by omega
  have g2 : decide (v < lo - 1) = false := by simp; omega
  clear h hd hm hc h0 h1 hv h2
  go_enter Tryz.func33, Tryz.ntmps33
  go_wp2_with fail
  refine (rat_c H.out HD.out).mono ?_
  rintro e w1 ⟨rfl, rfl⟩
  go_wp2_with fail
  refine HS.out.mono ?_
  rintro e w2 ⟨rfl, c2, t2, a2, -⟩
  have T2 := Lib.hid t2
  have R2 := Lib.hid (H.out.arena t2 a2)
  clear t2 a2 k0 k2 kl HS
  go_wp2
  go_ret2
  exact ⟨rfl, c2, T2.out, R2.out⟩
end
end Go.Proofs.YtiphdedfbafhkaaGreatDoor

namespace Go.Proofs.YtiphdedfbafhkaaGreatDoor
open Go.RowKit

section
variable {c c' : Nat → Nat} {K k : Nat} {w w' : World} {r ar ck tb q : Nat} {la la' : List Int} {now : Int} {tl : List Tm} {l : List One} {D : List RD} {ao tao : Option Addr} {cap tcap i : Nat} {d : RD} {t : Tr}
set_option maxRecDepth 100000 in
set_option maxHeartbeats 4000000 in
theorem rcstep_m (hK : 2 ≤ K) (h : RMs c K w r ar ck tb la now tl l D ao cap) (hd : D[i]? = some d) (hm : d.many = true) (hs : In c (K + 14) w 1 tao t.ids.length tcap (t.ids.map (Value.int .i64))) (hok : SqOK la ⟨d.sh, d.cur, d.cac, d.first, d.ids⟩) (ht : TrOK la t) (hf : t.stage < 5) :
    Calls Tryz.prog 40 #[.agg #[.bool true, .pointer none, .int .i64 0, .slice none 0 0, .int .i64 0, .bool false, .bool false, .bool false, .pointer (some ⟨d.sp, 0, none⟩), .int .i64 t.n, .int .i64 (t.stage : Int), .int .i64 t.claimed, .int .i64 t.hi, .slice tao t.ids.length tcap, .int .i64 t.most]] w fun e w' => ∃ (t' : Tr) (la' : List Int) (er : Int) (tao' : Option Addr) (tcap' : Nat) (ev : Value), Hid (stepT ⟨d.sh, d.cur, d.cac, d.first, d.ids⟩ la t = (la', t', er)) ∧
      e = .returned (.tuple #[.agg #[.bool true, .pointer none, .int .i64 0, .slice none 0 0, .int .i64 0, .bool false, .bool false, .bool false, .pointer (some ⟨d.sp, 0, none⟩), .int .i64 t'.n, .int .i64 (t'.stage : Int), .int .i64 t'.claimed, .int .i64 t'.hi, .slice tao' t'.ids.length tcap', .int .i64 t'.most], ev]) ∧ ∃ c', Stp (· = K + 10) c c' w w' ∧ RMs c' K w' r ar ck tb la' now tl l D ao cap ∧ In c' (K + 14) w' 1 tao' t'.ids.length tcap' (t'.ids.map (Value.int .i64)) ∧
      ((er = 0 ∧ ev = .nilIface) ∨ (er ≠ 0 ∧ ErrAt c' w' ev er)) := by
  obtain ⟨tn, stage, claimed, hi, ids, most⟩ := t
  simp only at hs hf ⊢
  obtain ⟨m, hm0⟩ : ∃ m, ids.length = m := ⟨_, rfl⟩
  obtain ⟨zs, hzs⟩ : ∃ z : Int, (stage : Int) = z := ⟨_, rfl⟩
  obtain ⟨xb, hxb⟩ : ∃ x, w.heap.size = x := ⟨_, rfl⟩
  obtain ⟨rb, hrb⟩ : ∃ x, w.heap.size + 1 = x := ⟨_, rfl⟩
  have HXB := Lib.hid (show w.heap.size ≤ xb by omega)
  have HRB := Lib.hid (show w.heap.size ≤ rb by omega)
  have nxr : ¬ xb = rb := by omega
  have nrx : ¬ rb = xb := by omega
  obtain ⟨c1, hc1, t1⟩ := (((Stp.refl (fun _ => False) c w).alloc (.cells #[.bool true, .pointer none, .int .i64 0, .slice none 0 0, .int .i64 0, .bool false, .bool false, .bool false, .pointer (some ⟨d.sp, 0, none⟩), .int .i64 tn, .int .i64 zs, .int .i64 claimed, .int .i64 hi, .slice tao m tcap, .int .i64 most] 38) 0).alloc (.cells #[.bool false, .pointer none, .int .i64 0, .slice none 0 0, .int .i64 0, .bool false, .bool false, .bool false, .pointer none, .int .i64 0, .int .i64 0, .int .i64 0, .int .i64 0, .slice none 0 0, .int .i64 0] 38) 0).name
  have B1x := Lib.hid (show Blk c1 0 ((w.alloc (.cells #[.bool true, .pointer none, .int .i64 0, .slice none 0 0, .int .i64 0, .bool false, .bool false, .bool false, .pointer (some ⟨d.sp, 0, none⟩), .int .i64 tn, .int .i64 zs, .int .i64 claimed, .int .i64 hi, .slice tao m tcap, .int .i64 most] 38)).alloc (.cells #[.bool false, .pointer none, .int .i64 0, .slice none 0 0, .int .i64 0, .bool false, .bool false, .bool false, .pointer none, .int .i64 0, .int .i64 0, .int .i64 0, .int .i64 0, .slice none 0 0, .int .i64 0] 38)) xb [.bool true, .pointer none, .int .i64 0, .slice none 0 0, .int .i64 0, .bool false, .bool false, .bool false, .pointer (some ⟨d.sp, 0, none⟩), .int .i64 tn, .int .i64 zs, .int .i64 claimed, .int .i64 hi, .slice tao m tcap, .int .i64 most] 38 by rw [hc1.out, ← hxb]; exact (Blk.new c 0 w [.bool true, .pointer none, .int .i64 0, .slice none 0 0, .int .i64 0, .bool false, .bool false, .bool false, .pointer (some ⟨d.sp, 0, none⟩), .int .i64 tn, .int .i64 zs, .int .i64 claimed, .int .i64 hi, .slice tao m tcap, .int .i64 most] 38).alloc _ 0)
  have B1r := Lib.hid (show Blk c1 0 ((w.alloc (.cells #[.bool true, .pointer none, .int .i64 0, .slice none 0 0, .int .i64 0, .bool false, .bool false, .bool false, .pointer (some ⟨d.sp, 0, none⟩), .int .i64 tn, .int .i64 zs, .int .i64 claimed, .int .i64 hi, .slice tao m tcap, .int .i64 most] 38)).alloc (.cells #[.bool false, .pointer none, .int .i64 0, .slice none 0 0, .int .i64 0, .bool false, .bool false, .bool false, .pointer none, .int .i64 0, .int .i64 0, .int .i64 0, .int .i64 0, .slice none 0 0, .int .i64 0] 38)) rb [.bool false, .pointer none, .int .i64 0, .slice none 0 0, .int .i64 0, .bool false, .bool false, .bool false, .pointer none, .int .i64 0, .int .i64 0, .int .i64 0, .int .i64 0, .slice none 0 0, .int .i64 0] 38 by
    have e : (w.alloc (.cells #[.bool true, .pointer none, .int .i64 0, .slice none 0 0, .int .i64 0, .bool false, .bool false, .bool false, .pointer (some ⟨d.sp, 0, none⟩), .int .i64 tn, .int .i64 zs, .int .i64 claimed, .int .i64 hi, .slice tao m tcap, .int .i64 most] 38)).heap.size = rb := by simp; omega
    rw [hc1.out, ← e]; exact Blk.new (paint c w.heap.size 0) 0 (w.alloc (.cells #[.bool true, .pointer none, .int .i64 0, .slice none 0 0, .int .i64 0, .bool false, .bool false, .bool false, .pointer (some ⟨d.sp, 0, none⟩), .int .i64 tn, .int .i64 zs, .int .i64 claimed, .int .i64 hi, .slice tao m tcap, .int .i64 most] 38)) [.bool false, .pointer none, .int .i64 0, .slice none 0 0, .int .i64 0, .bool false, .bool false, .bool false, .pointer none, .int .i64 0, .int .i64 0, .int .i64 0, .int .i64 0, .slice none 0 0, .int .i64 0] 38)
  have H1 := Lib.hid (h.stpF t1.out)
  have HS := Lib.hid (tstep_c (t := ⟨tn, stage, claimed, hi, ids, most⟩) H1.out.rm.aa ((H1.out.rg i d hd).sq hm) (hs.stp t1.out id) hok ht hf (by omega))
  have S1 := Lib.hid (Stp.mono t1.out (J' := (· = K + 10)) (fun _ h => h.elim))
  have HXE := Lib.hid hxb
  have HRE := Lib.hid hrb
  clear h hd hm hs hok ht hf hc1 t1 hxb hrb
  go_enter Tryz.func40, Tryz.ntmps40
  rw [hzs, hm0]
  go_upto_region 1 with fail
  rw [HRE.out, HXE.out]
  clear HRE HXE
  generalize (w.alloc (.cells #[.bool true, .pointer none, .int .i64 0, .slice none 0 0, .int .i64 0, .bool false, .bool false, .bool false, .pointer (some ⟨d.sp, 0, none⟩), .int .i64 tn, .int .i64 zs, .int .i64 claimed, .int .i64 hi, .slice tao m tcap, .int .i64 most] 38)).alloc (.cells #[.bool false, .pointer none, .int .i64 0, .slice none 0 0, .int .i64 0, .bool false, .bool false, .bool false, .pointer none, .int .i64 0, .int .i64 0, .int .i64 0, .int .i64 0, .slice none 0 0, .int .i64 0] 38) = w1 at B1x B1r H1 HS S1 ⊢
  obtain ⟨x0, x1, x2, x3, x4, x5, x6, x7, x8, x9, x10, x11, x12, x13, x14⟩ := cells15 B1x.out
  go_wp2_with fail
  rw [← hzs, ← hm0]
  refine HS.out.mono ?_
  rintro e w2 ⟨tao', tcap', ev, rfl, c2, t2, a2, i2, he⟩
  rcases hE : stepT ⟨d.sh, d.cur, d.cac, d.first, d.ids⟩ la ⟨tn, stage, claimed, hi, ids, most⟩ with ⟨la', ⟨tn', st', claimed', hi', ids', most'⟩, er⟩
  rw [hE] at a2 i2 he
  simp only at a2 i2 he
  simp only [trV]
  have HE := Lib.hid hE
  have H2 := Lib.hid (H1.out.arena t2 a2)
  have B2x := Lib.hid (B1x.out.stp t2 (by omega))
  have B2r := Lib.hid (B1r.out.stp t2 (by omega))
  have S2 := Lib.hid (S1.out.trans t2)
  have I2 := Lib.hid i2
  have HER := Lib.hid he
  clear t2 a2 i2 he hE HS H1 B1x B1r S1 x0 x1 x2 x3 x4 x5 x6 x7 x8 x9 x10 x11 x12 x13 x14
  obtain ⟨m', hm'⟩ : ∃ m', ids'.length = m' := ⟨_, rfl⟩
  obtain ⟨zs', hzs'⟩ : ∃ z : Int, (st' : Int) = z := ⟨_, rfl⟩
  rw [hm', hzs', hm0, hzs]
  have HM := Lib.hid (And.intro hm' hzs')
  clear hm' hzs' hm0 hzs
  have T3 := Lib.hid ((((((((Stp.refl (· = 0) c2 w2).setCell (p := ⟨xb, 8, none⟩) (.pointer (some ⟨d.sp, 0, none⟩)) B2x.out.1).setCell (p := ⟨xb, 9, none⟩) (.int .i64 tn') B2x.out.1).setCell (p := ⟨xb, 10, none⟩) (.int .i64 zs') B2x.out.1).setCell (p := ⟨xb, 11, none⟩) (.int .i64 claimed') B2x.out.1).setCell (p := ⟨xb, 12, none⟩) (.int .i64 hi') B2x.out.1).setCell (p := ⟨xb, 13, none⟩) (.slice tao' m' tcap') B2x.out.1).setCell (p := ⟨xb, 14, none⟩) (.int .i64 most') B2x.out.1)
  have S3 := Lib.hid ((((((((S2.out).setNew (p := ⟨xb, 8, none⟩) (.pointer (some ⟨d.sp, 0, none⟩)) HXB.out).setNew (p := ⟨xb, 9, none⟩) (.int .i64 tn') HXB.out).setNew (p := ⟨xb, 10, none⟩) (.int .i64 zs') HXB.out).setNew (p := ⟨xb, 11, none⟩) (.int .i64 claimed') HXB.out).setNew (p := ⟨xb, 12, none⟩) (.int .i64 hi') HXB.out).setNew (p := ⟨xb, 13, none⟩) (.slice tao' m' tcap') HXB.out).setNew (p := ⟨xb, 14, none⟩) (.int .i64 most') HXB.out)
  have B3x := Lib.hid ((((((((B2x.out.set 8 (.pointer (some ⟨d.sp, 0, none⟩))).set 9 (.int .i64 tn')).set 10 (.int .i64 zs')).set 11 (.int .i64 claimed')).set 12 (.int .i64 hi')).set 13 (.slice tao' m' tcap')).set 14 (.int .i64 most')))
  have B3r := Lib.hid ((((((((B2r.out.other (p := ⟨xb, 8, none⟩) (.pointer (some ⟨d.sp, 0, none⟩)) nxr).other (p := ⟨xb, 9, none⟩) (.int .i64 tn') nxr).other (p := ⟨xb, 10, none⟩) (.int .i64 zs') nxr).other (p := ⟨xb, 11, none⟩) (.int .i64 claimed') nxr).other (p := ⟨xb, 12, none⟩) (.int .i64 hi') nxr).other (p := ⟨xb, 13, none⟩) (.slice tao' m' tcap') nxr).other (p := ⟨xb, 14, none⟩) (.int .i64 most') nxr))
  obtain ⟨x0, x1, x2, x3, x4, x5, x6, x7, x8, x9, x10, x11, x12, x13, x14⟩ := cells15 B2x.out
  obtain ⟨f0, f1, f2, f3, f4, f5, f6, f7, f8, f9, f10, f11, f12, f13, f14⟩ := frees15 B2x.out
  have lx := B2x.out.lt
  go_upto_region 5 with fail
  clear x0 x1 x2 x3 x4 x5 x6 x7 x8 x9 x10 x11 x12 x13 x14 f0 f1 f2 f3 f4 f5 f6 f7 f8 f9 f10 f11 f12 f13 f14 lx
  generalize (((((((w2.setCell ⟨xb, 8, none⟩ (.pointer (some ⟨d.sp, 0, none⟩))).setCell ⟨xb, 9, none⟩ (.int .i64 tn')).setCell ⟨xb, 10, none⟩ (.int .i64 zs')).setCell ⟨xb, 11, none⟩ (.int .i64 claimed')).setCell ⟨xb, 12, none⟩ (.int .i64 hi')).setCell ⟨xb, 13, none⟩ (.slice tao' m' tcap')).setCell ⟨xb, 14, none⟩ (.int .i64 most')) = w3 at T3 S3 B3x B3r ⊢
  have R3 := Lib.hid (H2.out.stp0 hK T3.out)
  have I3 := Lib.hid (I2.out.stp T3.out (by omega))
  have E3 := Lib.hid (HER.out.imp id (fun h => And.intro h.1 (h.2.stp T3.out (by omega))))
  clear H2 I2 HER S2 B2x B2r T3
  have TF := Lib.hid ((((((((((((((((Stp.refl (· = 0) c2 w3).setCell (p := ⟨rb, 0, none⟩) (.bool true) B3r.out.1).setCell (p := ⟨rb, 1, none⟩) (.pointer none) B3r.out.1).setCell (p := ⟨rb, 2, none⟩) (.int .i64 0) B3r.out.1).setCell (p := ⟨rb, 3, none⟩) (.slice none 0 0) B3r.out.1).setCell (p := ⟨rb, 4, none⟩) (.int .i64 0) B3r.out.1).setCell (p := ⟨rb, 5, none⟩) (.bool false) B3r.out.1).setCell (p := ⟨rb, 6, none⟩) (.bool false) B3r.out.1).setCell (p := ⟨rb, 7, none⟩) (.bool false) B3r.out.1).setCell (p := ⟨rb, 8, none⟩) (.pointer (some ⟨d.sp, 0, none⟩)) B3r.out.1).setCell (p := ⟨rb, 9, none⟩) (.int .i64 tn') B3r.out.1).setCell (p := ⟨rb, 10, none⟩) (.int .i64 zs') B3r.out.1).setCell (p := ⟨rb, 11, none⟩) (.int .i64 claimed') B3r.out.1).setCell (p := ⟨rb, 12, none⟩) (.int .i64 hi') B3r.out.1).setCell (p := ⟨rb, 13, none⟩) (.slice tao' m' tcap') B3r.out.1).setCell (p := ⟨rb, 14, none⟩) (.int .i64 most') B3r.out.1)
  have SF := Lib.hid ((((((((((((((((S3.out).setNew (p := ⟨rb, 0, none⟩) (.bool true) HRB.out).setNew (p := ⟨rb, 1, none⟩) (.pointer none) HRB.out).setNew (p := ⟨rb, 2, none⟩) (.int .i64 0) HRB.out).setNew (p := ⟨rb, 3, none⟩) (.slice none 0 0) HRB.out).setNew (p := ⟨rb, 4, none⟩) (.int .i64 0) HRB.out).setNew (p := ⟨rb, 5, none⟩) (.bool false) HRB.out).setNew (p := ⟨rb, 6, none⟩) (.bool false) HRB.out).setNew (p := ⟨rb, 7, none⟩) (.bool false) HRB.out).setNew (p := ⟨rb, 8, none⟩) (.pointer (some ⟨d.sp, 0, none⟩)) HRB.out).setNew (p := ⟨rb, 9, none⟩) (.int .i64 tn') HRB.out).setNew (p := ⟨rb, 10, none⟩) (.int .i64 zs') HRB.out).setNew (p := ⟨rb, 11, none⟩) (.int .i64 claimed') HRB.out).setNew (p := ⟨rb, 12, none⟩) (.int .i64 hi') HRB.out).setNew (p := ⟨rb, 13, none⟩) (.slice tao' m' tcap') HRB.out).setNew (p := ⟨rb, 14, none⟩) (.int .i64 most') HRB.out)
  have RF := Lib.hid (R3.out.stp0 hK TF.out)
  have IF := Lib.hid (I3.out.stp TF.out (by omega))
  have EF := Lib.hid (E3.out.imp id (fun h => And.intro h.1 (h.2.stp TF.out (by omega))))
  obtain ⟨x0, x1, x2, x3, x4, x5, x6, x7, x8, x9, x10, x11, x12, x13, x14⟩ := cells15 B3x.out
  obtain ⟨y0, y1, y2, y3, y4, y5, y6, y7, y8, y9, y10, y11, y12, y13, y14⟩ := cells15 B3r.out
  obtain ⟨g0, g1, g2, g3, g4, g5, g6, g7, g8, g9, g10, g11, g12, g13, g14⟩ := frees15 B3r.out
  have lr := B3r.out.lt
  clear TF R3 I3 E3 S3 B3x B3r HXB HRB
  go_wp2
  refine bodyPost_ret (v := .tuple #[.agg #[.bool true, .pointer none, .int .i64 0, .slice none 0 0, .int .i64 0, .bool false, .bool false, .bool false, .pointer (some ⟨d.sp, 0, none⟩), .int .i64 tn', .int .i64 zs', .int .i64 claimed', .int .i64 hi', .slice tao' m' tcap', .int .i64 most'], ev]) ?_ rfl ?_
  · clear SF RF IF EF HM HE
    simp [results, Tryz.results40, go_sem, *]
  · exact ⟨⟨tn', st', claimed', hi', ids', most'⟩, la', er, tao', tcap', ev, HE, by simp only; rw [HM.out.1, HM.out.2], c2, SF.out, RF.out, IF.out, EF.out⟩
end
end Go.Proofs.YtiphdedfbafhkaaGreatDoor

namespace Go.Proofs.YtiphdedfbafhkaaGreatDoor
open Go.RowKit

section
variable {c c' : Nat → Nat} {K : Nat} {w w' : World} {r ar ck tb : Nat} {la : List Int} {now : Int} {tl : List Tm} {l : List One} {D : List RD} {ao : Option Addr} {cap i : Nat} {d : RD}
set_option maxRecDepth 100000 in
set_option maxHeartbeats 4000000 in
theorem rcstep_s (hK : 2 ≤ K) (h : RMs c K w r ar ck tb la now tl l D ao cap) (hd : D[i]? = some d) (hm : d.many = false) (hi : Int) (hc : d.cur < la.length) (hsc : 0 ≤ d.sc ∧ d.sc < 4611686018427387904) (hids : d.ids.length = 0) (hh : -1 ≤ hi ∧ hi ≤ 4611686018427387904) (hsh : d.sh < 21) (hf : hi - 2 ^ d.sh ≤ la.getD d.cur 0) :
    Calls Tryz.prog 40 #[.agg #[.bool false, .pointer (some ⟨d.sp, 0, none⟩), .int .i64 hi, .slice none 0 0, .int .i64 0, .bool false, .bool false, .bool false, .pointer none, .int .i64 0, .int .i64 0, .int .i64 0, .int .i64 0, .slice none 0 0, .int .i64 0]] w fun e w' => ∃ (tao' : Option Addr) (m cap' : Nat), e = .returned (.tuple #[.agg #[.bool false, .pointer (some ⟨d.sp, 0, none⟩), .int .i64 hi, .slice tao' m cap', .int .i64 (la.getD d.cur 0), .bool true, .bool true, .bool false, .pointer none, .int .i64 0, .int .i64 0, .int .i64 0, .int .i64 0, .slice none 0 0, .int .i64 0], .nilIface]) ∧ ∃ c', Stp (fun j => j = kb K i + 2 ∨ j = K + 10) c c' w w' ∧ RMs c' K w' r ar ck tb la now tl l (D.set i { d with cl := hi, ca := la.getD d.cur 0, sc := d.sc + 1 }) ao cap := by
  obtain ⟨v, hv⟩ : ∃ v, la.getD d.cur 0 = v := ⟨_, rfl⟩
  obtain ⟨m, hm0⟩ : ∃ m, d.ids.length = m := ⟨_, rfl⟩
  obtain ⟨xb, hxb⟩ : ∃ x, w.heap.size = x := ⟨_, rfl⟩
  obtain ⟨rb, hrb⟩ : ∃ x, w.heap.size + 1 = x := ⟨_, rfl⟩
  have HXB := Lib.hid (show w.heap.size ≤ xb by omega)
  have HRB := Lib.hid (show w.heap.size ≤ rb by omega)
  have nxr : ¬ xb = rb := by omega
  have nrx : ¬ rb = xb := by omega
  obtain ⟨c1, hc1, t1⟩ := (((Stp.refl (fun _ => False) c w).alloc (.cells #[.bool false, .pointer (some ⟨d.sp, 0, none⟩), .int .i64 hi, .slice none 0 0, .int .i64 0, .bool false, .bool false, .bool false, .pointer none, .int .i64 0, .int .i64 0, .int .i64 0, .int .i64 0, .slice none 0 0, .int .i64 0] 38) 0).alloc (.cells #[.bool false, .pointer none, .int .i64 0, .slice none 0 0, .int .i64 0, .bool false, .bool false, .bool false, .pointer none, .int .i64 0, .int .i64 0, .int .i64 0, .int .i64 0, .slice none 0 0, .int .i64 0] 38) 0).name
  have B1x := Lib.hid (show Blk c1 0 ((w.alloc (.cells #[.bool false, .pointer (some ⟨d.sp, 0, none⟩), .int .i64 hi, .slice none 0 0, .int .i64 0, .bool false, .bool false, .bool false, .pointer none, .int .i64 0, .int .i64 0, .int .i64 0, .int .i64 0, .slice none 0 0, .int .i64 0] 38)).alloc (.cells #[.bool false, .pointer none, .int .i64 0, .slice none 0 0, .int .i64 0, .bool false, .bool false, .bool false, .pointer none, .int .i64 0, .int .i64 0, .int .i64 0, .int .i64 0, .slice none 0 0, .int .i64 0] 38)) xb [.bool false, .pointer (some ⟨d.sp, 0, none⟩), .int .i64 hi, .slice none 0 0, .int .i64 0, .bool false, .bool false, .bool false, .pointer none, .int .i64 0, .int .i64 0, .int .i64 0, .int .i64 0, .slice none 0 0, .int .i64 0] 38 by rw [hc1.out, ← hxb]; exact (Blk.new c 0 w [.bool false, .pointer (some ⟨d.sp, 0, none⟩), .int .i64 hi, .slice none 0 0, .int .i64 0, .bool false, .bool false, .bool false, .pointer none, .int .i64 0, .int .i64 0, .int .i64 0, .int .i64 0, .slice none 0 0, .int .i64 0] 38).alloc _ 0)
  have B1r := Lib.hid (show Blk c1 0 ((w.alloc (.cells #[.bool false, .pointer (some ⟨d.sp, 0, none⟩), .int .i64 hi, .slice none 0 0, .int .i64 0, .bool false, .bool false, .bool false, .pointer none, .int .i64 0, .int .i64 0, .int .i64 0, .int .i64 0, .slice none 0 0, .int .i64 0] 38)).alloc (.cells #[.bool false, .pointer none, .int .i64 0, .slice none 0 0, .int .i64 0, .bool false, .bool false, .bool false, .pointer none, .int .i64 0, .int .i64 0, .int .i64 0, .int .i64 0, .slice none 0 0, .int .i64 0] 38)) rb [.bool false, .pointer none, .int .i64 0, .slice none 0 0, .int .i64 0, .bool false, .bool false, .bool false, .pointer none, .int .i64 0, .int .i64 0, .int .i64 0, .int .i64 0, .slice none 0 0, .int .i64 0] 38 by
    have e : (w.alloc (.cells #[.bool false, .pointer (some ⟨d.sp, 0, none⟩), .int .i64 hi, .slice none 0 0, .int .i64 0, .bool false, .bool false, .bool false, .pointer none, .int .i64 0, .int .i64 0, .int .i64 0, .int .i64 0, .slice none 0 0, .int .i64 0] 38)).heap.size = rb := by simp; omega
    rw [hc1.out, ← e]; exact Blk.new (paint c w.heap.size 0) 0 (w.alloc (.cells #[.bool false, .pointer (some ⟨d.sp, 0, none⟩), .int .i64 hi, .slice none 0 0, .int .i64 0, .bool false, .bool false, .bool false, .pointer none, .int .i64 0, .int .i64 0, .int .i64 0, .int .i64 0, .slice none 0 0, .int .i64 0] 38)) [.bool false, .pointer none, .int .i64 0, .slice none 0 0, .int .i64 0, .bool false, .bool false, .bool false, .pointer none, .int .i64 0, .int .i64 0, .int .i64 0, .int .i64 0, .slice none 0 0, .int .i64 0] 38)
  have H1 := Lib.hid (h.stpF t1.out)
  have HS0 := snstep_nil_ok hi ((H1.out.rg i d hd).sn hm) H1.out.rm.aa (by unfold kb; omega) hc hsc (by omega) hids hh hsh hf
  rw [hv, hm0] at HS0
  have HS := Lib.hid HS0
  have S1 := Lib.hid (Stp.mono t1.out (J' := fun j => j = kb K i + 2 ∨ j = K + 10) (fun _ h => h.elim))
  have HD := Lib.hid hd
  have HMM := Lib.hid hm
  have HXE := Lib.hid hxb
  have HRE := Lib.hid hrb
  rw [hv]
  clear h hd hm hc hsc hids hh hsh hf hc1 t1 hxb hrb HS0 hv hm0
  go_enter Tryz.func40, Tryz.ntmps40
  go_upto_region 1 with fail
  rw [HRE.out, HXE.out]
  clear HRE HXE
  generalize (w.alloc (.cells #[.bool false, .pointer (some ⟨d.sp, 0, none⟩), .int .i64 hi, .slice none 0 0, .int .i64 0, .bool false, .bool false, .bool false, .pointer none, .int .i64 0, .int .i64 0, .int .i64 0, .int .i64 0, .slice none 0 0, .int .i64 0] 38)).alloc (.cells #[.bool false, .pointer none, .int .i64 0, .slice none 0 0, .int .i64 0, .bool false, .bool false, .bool false, .pointer none, .int .i64 0, .int .i64 0, .int .i64 0, .int .i64 0, .slice none 0 0, .int .i64 0] 38) = w1 at B1x B1r H1 HS S1 ⊢
  obtain ⟨x0, x1, x2, x3, x4, x5, x6, x7, x8, x9, x10, x11, x12, x13, x14⟩ := cells15 B1x.out
  go_wp2_with fail
  refine HS.out.mono ?_
  rintro e w2 ⟨tao', cap', rfl, c2, t2, s2, a2⟩
  have H2 := Lib.hid (H1.out.sn HD.out HMM.out t2 a2 s2)
  have B2x := Lib.hid (B1x.out.stp t2 (by unfold kb; omega))
  have B2r := Lib.hid (B1r.out.stp t2 (by unfold kb; omega))
  have S2 := Lib.hid (S1.out.trans t2)
  clear t2 a2 s2 HS H1 B1x B1r S1 x0 x1 x2 x3 x4 x5 x6 x7 x8 x9 x10 x11 x12 x13 x14
  have T3 := Lib.hid ((((((((Stp.refl (· = 0) c2 w2).setCell (p := ⟨xb, 1, none⟩) (.pointer (some ⟨d.sp, 0, none⟩)) B2x.out.1).setCell (p := ⟨xb, 2, none⟩) (.int .i64 hi) B2x.out.1).setCell (p := ⟨xb, 3, none⟩) (.slice tao' m cap') B2x.out.1).setCell (p := ⟨xb, 4, none⟩) (.int .i64 v) B2x.out.1).setCell (p := ⟨xb, 5, none⟩) (.bool true) B2x.out.1).setCell (p := ⟨xb, 6, none⟩) (.bool true) B2x.out.1).setCell (p := ⟨xb, 7, none⟩) (.bool false) B2x.out.1)
  have S3 := Lib.hid ((((((((S2.out).setNew (p := ⟨xb, 1, none⟩) (.pointer (some ⟨d.sp, 0, none⟩)) HXB.out).setNew (p := ⟨xb, 2, none⟩) (.int .i64 hi) HXB.out).setNew (p := ⟨xb, 3, none⟩) (.slice tao' m cap') HXB.out).setNew (p := ⟨xb, 4, none⟩) (.int .i64 v) HXB.out).setNew (p := ⟨xb, 5, none⟩) (.bool true) HXB.out).setNew (p := ⟨xb, 6, none⟩) (.bool true) HXB.out).setNew (p := ⟨xb, 7, none⟩) (.bool false) HXB.out)
  have B3x := Lib.hid ((((((((B2x.out.set 1 (.pointer (some ⟨d.sp, 0, none⟩))).set 2 (.int .i64 hi)).set 3 (.slice tao' m cap')).set 4 (.int .i64 v)).set 5 (.bool true)).set 6 (.bool true)).set 7 (.bool false)))
  have B3r := Lib.hid ((((((((B2r.out.other (p := ⟨xb, 1, none⟩) (.pointer (some ⟨d.sp, 0, none⟩)) nxr).other (p := ⟨xb, 2, none⟩) (.int .i64 hi) nxr).other (p := ⟨xb, 3, none⟩) (.slice tao' m cap') nxr).other (p := ⟨xb, 4, none⟩) (.int .i64 v) nxr).other (p := ⟨xb, 5, none⟩) (.bool true) nxr).other (p := ⟨xb, 6, none⟩) (.bool true) nxr).other (p := ⟨xb, 7, none⟩) (.bool false) nxr))
  obtain ⟨x0, x1, x2, x3, x4, x5, x6, x7, x8, x9, x10, x11, x12, x13, x14⟩ := cells15 B2x.out
  obtain ⟨f0, f1, f2, f3, f4, f5, f6, f7, f8, f9, f10, f11, f12, f13, f14⟩ := frees15 B2x.out
  have lx := B2x.out.lt
  go_upto_region 5 with fail
  clear x0 x1 x2 x3 x4 x5 x6 x7 x8 x9 x10 x11 x12 x13 x14 f0 f1 f2 f3 f4 f5 f6 f7 f8 f9 f10 f11 f12 f13 f14 lx
  generalize (((((((w2.setCell ⟨xb, 1, none⟩ (.pointer (some ⟨d.sp, 0, none⟩))).setCell ⟨xb, 2, none⟩ (.int .i64 hi)).setCell ⟨xb, 3, none⟩ (.slice tao' m cap')).setCell ⟨xb, 4, none⟩ (.int .i64 v)).setCell ⟨xb, 5, none⟩ (.bool true)).setCell ⟨xb, 6, none⟩ (.bool true)).setCell ⟨xb, 7, none⟩ (.bool false)) = w3 at T3 S3 B3x B3r ⊢
  have R3 := Lib.hid (H2.out.stp0 hK T3.out)
  clear H2 S2 B2x B2r T3
  have TF := Lib.hid ((((((((((((((((Stp.refl (· = 0) c2 w3).setCell (p := ⟨rb, 0, none⟩) (.bool false) B3r.out.1).setCell (p := ⟨rb, 1, none⟩) (.pointer (some ⟨d.sp, 0, none⟩)) B3r.out.1).setCell (p := ⟨rb, 2, none⟩) (.int .i64 hi) B3r.out.1).setCell (p := ⟨rb, 3, none⟩) (.slice tao' m cap') B3r.out.1).setCell (p := ⟨rb, 4, none⟩) (.int .i64 v) B3r.out.1).setCell (p := ⟨rb, 5, none⟩) (.bool true) B3r.out.1).setCell (p := ⟨rb, 6, none⟩) (.bool true) B3r.out.1).setCell (p := ⟨rb, 7, none⟩) (.bool false) B3r.out.1).setCell (p := ⟨rb, 8, none⟩) (.pointer none) B3r.out.1).setCell (p := ⟨rb, 9, none⟩) (.int .i64 0) B3r.out.1).setCell (p := ⟨rb, 10, none⟩) (.int .i64 0) B3r.out.1).setCell (p := ⟨rb, 11, none⟩) (.int .i64 0) B3r.out.1).setCell (p := ⟨rb, 12, none⟩) (.int .i64 0) B3r.out.1).setCell (p := ⟨rb, 13, none⟩) (.slice none 0 0) B3r.out.1).setCell (p := ⟨rb, 14, none⟩) (.int .i64 0) B3r.out.1)
  have SF := Lib.hid ((((((((((((((((S3.out).setNew (p := ⟨rb, 0, none⟩) (.bool false) HRB.out).setNew (p := ⟨rb, 1, none⟩) (.pointer (some ⟨d.sp, 0, none⟩)) HRB.out).setNew (p := ⟨rb, 2, none⟩) (.int .i64 hi) HRB.out).setNew (p := ⟨rb, 3, none⟩) (.slice tao' m cap') HRB.out).setNew (p := ⟨rb, 4, none⟩) (.int .i64 v) HRB.out).setNew (p := ⟨rb, 5, none⟩) (.bool true) HRB.out).setNew (p := ⟨rb, 6, none⟩) (.bool true) HRB.out).setNew (p := ⟨rb, 7, none⟩) (.bool false) HRB.out).setNew (p := ⟨rb, 8, none⟩) (.pointer none) HRB.out).setNew (p := ⟨rb, 9, none⟩) (.int .i64 0) HRB.out).setNew (p := ⟨rb, 10, none⟩) (.int .i64 0) HRB.out).setNew (p := ⟨rb, 11, none⟩) (.int .i64 0) HRB.out).setNew (p := ⟨rb, 12, none⟩) (.int .i64 0) HRB.out).setNew (p := ⟨rb, 13, none⟩) (.slice none 0 0) HRB.out).setNew (p := ⟨rb, 14, none⟩) (.int .i64 0) HRB.out)
  have RF := Lib.hid (R3.out.stp0 hK TF.out)
  obtain ⟨x0, x1, x2, x3, x4, x5, x6, x7, x8, x9, x10, x11, x12, x13, x14⟩ := cells15 B3x.out
  obtain ⟨y0, y1, y2, y3, y4, y5, y6, y7, y8, y9, y10, y11, y12, y13, y14⟩ := cells15 B3r.out
  obtain ⟨g0, g1, g2, g3, g4, g5, g6, g7, g8, g9, g10, g11, g12, g13, g14⟩ := frees15 B3r.out
  have lr := B3r.out.lt
  clear TF R3 S3 B3x B3r HXB HRB HD HMM
  go_wp2
  refine bodyPost_ret (v := .tuple #[.agg #[.bool false, .pointer (some ⟨d.sp, 0, none⟩), .int .i64 hi, .slice tao' m cap', .int .i64 v, .bool true, .bool true, .bool false, .pointer none, .int .i64 0, .int .i64 0, .int .i64 0, .int .i64 0, .slice none 0 0, .int .i64 0], .nilIface]) ?_ rfl ?_
  · clear SF RF
    simp [results, Tryz.results40, go_sem, *]
  · exact ⟨tao', m, cap', rfl, c2, SF.out, RF.out⟩
end
end Go.Proofs.YtiphdedfbafhkaaGreatDoor

namespace Go.Proofs.YtiphdedfbafhkaaGreatDoor
open Go.RowKit

section
variable {c c' : Nat → Nat} {K : Nat} {w w' : World} {r ar ck tb : Nat} {la : List Int} {now : Int} {tl : List Tm} {l : List One} {D : List RD} {ao : Option Addr} {cap i : Nat} {d : RD}
set_option maxRecDepth 100000 in
/-- A claim of a single ring is begun: what was seen last is not enough. -/
theorem rclaim_wait (hK : 2 ≤ K) (h : RMs c K w r ar ck tb la now tl l D ao cap) (hd : D[i]? = some d) (hm : d.many = false) (hsh : d.sh < 21) (n : Int) (h1 : 1 ≤ n) (h2 : n ≤ 2 ^ d.sh) (hn : nextErr d.cl n = 0) (hb : -1 ≤ d.cl ∧ d.cl ≤ 4611686018427387904) (hx : d.ca < d.cl + n - 2 ^ d.sh) :
    Calls Tryz.prog 8 #[.pointer (some ⟨r, 0, none⟩), .int .i64 (i : Int), .int .i64 n] w fun e w' => e = .returned (.tuple #[.agg #[.bool false, .pointer (some ⟨d.sp, 0, none⟩), .int .i64 (d.cl + n), .slice none 0 0, .int .i64 0, .bool false, .bool false, .bool false, .pointer none, .int .i64 0, .int .i64 0, .int .i64 0, .int .i64 0, .slice none 0 0, .int .i64 0], .nilIface]) ∧ ∃ c', Stp (fun _ => False) c c' w w' ∧
      RMs c' K w' r ar ck tb la now tl l D ao cap := by
  obtain ⟨rb, hrb⟩ : ∃ x, x = w.heap.size := ⟨_, rfl⟩
  have HRB := Lib.hid (show w.heap.size ≤ rb by omega)
  obtain ⟨c1, hc1, t1⟩ := ((Stp.refl (fun _ => False) c w).alloc (.cells #[.bool false, .pointer none, .int .i64 0, .slice none 0 0, .int .i64 0, .bool false, .bool false, .bool false, .pointer none, .int .i64 0, .int .i64 0, .int .i64 0, .int .i64 0, .slice none 0 0, .int .i64 0] 38) 0).name
  have H1 := Lib.hid (h.stpF t1.out)
  have B1 := Lib.hid (show Blk c1 0 (w.alloc (.cells #[.bool false, .pointer none, .int .i64 0, .slice none 0 0, .int .i64 0, .bool false, .bool false, .bool false, .pointer none, .int .i64 0, .int .i64 0, .int .i64 0, .int .i64 0, .slice none 0 0, .int .i64 0] 38)) rb [.bool false, .pointer none, .int .i64 0, .slice none 0 0, .int .i64 0, .bool false, .bool false, .bool false, .pointer none, .int .i64 0, .int .i64 0, .int .i64 0, .int .i64 0, .slice none 0 0, .int .i64 0] 38 by rw [hc1.out, hrb]; exact Blk.new c 0 w _ _)
  have HD := Lib.hid hd
  have HM := Lib.hid hm
  have HS := Lib.hid (sntry_wait (by unfold kb; omega) ((H1.out.rg i d hd).sn hm) hsh n h1 h2 hn hb hx)
  obtain ⟨k0, k2, kl⟩ := H1.out.one hd hm
  clear h hd hm hsh h1 h2 hn hb hx hc1
  go_enter Tryz.func8, Tryz.ntmps8
  go_upto_region 1 with fail
  rw [← hrb]
  generalize w.alloc (.cells #[.bool false, .pointer none, .int .i64 0, .slice none 0 0, .int .i64 0, .bool false, .bool false, .bool false, .pointer none, .int .i64 0, .int .i64 0, .int .i64 0, .int .i64 0, .slice none 0 0, .int .i64 0] 38) = w1 at t1 H1 B1 HS k0 k2 kl ⊢
  clear hrb
  go_wp2_with fail
  refine (rat_c H1.out HD.out).mono ?_
  rintro e w1' ⟨rfl, rfl⟩
  go_wp2_with fail
  refine HS.out.mono ?_
  rintro e w2 ⟨rfl, c2, t2, s2⟩
  have T2 := Lib.hid t2
  have R2 := Lib.hid (H1.out.stpF t2)
  have B2 := Lib.hid (B1.out.stp t2 id)
  have S2 := Lib.hid (t1.out.trans T2.out)
  clear t2 s2 k0 k2 kl HS H1 B1 t1 T2
  obtain ⟨c3, hc3, t3⟩ := ((Stp.refl (fun _ => False) c2 w2).alloc (.cells #[.pointer (some ⟨d.sp, 0, none⟩), .int .i64 (d.cl + n), .slice none 0 0, .int .i64 0, .bool false, .bool false, .bool false] 33) 0).name
  have R3 := Lib.hid (R2.out.stpF t3.out)
  have B3 := Lib.hid (B2.out.stp t3.out id)
  have S3 := Lib.hid (S2.out.trans t3.out)
  have Y3 := Lib.hid (show Blk c3 0 (w2.alloc (.cells #[.pointer (some ⟨d.sp, 0, none⟩), .int .i64 (d.cl + n), .slice none 0 0, .int .i64 0, .bool false, .bool false, .bool false] 33)) w2.heap.size [.pointer (some ⟨d.sp, 0, none⟩), .int .i64 (d.cl + n), .slice none 0 0, .int .i64 0, .bool false, .bool false, .bool false] 33 by rw [hc3.out]; exact Blk.new c2 0 w2 _ _)
  clear R2 B2 S2 hc3 t3
  obtain ⟨l0, l1, l2, l3, l4, l5, l6⟩ := cells7 Y3.out
  obtain ⟨y0, y1, y2, y3, y4, y5, y6, y7, y8, y9, y10, y11, y12, y13, y14⟩ := cells15 B3.out
  obtain ⟨z0, z1, z2, z3, z4, z5, z6, z7, z8, z9, z10, z11, z12, z13, z14⟩ := frees15 B3.out
  have lb := B3.out.lt
  have TF := Lib.hid ((((((((((((((((Stp.refl (· = 0) c3 (w2.alloc (.cells #[.pointer (some ⟨d.sp, 0, none⟩), .int .i64 (d.cl + n), .slice none 0 0, .int .i64 0, .bool false, .bool false, .bool false] 33))).setCell (p := ⟨rb, 0, none⟩) (.bool false) B3.out.1).setCell (p := ⟨rb, 1, none⟩) (.pointer (some ⟨d.sp, 0, none⟩)) B3.out.1).setCell (p := ⟨rb, 2, none⟩) (.int .i64 (d.cl + n)) B3.out.1).setCell (p := ⟨rb, 3, none⟩) (.slice none 0 0) B3.out.1).setCell (p := ⟨rb, 4, none⟩) (.int .i64 0) B3.out.1).setCell (p := ⟨rb, 5, none⟩) (.bool false) B3.out.1).setCell (p := ⟨rb, 6, none⟩) (.bool false) B3.out.1).setCell (p := ⟨rb, 7, none⟩) (.bool false) B3.out.1).setCell (p := ⟨rb, 8, none⟩) (.pointer none) B3.out.1).setCell (p := ⟨rb, 9, none⟩) (.int .i64 0) B3.out.1).setCell (p := ⟨rb, 10, none⟩) (.int .i64 0) B3.out.1).setCell (p := ⟨rb, 11, none⟩) (.int .i64 0) B3.out.1).setCell (p := ⟨rb, 12, none⟩) (.int .i64 0) B3.out.1).setCell (p := ⟨rb, 13, none⟩) (.slice none 0 0) B3.out.1).setCell (p := ⟨rb, 14, none⟩) (.int .i64 0) B3.out.1)
  have SF := Lib.hid ((((((((((((((((S3.out).setNew (p := ⟨rb, 0, none⟩) (.bool false) HRB.out).setNew (p := ⟨rb, 1, none⟩) (.pointer (some ⟨d.sp, 0, none⟩)) HRB.out).setNew (p := ⟨rb, 2, none⟩) (.int .i64 (d.cl + n)) HRB.out).setNew (p := ⟨rb, 3, none⟩) (.slice none 0 0) HRB.out).setNew (p := ⟨rb, 4, none⟩) (.int .i64 0) HRB.out).setNew (p := ⟨rb, 5, none⟩) (.bool false) HRB.out).setNew (p := ⟨rb, 6, none⟩) (.bool false) HRB.out).setNew (p := ⟨rb, 7, none⟩) (.bool false) HRB.out).setNew (p := ⟨rb, 8, none⟩) (.pointer none) HRB.out).setNew (p := ⟨rb, 9, none⟩) (.int .i64 0) HRB.out).setNew (p := ⟨rb, 10, none⟩) (.int .i64 0) HRB.out).setNew (p := ⟨rb, 11, none⟩) (.int .i64 0) HRB.out).setNew (p := ⟨rb, 12, none⟩) (.int .i64 0) HRB.out).setNew (p := ⟨rb, 13, none⟩) (.slice none 0 0) HRB.out).setNew (p := ⟨rb, 14, none⟩) (.int .i64 0) HRB.out)
  have RF := Lib.hid (R3.out.stp0 hK TF.out)
  clear TF S3 R3 Y3 B3
  go_wp2
  exact bodyPost_ret (v := .tuple #[.agg #[.bool false, .pointer (some ⟨d.sp, 0, none⟩), .int .i64 (d.cl + n), .slice none 0 0, .int .i64 0, .bool false, .bool false, .bool false, .pointer none, .int .i64 0, .int .i64 0, .int .i64 0, .int .i64 0, .slice none 0 0, .int .i64 0], .nilIface]) (by clear SF RF HD HM HRB; simp [results, Tryz.results8, go_sem, *]) rfl ⟨rfl, c3, SF.out, RF.out⟩
end
end Go.Proofs.YtiphdedfbafhkaaGreatDoor

namespace Go.Proofs.YtiphdedfbafhkaaGreatDoor
open Go.RowKit

section
variable {P : Program} {ops : Array Oper} {Q : Exit → Act → World → Prop} {md : Region.Mode} {S : World → Prop} {f : Nat}

/-- In whatever order the rest comes up; S behind each operation but f. -/
def wpTill (P : Program) (md : Region.Mode) (ops : Array Oper) (Q : Exit → Act → World → Prop) (S : World → Prop) (f : Nat) : Nat → Array Bool → Act → World → Prop
  | 0, d, a, w => Region.ready md ops d = [] ∧ Q .normal a w
  | n + 1, d, a, w => (Region.ready md ops d = [] → Q .normal a w) ∧ ∀ j ∈ Region.ready md ops d, wpOp P ops Q j (fun a' w' => (j ≠ f → S w') ∧ wpTill P md ops Q S f n (d.setIfInBounds j true) a' w') a w

theorem wpTill.any : ∀ (n : Nat) (d : Array Bool) (a : Act) (w : World), wpTill P md ops Q S f n d a w → wpAny P md ops Q n d a w
  | 0, _, _, _, h => h
  | n + 1, _, _, _, h => ⟨h.1, fun j hj => wpOp_mono (fun a' w' g => wpTill.any n _ a' w' g.2) (h.2 j hj)⟩

/-- Whatever has come up, all that it waits for has come up. -/
def waitedB (md : Region.Mode) (ops : Array Oper) (d : Array Bool) : Bool :=
  (List.range ops.size).all fun k => !d.getD k false || ((ops[k]?).map fun o => o.after.all fun e => !Region.binds md e || d.getD e.on false).getD true
def Waited (md : Region.Mode) (ops : Array Oper) (d : Array Bool) : Prop := ∀ k o, ops[k]? = some o → d.getD k false = true → ∀ e ∈ o.after, Region.binds md e = true → d.getD e.on false = true
theorem waited_of {d : Array Bool} (h : waitedB md ops d = true) : Waited md ops d := fun k o ho hk e he hb => by
  have hlt : k < ops.size := (Array.getElem?_eq_some_iff.1 ho).1
  have h1 := (List.all_eq_true.1 h) k (List.mem_range.2 hlt)
  rw [hk, ho] at h1
  simp only [Bool.not_true, Bool.false_or, Option.map_some, Option.getD_some, Array.all_eq_true_iff_forall_mem, Bool.or_eq_true, Bool.not_eq_true'] at h1
  rcases h1 e he with h2 | h2
  · rw [h2] at hb; cases hb
  · exact h2
theorem Waited.set {d : Array Bool} (h : Waited md ops d) {j : Nat} (hj : j ∈ Region.ready md ops d) : Waited md ops (d.setIfInBounds j true) := fun k o ho hk e he hb => by
  by_cases hkj : j = k
  · subst hkj
    obtain ⟨-, o', ho', ha⟩ := mem_ready.1 hj
    rw [ho] at ho'
    cases ho'
    exact getD_set_true (ha e he hb)
  · rw [getD_set_ne false hkj] at hk
    exact getD_set_true (h k o ho hk e he hb)

/-- Each of the list waits for the next one. -/
def pathB (md : Region.Mode) (ops : Array Oper) : Nat → List Nat → Bool
  | _, [] => true
  | k, x :: l => ((ops[k]?).map fun o => o.after.any fun e => Region.binds md e && e.on == x).getD false && pathB md ops x l
theorem path_up {d : Array Bool} (h : Waited md ops d) : ∀ (l : List Nat) (k : Nat), (∀ o, ops[k]? = some o → ∀ e ∈ o.after, Region.binds md e = true → d.getD e.on false = true) → pathB md ops k l = true → ∀ x ∈ l, d.getD x false = true
  | [], _, _, _, x, hx => by cases hx
  | y :: l, k, hk, hp, x, hx => by
    simp only [pathB, Bool.and_eq_true] at hp
    obtain ⟨h1, h2⟩ := hp
    have hy : d.getD y false = true := by
      cases ho : ops[k]? with
      | none => rw [ho] at h1; cases h1
      | some o =>
        rw [ho] at h1
        simp only [Option.map_some, Option.getD_some, Array.any_eq_true', Bool.and_eq_true, beq_iff_eq] at h1
        obtain ⟨e, he, hb, rfl⟩ := h1
        exact hk o ho e he hb
    rcases List.mem_cons.1 hx with rfl | hx
    · exact hy
    · exact path_up h l y (fun o ho => h y o ho hy) h2 x hx

theorem wpTill_first {i : Nat} {oi : Oper} {v : Value} {l : List Nat} (hi : ops[i]? = some oi) (hsel : ∀ (j : Nat) (o : Oper) cs b, ops[j]? = some o → o.op ≠ .select cs b)
    (hQ : ∀ c a w, Q (.panic c) (a.put oi.dst v) w → Q (.panic c) a w) (hp : pathB md ops f l = true) (hl : i ∈ l) :
    ∀ (n : Nat) (d : Array Bool) (a : Act) (w : World), Waited md ops d →
      (∀ j oj, ops[j]? = some oj → j ≠ i → d.getD j true = false → (∀ e ∈ oj.after, Region.binds md e = true → e.on ≠ i) → oi.apart ops oj = true) →
      i ∈ Region.ready md ops d → YieldsIf P ops S oi v a → S w →
      wpTill P md ops Q S f n (d.setIfInBounds i true) (a.put oi.dst v) w → wpTill P md ops Q S f (n + 1) d a w := by
  intro n
  induction n with
  | zero =>
    intro d a w _ _ hr hy hS H
    refine ⟨fun g => (by rw [g] at hr; cases hr), fun j hj => ?_⟩
    by_cases hji : j = i
    · subst hji; exact hy.wpOp hi hS ⟨fun _ => hS, H⟩
    · have g := ready_mono hj hji
      rw [H.1] at g
      cases g
  | succ n ih =>
    intro d a w hw hfree hr hy hS H
    have hun := (mem_ready.1 hr).1
    refine ⟨fun g => (by rw [g] at hr; cases hr), fun j hj => ?_⟩
    by_cases hji : j = i
    · subst hji; exact hy.wpOp hi hS ⟨fun _ => hS, H⟩
    · obtain ⟨hju, oj, hoj, hall⟩ := mem_ready.1 hj
      have hfalse : d.getD i false = true → False := fun g => by
        rcases Nat.lt_or_ge i d.size with h' | h'
        · simp [h'] at g hun; rw [hun] at g; cases g
        · simp [Array.getElem?_eq_none h'] at g
      have hjf : j ≠ f := fun g => by
        subst g
        exact hfalse (path_up hw l j (fun o ho e he hb => by rw [hoj] at ho; cases ho; exact hall e he hb) hp i hl)
      have h1 := H.2 j (ready_mono hj hji)
      have hnot : ∀ e ∈ oj.after, Region.binds md e = true → e.on ≠ i := fun e he hb g => hfalse (g ▸ hall e he hb)
      have h2 := wpOp_putIf hoj (hfree j oj hoj hji hju hnot) (fun cs b => hsel i oi cs b hi) (fun cs b => hsel j oj cs b hoj) hQ hy h1
      have hfree' : ∀ k ok, ops[k]? = some ok → k ≠ i → (d.setIfInBounds j true).getD k true = false →
          (∀ e ∈ ok.after, Region.binds md e = true → e.on ≠ i) → oi.apart ops ok = true := fun k ok hk hki hku hno => by
        refine hfree k ok hk hki ?_ hno
        by_cases hjk : j = k
        · subst hjk; exact hju
        · rw [getD_set_ne true hjk] at hku; exact hku
      refine wpOp_mono (fun a' w' g => ⟨g.2.1, ih (d.setIfInBounds j true) a' w' (hw.set hj) hfree' (ready_mono hr (Ne.symm hji)) g.1 (g.2.1 hjf) ?_⟩) h2
      rw [Array.setIfInBounds_comm _ _ hji]
      exact g.2.2

theorem wpTill_take {i : Nat} {oi : Oper} {v : Value} {l : List Nat} {n : Nat} {d : Array Bool} {a : Act} {w : World} (hi : ops[i]? = some oi)
    (hs : Region.noSelect ops = true) (hf : Region.free md ops d i = true) (hr : (Region.ready md ops d).contains i = true) (hw : waitedB md ops d = true) (hp : pathB md ops f l = true) (hl : l.contains i = true)
    (hQ : ∀ c a w, Q (.panic c) (a.put oi.dst v) w → Q (.panic c) a w) (hy : YieldsIf P ops S oi v a) (hS : S w)
    (h : wpTill P md ops Q S f n (d.setIfInBounds i true) (a.put oi.dst v) w) : wpTill P md ops Q S f (n + 1) d a w :=
  wpTill_first hi (Region.noSelect_spec hs) hQ hp (by simpa using hl) n d a w (waited_of hw) (Region.free_spec hi hf) (by simpa using hr) hy hS h

/-- Whichever of them comes up. -/
def AllTill (P : Program) (md : Region.Mode) (ops : Array Oper) (Q : Exit → Act → World → Prop) (S : World → Prop) (f n : Nat) (d : Array Bool) (a : Act) (w : World) (rs : List Nat) : Prop :=
  ∀ j ∈ rs, wpOp P ops Q j (fun a' w' => (j ≠ f → S w') ∧ wpTill P md ops Q S f n (d.setIfInBounds j true) a' w') a w
theorem AllTill.nil {n : Nat} {d : Array Bool} {a : Act} {w : World} : AllTill P md ops Q S f n d a w [] := fun _ h => by cases h
theorem AllTill.cons {n : Nat} {d : Array Bool} {a : Act} {w : World} {i : Nat} {o : Oper} {rs : List Nat} (ho : ops[i]? = some o)
    (h : ∀ K' : Act → World → Prop, Hid (∀ a w, (i ≠ f → S w) → wpTill P md ops Q S f n (d.setIfInBounds i true) a w → K' a w) → if Region.wanted o (yielded ops a.tmps) = true then Oper.wp P o a w K' Q else K' (a.put o.dst undef) w)
    (hs : AllTill P md ops Q S f n d a w rs) : AllTill P md ops Q S f n d a w (i :: rs) := fun j hj => by
  rcases List.mem_cons.1 hj with rfl | hj
  · exact wpOp_step ho (fun K' hK => h K' (Lib.hid fun a w h1 h2 => hK a w ⟨h1, h2⟩))
  · exact hs j hj
theorem wpTill_ready {rs : List Nat} {n : Nat} {d : Array Bool} {a : Act} {w : World} (hr : Region.ready md ops d = rs) (hne : rs ≠ [])
    (h : AllTill P md ops Q S f n d a w rs) : wpTill P md ops Q S f (n + 1) d a w := ⟨fun h0 => absurd (hr ▸ h0) hne, hr ▸ h⟩
theorem wpTill_done {d : Array Bool} {a : Act} {w : World} (hr : Region.ready md ops d = []) (h : Q .normal a w) : ∀ n, wpTill P md ops Q S f n d a w
  | 0 => ⟨hr, h⟩
  | _ + 1 => ⟨fun _ => h, by rw [hr]; simp⟩
theorem wp_region_till {id : Nat} {a : Act} {w : World} (hm : P.follows .mixedOrders = true) (h : wpTill P .any ops Q S f ops.size (Array.replicate ops.size false) a w.drew) : (Code.region id ops true).wp P Q a w :=
  wp_region_any hm (wpTill.any _ _ _ _ h)
end

/-- The operation of a place, as it is written. -/
def nthO : List Oper → Nat → Option Oper
  | [], _ => none
  | x :: _, 0 => some x
  | _ :: l, n + 1 => nthO l n
theorem nthO_eq : ∀ (l : List Oper) (i : Nat), l.toArray[i]? = nthO l i
  | [], _ => by simp [nthO]
  | x :: l, 0 => by simp [nthO]
  | x :: l, n + 1 => by
    have := nthO_eq l n
    simpa [nthO] using this
section
variable {P : Program} {L : List Oper} {Q : Exit → Act → World → Prop} {md : Region.Mode} {S : World → Prop} {f : Nat}
theorem wpTill_takeL {i : Nat} {oi : Oper} {v : Value} {l : List Nat} {n : Nat} {d : Array Bool} {a : Act} {w : World} (hi : nthO L i = some oi)
    (hs : Region.noSelect L.toArray = true) (hf : Region.free md L.toArray d i = true) (hr : (Region.ready md L.toArray d).contains i = true) (hw : waitedB md L.toArray d = true) (hp : pathB md L.toArray f l = true) (hl : l.contains i = true)
    (hQ : ∀ c a w, Q (.panic c) (a.put oi.dst v) w → Q (.panic c) a w) (hy : YieldsIf P L.toArray S oi v a) (hS : S w)
    (h : wpTill P md L.toArray Q S f n (d.setIfInBounds i true) (a.put oi.dst v) w) : wpTill P md L.toArray Q S f (n + 1) d a w :=
  wpTill_take ((nthO_eq L i).trans hi) hs hf hr hw hp hl hQ hy hS h
theorem AllTill.consL {n : Nat} {d : Array Bool} {a : Act} {w : World} {i : Nat} {o : Oper} {rs : List Nat} (ho : nthO L i = some o)
    (h : ∀ K' : Act → World → Prop, Hid (∀ a w, (i ≠ f → S w) → wpTill P md L.toArray Q S f n (d.setIfInBounds i true) a w → K' a w) → if Region.wanted o (yielded L.toArray a.tmps) = true then Oper.wp P o a w K' Q else K' (a.put o.dst undef) w)
    (hs : AllTill P md L.toArray Q S f n d a w rs) : AllTill P md L.toArray Q S f n d a w (i :: rs) := AllTill.cons ((nthO_eq L i).trans ho) h hs
end
end Go.Proofs.YtiphdedfbafhkaaGreatDoor

namespace Go.Proofs.YtiphdedfbafhkaaGreatDoor
open Go.RowKit

section
variable {P : Program} {L : List Oper} {Q : Exit → Act → World → Prop} {md : Region.Mode} {S : World → Prop}
theorem wpH_takeL {i : Nat} {oi : Oper} {v : Value} {n : Nat} {d : Array Bool} {a : Act} {w : World} (hi : nthO L i = some oi)
    (hs : Region.noSelect L.toArray = true) (hf : Region.free md L.toArray d i = true) (hr : (Region.ready md L.toArray d).contains i = true)
    (hQ : ∀ c a w, Q (.panic c) (a.put oi.dst v) w → Q (.panic c) a w) (hy : YieldsIf P L.toArray S oi v a) (hS : S w)
    (h : wpAnyH P md L.toArray Q S n (d.setIfInBounds i true) (a.put oi.dst v) w) : wpAnyH P md L.toArray Q S (n + 1) d a w :=
  wpAnyH_take ((nthO_eq L i).trans hi) hs hf hr hQ hy hS h
theorem readyH_consL {n : Nat} {d : Array Bool} {a : Act} {w : World} {i : Nat} {o : Oper} {rs : List Nat} (ho : nthO L i = some o)
    (h : ∀ K' : Act → World → Prop, Shut (∀ a w, S w → (S w → wpAnyH P md L.toArray Q S n (d.setIfInBounds i true) a w) → K' a w) → if Region.wanted o (yielded L.toArray a.tmps) = true then Oper.wp P o a w K' Q else K' (a.put o.dst undef) w)
    (hs : AllReadyH P md L.toArray Q S n d a w rs) : AllReadyH P md L.toArray Q S n d a w (i :: rs) := AllReadyH.cons ((nthO_eq L i).trans ho) h hs
end

/-- A region of a function's code, by its number. -/
def regionN (n : Nat) : Code → Option Code
  | .region i ops b => if i == n then some (.region i ops b) else none
  | .seq a b => match regionN n a with
    | some c => some c
    | none => regionN n b
  | .cond _ a b => match regionN n a with
    | some c => some c
    | none => regionN n b
  | .block _ c => regionN n c
  | .loop c => regionN n c
  | .scope c => regionN n c
  | _ => none

section
variable {c : Nat → Nat} {w : World} {cs : List Value} {k : Nat}
theorem cl_7 {p : Nat} {ty : TypeId} {v0 v1 v2 v3 v4 v5 v6 : Value} (h : Blk c k w p [v0, v1, v2, v3, v4, v5, v6] ty) : w.cell? ⟨p, 0, none⟩ = some v0 ∧ w.cell? ⟨p, 1, none⟩ = some v1 ∧ w.cell? ⟨p, 2, none⟩ = some v2 ∧ w.cell? ⟨p, 3, none⟩ = some v3 ∧ w.cell? ⟨p, 4, none⟩ = some v4 ∧ w.cell? ⟨p, 5, none⟩ = some v5 ∧ w.cell? ⟨p, 6, none⟩ = some v6 :=
  ⟨by simpa using h.cell 0, by simpa using h.cell 1, by simpa using h.cell 2, by simpa using h.cell 3, by simpa using h.cell 4, by simpa using h.cell 5, by simpa using h.cell 6⟩
end

end Go.Proofs.YtiphdedfbafhkaaGreatDoor

namespace Go.Proofs.YtiphdedfbafhkaaGreatDoor
open Go.RowKit

/-- Fifteen cells stored to a block. -/
def put15 (w : World) (b : Nat) (v0 v1 v2 v3 v4 v5 v6 v7 v8 v9 v10 v11 v12 v13 v14 : Value) : World :=
  ((((((((((((((w.setCell ⟨b, 0, none⟩ v0).setCell ⟨b, 1, none⟩ v1).setCell ⟨b, 2, none⟩ v2).setCell ⟨b, 3, none⟩ v3).setCell ⟨b, 4, none⟩ v4).setCell ⟨b, 5, none⟩ v5).setCell ⟨b, 6, none⟩ v6).setCell ⟨b, 7, none⟩ v7).setCell ⟨b, 8, none⟩ v8).setCell ⟨b, 9, none⟩ v9).setCell ⟨b, 10, none⟩ v10).setCell ⟨b, 11, none⟩ v11).setCell ⟨b, 12, none⟩ v12).setCell ⟨b, 13, none⟩ v13).setCell ⟨b, 14, none⟩ v14
theorem put15_blk {c : Nat → Nat} {w : World} {kk b : Nat} {u0 u1 u2 u3 u4 u5 u6 u7 u8 u9 u10 u11 u12 u13 u14 : Value} {ty : TypeId} (h : Blk c kk w b [u0, u1, u2, u3, u4, u5, u6, u7, u8, u9, u10, u11, u12, u13, u14] ty) (v0 v1 v2 v3 v4 v5 v6 v7 v8 v9 v10 v11 v12 v13 v14 : Value) : Blk c kk (put15 w b v0 v1 v2 v3 v4 v5 v6 v7 v8 v9 v10 v11 v12 v13 v14) b [v0, v1, v2, v3, v4, v5, v6, v7, v8, v9, v10, v11, v12, v13, v14] ty :=
  ((((((((((((((h.set 0 v0).set 1 v1).set 2 v2).set 3 v3).set 4 v4).set 5 v5).set 6 v6).set 7 v7).set 8 v8).set 9 v9).set 10 v10).set 11 v11).set 12 v12).set 13 v13).set 14 v14
theorem put15_stp {J : Nat → Prop} {c c' : Nat → Nat} {w w1 : World} {b : Nat} (h : Stp J c c' w1 w) (v0 v1 v2 v3 v4 v5 v6 v7 v8 v9 v10 v11 v12 v13 v14 : Value) (hb : J (c' b)) : Stp J c c' w1 (put15 w b v0 v1 v2 v3 v4 v5 v6 v7 v8 v9 v10 v11 v12 v13 v14) := by
  unfold put15
  exact ((((((((((((((h.setCell (p := ⟨b, 0, none⟩) v0 hb).setCell (p := ⟨b, 1, none⟩) v1 hb).setCell (p := ⟨b, 2, none⟩) v2 hb).setCell (p := ⟨b, 3, none⟩) v3 hb).setCell (p := ⟨b, 4, none⟩) v4 hb).setCell (p := ⟨b, 5, none⟩) v5 hb).setCell (p := ⟨b, 6, none⟩) v6 hb).setCell (p := ⟨b, 7, none⟩) v7 hb).setCell (p := ⟨b, 8, none⟩) v8 hb).setCell (p := ⟨b, 9, none⟩) v9 hb).setCell (p := ⟨b, 10, none⟩) v10 hb).setCell (p := ⟨b, 11, none⟩) v11 hb).setCell (p := ⟨b, 12, none⟩) v12 hb).setCell (p := ⟨b, 13, none⟩) v13 hb).setCell (p := ⟨b, 14, none⟩) v14 hb
theorem put15_new {J : Nat → Prop} {c c' : Nat → Nat} {w w1 : World} {b : Nat} (h : Stp J c c' w1 w) (v0 v1 v2 v3 v4 v5 v6 v7 v8 v9 v10 v11 v12 v13 v14 : Value) (hb : w1.heap.size ≤ b) : Stp J c c' w1 (put15 w b v0 v1 v2 v3 v4 v5 v6 v7 v8 v9 v10 v11 v12 v13 v14) := by
  unfold put15
  exact ((((((((((((((h.setNew (p := ⟨b, 0, none⟩) v0 hb).setNew (p := ⟨b, 1, none⟩) v1 hb).setNew (p := ⟨b, 2, none⟩) v2 hb).setNew (p := ⟨b, 3, none⟩) v3 hb).setNew (p := ⟨b, 4, none⟩) v4 hb).setNew (p := ⟨b, 5, none⟩) v5 hb).setNew (p := ⟨b, 6, none⟩) v6 hb).setNew (p := ⟨b, 7, none⟩) v7 hb).setNew (p := ⟨b, 8, none⟩) v8 hb).setNew (p := ⟨b, 9, none⟩) v9 hb).setNew (p := ⟨b, 10, none⟩) v10 hb).setNew (p := ⟨b, 11, none⟩) v11 hb).setNew (p := ⟨b, 12, none⟩) v12 hb).setNew (p := ⟨b, 13, none⟩) v13 hb).setNew (p := ⟨b, 14, none⟩) v14 hb

/-- What the region loads. -/
def S8 (yb sp : Nat) (n : Int) (w : World) : Prop := w.cell? ⟨yb, 0, none⟩ = some (.pointer (some ⟨sp, 0, none⟩)) ∧ w.cell? ⟨yb, 1, none⟩ = some (.int .i64 n) ∧ w.cell? ⟨yb, 2, none⟩ = some (.int .i64 0) ∧ w.cell? ⟨yb, 3, none⟩ = some (.int .i64 0) ∧ w.cell? ⟨yb, 4, none⟩ = some (.int .i64 0) ∧ w.cell? ⟨yb, 5, none⟩ = some (.slice none 0 0) ∧ w.cell? ⟨yb, 6, none⟩ = some (.int .i64 0)

noncomputable def Tryz.crc8 : Code := (Tryz.f8.body.bind (regionN 8)).getD .skip

set_option maxRecDepth 1000000 in
set_option maxHeartbeats 100000000 in
theorem Tryz.rrc8 {sp yb rb : Nat} {n : Int} {c9 : Nat → Nat} {w9 : World} (HB : Hid (Blk c9 0 w9 rb [.bool false, .pointer none, .int .i64 0, .slice none 0 0, .int .i64 0, .bool false, .bool false, .bool false, .pointer none, .int .i64 0, .int .i64 0, .int .i64 0, .int .i64 0, .slice none 0 0, .int .i64 0] 38)) (HY : Hid (Blk c9 1 w9 yb [.pointer (some ⟨sp, 0, none⟩), .int .i64 n, .int .i64 0, .int .i64 0, .int .i64 0, .slice none 0 0, .int .i64 0] 36)) {fr0 fr1 fr2 fr3 fr4 fr5 fr7 fr8 fr10 fr11 fr13 fr14 fr15 fr16 fr17 fr18 fr19 fr20 fr21 fr22 fr23 fr24 fr25 fr26 fr27 fr28 fr29 fr30 fr31 fr32 fr33 fr34 fr35 fr36 fr37 fr38 fr39 fr40 fr41 fr42 fr43 fr44 fr45 fr46 fr47 fr48 fr49 fr50 fr51 fr52 fr53 : Value} {Q0 : Exit → Act → World → Prop}
    (hQ : ∀ (w' : World), ∀ g49 g50 g51 g52 g53 : Value, Hid (Stp (· = 0) c9 c9 w9 w') → Hid (∀ (cA : Nat → Nat) (wA : World), wA.heap.size ≤ rb → Stp (fun _ => False) cA c9 wA w9 → Stp (fun _ => False) cA c9 wA w') → Hid (Blk c9 0 w' rb [.bool true, .pointer none, .int .i64 0, .slice none 0 0, .int .i64 0, .bool false, .bool false, .bool false, .pointer (some ⟨sp, 0, none⟩), .int .i64 n, .int .i64 0, .int .i64 0, .int .i64 0, .slice none 0 0, .int .i64 0] 38) → Q0 .normal ⟨#[fr0, fr1, fr2, fr3, fr4, fr5, .pointer (some ⟨rb, 0, none⟩), .nilIface, fr8, .nilIface, fr10, fr11, .pointer (some ⟨yb, 0, none⟩), fr13, fr14, fr15, fr16, fr17, fr18, fr19, fr20, fr21, fr22, fr23, fr24, fr25, fr26, fr27, fr28, fr29, fr30, fr31, fr32, fr33, fr34, fr35, fr36, fr37, fr38, fr39, fr40, fr41, fr42, fr43, fr44, fr45, fr46, fr47, fr48, g49, g50, g51, g52, g53], []⟩ w') : Code.wp Tryz.prog Tryz.crc8 Q0 ⟨#[fr0, fr1, fr2, fr3, fr4, fr5, .pointer (some ⟨rb, 0, none⟩), fr7, fr8, .nilIface, fr10, fr11, .pointer (some ⟨yb, 0, none⟩), fr13, fr14, fr15, fr16, fr17, fr18, fr19, fr20, fr21, fr22, fr23, fr24, fr25, fr26, fr27, fr28, fr29, fr30, fr31, fr32, fr33, fr34, fr35, fr36, fr37, fr38, fr39, fr40, fr41, fr42, fr43, fr44, fr45, fr46, fr47, fr48, fr49, fr50, fr51, fr52, fr53], []⟩ w9 := by
  conv => arg 2; whnf
  refine wp_region_noPanic ?_
  have HQ := Lib.hid hQ
  clear hQ
  have B0 := Lib.hid (HB.out.stp (Stp.refl (fun _ => False) c9 w9).drew id)
  have Y0 := Lib.hid (HY.out.stp (Stp.refl (fun _ => False) c9 w9).drew id)
  have T0 := Lib.hid ((Stp.refl (· = 0) c9 w9).drew)
  have U0 := Lib.hid ((Stp.refl (fun _ => False) c9 w9).drew)
  refine wp_region_held_drew (S := S8 yb sp n) (by kernel_rfl) (cl_7 Y0.out) (fun hS0 => ?_)
  have hS := Lib.hid hS0
  clear hS0
  generalize w9.drew = wq0 at B0 Y0 T0 U0 hS ⊢
  refine wpH_takeL (i := 0) (v := ?_) rfl (by kernel_rfl) (by kernel_rfl) (by kernel_rfl) (fun _ _ _ h => h) (Or.inl ⟨by rfl, ?_⟩) hS.out ?_
  rotate_left
  · intro wy hSy
    clear hSy
    go_simp
    try with_reducible rfl
  try simp only [Act.put, List.setIfInBounds_toArray, List.set_cons_zero, List.set_cons_succ]
  refine wpH_takeL (i := 1) (v := ?_) rfl (by kernel_rfl) (by kernel_rfl) (by kernel_rfl) (fun _ _ _ h => h) (Or.inl ⟨by rfl, ?_⟩) hS.out ?_
  rotate_left
  · intro wy hSy
    clear hSy
    go_simp
    try with_reducible rfl
  try simp only [Act.put, List.setIfInBounds_toArray, List.set_cons_zero, List.set_cons_succ]
  refine wpH_takeL (i := 2) (v := ?_) rfl (by kernel_rfl) (by kernel_rfl) (by kernel_rfl) (fun _ _ _ h => h) (Or.inl ⟨by rfl, ?_⟩) hS.out ?_
  rotate_left
  · intro wy hSy
    obtain ⟨s0, s1, s2, s3, s4, s5, s6⟩ := hSy
    go_simp
    try with_reducible rfl
  try simp only [Act.put, List.setIfInBounds_toArray, List.set_cons_zero, List.set_cons_succ]
  refine wpH_takeL (i := 3) (v := ?_) rfl (by kernel_rfl) (by kernel_rfl) (by kernel_rfl) (fun _ _ _ h => h) (Or.inl ⟨by rfl, ?_⟩) hS.out ?_
  rotate_left
  · intro wy hSy
    clear hSy
    go_simp
    try with_reducible rfl
  try simp only [Act.put, List.setIfInBounds_toArray, List.set_cons_zero, List.set_cons_succ]
  refine wpH_takeL (i := 4) (v := ?_) rfl (by kernel_rfl) (by kernel_rfl) (by kernel_rfl) (fun _ _ _ h => h) (Or.inl ⟨by rfl, ?_⟩) hS.out ?_
  rotate_left
  · intro wy hSy
    clear hSy
    go_simp
    try with_reducible rfl
  try simp only [Act.put, List.setIfInBounds_toArray, List.set_cons_zero, List.set_cons_succ]
  refine wpAnyH_ready (rs := [5]) (by kernel_rfl) (by simp) (readyH_consL rfl (fun K hK => ?_) AllReadyH.nil)
  obtain ⟨y0, y1, y2, y3, y4, y5, y6, y7, y8, y9, y10, y11, y12, y13, y14⟩ := cells15 B0.out
  obtain ⟨z0, z1, z2, z3, z4, z5, z6, z7, z8, z9, z10, z11, z12, z13, z14⟩ := frees15 B0.out
  have lb := B0.out.lt
  go_simp
  have T1 := Lib.hid (put15_stp (Stp.refl (· = 0) c9 wq0) (.bool true) (.pointer none) (.int .i64 0) (.slice none 0 0) (.int .i64 0) (.bool false) (.bool false) (.bool false) (.pointer (some ⟨sp, 0, none⟩)) (.int .i64 n) (.int .i64 0) (.int .i64 0) (.int .i64 0) (.slice none 0 0) (.int .i64 0) B0.out.1)
  have B1 := Lib.hid (put15_blk B0.out (.bool true) (.pointer none) (.int .i64 0) (.slice none 0 0) (.int .i64 0) (.bool false) (.bool false) (.bool false) (.pointer (some ⟨sp, 0, none⟩)) (.int .i64 n) (.int .i64 0) (.int .i64 0) (.int .i64 0) (.slice none 0 0) (.int .i64 0))
  have Y1 := Lib.hid (Y0.out.stp T1.out (by decide))
  refine hK.out _ _ (cl_7 Y1.out) (fun hS1 => ?_)
  clear hK K hS y0 y1 y2 y3 y4 y5 y6 y7 y8 y9 y10 y11 y12 y13 y14 z0 z1 z2 z3 z4 z5 z6 z7 z8 z9 z10 z11 z12 z13 z14 lb
  have hS := Lib.hid hS1
  clear hS1
  try simp only [Act.put, List.setIfInBounds_toArray, List.set_cons_zero, List.set_cons_succ]
  refine wpH_takeL (i := 6) (v := ?_) rfl (by kernel_rfl) (by kernel_rfl) (by kernel_rfl) (fun _ _ _ h => h) (Or.inl ⟨by rfl, ?_⟩) hS.out ?_
  rotate_left
  · intro wy hSy
    clear hSy
    go_simp
    try with_reducible rfl
  try simp only [Act.put, List.setIfInBounds_toArray, List.set_cons_zero, List.set_cons_succ]
  refine wpAnyH_done (by kernel_rfl) ?_ _
  exact HQ.out _ _ _ _ _ _ (Lib.hid (T0.out.trans T1.out)) (Lib.hid (fun cA wA hA h => put15_new (h.trans U0.out) (.bool true) (.pointer none) (.int .i64 0) (.slice none 0 0) (.int .i64 0) (.bool false) (.bool false) (.bool false) (.pointer (some ⟨sp, 0, none⟩)) (.int .i64 n) (.int .i64 0) (.int .i64 0) (.int .i64 0) (.slice none 0 0) (.int .i64 0) hA)) B1

section
variable {c c' : Nat → Nat} {K : Nat} {w w' : World} {r ar ck tb : Nat} {la : List Int} {now : Int} {tl : List Tm} {l : List One} {D : List RD} {ao : Option Addr} {cap i : Nat} {d : RD}
set_option maxRecDepth 100000 in
/-- A claim of a multi ring is begun. -/
theorem rclaim_m (hK : 2 ≤ K) (h : RMs c K w r ar ck tb la now tl l D ao cap) (hd : D[i]? = some d) (hm : d.many = true) (n : Int) (h1 : 1 ≤ n) (h2 : n ≤ 2 ^ d.sh) :
    Calls Tryz.prog 8 #[.pointer (some ⟨r, 0, none⟩), .int .i64 (i : Int), .int .i64 n] w fun e w' => e = .returned (.tuple #[.agg #[.bool true, .pointer none, .int .i64 0, .slice none 0 0, .int .i64 0, .bool false, .bool false, .bool false, .pointer (some ⟨d.sp, 0, none⟩), .int .i64 n, .int .i64 0, .int .i64 0, .int .i64 0, .slice none 0 0, .int .i64 0], .nilIface]) ∧ ∃ c', Stp (fun _ => False) c c' w w' ∧
      RMs c' K w' r ar ck tb la now tl l D ao cap := by
  obtain ⟨rb, hrb⟩ : ∃ x, x = w.heap.size := ⟨_, rfl⟩
  have HRB := Lib.hid (show w.heap.size ≤ rb by omega)
  obtain ⟨c1, hc1, t1⟩ := ((Stp.refl (fun _ => False) c w).alloc (.cells #[.bool false, .pointer none, .int .i64 0, .slice none 0 0, .int .i64 0, .bool false, .bool false, .bool false, .pointer none, .int .i64 0, .int .i64 0, .int .i64 0, .int .i64 0, .slice none 0 0, .int .i64 0] 38) 0).name
  have H1 := Lib.hid (h.stpF t1.out)
  have B1 := Lib.hid (show Blk c1 0 (w.alloc (.cells #[.bool false, .pointer none, .int .i64 0, .slice none 0 0, .int .i64 0, .bool false, .bool false, .bool false, .pointer none, .int .i64 0, .int .i64 0, .int .i64 0, .int .i64 0, .slice none 0 0, .int .i64 0] 38)) rb [.bool false, .pointer none, .int .i64 0, .slice none 0 0, .int .i64 0, .bool false, .bool false, .bool false, .pointer none, .int .i64 0, .int .i64 0, .int .i64 0, .int .i64 0, .slice none 0 0, .int .i64 0] 38 by rw [hc1.out, hrb]; exact Blk.new c 0 w _ _)
  have HD := Lib.hid hd
  have HM := Lib.hid hm
  have HS := Lib.hid (mtry_ok ((H1.out.rg i d hd).sq hm) n h1 h2)
  obtain ⟨k0, k3, kl⟩ := H1.out.two hd hm
  clear h hd hm h1 h2 hc1
  go_enter Tryz.func8, Tryz.ntmps8
  go_upto_region 1 with fail
  rw [← hrb]
  generalize w.alloc (.cells #[.bool false, .pointer none, .int .i64 0, .slice none 0 0, .int .i64 0, .bool false, .bool false, .bool false, .pointer none, .int .i64 0, .int .i64 0, .int .i64 0, .int .i64 0, .slice none 0 0, .int .i64 0] 38) = w1 at t1 H1 B1 HS k0 k3 kl ⊢
  clear hrb
  go_wp2_with fail
  refine (rat_c H1.out HD.out).mono ?_
  rintro e w1' ⟨rfl, rfl⟩
  go_wp2_with fail
  refine HS.out.mono ?_
  rintro e w2 ⟨rfl, c2, t2⟩
  have R2 := Lib.hid (H1.out.stpF t2)
  have B2 := Lib.hid (B1.out.stp t2 id)
  have S2 := Lib.hid (t1.out.trans t2)
  clear t2 k0 k3 kl HS H1 B1 t1
  obtain ⟨yb, hyb⟩ : ∃ x, x = w2.heap.size := ⟨_, rfl⟩
  obtain ⟨c3, hc3, t3⟩ := ((Stp.refl (fun _ => False) c2 w2).alloc (.cells #[.pointer (some ⟨d.sp, 0, none⟩), .int .i64 n, .int .i64 0, .int .i64 0, .int .i64 0, .slice none 0 0, .int .i64 0] 36) 1).name
  have R3 := Lib.hid (R2.out.stpF t3.out)
  have B3 := Lib.hid (B2.out.stp t3.out id)
  have S3 := Lib.hid (S2.out.trans t3.out)
  have Y3 := Lib.hid (show Blk c3 1 (w2.alloc (.cells #[.pointer (some ⟨d.sp, 0, none⟩), .int .i64 n, .int .i64 0, .int .i64 0, .int .i64 0, .slice none 0 0, .int .i64 0] 36)) yb [.pointer (some ⟨d.sp, 0, none⟩), .int .i64 n, .int .i64 0, .int .i64 0, .int .i64 0, .slice none 0 0, .int .i64 0] 36 by rw [hc3.out, hyb]; exact Blk.new c2 1 w2 _ _)
  clear R2 B2 S2 hc3 t3
  go_upto_region 8 with fail
  rw [← hyb]
  generalize w2.alloc (.cells #[.pointer (some ⟨d.sp, 0, none⟩), .int .i64 n, .int .i64 0, .int .i64 0, .int .i64 0, .slice none 0 0, .int .i64 0] 36) = w3 at R3 B3 S3 Y3 ⊢
  clear hyb
  refine Tryz.rrc8 B3 Y3 (fun w4 _ _ _ _ _ T4 N4 B4 => ?_)
  have R4 := Lib.hid (R3.out.stp0 hK T4.out)
  have S4 := Lib.hid (N4.out _ _ HRB.out S3.out)
  obtain ⟨y0, y1, y2, y3, y4, y5, y6, y7, y8, y9, y10, y11, y12, y13, y14⟩ := cells15 B4.out
  clear R3 S3 Y3 B3
  go_wp2
  exact bodyPost_ret (v := .tuple #[.agg #[.bool true, .pointer none, .int .i64 0, .slice none 0 0, .int .i64 0, .bool false, .bool false, .bool false, .pointer (some ⟨d.sp, 0, none⟩), .int .i64 n, .int .i64 0, .int .i64 0, .int .i64 0, .slice none 0 0, .int .i64 0], .nilIface]) (by clear R4 S4 HD HM HRB; simp [results, Tryz.results8, go_sem, *]) rfl ⟨rfl, c3, S4.out, R4.out⟩
end
end Go.Proofs.YtiphdedfbafhkaaGreatDoor

namespace Go.Proofs.YtiphdedfbafhkaaGreatDoor
open Go.RowKit

section
variable {c c' : Nat → Nat} {K : Nat} {w w' : World} {r ar ck tb : Nat} {la la' : List Int} {now : Int} {tl : List Tm} {l : List One} {D : List RD} {ao ao' : Option Addr} {cap cap' i : Nat} {d : RD}
/-- What is made anew turns no room. -/
theorem RMs.stpN {J : Nat → Prop} (h : RMs c K w r ar ck tb la now tl l D ao cap) (t : Stp J c c' w w') (hJ : ∀ j, J j → (j = 0 ∧ 2 ≤ K) ∨ kb K D.length ≤ j) : RMs c' K w' r ar ck tb la now tl l D ao cap := by
  have g : ∀ j, 1 ≤ j ∨ K < 2 → j < kb K D.length → ¬ J j := fun j h1 h2 h3 => by
    rcases hJ j h3 with ⟨h4, h5⟩ | h4 <;> omega
  have q : ∀ j, j < K + 20 → j < kb K D.length := fun j hj => by unfold kb; omega
  have q0 : ∀ j, K < 2 ∨ 1 ≤ K + j := fun j => by omega
  refine ⟨h.rm.stp t (g _ (by omega) (q _ (by omega))) (g _ (by omega) (q _ (by omega))) (g _ (by omega) (q _ (by omega))) (g _ (by omega) (q _ (by omega))) (g _ (by omega) (q _ (by omega))), h.rr.stp t (g _ (by omega) (q _ (by omega))), fun i d hd => ?_⟩
  have hi : i < D.length := (List.getElem?_eq_some_iff.1 hd).1
  exact (h.rg i d hd).stp t (g _ (by unfold kb; omega) (by unfold kb; omega)) (g _ (by unfold kb; omega) (by unfold kb; omega)) (g _ (by unfold kb; omega) (by unfold kb; omega)) (g _ (by unfold kb; omega) (by unfold kb; omega)) (g _ (by omega) (q _ (by omega))) (g _ (by omega) (q _ (by omega))) (g _ (by omega) (q _ (by omega)))
/-- One ring more. -/
theorem RMs.grow {J : Nat → Prop} (h : RMs c K w r ar ck tb la now tl l D ao cap) (t : Stp J c c' w w') (hJ : ∀ j, J j → j = K ∨ j = K + 6)
    (rb : Blk c' K w' r [.pointer (some ⟨ar, 0, none⟩), .pointer (some ⟨ck, 0, none⟩), .pointer (some ⟨tb, 0, none⟩), .slice ao' (D.length + 1) cap'] 104)
    (rr : Row c' (K + 6) w' 105 1 ao' (D.length + 1) cap' ((D.map fun d => Value.pointer (some ⟨d.g, 0, none⟩)) ++ [.pointer (some ⟨d.g, 0, none⟩)])) (rg : RI c' K (kb K D.length) w' ar d) : RMs c' K w' r ar ck tb la now tl l (D ++ [d]) ao' cap' := by
  have g : ∀ j, j ≠ K → j ≠ K + 6 → ¬ J j := fun j h1 h2 h3 => (hJ j h3).elim h1 h2
  refine ⟨⟨by simpa using rb, h.rm.aa.imp fun _ a => a.stp t (g _ (by omega) (by omega)), h.rm.ca.stp t (g _ (by omega) (by omega)) (g _ (by omega) (by omega)), h.rm.ta.stp t (g _ (by omega) (by omega))⟩, by simpa using rr, fun i y hy => ?_⟩
  by_cases hi : i < D.length
  · rw [List.getElem?_append_left hi] at hy
    exact (h.rg i y hy).stp t (g _ (by unfold kb; omega) (by unfold kb; omega)) (g _ (by unfold kb; omega) (by unfold kb; omega)) (g _ (by unfold kb; omega) (by unfold kb; omega)) (g _ (by unfold kb; omega) (by unfold kb; omega)) (g _ (by omega) (by omega)) (g _ (by omega) (by omega)) (g _ (by omega) (by omega))
  · have h1 := (List.getElem?_eq_some_iff.1 hy).1
    simp at h1
    have e : i = D.length := by omega
    subst e
    rw [List.getElem?_append_right (Nat.le_refl _)] at hy
    simp at hy
    subst hy
    exact rg
theorem RMs.start (h : RM c K w r ar ck tb (.slice none 0 0) la now tl l) : RMs c K w r ar ck tb la now tl l [] none 0 :=
  ⟨h, Row.nil _ _ _ _ _, fun i d hd => by simp at hd⟩

end
end Go.Proofs.YtiphdedfbafhkaaGreatDoor
