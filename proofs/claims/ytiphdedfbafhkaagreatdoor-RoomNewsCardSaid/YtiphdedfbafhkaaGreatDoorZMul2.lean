/- Contracts that the closing theorem wants (Mul2). No condition beyond each law's own. -/
import Derived.Test.YtiphdedfbafhkaaGreatDoorZBB
import Derived.Deep.DeepCutAuto
import Derived.Deep.RegionHeld3
namespace Go.Proofs.YtiphdedfbafhkaaGreatDoor
open Go.RowKit

/-- Step's own boxes: the try's and the result's. -/
structure TBox (c : Nat → Nat) (K : Nat) (w : World) (x y : Nat) (cs : List Value) : Prop where
  bx : Blk c (K + 5) w x cs 36
  rs : Blk c (K + 5) w y [.pointer none, .int .i64 0, .int .i64 0, .int .i64 0, .int .i64 0, .slice none 0 0, .int .i64 0] 36
  ne : x ≠ y
theorem TBox.stp {J : Nat → Prop} {c c' : Nat → Nat} {K : Nat} {w w' : World} {x y : Nat} {cs : List Value} (h : TBox c K w x y cs) (s : Stp J c c' w w') (hJ : ¬ J (K + 5)) : TBox c' K w' x y cs := ⟨h.bx.stp s hJ, h.rs.stp s hJ, h.ne⟩
theorem TBox.start (c : Nat → Nat) (K : Nat) (w : World) (cs : List Value) :
    ∃ c', Stp (fun _ => False) c c' w ((w.alloc (.cells cs.toArray 36)).alloc (.cells #[.pointer none, .int .i64 0, .int .i64 0, .int .i64 0, .int .i64 0, .slice none 0 0, .int .i64 0] 36)) ∧ TBox c' K ((w.alloc (.cells cs.toArray 36)).alloc (.cells #[.pointer none, .int .i64 0, .int .i64 0, .int .i64 0, .int .i64 0, .slice none 0 0, .int .i64 0] 36)) w.heap.size (w.heap.size + 1) cs := by
  obtain ⟨w1, hw1⟩ : ∃ w1, w1 = w.alloc (.cells cs.toArray 36) := ⟨_, rfl⟩
  have hz : w.heap.size + 1 = w1.heap.size := by rw [hw1]; simp
  have s1 : Stp (fun _ => False) c (paint c w.heap.size (K + 5)) w w1 := by rw [hw1]; exact (Stp.refl _ c w).alloc _ _
  have b1 : Blk (paint c w.heap.size (K + 5)) (K + 5) w1 w.heap.size cs 36 := by rw [hw1]; exact Blk.new c (K + 5) w cs _
  rw [← hw1, hz]
  have s2 := (Stp.refl (fun _ => False) (paint c w.heap.size (K + 5)) w1).alloc (.cells #[.pointer none, .int .i64 0, .int .i64 0, .int .i64 0, .int .i64 0, .slice none 0 0, .int .i64 0] 36) (K + 5)
  exact ⟨_, s1.trans s2, b1.stp s2 id, Blk.new _ (K + 5) w1 [.pointer none, .int .i64 0, .int .i64 0, .int .i64 0, .int .i64 0, .slice none 0 0, .int .i64 0] _, by omega⟩

/-- Step, part of the way. -/
structure TRel (c0 : Nat → Nat) (w0 : World) (K p q bp gp : Nat) (S : Sq) (la : List Int) (x y : Nat) (cs : List Value) (ao : Option Addr) (m cap : Nat) (ids : List Int) (c : Nat → Nat) (w : World) : Prop where
  st : Stp (· = K) c0 c w0 w
  ar : ArenaS c K w q la
  sq : SeqIs c (K + 1) w p q bp gp S
  sb : TBox c K w x y cs
  sc : In c (K + 4) w 1 ao m cap (ids.map (Value.int .i64))
  nx : w0.heap.size ≤ x
  ny : w0.heap.size ≤ y

section
variable {c0 : Nat → Nat} {w0 : World} {K p q bp gp : Nat} {S : Sq} {la la' : List Int} {x y : Nat} {cs : List Value} {ao : Option Addr} {m cap : Nat} {ids : List Int} {c c' : Nat → Nat} {w w' : World}
theorem TRel.stpF (h : TRel c0 w0 K p q bp gp S la x y cs ao m cap ids c w) (t : Stp (fun _ => False) c c' w w') : TRel c0 w0 K p q bp gp S la x y cs ao m cap ids c' w' :=
  ⟨h.st.trans (t.mono fun _ h => h.elim), h.ar.stp t id, h.sq.stp t id id id, h.sb.stp t id, h.sc.stp t id, h.nx, h.ny⟩
theorem TRel.are (h : TRel c0 w0 K p q bp gp S la x y cs ao m cap ids c w) (t : Stp (· = K) c c' w w') (ha : ArenaS c' K w' q la') : TRel c0 w0 K p q bp gp S la' x y cs ao m cap ids c' w' :=
  ⟨h.st.trans t, ha, h.sq.stp t (by omega) (by omega) (by omega), h.sb.stp t (by omega), h.sc.stp t (by omega), h.nx, h.ny⟩
theorem TRel.scan (h : TRel c0 w0 K p q bp gp S la x y cs ao m cap ids c w) {ao' : Option Addr} {m' cap' : Nat} {ids' : List Int} (hs : In c (K + 4) w 1 ao' m' cap' (ids'.map (Value.int .i64))) : TRel c0 w0 K p q bp gp S la x y cs ao' m' cap' ids' c w :=
  ⟨h.st, h.ar, h.sq, h.sb, hs, h.nx, h.ny⟩
theorem TRel.put (h : TRel c0 w0 K p q bp gp S la x y cs ao m cap ids c w) (j : Nat) (v : Value) : TRel c0 w0 K p q bp gp S la x y (cs.set j v) ao m cap ids c (w.setCell ⟨x, j, none⟩ v) := by
  have t := (Stp.refl (· = K + 5) c w).setCell (p := ⟨x, j, none⟩) v h.sb.bx.1
  refine ⟨h.st.setNew (p := ⟨x, j, none⟩) _ h.nx, h.ar.stp t (by omega), h.sq.stp t (by omega) (by omega) (by omega), ⟨h.sb.bx.set j v, h.sb.rs.other _ (fun e => h.sb.ne e), h.sb.ne⟩, h.sc.stp t (by omega), h.nx, h.ny⟩
theorem TRel.drew (h : TRel c0 w0 K p q bp gp S la x y cs ao m cap ids c w) : TRel c0 w0 K p q bp gp S la x y cs ao m cap ids c w.drew := h.stpF (Stp.refl (fun _ => False) _ _).drew
/-- The result's seven stores. -/
theorem TRel.res (h : TRel c0 w0 K p q bp gp S la x y cs ao m cap ids c w) (u0 u1 u2 u3 u4 u5 u6 : Value) :
    ∃ c', Stp (· = K) c0 c' w0 (((((((w.setCell ⟨y, 0, none⟩ u0).setCell ⟨y, 1, none⟩ u1).setCell ⟨y, 2, none⟩ u2).setCell ⟨y, 3, none⟩ u3).setCell ⟨y, 4, none⟩ u4).setCell ⟨y, 5, none⟩ u5).setCell ⟨y, 6, none⟩ u6) ∧ ArenaS c' K (((((((w.setCell ⟨y, 0, none⟩ u0).setCell ⟨y, 1, none⟩ u1).setCell ⟨y, 2, none⟩ u2).setCell ⟨y, 3, none⟩ u3).setCell ⟨y, 4, none⟩ u4).setCell ⟨y, 5, none⟩ u5).setCell ⟨y, 6, none⟩ u6) q la ∧ In c' (K + 4) (((((((w.setCell ⟨y, 0, none⟩ u0).setCell ⟨y, 1, none⟩ u1).setCell ⟨y, 2, none⟩ u2).setCell ⟨y, 3, none⟩ u3).setCell ⟨y, 4, none⟩ u4).setCell ⟨y, 5, none⟩ u5).setCell ⟨y, 6, none⟩ u6) 1 ao m cap (ids.map (Value.int .i64)) := by
  have hy := h.sb.rs.1
  have t := (((((((Stp.refl (· = K + 5) c w).setCell (p := ⟨y, 0, none⟩) u0 hy).setCell (p := ⟨y, 1, none⟩) u1 hy).setCell (p := ⟨y, 2, none⟩) u2 hy).setCell (p := ⟨y, 3, none⟩) u3 hy).setCell (p := ⟨y, 4, none⟩) u4 hy).setCell (p := ⟨y, 5, none⟩) u5 hy).setCell (p := ⟨y, 6, none⟩) u6 hy
  exact ⟨c, ((((((h.st.setNew (p := ⟨y, 0, none⟩) u0 h.ny).setNew (p := ⟨y, 1, none⟩) u1 h.ny).setNew (p := ⟨y, 2, none⟩) u2 h.ny).setNew (p := ⟨y, 3, none⟩) u3 h.ny).setNew (p := ⟨y, 4, none⟩) u4 h.ny).setNew (p := ⟨y, 5, none⟩) u5 h.ny).setNew (p := ⟨y, 6, none⟩) u6 h.ny, h.ar.stp t (by omega), h.sc.stp t (by omega)⟩
theorem TRel.res7 (h : TRel c0 w0 K p q bp gp S la x y cs ao m cap ids c w) {ev : Value} {ne : Int} (he : ErrAt c w ev ne) (hK : 2 ≤ K) (u0 u1 u2 u3 u4 u5 u6 : Value) :
    ∃ c', Stp (· = K) c0 c' w0 (((((((w.setCell ⟨y, 0, none⟩ u0).setCell ⟨y, 1, none⟩ u1).setCell ⟨y, 2, none⟩ u2).setCell ⟨y, 3, none⟩ u3).setCell ⟨y, 4, none⟩ u4).setCell ⟨y, 5, none⟩ u5).setCell ⟨y, 6, none⟩ u6) ∧ ArenaS c' K (((((((w.setCell ⟨y, 0, none⟩ u0).setCell ⟨y, 1, none⟩ u1).setCell ⟨y, 2, none⟩ u2).setCell ⟨y, 3, none⟩ u3).setCell ⟨y, 4, none⟩ u4).setCell ⟨y, 5, none⟩ u5).setCell ⟨y, 6, none⟩ u6) q la ∧ In c' (K + 4) (((((((w.setCell ⟨y, 0, none⟩ u0).setCell ⟨y, 1, none⟩ u1).setCell ⟨y, 2, none⟩ u2).setCell ⟨y, 3, none⟩ u3).setCell ⟨y, 4, none⟩ u4).setCell ⟨y, 5, none⟩ u5).setCell ⟨y, 6, none⟩ u6) 1 ao m cap (ids.map (Value.int .i64)) ∧ ErrAt c' (((((((w.setCell ⟨y, 0, none⟩ u0).setCell ⟨y, 1, none⟩ u1).setCell ⟨y, 2, none⟩ u2).setCell ⟨y, 3, none⟩ u3).setCell ⟨y, 4, none⟩ u4).setCell ⟨y, 5, none⟩ u5).setCell ⟨y, 6, none⟩ u6) ev ne := by
  have hy := h.sb.rs.1
  have t := (((((((Stp.refl (· = K + 5) c w).setCell (p := ⟨y, 0, none⟩) u0 hy).setCell (p := ⟨y, 1, none⟩) u1 hy).setCell (p := ⟨y, 2, none⟩) u2 hy).setCell (p := ⟨y, 3, none⟩) u3 hy).setCell (p := ⟨y, 4, none⟩) u4 hy).setCell (p := ⟨y, 5, none⟩) u5 hy).setCell (p := ⟨y, 6, none⟩) u6 hy
  exact ⟨c, ((((((h.st.setNew (p := ⟨y, 0, none⟩) u0 h.ny).setNew (p := ⟨y, 1, none⟩) u1 h.ny).setNew (p := ⟨y, 2, none⟩) u2 h.ny).setNew (p := ⟨y, 3, none⟩) u3 h.ny).setNew (p := ⟨y, 4, none⟩) u4 h.ny).setNew (p := ⟨y, 5, none⟩) u5 h.ny).setNew (p := ⟨y, 6, none⟩) u6 h.ny, h.ar.stp t (by omega), h.sc.stp t (by omega), he.stp t (by omega)⟩
theorem TRel.start (ha : ArenaS c K w q la) (hB : SeqIs c (K + 1) w p q bp gp S) (hs : In c (K + 4) w 1 ao m cap (ids.map (Value.int .i64))) (cs : List Value) :
    ∃ c', TRel c w K p q bp gp S la w.heap.size (w.heap.size + 1) cs ao m cap ids c' ((w.alloc (.cells cs.toArray 36)).alloc (.cells #[.pointer none, .int .i64 0, .int .i64 0, .int .i64 0, .int .i64 0, .slice none 0 0, .int .i64 0] 36)) := by
  obtain ⟨c', t, X⟩ := TBox.start c K w cs
  exact ⟨c', t.mono (fun _ h => h.elim), ha.stp t id, hB.stp t id id id, X, hs.stp t id, Nat.le_refl _, Nat.le_succ _⟩
theorem TRel.xs (h : TRel c0 w0 K p q bp gp S la x y cs ao m cap ids c w) {v0 v1 v2 v3 v4 v5 v6 : Value} (e : cs = [v0, v1, v2, v3, v4, v5, v6]) : w.cell? ⟨x, 0, none⟩ = some v0 ∧ w.cell? ⟨x, 1, none⟩ = some v1 ∧ w.cell? ⟨x, 2, none⟩ = some v2 ∧ w.cell? ⟨x, 3, none⟩ = some v3 ∧ w.cell? ⟨x, 4, none⟩ = some v4 ∧ w.cell? ⟨x, 5, none⟩ = some v5 ∧ w.cell? ⟨x, 6, none⟩ = some v6 ∧ x < w.heap.size := by
  subst e
  exact ⟨by simpa using h.sb.bx.cell 0, by simpa using h.sb.bx.cell 1, by simpa using h.sb.bx.cell 2, by simpa using h.sb.bx.cell 3, by simpa using h.sb.bx.cell 4, by simpa using h.sb.bx.cell 5, by simpa using h.sb.bx.cell 6, h.sb.bx.lt⟩
theorem TRel.ys (h : TRel c0 w0 K p q bp gp S la x y cs ao m cap ids c w) : w.cell? ⟨y, 0, none⟩ = some (.pointer none) ∧ w.cell? ⟨y, 1, none⟩ = some (.int .i64 0) ∧ w.cell? ⟨y, 2, none⟩ = some (.int .i64 0) ∧ w.cell? ⟨y, 3, none⟩ = some (.int .i64 0) ∧ w.cell? ⟨y, 4, none⟩ = some (.int .i64 0) ∧ w.cell? ⟨y, 5, none⟩ = some (.slice none 0 0) ∧ w.cell? ⟨y, 6, none⟩ = some (.int .i64 0) ∧ y < w.heap.size ∧ x ≠ y :=
  ⟨by simpa using h.sb.rs.cell 0, by simpa using h.sb.rs.cell 1, by simpa using h.sb.rs.cell 2, by simpa using h.sb.rs.cell 3, by simpa using h.sb.rs.cell 4, by simpa using h.sb.rs.cell 5, by simpa using h.sb.rs.cell 6, h.sb.rs.lt, h.sb.ne⟩
theorem TRel.fx (h : TRel c0 w0 K p q bp gp S la x y cs ao m cap ids c w) : w.frozen? ⟨x, 0, none⟩ = false ∧ w.frozen? ⟨x, 1, none⟩ = false ∧ w.frozen? ⟨x, 2, none⟩ = false ∧ w.frozen? ⟨x, 3, none⟩ = false ∧ w.frozen? ⟨x, 4, none⟩ = false ∧ w.frozen? ⟨x, 5, none⟩ = false ∧ w.frozen? ⟨x, 6, none⟩ = false := ⟨h.sb.bx.free 0, h.sb.bx.free 1, h.sb.bx.free 2, h.sb.bx.free 3, h.sb.bx.free 4, h.sb.bx.free 5, h.sb.bx.free 6⟩
theorem TRel.fy (h : TRel c0 w0 K p q bp gp S la x y cs ao m cap ids c w) : w.frozen? ⟨y, 0, none⟩ = false ∧ w.frozen? ⟨y, 1, none⟩ = false ∧ w.frozen? ⟨y, 2, none⟩ = false ∧ w.frozen? ⟨y, 3, none⟩ = false ∧ w.frozen? ⟨y, 4, none⟩ = false ∧ w.frozen? ⟨y, 5, none⟩ = false ∧ w.frozen? ⟨y, 6, none⟩ = false := ⟨h.sb.rs.free 0, h.sb.rs.free 1, h.sb.rs.free 2, h.sb.rs.free 3, h.sb.rs.free 4, h.sb.rs.free 5, h.sb.rs.free 6⟩
theorem TRel.ss (h : TRel c0 w0 K p q bp gp S la x y cs ao m cap ids c w) : w.cell? ⟨p, 0, none⟩ = some (.pointer (some ⟨q, 0, none⟩)) ∧ w.cell? ⟨p, 1, none⟩ = some (.int .i64 S.sh) ∧ w.cell? ⟨p, 2, none⟩ = some (.int .i64 S.cur) ∧ w.cell? ⟨p, 3, none⟩ = some (.int .i64 S.cac) ∧ w.cell? ⟨p, 4, none⟩ = some (.pointer (some ⟨bp, 0, none⟩)) ∧ w.cell? ⟨p, 5, none⟩ = some (.pointer (some ⟨gp, 0, none⟩)) ∧ p < w.heap.size := h.sq.cs
theorem TRel.slots_c (h : TRel c0 w0 K p q bp gp S la x y cs ao m cap ids c w) {v0 v1 v2 v3 v4 v5 v6 : Value} (e : cs = [v0, v1, v2, v3, v4, v5, v6]) :
    Calls Tryz.prog 30 #[.agg #[.int .i64 S.sh]] w fun e w' => e = .returned (.int .i64 (2 ^ S.sh)) ∧ ∃ c', Hid (TRel c0 w0 K p q bp gp S la x y cs ao m cap ids c' w') ∧ (w'.cell? ⟨x, 0, none⟩ = some v0 ∧ w'.cell? ⟨x, 1, none⟩ = some v1 ∧ w'.cell? ⟨x, 2, none⟩ = some v2 ∧ w'.cell? ⟨x, 3, none⟩ = some v3 ∧ w'.cell? ⟨x, 4, none⟩ = some v4 ∧ w'.cell? ⟨x, 5, none⟩ = some v5 ∧ w'.cell? ⟨x, 6, none⟩ = some v6 ∧ x < w'.heap.size) ∧ (w'.cell? ⟨p, 0, none⟩ = some (.pointer (some ⟨q, 0, none⟩)) ∧ w'.cell? ⟨p, 1, none⟩ = some (.int .i64 S.sh) ∧ w'.cell? ⟨p, 2, none⟩ = some (.int .i64 S.cur) ∧ w'.cell? ⟨p, 3, none⟩ = some (.int .i64 S.cac) ∧ w'.cell? ⟨p, 4, none⟩ = some (.pointer (some ⟨bp, 0, none⟩)) ∧ w'.cell? ⟨p, 5, none⟩ = some (.pointer (some ⟨gp, 0, none⟩)) ∧ p < w'.heap.size) := by
  refine (slots_k S.sh h.sq.bf.1 w).mono ?_
  rintro e' w' ⟨rfl, rfl⟩
  have h' := h.stpF ((Stp.refl (fun _ => False) c w).alloc (.cells #[.int .i64 S.sh] 65) 0)
  exact ⟨rfl, _, Lib.hid h', h'.xs e, h'.ss⟩
theorem TRel.least_c (h : TRel c0 w0 K p q bp gp S la x y cs ao m cap ids c w) {v0 v1 v2 v3 v4 v5 v6 : Value} (e : cs = [v0, v1, v2, v3, v4, v5, v6]) (a1 : Option Addr) (n1 k1 : Nat) (z : Int) :
    Calls Tryz.prog 122 #[.agg #[.slice a1 n1 k1, .int .i64 z]] w fun e w' => e = .returned (.int .i64 z) ∧ ∃ c', Hid (TRel c0 w0 K p q bp gp S la x y cs ao m cap ids c' w') ∧ (w'.cell? ⟨x, 0, none⟩ = some v0 ∧ w'.cell? ⟨x, 1, none⟩ = some v1 ∧ w'.cell? ⟨x, 2, none⟩ = some v2 ∧ w'.cell? ⟨x, 3, none⟩ = some v3 ∧ w'.cell? ⟨x, 4, none⟩ = some v4 ∧ w'.cell? ⟨x, 5, none⟩ = some v5 ∧ w'.cell? ⟨x, 6, none⟩ = some v6 ∧ x < w'.heap.size) ∧ (w'.cell? ⟨p, 0, none⟩ = some (.pointer (some ⟨q, 0, none⟩)) ∧ w'.cell? ⟨p, 1, none⟩ = some (.int .i64 S.sh) ∧ w'.cell? ⟨p, 2, none⟩ = some (.int .i64 S.cur) ∧ w'.cell? ⟨p, 3, none⟩ = some (.int .i64 S.cac) ∧ w'.cell? ⟨p, 4, none⟩ = some (.pointer (some ⟨bp, 0, none⟩)) ∧ w'.cell? ⟨p, 5, none⟩ = some (.pointer (some ⟨gp, 0, none⟩)) ∧ p < w'.heap.size) := by
  refine (scleast_s c a1 n1 k1 z w).mono ?_
  rintro e' w' ⟨rfl, c', t⟩
  exact ⟨rfl, c', Lib.hid (h.stpF t), (h.stpF t).xs e, (h.stpF t).ss⟩
theorem TRel.store_c (h : TRel c0 w0 K p q bp gp S la x y cs ao m cap ids c w) {v0 v1 v2 v3 v4 v5 v6 : Value} (e : cs = [v0, v1, v2, v3, v4, v5, v6]) (j : Nat) (z : Int) (hj : j < la.length) :
    Calls Tryz.prog 106 #[.pointer (some ⟨q, 0, none⟩), .int .i64 (j : Nat), .int .i64 z] w fun e w' => e = .returned (.nilIface) ∧ ∃ c', Hid (TRel c0 w0 K p q bp gp S (la.set j z) x y cs ao m cap ids c' w') ∧ (w'.cell? ⟨x, 0, none⟩ = some v0 ∧ w'.cell? ⟨x, 1, none⟩ = some v1 ∧ w'.cell? ⟨x, 2, none⟩ = some v2 ∧ w'.cell? ⟨x, 3, none⟩ = some v3 ∧ w'.cell? ⟨x, 4, none⟩ = some v4 ∧ w'.cell? ⟨x, 5, none⟩ = some v5 ∧ w'.cell? ⟨x, 6, none⟩ = some v6 ∧ x < w'.heap.size) ∧ (w'.cell? ⟨p, 0, none⟩ = some (.pointer (some ⟨q, 0, none⟩)) ∧ w'.cell? ⟨p, 1, none⟩ = some (.int .i64 S.sh) ∧ w'.cell? ⟨p, 2, none⟩ = some (.int .i64 S.cur) ∧ w'.cell? ⟨p, 3, none⟩ = some (.int .i64 S.cac) ∧ w'.cell? ⟨p, 4, none⟩ = some (.pointer (some ⟨bp, 0, none⟩)) ∧ w'.cell? ⟨p, 5, none⟩ = some (.pointer (some ⟨gp, 0, none⟩)) ∧ p < w'.heap.size) := by
  refine (store_s h.ar j z hj).mono ?_
  rintro e' w' ⟨rfl, c', t, a⟩
  exact ⟨rfl, c', Lib.hid (h.are t a), (h.are t a).xs e, (h.are t a).ss⟩
theorem TRel.swapy_c (h : TRel c0 w0 K p q bp gp S la x y cs ao m cap ids c w) {v0 v1 v2 v3 v4 v5 v6 : Value} (e : cs = [v0, v1, v2, v3, v4, v5, v6]) (j : Nat) (old z : Int) (hj : j < la.length) (ho : la.getD j 0 = old) :
    Calls Tryz.prog 123 #[.pointer (some ⟨q, 0, none⟩), .int .i64 (j : Nat), .int .i64 old, .int .i64 z] w fun e w' => e = .returned (.tuple #[.bool true, .nilIface]) ∧ ∃ c', Hid (TRel c0 w0 K p q bp gp S (la.set j z) x y cs ao m cap ids c' w') ∧ (w'.cell? ⟨x, 0, none⟩ = some v0 ∧ w'.cell? ⟨x, 1, none⟩ = some v1 ∧ w'.cell? ⟨x, 2, none⟩ = some v2 ∧ w'.cell? ⟨x, 3, none⟩ = some v3 ∧ w'.cell? ⟨x, 4, none⟩ = some v4 ∧ w'.cell? ⟨x, 5, none⟩ = some v5 ∧ w'.cell? ⟨x, 6, none⟩ = some v6 ∧ x < w'.heap.size) ∧ (w'.cell? ⟨p, 0, none⟩ = some (.pointer (some ⟨q, 0, none⟩)) ∧ w'.cell? ⟨p, 1, none⟩ = some (.int .i64 S.sh) ∧ w'.cell? ⟨p, 2, none⟩ = some (.int .i64 S.cur) ∧ w'.cell? ⟨p, 3, none⟩ = some (.int .i64 S.cac) ∧ w'.cell? ⟨p, 4, none⟩ = some (.pointer (some ⟨bp, 0, none⟩)) ∧ w'.cell? ⟨p, 5, none⟩ = some (.pointer (some ⟨gp, 0, none⟩)) ∧ p < w'.heap.size) := by
  refine (swap_syes h.ar j old z hj ho).mono ?_
  rintro e' w' ⟨rfl, c', t, a⟩
  exact ⟨rfl, c', Lib.hid (h.are t a), (h.are t a).xs e, (h.are t a).ss⟩
theorem TRel.swapn_c (h : TRel c0 w0 K p q bp gp S la x y cs ao m cap ids c w) {v0 v1 v2 v3 v4 v5 v6 : Value} (e : cs = [v0, v1, v2, v3, v4, v5, v6]) (j : Nat) (old z : Int) (hj : j < la.length) (ho : la.getD j 0 ≠ old) :
    Calls Tryz.prog 123 #[.pointer (some ⟨q, 0, none⟩), .int .i64 (j : Nat), .int .i64 old, .int .i64 z] w fun e w' => e = .returned (.tuple #[.bool false, .nilIface]) ∧ ∃ c', Hid (TRel c0 w0 K p q bp gp S la x y cs ao m cap ids c' w') ∧ (w'.cell? ⟨x, 0, none⟩ = some v0 ∧ w'.cell? ⟨x, 1, none⟩ = some v1 ∧ w'.cell? ⟨x, 2, none⟩ = some v2 ∧ w'.cell? ⟨x, 3, none⟩ = some v3 ∧ w'.cell? ⟨x, 4, none⟩ = some v4 ∧ w'.cell? ⟨x, 5, none⟩ = some v5 ∧ w'.cell? ⟨x, 6, none⟩ = some v6 ∧ x < w'.heap.size) ∧ (w'.cell? ⟨p, 0, none⟩ = some (.pointer (some ⟨q, 0, none⟩)) ∧ w'.cell? ⟨p, 1, none⟩ = some (.int .i64 S.sh) ∧ w'.cell? ⟨p, 2, none⟩ = some (.int .i64 S.cur) ∧ w'.cell? ⟨p, 3, none⟩ = some (.int .i64 S.cac) ∧ w'.cell? ⟨p, 4, none⟩ = some (.pointer (some ⟨bp, 0, none⟩)) ∧ w'.cell? ⟨p, 5, none⟩ = some (.pointer (some ⟨gp, 0, none⟩)) ∧ p < w'.heap.size) := by
  refine (swap_sno h.ar j old z hj ho).mono ?_
  rintro e' w' ⟨rfl, c', t, a⟩
  exact ⟨rfl, c', Lib.hid (h.are t a), (h.are t a).xs e, (h.are t a).ss⟩
theorem TRel.gscan_c (h : TRel c0 w0 K p q bp gp S la x y cs ao m cap ids c w) {v0 v1 v2 v3 v4 v5 v6 : Value} (e : cs = [v0, v1, v2, v3, v4, v5, v6]) (z : Int) {N : Nat} (hN : N = S.ids.length) (hl : (S.ids.length : Int) ≤ 1048576) :
    Calls Tryz.prog 118 #[.pointer (some ⟨gp, 0, none⟩), .int .i64 z] w fun e w' => ∃ ao' cap', e = .returned (.agg #[.slice ao' N cap', .int .i64 z]) ∧ ∃ c', Hid (TRel c0 w0 K p q bp gp S la x y cs ao' N cap' S.ids c' w') ∧ (w'.cell? ⟨x, 0, none⟩ = some v0 ∧ w'.cell? ⟨x, 1, none⟩ = some v1 ∧ w'.cell? ⟨x, 2, none⟩ = some v2 ∧ w'.cell? ⟨x, 3, none⟩ = some v3 ∧ w'.cell? ⟨x, 4, none⟩ = some v4 ∧ w'.cell? ⟨x, 5, none⟩ = some v5 ∧ w'.cell? ⟨x, 6, none⟩ = some v6 ∧ x < w'.heap.size) ∧ (w'.cell? ⟨p, 0, none⟩ = some (.pointer (some ⟨q, 0, none⟩)) ∧ w'.cell? ⟨p, 1, none⟩ = some (.int .i64 S.sh) ∧ w'.cell? ⟨p, 2, none⟩ = some (.int .i64 S.cur) ∧ w'.cell? ⟨p, 3, none⟩ = some (.int .i64 S.cac) ∧ w'.cell? ⟨p, 4, none⟩ = some (.pointer (some ⟨bp, 0, none⟩)) ∧ w'.cell? ⟨p, 5, none⟩ = some (.pointer (some ⟨gp, 0, none⟩)) ∧ p < w'.heap.size) := by
  refine (gscan_any h.sq.gr (K + 4) hl z).mono ?_
  rintro e' w' ⟨ao', cap', rfl, c', t, r⟩
  have h' := (h.stpF t).scan r.toIn
  rw [hN]
  exact ⟨ao', cap', rfl, c', Lib.hid h', h'.xs e, h'.ss⟩
end
end Go.Proofs.YtiphdedfbafhkaaGreatDoor
