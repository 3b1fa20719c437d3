/- Contracts of a probe's Step, case by case. No condition beyond each contract's own. -/
import Derived.Test.YtoifknfmamcimaaDoorBar1
import Derived.Deep.DeepCutAuto
namespace Go.Proofs.YtoifknfmamcimaaDoor
open Go.RowKit

/-- Step's own boxes: the probe's and the result's. -/
structure SBox (c : Nat → Nat) (K : Nat) (w : World) (x y : Nat) (cs : List Value) : Prop where
  bx : Blk c (K + 5) w x cs 35
  rs : Blk c (K + 5) w y [.pointer none, .int .i64 0, .int .i64 0, .slice none 0 0, .int .i64 0, .int .i64 0, .int .i64 0, .int .i64 0, .bool false] 35
  ne : x ≠ y
theorem SBox.stp {J : Nat → Prop} {c c' : Nat → Nat} {K : Nat} {w w' : World} {x y : Nat} {cs : List Value} (h : SBox c K w x y cs) (s : Stp J c c' w w') (hJ : ¬ J (K + 5)) : SBox c' K w' x y cs := ⟨h.bx.stp s hJ, h.rs.stp s hJ, h.ne⟩
theorem SBox.start (c : Nat → Nat) (K : Nat) (w : World) (cs : List Value) :
    ∃ c', Stp (fun _ => False) c c' w ((w.alloc (.cells cs.toArray 35)).alloc (.cells #[.pointer none, .int .i64 0, .int .i64 0, .slice none 0 0, .int .i64 0, .int .i64 0, .int .i64 0, .int .i64 0, .bool false] 35)) ∧ SBox c' K ((w.alloc (.cells cs.toArray 35)).alloc (.cells #[.pointer none, .int .i64 0, .int .i64 0, .slice none 0 0, .int .i64 0, .int .i64 0, .int .i64 0, .int .i64 0, .bool false] 35)) w.heap.size (w.heap.size + 1) cs := by
  obtain ⟨w1, hw1⟩ : ∃ w1, w1 = w.alloc (.cells cs.toArray 35) := ⟨_, rfl⟩
  have hz : w.heap.size + 1 = w1.heap.size := by rw [hw1]; simp
  have s1 : Stp (fun _ => False) c (paint c w.heap.size (K + 5)) w w1 := by rw [hw1]; exact (Stp.refl _ c w).alloc _ _
  have b1 : Blk (paint c w.heap.size (K + 5)) (K + 5) w1 w.heap.size cs 35 := by rw [hw1]; exact Blk.new c (K + 5) w cs _
  rw [← hw1, hz]
  have s2 := (Stp.refl (fun _ => False) (paint c w.heap.size (K + 5)) w1).alloc (.cells #[.pointer none, .int .i64 0, .int .i64 0, .slice none 0 0, .int .i64 0, .int .i64 0, .int .i64 0, .int .i64 0, .bool false] 35) (K + 5)
  exact ⟨_, s1.trans s2, b1.stp s2 id, Blk.new _ (K + 5) w1 [.pointer none, .int .i64 0, .int .i64 0, .slice none 0 0, .int .i64 0, .int .i64 0, .int .i64 0, .int .i64 0, .bool false] _, by omega⟩

/-- Step, part of the way. -/
structure SRel (c0 : Nat → Nat) (w0 : World) (K q b g : Nat) (bv : Option Addr) (la : List Int) (s : Int) (B : Bar) (x y : Nat) (cs : List Value) (ao : Option Addr) (n cap : Nat) (ids : List Int) (c : Nat → Nat) (w : World) : Prop where
  st : Stp (· = K) c0 c w0 w
  ar : ArenaAt c K w q la s
  br : BarIs c (K + 1) w b g bv B
  sb : SBox c K w x y cs
  sc : In c (K + 4) w 1 ao n cap (ids.map (Value.int .i64))
  nx : w0.heap.size ≤ x
  ny : w0.heap.size ≤ y

section
variable {c0 : Nat → Nat} {w0 : World} {K q b g : Nat} {bv : Option Addr} {la : List Int} {s : Int} {B : Bar} {x y : Nat} {cs : List Value} {ao : Option Addr} {n cap : Nat} {ids : List Int} {c c' : Nat → Nat} {w w' : World}
theorem SRel.stpF (h : SRel c0 w0 K q b g bv la s B x y cs ao n cap ids c w) (t : Stp (fun _ => False) c c' w w') : SRel c0 w0 K q b g bv la s B x y cs ao n cap ids c' w' :=
  ⟨h.st.trans (t.mono fun _ h => h.elim), h.ar.stp t id, h.br.stp t id id id, h.sb.stp t id, h.sc.stp t id, h.nx, h.ny⟩
theorem SRel.load (h : SRel c0 w0 K q b g bv la s B x y cs ao n cap ids c w) (t : Stp (· = K) c c' w w') (ha : ArenaAt c' K w' q la (s + 1)) : SRel c0 w0 K q b g bv la (s + 1) B x y cs ao n cap ids c' w' :=
  ⟨h.st.trans t, ha, h.br.stp t (by omega) (by omega) (by omega), h.sb.stp t (by omega), h.sc.stp t (by omega), h.nx, h.ny⟩
theorem SRel.scan (h : SRel c0 w0 K q b g bv la s B x y cs ao n cap ids c w) {ao' : Option Addr} {n' cap' : Nat} {ids' : List Int} (hs : In c (K + 4) w 1 ao' n' cap' (ids'.map (Value.int .i64))) : SRel c0 w0 K q b g bv la s B x y cs ao' n' cap' ids' c w :=
  ⟨h.st, h.ar, h.br, h.sb, hs, h.nx, h.ny⟩
theorem SRel.put (h : SRel c0 w0 K q b g bv la s B x y cs ao n cap ids c w) (j : Nat) (v : Value) : SRel c0 w0 K q b g bv la s B x y (cs.set j v) ao n cap ids c (w.setCell ⟨x, j, none⟩ v) := by
  have t := (Stp.refl (· = K + 5) c w).setCell (p := ⟨x, j, none⟩) v h.sb.bx.1
  refine ⟨h.st.setNew (p := ⟨x, j, none⟩) _ h.nx, h.ar.stp t (by omega), h.br.stp t (by omega) (by omega) (by omega), ⟨h.sb.bx.set j v, h.sb.rs.other _ (fun e => h.sb.ne e), h.sb.ne⟩, h.sc.stp t (by omega), h.nx, h.ny⟩
theorem SRel.drew (h : SRel c0 w0 K q b g bv la s B x y cs ao n cap ids c w) : SRel c0 w0 K q b g bv la s B x y cs ao n cap ids c w.drew := h.stpF (Stp.refl (fun _ => False) _ _).drew
/-- The result's nine stores. -/
theorem SRel.res (h : SRel c0 w0 K q b g bv la s B x y cs ao n cap ids c w) (v0 v1 v2 v3 v4 v5 v6 v7 v8 : Value) :
    ∃ c', Stp (· = K) c0 c' w0 (((((((((w.setCell ⟨y, 0, none⟩ v0).setCell ⟨y, 1, none⟩ v1).setCell ⟨y, 2, none⟩ v2).setCell ⟨y, 3, none⟩ v3).setCell ⟨y, 4, none⟩ v4).setCell ⟨y, 5, none⟩ v5).setCell ⟨y, 6, none⟩ v6).setCell ⟨y, 7, none⟩ v7).setCell ⟨y, 8, none⟩ v8) ∧ ArenaAt c' K (((((((((w.setCell ⟨y, 0, none⟩ v0).setCell ⟨y, 1, none⟩ v1).setCell ⟨y, 2, none⟩ v2).setCell ⟨y, 3, none⟩ v3).setCell ⟨y, 4, none⟩ v4).setCell ⟨y, 5, none⟩ v5).setCell ⟨y, 6, none⟩ v6).setCell ⟨y, 7, none⟩ v7).setCell ⟨y, 8, none⟩ v8) q la s ∧ In c' (K + 4) (((((((((w.setCell ⟨y, 0, none⟩ v0).setCell ⟨y, 1, none⟩ v1).setCell ⟨y, 2, none⟩ v2).setCell ⟨y, 3, none⟩ v3).setCell ⟨y, 4, none⟩ v4).setCell ⟨y, 5, none⟩ v5).setCell ⟨y, 6, none⟩ v6).setCell ⟨y, 7, none⟩ v7).setCell ⟨y, 8, none⟩ v8) 1 ao n cap (ids.map (Value.int .i64)) := by
  have hy := h.sb.rs.1
  have t := (((((((((Stp.refl (· = K + 5) c w).setCell (p := ⟨y, 0, none⟩) v0 hy).setCell (p := ⟨y, 1, none⟩) v1 hy).setCell (p := ⟨y, 2, none⟩) v2 hy).setCell (p := ⟨y, 3, none⟩) v3 hy).setCell (p := ⟨y, 4, none⟩) v4 hy).setCell (p := ⟨y, 5, none⟩) v5 hy).setCell (p := ⟨y, 6, none⟩) v6 hy).setCell (p := ⟨y, 7, none⟩) v7 hy).setCell (p := ⟨y, 8, none⟩) v8 hy
  exact ⟨c, ((((((((h.st.setNew (p := ⟨y, 0, none⟩) v0 h.ny).setNew (p := ⟨y, 1, none⟩) v1 h.ny).setNew (p := ⟨y, 2, none⟩) v2 h.ny).setNew (p := ⟨y, 3, none⟩) v3 h.ny).setNew (p := ⟨y, 4, none⟩) v4 h.ny).setNew (p := ⟨y, 5, none⟩) v5 h.ny).setNew (p := ⟨y, 6, none⟩) v6 h.ny).setNew (p := ⟨y, 7, none⟩) v7 h.ny).setNew (p := ⟨y, 8, none⟩) v8 h.ny, h.ar.stp t (by omega), h.sc.stp t (by omega)⟩
theorem SRel.start (ha : ArenaAt c K w q la s) (hB : BarIs c (K + 1) w b g bv B) (hs : In c (K + 4) w 1 ao n cap (ids.map (Value.int .i64))) (cs : List Value) :
    ∃ c', SRel c w K q b g bv la s B w.heap.size (w.heap.size + 1) cs ao n cap ids c' ((w.alloc (.cells cs.toArray 35)).alloc (.cells #[.pointer none, .int .i64 0, .int .i64 0, .slice none 0 0, .int .i64 0, .int .i64 0, .int .i64 0, .int .i64 0, .bool false] 35)) := by
  obtain ⟨c', t, X⟩ := SBox.start c K w cs
  exact ⟨c', t.mono (fun _ h => h.elim), ha.stp t id, hB.stp t id id id, X, hs.stp t id, Nat.le_refl _, Nat.le_succ _⟩
theorem SRel.xs (h : SRel c0 w0 K q b g bv la s B x y cs ao n cap ids c w) {v0 v1 v2 v3 v4 v5 v6 v7 v8 : Value} (e : cs = [v0, v1, v2, v3, v4, v5, v6, v7, v8]) : w.cell? ⟨x, 0, none⟩ = some v0 ∧ w.cell? ⟨x, 1, none⟩ = some v1 ∧ w.cell? ⟨x, 2, none⟩ = some v2 ∧ w.cell? ⟨x, 3, none⟩ = some v3 ∧ w.cell? ⟨x, 4, none⟩ = some v4 ∧ w.cell? ⟨x, 5, none⟩ = some v5 ∧ w.cell? ⟨x, 6, none⟩ = some v6 ∧ w.cell? ⟨x, 7, none⟩ = some v7 ∧ w.cell? ⟨x, 8, none⟩ = some v8 := by
  subst e
  exact ⟨by simpa using h.sb.bx.cell 0, by simpa using h.sb.bx.cell 1, by simpa using h.sb.bx.cell 2, by simpa using h.sb.bx.cell 3, by simpa using h.sb.bx.cell 4, by simpa using h.sb.bx.cell 5, by simpa using h.sb.bx.cell 6, by simpa using h.sb.bx.cell 7, by simpa using h.sb.bx.cell 8⟩
theorem SRel.ys (h : SRel c0 w0 K q b g bv la s B x y cs ao n cap ids c w) : w.cell? ⟨y, 0, none⟩ = some (.pointer none) ∧ w.cell? ⟨y, 1, none⟩ = some (.int .i64 0) ∧ w.cell? ⟨y, 2, none⟩ = some (.int .i64 0) ∧ w.cell? ⟨y, 3, none⟩ = some (.slice none 0 0) ∧ w.cell? ⟨y, 4, none⟩ = some (.int .i64 0) ∧ w.cell? ⟨y, 5, none⟩ = some (.int .i64 0) ∧ w.cell? ⟨y, 6, none⟩ = some (.int .i64 0) ∧ w.cell? ⟨y, 7, none⟩ = some (.int .i64 0) ∧ w.cell? ⟨y, 8, none⟩ = some (.bool false) :=
  ⟨by simpa using h.sb.rs.cell 0, by simpa using h.sb.rs.cell 1, by simpa using h.sb.rs.cell 2, by simpa using h.sb.rs.cell 3, by simpa using h.sb.rs.cell 4, by simpa using h.sb.rs.cell 5, by simpa using h.sb.rs.cell 6, by simpa using h.sb.rs.cell 7, by simpa using h.sb.rs.cell 8⟩
theorem SRel.frees (h : SRel c0 w0 K q b g bv la s B x y cs ao n cap ids c w) : (w.frozen? ⟨x, 2, none⟩ = false ∧ w.frozen? ⟨x, 3, none⟩ = false ∧ w.frozen? ⟨x, 4, none⟩ = false ∧ w.frozen? ⟨x, 5, none⟩ = false ∧ w.frozen? ⟨x, 6, none⟩ = false ∧ w.frozen? ⟨x, 7, none⟩ = false) ∧ (w.frozen? ⟨y, 0, none⟩ = false ∧ w.frozen? ⟨y, 1, none⟩ = false ∧ w.frozen? ⟨y, 2, none⟩ = false ∧ w.frozen? ⟨y, 3, none⟩ = false ∧ w.frozen? ⟨y, 4, none⟩ = false ∧ w.frozen? ⟨y, 5, none⟩ = false ∧ w.frozen? ⟨y, 6, none⟩ = false ∧ w.frozen? ⟨y, 7, none⟩ = false ∧ w.frozen? ⟨y, 8, none⟩ = false) ∧ x < w.heap.size ∧ y < w.heap.size ∧ x ≠ y :=
  ⟨⟨h.sb.bx.free 2, h.sb.bx.free 3, h.sb.bx.free 4, h.sb.bx.free 5, h.sb.bx.free 6, h.sb.bx.free 7⟩, ⟨h.sb.rs.free 0, h.sb.rs.free 1, h.sb.rs.free 2, h.sb.rs.free 3, h.sb.rs.free 4, h.sb.rs.free 5, h.sb.rs.free 6, h.sb.rs.free 7, h.sb.rs.free 8⟩, h.sb.bx.lt, h.sb.rs.lt, h.sb.ne⟩
theorem SRel.least_c (h : SRel c0 w0 K q b g bv la s B x y cs ao n cap ids c w) {v0 v1 v2 v3 v4 v5 v6 v7 v8 : Value} (e : cs = [v0, v1, v2, v3, v4, v5, v6, v7, v8]) (a1 : Option Addr) (n1 k1 : Nat) (m : Int) :
    Calls Tryd.prog 70 #[.agg #[.slice a1 n1 k1, .int .i64 m]] w fun e w' => e = .returned (.int .i64 m) ∧ ∃ c', Hid (SRel c0 w0 K q b g bv la s B x y cs ao n cap ids c' w') ∧ w'.cell? ⟨x, 0, none⟩ = some v0 ∧ w'.cell? ⟨x, 1, none⟩ = some v1 ∧ w'.cell? ⟨x, 2, none⟩ = some v2 ∧ w'.cell? ⟨x, 3, none⟩ = some v3 ∧ w'.cell? ⟨x, 4, none⟩ = some v4 ∧ w'.cell? ⟨x, 5, none⟩ = some v5 ∧ w'.cell? ⟨x, 6, none⟩ = some v6 ∧ w'.cell? ⟨x, 7, none⟩ = some v7 ∧ w'.cell? ⟨x, 8, none⟩ = some v8 := by
  refine (scleast_s c a1 n1 k1 m w).mono ?_
  rintro e w' ⟨rfl, c', t⟩
  exact ⟨rfl, c', Lib.hid (h.stpF t), (h.stpF t).xs e⟩
theorem SRel.settle_c (h : SRel c0 w0 K q b g bv la s B x y cs ao n cap ids c w) (bv1 : Option Addr) (next stage : Int) (a1 : Option Addr) (n1 k1 : Nat) (most hi pos sign : Int) (fin : Bool) (z : Int) :
    Calls Tryd.prog 66 #[.agg #[.pointer bv1, .int .i64 next, .int .i64 stage, .slice a1 n1 k1, .int .i64 most, .int .i64 hi, .int .i64 pos, .int .i64 sign, .bool fin], .int .i64 z] w fun e w' => e = .returned (.agg #[.pointer bv1, .int .i64 next, .int .i64 stage, .slice a1 n1 k1, .int .i64 most, .int .i64 hi, .int .i64 z, .int .i64 sign, .bool true]) ∧ ∃ c', Hid (SRel c0 w0 K q b g bv la s B x y cs ao n cap ids c' w') ∧ (w'.cell? ⟨y, 0, none⟩ = some (.pointer none) ∧ w'.cell? ⟨y, 1, none⟩ = some (.int .i64 0) ∧ w'.cell? ⟨y, 2, none⟩ = some (.int .i64 0) ∧ w'.cell? ⟨y, 3, none⟩ = some (.slice none 0 0) ∧ w'.cell? ⟨y, 4, none⟩ = some (.int .i64 0) ∧ w'.cell? ⟨y, 5, none⟩ = some (.int .i64 0) ∧ w'.cell? ⟨y, 6, none⟩ = some (.int .i64 0) ∧ w'.cell? ⟨y, 7, none⟩ = some (.int .i64 0) ∧ w'.cell? ⟨y, 8, none⟩ = some (.bool false)) ∧ (w'.frozen? ⟨y, 0, none⟩ = false ∧ w'.frozen? ⟨y, 1, none⟩ = false ∧ w'.frozen? ⟨y, 2, none⟩ = false ∧ w'.frozen? ⟨y, 3, none⟩ = false ∧ w'.frozen? ⟨y, 4, none⟩ = false ∧ w'.frozen? ⟨y, 5, none⟩ = false ∧ w'.frozen? ⟨y, 6, none⟩ = false ∧ w'.frozen? ⟨y, 7, none⟩ = false ∧ w'.frozen? ⟨y, 8, none⟩ = false) ∧ y < w'.heap.size := by
  refine (prsettle_any bv1 next stage a1 n1 k1 most hi pos sign fin c z w).mono ?_
  rintro e w' ⟨rfl, c', t⟩
  exact ⟨rfl, c', Lib.hid (h.stpF t), (h.stpF t).ys, (h.stpF t).frees.2.1, (h.stpF t).frees.2.2.2.1⟩

theorem SRel.buf {p sh first : Nat} (h : SRel c0 w0 K q b g (some ⟨p, 0, none⟩) la s B x y cs ao n cap ids c w) (hb : B.buf = some (sh, first)) : BufAt c (K + 3) w p sh first := by
  rcases h.br.bf with ⟨h1, _⟩ | ⟨sh', f', q', h1, h2, h3⟩
  · rw [hb] at h1; cases h1
  · rw [hb] at h1
    cases h1
    cases h2
    exact h3
theorem SRel.cell_c {p sh first : Nat} (h : SRel c0 w0 K q b g (some ⟨p, 0, none⟩) la s B x y cs ao n cap ids c w) (hb : B.buf = some (sh, first)) {v0 v1 v2 v3 v4 v5 v6 v7 v8 : Value} (e : cs = [v0, v1, v2, v3, v4, v5, v6, v7, v8]) (seq : Int) :
    Calls Tryd.prog 71 #[.pointer (some ⟨p, 0, none⟩), .int .i64 seq] w fun e w' => e = .returned (.int .i64 ((first + slotOf sh seq : Nat) : Int)) ∧ ∃ c', Hid (SRel c0 w0 K q b g (some ⟨p, 0, none⟩) la s B x y cs ao n cap ids c' w') ∧ (w'.cell? ⟨x, 0, none⟩ = some v0 ∧ w'.cell? ⟨x, 1, none⟩ = some v1 ∧ w'.cell? ⟨x, 2, none⟩ = some v2 ∧ w'.cell? ⟨x, 3, none⟩ = some v3 ∧ w'.cell? ⟨x, 4, none⟩ = some v4 ∧ w'.cell? ⟨x, 5, none⟩ = some v5 ∧ w'.cell? ⟨x, 6, none⟩ = some v6 ∧ w'.cell? ⟨x, 7, none⟩ = some v7 ∧ w'.cell? ⟨x, 8, none⟩ = some v8) ∧ w'.cell? ⟨b, 1, none⟩ = some (.pointer (some ⟨p, 0, none⟩)) := by
  refine (avcell_any (h.buf hb) seq).mono ?_
  rintro e w' ⟨rfl, hbl⟩
  have t := Stp.ofBelow (c := c) hbl 0
  exact ⟨rfl, _, Lib.hid (h.stpF t), (h.stpF t).xs e, (h.stpF t).br.cells.2.1⟩
theorem SRel.round_c {p sh first : Nat} (h : SRel c0 w0 K q b g (some ⟨p, 0, none⟩) la s B x y cs ao n cap ids c w) (hb : B.buf = some (sh, first)) {v0 v1 v2 v3 v4 v5 v6 v7 v8 : Value} (e : cs = [v0, v1, v2, v3, v4, v5, v6, v7, v8]) (seq : Int) :
    Calls Tryd.prog 72 #[.pointer (some ⟨p, 0, none⟩), .int .i64 seq] w fun e w' => e = .returned (.int .i64 (seq / 2 ^ sh)) ∧ ∃ c', Hid (SRel c0 w0 K q b g (some ⟨p, 0, none⟩) la s B x y cs ao n cap ids c' w') ∧ (w'.cell? ⟨x, 0, none⟩ = some v0 ∧ w'.cell? ⟨x, 1, none⟩ = some v1 ∧ w'.cell? ⟨x, 2, none⟩ = some v2 ∧ w'.cell? ⟨x, 3, none⟩ = some v3 ∧ w'.cell? ⟨x, 4, none⟩ = some v4 ∧ w'.cell? ⟨x, 5, none⟩ = some v5 ∧ w'.cell? ⟨x, 6, none⟩ = some v6 ∧ w'.cell? ⟨x, 7, none⟩ = some v7 ∧ w'.cell? ⟨x, 8, none⟩ = some v8) ∧ w'.cell? ⟨b, 1, none⟩ = some (.pointer (some ⟨p, 0, none⟩)) := by
  refine (avround_any (h.buf hb) seq).mono ?_
  rintro e w' ⟨rfl, hbl⟩
  have t := Stp.ofBelow (c := c) hbl 0
  exact ⟨rfl, _, Lib.hid (h.stpF t), (h.stpF t).xs e, (h.stpF t).br.cells.2.1⟩
theorem SRel.load_c {p : Nat} (h : SRel c0 w0 K q b g (some ⟨p, 0, none⟩) la s B x y cs ao n cap ids c w) {v0 v1 v2 v3 v4 v5 v6 v7 v8 : Value} (e : cs = [v0, v1, v2, v3, v4, v5, v6, v7, v8]) (j : Nat) (hj : j < la.length) (s0 : 0 ≤ s) (s1 : s < 4611686018427387904) :
    Calls Tryd.prog 31 #[.pointer (some ⟨q, 0, none⟩), .int .i64 (j : Nat)] w fun e w' => e = .returned (.tuple #[.int .i64 (la.getD j 0), .nilIface]) ∧ ∃ c', Hid (SRel c0 w0 K q b g (some ⟨p, 0, none⟩) la (s + 1) B x y cs ao n cap ids c' w') ∧ (w'.cell? ⟨x, 0, none⟩ = some v0 ∧ w'.cell? ⟨x, 1, none⟩ = some v1 ∧ w'.cell? ⟨x, 2, none⟩ = some v2 ∧ w'.cell? ⟨x, 3, none⟩ = some v3 ∧ w'.cell? ⟨x, 4, none⟩ = some v4 ∧ w'.cell? ⟨x, 5, none⟩ = some v5 ∧ w'.cell? ⟨x, 6, none⟩ = some v6 ∧ w'.cell? ⟨x, 7, none⟩ = some v7 ∧ w'.cell? ⟨x, 8, none⟩ = some v8) ∧ w'.cell? ⟨b, 1, none⟩ = some (.pointer (some ⟨p, 0, none⟩)) := by
  refine (load_ok h.ar j hj s0 s1).mono ?_
  rintro e w' ⟨rfl, c', t, a⟩
  exact ⟨rfl, c', Lib.hid (h.load t a), (h.load t a).xs e, (h.load t a).br.cells.2.1⟩
end

section
variable {c : Nat → Nat} {K : Nat} {w : World} {q b g : Nat} {bv : Option Addr} {la : List Int} {s : Int} {B : Bar} {ids : List Int}
variable (next : Int) {ao : Option Addr} {n cap : Nat} (most hi pos sign : Int)

set_option maxRecDepth 100000 in
theorem step_alerted (ha : ArenaAt c K w q la s) (hB : BarIs c (K + 1) w b g bv B) (hs : In c (K + 4) w 1 ao n cap ((ids).map (Value.int .i64))) (hal : B.al < la.length) (hv : la.getD B.al 0 = 1) (hnx : -1 ≤ next ∧ next ≤ 4611686018427387904) (s0 : 0 ≤ s) (s1 : s < 4611686018427387904) :
    Calls Tryd.prog 18 #[.agg #[.pointer (some ⟨b, 0, none⟩), .int .i64 next, .int .i64 0, .slice ao n cap, .int .i64 most, .int .i64 hi, .int .i64 pos, .int .i64 sign, .bool false], .pointer (some ⟨q, 0, none⟩)] w fun e w' => e = .returned (.tuple #[.agg #[.pointer (some ⟨b, 0, none⟩), .int .i64 next, .int .i64 0, .slice ao n cap, .int .i64 most, .int .i64 hi, .int .i64 (next - 1), .int .i64 1, .bool true], .nilIface]) ∧ ∃ c', Stp (· = K) c c' w w' ∧ ArenaAt c' K w' q la (s + 1) ∧ In c' (K + 4) w' 1 ao n cap ((ids).map (Value.int .i64)) := by
  obtain ⟨c1, r1⟩ := SRel.start ha hB hs [.pointer (some ⟨b, 0, none⟩), .int .i64 next, .int .i64 0, .slice ao n cap, .int .i64 most, .int .i64 hi, .int .i64 pos, .int .i64 sign, .bool false]
  have R1 := Lib.hid r1
  obtain ⟨b0, b1, b2, b3, lb⟩ := r1.br.cells
  have Hs0 := Lib.hid s0
  have Hs1 := Lib.hid s1
  obtain ⟨x, hx⟩ : ∃ x, x = w.heap.size := ⟨_, rfl⟩
  obtain ⟨y, hy⟩ : ∃ y, y = w.heap.size + 1 := ⟨_, rfl⟩
  have Hal := Lib.hid hal
  have Hv := Lib.hid hv
  have W1 : wrap64 (next - 1) = next - 1 := IntWalk.wrap64_in _ (by constructor <;> omega)
  clear r1 hB ha hs s0 s1 hal hv hnx
  go_enter Tryd.func18, Tryd.ntmps18
  go_wp2_with fail
  rw [← hy, ← hx] at R1
  rw [← hy, ← hx]
  clear hx hy b0 b1 b2 b3 lb
  refine (load_ok R1.out.ar _ Hal.out Hs0.out Hs1.out).mono ?_
  rintro e w2 ⟨rfl, c2, t2, a2⟩
  rw [Hv.out]
  have R2 := Lib.hid (R1.out.load t2 a2)
  obtain ⟨x0, x1, x2, x3, x4, x5, x6, x7, x8⟩ := R2.out.xs rfl
  obtain ⟨⟨f2, f3, f4, f5, f6, f7⟩, -, lx, ly, nxy⟩ := R2.out.frees
  clear t2 a2 R1
  go_wp2_with fail
  have R3 := Lib.hid (R2.out.put 7 (.int .i64 1))
  clear x0 x1 x2 x3 x4 x5 x6 x7 x8 f2 f3 f4 f5 f6 f7 lx ly nxy R2
  refine (prsettle_any _ _ _ _ _ _ _ _ _ _ _ c2 _ _).mono ?_
  rintro e w3 ⟨rfl, c3, t3⟩
  have R4 := Lib.hid (R3.out.stpF t3)
  obtain ⟨y0, y1, y2, y3, y4, y5, y6, y7, y8⟩ := R4.out.ys
  obtain ⟨-, ⟨g0, g1, g2, g3, g4, g5, g6, g7, g8⟩, -, ly, -⟩ := R4.out.frees
  clear t3 R3
  go_wp2
  exact bodyPost_ret (v := .tuple #[.agg #[.pointer (some ⟨b, 0, none⟩), .int .i64 next, .int .i64 0, .slice ao n cap, .int .i64 most, .int .i64 hi, .int .i64 (next - 1), .int .i64 1, .bool true], .nilIface]) (by simp [results, Tryd.results18, go_sem, y0, y1, y2, y3, y4, y5, y6, y7, y8]) rfl ⟨rfl, R4.out.res _ _ _ _ _ _ _ _ _⟩

set_option maxRecDepth 100000 in
theorem step_cur (ha : ArenaAt c K w q la s) (hB : BarIs c (K + 1) w b g bv B) (hs : In c (K + 4) w 1 ao n cap ((ids).map (Value.int .i64))) {v : Int} (hal : B.al < la.length) (hv : la.getD B.al 0 = v) (h1 : v ≠ 1) (hids : B.ids = []) {N : Nat} (hN0 : N = B.ids.length) (hNl : (N : Int) ≤ 1048576) (s0 : 0 ≤ s) (s1 : s < 4611686018427387904) :
    Calls Tryd.prog 18 #[.agg #[.pointer (some ⟨b, 0, none⟩), .int .i64 next, .int .i64 0, .slice ao n cap, .int .i64 most, .int .i64 hi, .int .i64 pos, .int .i64 sign, .bool false], .pointer (some ⟨q, 0, none⟩)] w fun e w' => ∃ ao' cap', e = .returned (.tuple #[.agg #[.pointer (some ⟨b, 0, none⟩), .int .i64 next, .int .i64 2, .slice ao' N cap', .int .i64 9223372036854775807, .int .i64 hi, .int .i64 pos, .int .i64 v, .bool false], .nilIface]) ∧ ∃ c', Stp (· = K) c c' w w' ∧ ArenaAt c' K w' q la (s + 1) ∧ In c' (K + 4) w' 1 ao' N cap' ((B.ids).map (Value.int .i64)) := by
  obtain ⟨c1, r1⟩ := SRel.start ha hB hs [.pointer (some ⟨b, 0, none⟩), .int .i64 next, .int .i64 0, .slice ao n cap, .int .i64 most, .int .i64 hi, .int .i64 pos, .int .i64 sign, .bool false]
  have R1 := Lib.hid r1
  obtain ⟨b0, b1, b2, b3, lb⟩ := r1.br.cells
  have Hs0 := Lib.hid s0
  have Hs1 := Lib.hid s1
  obtain ⟨x, hx⟩ : ∃ x, x = w.heap.size := ⟨_, rfl⟩
  obtain ⟨y, hy⟩ : ∃ y, y = w.heap.size + 1 := ⟨_, rfl⟩
  have Hal := Lib.hid hal
  have Hv := Lib.hid hv
  have t1 : (v == 1) = false := by simpa using h1
  have HNl := Lib.hid (show (B.ids.length : Int) ≤ 1048576 by rw [← hN0]; exact hNl)
  have HN0 := Lib.hid hN0
  have hN : ((N : Int) == 0) = true := by rw [hN0, hids]; rfl
  clear r1 hB ha hs s0 s1 hal hv h1 hids hN0 hNl
  go_enter Tryd.func18, Tryd.ntmps18
  go_wp2_with fail
  rw [← hy, ← hx] at R1
  rw [← hy, ← hx]
  clear hx hy b0 b1 b2 b3 lb
  refine (load_ok R1.out.ar _ Hal.out Hs0.out Hs1.out).mono ?_
  rintro e w2 ⟨rfl, c2, t2, a2⟩
  rw [Hv.out]
  have R2 := Lib.hid (R1.out.load t2 a2)
  obtain ⟨x0, x1, x2, x3, x4, x5, x6, x7, x8⟩ := R2.out.xs rfl
  obtain ⟨⟨f2, f3, f4, f5, f6, f7⟩, -, lx, ly, nxy⟩ := R2.out.frees
  obtain ⟨-, -, b2, -, lb⟩ := R2.out.br.cells
  clear t2 a2 R1
  go_wp2_with fail
  have R3 := Lib.hid (R2.out.put 7 (.int .i64 v))
  clear x0 x1 x2 x3 x4 x5 x6 x7 x8 f2 f3 f4 f5 f6 f7 lx ly nxy R2 b2 lb
  refine (gscan_any R3.out.br.gr (K + 4) HNl.out _).mono ?_
  rintro e w3 ⟨ao', cap', rfl, c3, t3, r3⟩
  have R4 := Lib.hid ((R3.out.stpF t3).scan r3.toIn)
  rw [← HN0.out] at R4 ⊢
  obtain ⟨x0, x1, x2, x3, x4, x5, x6, x7, x8⟩ := R4.out.xs rfl
  obtain ⟨⟨f2, f3, f4, f5, f6, f7⟩, -, lx, ly, nxy⟩ := R4.out.frees
  clear t3 r3 R3
  go_wp2_with fail
  have R5 := Lib.hid (((R4.out.put 2 (.int .i64 2)).put 3 (.slice ao' N cap')).put 4 (.int .i64 9223372036854775807))
  clear x0 x1 x2 x3 x4 x5 x6 x7 x8 f2 f3 f4 f5 f6 f7 lx ly nxy R4
  refine (scdone_s c3 _ _ _ _ _ hN).mono ?_
  rintro e w4 ⟨rfl, c4, t4⟩
  have R6 := Lib.hid (R5.out.stpF t4)
  clear t4
  obtain ⟨x0, x1, x2, x3, x4, x5, x6, x7, x8⟩ := R6.out.xs rfl
  obtain ⟨⟨f2, f3, f4, f5, f6, f7⟩, -, lx, ly, nxy⟩ := R6.out.frees
  obtain ⟨y0, y1, y2, y3, y4, y5, y6, y7, y8⟩ := R6.out.ys
  obtain ⟨-, ⟨g0, g1, g2, g3, g4, g5, g6, g7, g8⟩, -, -, -⟩ := R6.out.frees
  clear R5
  go_wp2
  exact bodyPost_ret (v := .tuple #[.agg #[.pointer (some ⟨b, 0, none⟩), .int .i64 next, .int .i64 2, .slice ao' N cap', .int .i64 9223372036854775807, .int .i64 hi, .int .i64 pos, .int .i64 v, .bool false], .nilIface]) (by simp [results, Tryd.results18, go_sem, y0, y1, y2, y3, y4, y5, y6, y7, y8]) rfl ⟨_, _, rfl, R6.out.res _ _ _ _ _ _ _ _ _⟩

set_option maxRecDepth 100000 in
theorem step_aft (ha : ArenaAt c K w q la s) (hB : BarIs c (K + 1) w b g bv B) (hs : In c (K + 4) w 1 ao n cap ((ids).map (Value.int .i64))) {v : Int} (hal : B.al < la.length) (hv : la.getD B.al 0 = v) (h1 : v ≠ 1) (hids : B.ids ≠ []) {N : Nat} (hN0 : N = B.ids.length) (hNl : (N : Int) ≤ 1048576) (s0 : 0 ≤ s) (s1 : s < 4611686018427387904) :
    Calls Tryd.prog 18 #[.agg #[.pointer (some ⟨b, 0, none⟩), .int .i64 next, .int .i64 0, .slice ao n cap, .int .i64 most, .int .i64 hi, .int .i64 pos, .int .i64 sign, .bool false], .pointer (some ⟨q, 0, none⟩)] w fun e w' => ∃ ao' cap', e = .returned (.tuple #[.agg #[.pointer (some ⟨b, 0, none⟩), .int .i64 next, .int .i64 1, .slice ao' N cap', .int .i64 9223372036854775807, .int .i64 hi, .int .i64 pos, .int .i64 v, .bool false], .nilIface]) ∧ ∃ c', Stp (· = K) c c' w w' ∧ ArenaAt c' K w' q la (s + 1) ∧ In c' (K + 4) w' 1 ao' N cap' ((B.ids).map (Value.int .i64)) := by
  obtain ⟨c1, r1⟩ := SRel.start ha hB hs [.pointer (some ⟨b, 0, none⟩), .int .i64 next, .int .i64 0, .slice ao n cap, .int .i64 most, .int .i64 hi, .int .i64 pos, .int .i64 sign, .bool false]
  have R1 := Lib.hid r1
  obtain ⟨b0, b1, b2, b3, lb⟩ := r1.br.cells
  have Hs0 := Lib.hid s0
  have Hs1 := Lib.hid s1
  obtain ⟨x, hx⟩ : ∃ x, x = w.heap.size := ⟨_, rfl⟩
  obtain ⟨y, hy⟩ : ∃ y, y = w.heap.size + 1 := ⟨_, rfl⟩
  have Hal := Lib.hid hal
  have Hv := Lib.hid hv
  have t1 : (v == 1) = false := by simpa using h1
  have HNl := Lib.hid (show (B.ids.length : Int) ≤ 1048576 by rw [← hN0]; exact hNl)
  have HN0 := Lib.hid hN0
  have hN : ((N : Int) == 0) = false := by have := List.length_pos_iff.2 hids; simp; omega
  clear r1 hB ha hs s0 s1 hal hv h1 hids hN0 hNl
  go_enter Tryd.func18, Tryd.ntmps18
  go_wp2_with fail
  rw [← hy, ← hx] at R1
  rw [← hy, ← hx]
  clear hx hy b0 b1 b2 b3 lb
  refine (load_ok R1.out.ar _ Hal.out Hs0.out Hs1.out).mono ?_
  rintro e w2 ⟨rfl, c2, t2, a2⟩
  rw [Hv.out]
  have R2 := Lib.hid (R1.out.load t2 a2)
  obtain ⟨x0, x1, x2, x3, x4, x5, x6, x7, x8⟩ := R2.out.xs rfl
  obtain ⟨⟨f2, f3, f4, f5, f6, f7⟩, -, lx, ly, nxy⟩ := R2.out.frees
  obtain ⟨-, -, b2, -, lb⟩ := R2.out.br.cells
  clear t2 a2 R1
  go_wp2_with fail
  have R3 := Lib.hid (R2.out.put 7 (.int .i64 v))
  clear x0 x1 x2 x3 x4 x5 x6 x7 x8 f2 f3 f4 f5 f6 f7 lx ly nxy R2 b2 lb
  refine (gscan_any R3.out.br.gr (K + 4) HNl.out _).mono ?_
  rintro e w3 ⟨ao', cap', rfl, c3, t3, r3⟩
  have R4 := Lib.hid ((R3.out.stpF t3).scan r3.toIn)
  rw [← HN0.out] at R4 ⊢
  obtain ⟨x0, x1, x2, x3, x4, x5, x6, x7, x8⟩ := R4.out.xs rfl
  obtain ⟨⟨f2, f3, f4, f5, f6, f7⟩, -, lx, ly, nxy⟩ := R4.out.frees
  clear t3 r3 R3
  go_wp2_with fail
  have R5 := Lib.hid (((R4.out.put 2 (.int .i64 2)).put 3 (.slice ao' N cap')).put 4 (.int .i64 9223372036854775807))
  clear x0 x1 x2 x3 x4 x5 x6 x7 x8 f2 f3 f4 f5 f6 f7 lx ly nxy R4
  refine (scdone_s c3 _ _ _ _ _ hN).mono ?_
  rintro e w4 ⟨rfl, c4, t4⟩
  have R6 := Lib.hid (R5.out.stpF t4)
  clear t4
  obtain ⟨x0, x1, x2, x3, x4, x5, x6, x7, x8⟩ := R6.out.xs rfl
  obtain ⟨⟨f2, f3, f4, f5, f6, f7⟩, -, lx, ly, nxy⟩ := R6.out.frees
  obtain ⟨y0, y1, y2, y3, y4, y5, y6, y7, y8⟩ := R6.out.ys
  obtain ⟨-, ⟨g0, g1, g2, g3, g4, g5, g6, g7, g8⟩, -, -, -⟩ := R6.out.frees
  have R7 := Lib.hid (R6.out.put 2 (.int .i64 1))
  clear R5
  go_wp2
  exact bodyPost_ret (v := .tuple #[.agg #[.pointer (some ⟨b, 0, none⟩), .int .i64 next, .int .i64 1, .slice ao' N cap', .int .i64 9223372036854775807, .int .i64 hi, .int .i64 pos, .int .i64 v, .bool false], .nilIface]) (by simp [results, Tryd.results18, go_sem, y0, y1, y2, y3, y4, y5, y6, y7, y8]) rfl ⟨_, _, rfl, R7.out.res _ _ _ _ _ _ _ _ _⟩

set_option maxRecDepth 100000 in
theorem step_more {i : Int} {r : List Int} (ha : ArenaAt c K w q la s) (hB : BarIs c (K + 1) w b g bv B) (hs : In c (K + 4) w 1 ao n cap ((i :: r).map (Value.int .i64))) (hix : 0 ≤ i ∧ i < la.length) (hm : 2 ≤ n) (s0 : 0 ≤ s) (s1 : s < 4611686018427387904) :
    Calls Tryd.prog 18 #[.agg #[.pointer (some ⟨b, 0, none⟩), .int .i64 next, .int .i64 1, .slice ao n cap, .int .i64 most, .int .i64 hi, .int .i64 pos, .int .i64 sign, .bool false], .pointer (some ⟨q, 0, none⟩)] w fun e w' => ∃ ao' cap', e = .returned (.tuple #[.agg #[.pointer (some ⟨b, 0, none⟩), .int .i64 next, .int .i64 1, .slice ao' (n - 1) cap', .int .i64 (min most (valAt la i)), .int .i64 hi, .int .i64 pos, .int .i64 sign, .bool false], .nilIface]) ∧ ∃ c', Stp (· = K) c c' w w' ∧ ArenaAt c' K w' q la (s + 1) ∧ In c' (K + 4) w' 1 ao' (n - 1) cap' ((r).map (Value.int .i64)) := by
  obtain ⟨c1, r1⟩ := SRel.start ha hB hs [.pointer (some ⟨b, 0, none⟩), .int .i64 next, .int .i64 1, .slice ao n cap, .int .i64 most, .int .i64 hi, .int .i64 pos, .int .i64 sign, .bool false]
  have R1 := Lib.hid r1
  obtain ⟨b0, b1, b2, b3, lb⟩ := r1.br.cells
  have Hs0 := Lib.hid s0
  have Hs1 := Lib.hid s1
  obtain ⟨x, hx⟩ : ∃ x, x = w.heap.size := ⟨_, rfl⟩
  obtain ⟨y, hy⟩ : ∃ y, y = w.heap.size + 1 := ⟨_, rfl⟩
  have Hi := Lib.hid hix
  obtain ⟨m, hm2⟩ : ∃ m, m = min most (valAt la i) := ⟨_, rfl⟩
  have Hm2 := Lib.hid hm2
  have tN : (((n - 1 : Nat) : Int) == 0) = false := by simp; omega
  clear r1 hB ha hs s0 s1 hix hm hm2
  go_enter Tryd.func18, Tryd.ntmps18
  go_wp2_with fail
  rw [← hy, ← hx] at R1
  rw [← hy, ← hx]
  clear hx hy b0 b1 b2 b3 lb
  refine (scstep_ok R1.out.sc R1.out.ar (by omega) Hi.out Hs0.out Hs1.out _).mono ?_
  rintro e w2 ⟨ao', cap', rfl, c2, t2, a2, r2⟩
  rw [← Hm2.out]
  have R2 := Lib.hid ((R1.out.load t2 a2).scan r2)
  obtain ⟨x0, x1, x2, x3, x4, x5, x6, x7, x8⟩ := R2.out.xs rfl
  obtain ⟨⟨f2, f3, f4, f5, f6, f7⟩, -, lx, ly, nxy⟩ := R2.out.frees
  clear t2 a2 r2 R1
  go_wp2_with fail
  have R3 := Lib.hid ((R2.out.put 3 (.slice ao' (n - 1) cap')).put 4 (.int .i64 m))
  obtain ⟨z, hz⟩ : ∃ z, z = w2.heap.size := ⟨_, rfl⟩
  obtain ⟨W, hW⟩ : ∃ W, W = (w2.setCell ⟨x, 3, none⟩ (.slice ao' (n - 1) cap')).setCell ⟨x, 4, none⟩ (.int .i64 m) := ⟨_, rfl⟩
  rw [← hW] at R3 ⊢
  have hz2 : z = W.heap.size := by rw [hz, hW]; simp
  obtain ⟨c3, hc3, A3⟩ := ((Stp.refl (fun _ => False) c2 W).alloc (.cells #[.slice ao' (n - 1) cap', .int .i64 m] 33) (K + 5)).name
  have R4 := Lib.hid (R3.out.stpF A3.out)
  have Z4 := Lib.hid (show Blk c3 (K + 5) (W.alloc (.cells #[.slice ao' (n - 1) cap', .int .i64 m] 33)) z [.slice ao' (n - 1) cap', .int .i64 m] 33 by rw [hc3.out, hz2]; exact Blk.new c2 (K + 5) W _ _)
  clear x0 x1 x2 x3 x4 x5 x6 x7 x8 f2 f3 f4 f5 f6 f7 lx ly nxy R2 R3 hc3 A3 hW hz2
  refine (scdone_s c3 _ _ _ _ _ tN).mono ?_
  rintro e w5 ⟨rfl, c5, t5⟩
  have R5 := Lib.hid (R4.out.stpF t5)
  rw [← hz]
  clear hz
  obtain ⟨x0, x1, x2, x3, x4, x5, x6, x7, x8⟩ := R5.out.xs rfl
  obtain ⟨⟨f2, f3, f4, f5, f6, f7⟩, -, lx, ly, nxy⟩ := R5.out.frees
  obtain ⟨y0, y1, y2, y3, y4, y5, y6, y7, y8⟩ := R5.out.ys
  obtain ⟨-, ⟨g0, g1, g2, g3, g4, g5, g6, g7, g8⟩, -, -, -⟩ := R5.out.frees
  clear t5 R4 Z4
  go_wp2
  exact bodyPost_ret (v := .tuple #[.agg #[.pointer (some ⟨b, 0, none⟩), .int .i64 next, .int .i64 1, .slice ao' (n - 1) cap', .int .i64 (m), .int .i64 hi, .int .i64 pos, .int .i64 sign, .bool false], .nilIface]) (by simp [results, Tryd.results18, go_sem, y0, y1, y2, y3, y4, y5, y6, y7, y8]) rfl ⟨_, _, by rw [Hm2.out], R5.out.res _ _ _ _ _ _ _ _ _⟩

set_option maxHeartbeats 1000000 in
set_option maxRecDepth 100000 in
theorem step_last {i : Int} {r : List Int} (ha : ArenaAt c K w q la s) (hB : BarIs c (K + 1) w b g bv B) (hs : In c (K + 4) w 1 ao n cap ((i :: r).map (Value.int .i64))) (hix : 0 ≤ i ∧ i < la.length) (hm : n = 1) (s0 : 0 ≤ s) (s1 : s < 4611686018427387904) :
    Calls Tryd.prog 18 #[.agg #[.pointer (some ⟨b, 0, none⟩), .int .i64 next, .int .i64 1, .slice ao n cap, .int .i64 most, .int .i64 hi, .int .i64 pos, .int .i64 sign, .bool false], .pointer (some ⟨q, 0, none⟩)] w fun e w' => ∃ ao' cap', e = .returned (.tuple #[.agg #[.pointer (some ⟨b, 0, none⟩), .int .i64 next, .int .i64 1, .slice ao' (n - 1) cap', .int .i64 (min most (valAt la i)), .int .i64 hi, .int .i64 (min most (valAt la i)), .int .i64 sign, .bool true], .nilIface]) ∧ ∃ c', Stp (· = K) c c' w w' ∧ ArenaAt c' K w' q la (s + 1) ∧ In c' (K + 4) w' 1 ao' (n - 1) cap' ((r).map (Value.int .i64)) := by
  obtain ⟨c1, r1⟩ := SRel.start ha hB hs [.pointer (some ⟨b, 0, none⟩), .int .i64 next, .int .i64 1, .slice ao n cap, .int .i64 most, .int .i64 hi, .int .i64 pos, .int .i64 sign, .bool false]
  have R1 := Lib.hid r1
  obtain ⟨b0, b1, b2, b3, lb⟩ := r1.br.cells
  have Hs0 := Lib.hid s0
  have Hs1 := Lib.hid s1
  obtain ⟨x, hx⟩ : ∃ x, x = w.heap.size := ⟨_, rfl⟩
  obtain ⟨y, hy⟩ : ∃ y, y = w.heap.size + 1 := ⟨_, rfl⟩
  have Hi := Lib.hid hix
  obtain ⟨m, hm2⟩ : ∃ m, m = min most (valAt la i) := ⟨_, rfl⟩
  have Hm2 := Lib.hid hm2
  have tN : (((n - 1 : Nat) : Int) == 0) = true := by subst hm; rfl
  clear r1 hB ha hs s0 s1 hix hm hm2
  go_enter Tryd.func18, Tryd.ntmps18
  go_wp2_with fail
  rw [← hy, ← hx] at R1
  rw [← hy, ← hx]
  clear hx hy b0 b1 b2 b3 lb
  refine (scstep_ok R1.out.sc R1.out.ar (by omega) Hi.out Hs0.out Hs1.out _).mono ?_
  rintro e w2 ⟨ao', cap', rfl, c2, t2, a2, r2⟩
  rw [← Hm2.out]
  have R2 := Lib.hid ((R1.out.load t2 a2).scan r2)
  obtain ⟨x0, x1, x2, x3, x4, x5, x6, x7, x8⟩ := R2.out.xs rfl
  obtain ⟨⟨f2, f3, f4, f5, f6, f7⟩, -, lx, ly, nxy⟩ := R2.out.frees
  clear t2 a2 r2 R1
  go_wp2_with fail
  have R3 := Lib.hid ((R2.out.put 3 (.slice ao' (n - 1) cap')).put 4 (.int .i64 m))
  obtain ⟨z, hz⟩ : ∃ z, z = w2.heap.size := ⟨_, rfl⟩
  obtain ⟨W, hW⟩ : ∃ W, W = (w2.setCell ⟨x, 3, none⟩ (.slice ao' (n - 1) cap')).setCell ⟨x, 4, none⟩ (.int .i64 m) := ⟨_, rfl⟩
  rw [← hW] at R3 ⊢
  have hz2 : z = W.heap.size := by rw [hz, hW]; simp
  obtain ⟨c3, hc3, A3⟩ := ((Stp.refl (fun _ => False) c2 W).alloc (.cells #[.slice ao' (n - 1) cap', .int .i64 m] 33) (K + 5)).name
  have R4 := Lib.hid (R3.out.stpF A3.out)
  have Z4 := Lib.hid (show Blk c3 (K + 5) (W.alloc (.cells #[.slice ao' (n - 1) cap', .int .i64 m] 33)) z [.slice ao' (n - 1) cap', .int .i64 m] 33 by rw [hc3.out, hz2]; exact Blk.new c2 (K + 5) W _ _)
  clear x0 x1 x2 x3 x4 x5 x6 x7 x8 f2 f3 f4 f5 f6 f7 lx ly nxy R2 R3 hc3 A3 hW hz2
  refine (scdone_s c3 _ _ _ _ _ tN).mono ?_
  rintro e w5 ⟨rfl, c5, t5⟩
  have R5 := Lib.hid (R4.out.stpF t5)
  rw [← hz]
  clear hz
  have Z5 := Lib.hid (Z4.out.stp t5 id)
  have z0 := Z5.out.cell 0
  have z1 := Z5.out.cell 1
  have zl := Z5.out.lt
  simp at z0 z1
  obtain ⟨x0, x1, x2, x3, x4, x5, x6, x7, x8⟩ := R5.out.xs rfl
  obtain ⟨⟨f2, f3, f4, f5, f6, f7⟩, -, lx, ly, nxy⟩ := R5.out.frees
  obtain ⟨y0, y1, y2, y3, y4, y5, y6, y7, y8⟩ := R5.out.ys
  obtain ⟨-, ⟨g0, g1, g2, g3, g4, g5, g6, g7, g8⟩, -, -, -⟩ := R5.out.frees
  clear t5 R4 Z4
  go_wp2_with fail
  go_region_with (first
    | (go_at_call 70; refine (SRel.least_c (by first | exact R5.out | exact R5.out.drew | exact R5.out.drew.drew | exact R5.out.drew.drew.drew) rfl _ _ _ _).mono ?_; rintro e w6 ⟨rfl, c6, R5, x0, x1, x2, x3, x4, x5, x6, x7, x8⟩)
    | (go_at_call 66; refine (SRel.settle_c (by first | exact R5.out | exact R5.out.drew | exact R5.out.drew.drew | exact R5.out.drew.drew.drew) _ _ _ _ _ _ _ _ _ _ _ _).mono ?_; rintro e w7 ⟨rfl, c7, R5, ⟨y0, y1, y2, y3, y4, y5, y6, y7, y8⟩, ⟨g0, g1, g2, g3, g4, g5, g6, g7, g8⟩, ly⟩))
  all_goals
    go_wp2
    exact bodyPost_ret (v := .tuple #[.agg #[.pointer (some ⟨b, 0, none⟩), .int .i64 next, .int .i64 1, .slice ao' (n - 1) cap', .int .i64 (m), .int .i64 hi, .int .i64 (m), .int .i64 sign, .bool true], .nilIface]) (by simp [results, Tryd.results18, go_sem, y0, y1, y2, y3, y4, y5, y6, y7, y8]) rfl ⟨_, _, by rw [Hm2.out], R5.out.res _ _ _ _ _ _ _ _ _⟩

set_option maxRecDepth 100000 in
theorem step_nobuf (ha : ArenaAt c K w q la s) (hB : BarIs c (K + 1) w b g none B) (hs : In c (K + 4) w 1 ao n cap ((ids).map (Value.int .i64))) {v : Int} (hcu : B.cur < la.length) (hv : la.getD B.cur 0 = v) (s0 : 0 ≤ s) (s1 : s < 4611686018427387904) :
    Calls Tryd.prog 18 #[.agg #[.pointer (some ⟨b, 0, none⟩), .int .i64 next, .int .i64 2, .slice ao n cap, .int .i64 most, .int .i64 hi, .int .i64 pos, .int .i64 sign, .bool false], .pointer (some ⟨q, 0, none⟩)] w fun e w' => e = .returned (.tuple #[.agg #[.pointer (some ⟨b, 0, none⟩), .int .i64 next, .int .i64 2, .slice ao n cap, .int .i64 most, .int .i64 hi, .int .i64 v, .int .i64 sign, .bool true], .nilIface]) ∧ ∃ c', Stp (· = K) c c' w w' ∧ ArenaAt c' K w' q la (s + 1) ∧ In c' (K + 4) w' 1 ao n cap ((ids).map (Value.int .i64)) := by
  obtain ⟨c1, r1⟩ := SRel.start ha hB hs [.pointer (some ⟨b, 0, none⟩), .int .i64 next, .int .i64 2, .slice ao n cap, .int .i64 most, .int .i64 hi, .int .i64 pos, .int .i64 sign, .bool false]
  have R1 := Lib.hid r1
  obtain ⟨b0, b1, b2, b3, lb⟩ := r1.br.cells
  have Hs0 := Lib.hid s0
  have Hs1 := Lib.hid s1
  obtain ⟨x, hx⟩ : ∃ x, x = w.heap.size := ⟨_, rfl⟩
  obtain ⟨y, hy⟩ : ∃ y, y = w.heap.size + 1 := ⟨_, rfl⟩
  have Hcu := Lib.hid hcu
  have Hv := Lib.hid hv
  clear r1 hB ha hs s0 s1 hcu hv
  go_enter Tryd.func18, Tryd.ntmps18
  go_wp2_with fail
  rw [← hy, ← hx] at R1
  rw [← hy, ← hx]
  clear hx hy b0 b1 b2 b3 lb
  refine (load_ok R1.out.ar _ Hcu.out Hs0.out Hs1.out).mono ?_
  rintro e w2 ⟨rfl, c2, t2, a2⟩
  rw [Hv.out]
  have R2 := Lib.hid (R1.out.load t2 a2)
  obtain ⟨x0, x1, x2, x3, x4, x5, x6, x7, x8⟩ := R2.out.xs rfl
  obtain ⟨⟨f2, f3, f4, f5, f6, f7⟩, -, lx, ly, nxy⟩ := R2.out.frees
  obtain ⟨-, b1, -, -, lb⟩ := R2.out.br.cells
  clear t2 a2 R1
  go_wp2_with fail
  clear x0 x1 x2 x3 x4 x5 x6 x7 x8 f2 f3 f4 f5 f6 f7 lx ly nxy b1 lb
  refine (prsettle_any _ _ _ _ _ _ _ _ _ _ _ c2 _ _).mono ?_
  rintro e w3 ⟨rfl, c3, t3⟩
  have R4 := Lib.hid (R2.out.stpF t3)
  obtain ⟨y0, y1, y2, y3, y4, y5, y6, y7, y8⟩ := R4.out.ys
  obtain ⟨-, ⟨g0, g1, g2, g3, g4, g5, g6, g7, g8⟩, -, ly, -⟩ := R4.out.frees
  clear t3 R2
  go_wp2
  exact bodyPost_ret (v := .tuple #[.agg #[.pointer (some ⟨b, 0, none⟩), .int .i64 next, .int .i64 2, .slice ao n cap, .int .i64 most, .int .i64 hi, .int .i64 v, .int .i64 sign, .bool true], .nilIface]) (by simp [results, Tryd.results18, go_sem, y0, y1, y2, y3, y4, y5, y6, y7, y8]) rfl ⟨rfl, R4.out.res _ _ _ _ _ _ _ _ _⟩

set_option maxRecDepth 100000 in
theorem step_ahead {p : Nat} (ha : ArenaAt c K w q la s) (hB : BarIs c (K + 1) w b g (some ⟨p, 0, none⟩) B) (hs : In c (K + 4) w 1 ao n cap ((ids).map (Value.int .i64))) {v : Int} (hcu : B.cur < la.length) (hv : la.getD B.cur 0 = v) (hc : v < next) (s0 : 0 ≤ s) (s1 : s < 4611686018427387904) :
    Calls Tryd.prog 18 #[.agg #[.pointer (some ⟨b, 0, none⟩), .int .i64 next, .int .i64 2, .slice ao n cap, .int .i64 most, .int .i64 hi, .int .i64 pos, .int .i64 sign, .bool false], .pointer (some ⟨q, 0, none⟩)] w fun e w' => e = .returned (.tuple #[.agg #[.pointer (some ⟨b, 0, none⟩), .int .i64 next, .int .i64 2, .slice ao n cap, .int .i64 most, .int .i64 hi, .int .i64 v, .int .i64 sign, .bool true], .nilIface]) ∧ ∃ c', Stp (· = K) c c' w w' ∧ ArenaAt c' K w' q la (s + 1) ∧ In c' (K + 4) w' 1 ao n cap ((ids).map (Value.int .i64)) := by
  obtain ⟨c1, r1⟩ := SRel.start ha hB hs [.pointer (some ⟨b, 0, none⟩), .int .i64 next, .int .i64 2, .slice ao n cap, .int .i64 most, .int .i64 hi, .int .i64 pos, .int .i64 sign, .bool false]
  have R1 := Lib.hid r1
  obtain ⟨b0, b1, b2, b3, lb⟩ := r1.br.cells
  have Hs0 := Lib.hid s0
  have Hs1 := Lib.hid s1
  obtain ⟨x, hx⟩ : ∃ x, x = w.heap.size := ⟨_, rfl⟩
  obtain ⟨y, hy⟩ : ∃ y, y = w.heap.size + 1 := ⟨_, rfl⟩
  have Hcu := Lib.hid hcu
  have Hv := Lib.hid hv
  have t1 : decide (v < next) = true := by simpa using hc
  clear r1 hB ha hs s0 s1 hcu hv hc
  go_enter Tryd.func18, Tryd.ntmps18
  go_wp2_with fail
  rw [← hy, ← hx] at R1
  rw [← hy, ← hx]
  clear hx hy b0 b1 b2 b3 lb
  refine (load_ok R1.out.ar _ Hcu.out Hs0.out Hs1.out).mono ?_
  rintro e w2 ⟨rfl, c2, t2, a2⟩
  rw [Hv.out]
  have R2 := Lib.hid (R1.out.load t2 a2)
  obtain ⟨x0, x1, x2, x3, x4, x5, x6, x7, x8⟩ := R2.out.xs rfl
  obtain ⟨⟨f2, f3, f4, f5, f6, f7⟩, -, lx, ly, nxy⟩ := R2.out.frees
  obtain ⟨-, b1, -, -, lb⟩ := R2.out.br.cells
  clear t2 a2 R1
  go_wp2_with fail
  clear x0 x1 x2 x3 x4 x5 x6 x7 x8 f2 f3 f4 f5 f6 f7 lx ly nxy b1 lb
  refine (prsettle_any _ _ _ _ _ _ _ _ _ _ _ c2 _ _).mono ?_
  rintro e w3 ⟨rfl, c3, t3⟩
  have R4 := Lib.hid (R2.out.stpF t3)
  obtain ⟨y0, y1, y2, y3, y4, y5, y6, y7, y8⟩ := R4.out.ys
  obtain ⟨-, ⟨g0, g1, g2, g3, g4, g5, g6, g7, g8⟩, -, ly, -⟩ := R4.out.frees
  clear t3 R2
  go_wp2
  exact bodyPost_ret (v := .tuple #[.agg #[.pointer (some ⟨b, 0, none⟩), .int .i64 next, .int .i64 2, .slice ao n cap, .int .i64 most, .int .i64 hi, .int .i64 v, .int .i64 sign, .bool true], .nilIface]) (by simp [results, Tryd.results18, go_sem, y0, y1, y2, y3, y4, y5, y6, y7, y8]) rfl ⟨rfl, R4.out.res _ _ _ _ _ _ _ _ _⟩

set_option maxRecDepth 100000 in
theorem step_shown {p : Nat} (ha : ArenaAt c K w q la s) (hB : BarIs c (K + 1) w b g (some ⟨p, 0, none⟩) B) (hs : In c (K + 4) w 1 ao n cap ((ids).map (Value.int .i64))) {v : Int} (hcu : B.cur < la.length) (hv : la.getD B.cur 0 = v) (hc : next ≤ v) (s0 : 0 ≤ s) (s1 : s < 4611686018427387904) :
    Calls Tryd.prog 18 #[.agg #[.pointer (some ⟨b, 0, none⟩), .int .i64 next, .int .i64 2, .slice ao n cap, .int .i64 most, .int .i64 hi, .int .i64 pos, .int .i64 sign, .bool false], .pointer (some ⟨q, 0, none⟩)] w fun e w' => e = .returned (.tuple #[.agg #[.pointer (some ⟨b, 0, none⟩), .int .i64 next, .int .i64 3, .slice ao n cap, .int .i64 most, .int .i64 v, .int .i64 next, .int .i64 sign, .bool false], .nilIface]) ∧ ∃ c', Stp (· = K) c c' w w' ∧ ArenaAt c' K w' q la (s + 1) ∧ In c' (K + 4) w' 1 ao n cap ((ids).map (Value.int .i64)) := by
  obtain ⟨c1, r1⟩ := SRel.start ha hB hs [.pointer (some ⟨b, 0, none⟩), .int .i64 next, .int .i64 2, .slice ao n cap, .int .i64 most, .int .i64 hi, .int .i64 pos, .int .i64 sign, .bool false]
  have R1 := Lib.hid r1
  obtain ⟨b0, b1, b2, b3, lb⟩ := r1.br.cells
  have Hs0 := Lib.hid s0
  have Hs1 := Lib.hid s1
  obtain ⟨x, hx⟩ : ∃ x, x = w.heap.size := ⟨_, rfl⟩
  obtain ⟨y, hy⟩ : ∃ y, y = w.heap.size + 1 := ⟨_, rfl⟩
  have Hcu := Lib.hid hcu
  have Hv := Lib.hid hv
  have t1 : decide (v < next) = false := by simpa using hc
  clear r1 hB ha hs s0 s1 hcu hv hc
  go_enter Tryd.func18, Tryd.ntmps18
  go_wp2_with fail
  rw [← hy, ← hx] at R1
  rw [← hy, ← hx]
  clear hx hy b0 b1 b2 b3 lb
  refine (load_ok R1.out.ar _ Hcu.out Hs0.out Hs1.out).mono ?_
  rintro e w2 ⟨rfl, c2, t2, a2⟩
  rw [Hv.out]
  have R2 := Lib.hid (R1.out.load t2 a2)
  obtain ⟨x0, x1, x2, x3, x4, x5, x6, x7, x8⟩ := R2.out.xs rfl
  obtain ⟨⟨f2, f3, f4, f5, f6, f7⟩, -, lx, ly, nxy⟩ := R2.out.frees
  obtain ⟨y0, y1, y2, y3, y4, y5, y6, y7, y8⟩ := R2.out.ys
  obtain ⟨-, ⟨g0, g1, g2, g3, g4, g5, g6, g7, g8⟩, -, -, -⟩ := R2.out.frees
  obtain ⟨-, b1, -, -, lb⟩ := R2.out.br.cells
  have R3 := Lib.hid (((R2.out.put 5 (.int .i64 v)).put 6 (.int .i64 next)).put 2 (.int .i64 3))
  clear t2 a2 R1
  go_wp2
  exact bodyPost_ret (v := .tuple #[.agg #[.pointer (some ⟨b, 0, none⟩), .int .i64 next, .int .i64 3, .slice ao n cap, .int .i64 most, .int .i64 v, .int .i64 next, .int .i64 sign, .bool false], .nilIface]) (by simp [results, Tryd.results18, go_sem, y0, y1, y2, y3, y4, y5, y6, y7, y8]) rfl ⟨rfl, R3.out.res _ _ _ _ _ _ _ _ _⟩

set_option maxHeartbeats 1000000 in
set_option maxRecDepth 100000 in
theorem step_gap {p sh first : Nat} (ha : ArenaAt c K w q la s) (hB : BarIs c (K + 1) w b g (some ⟨p, 0, none⟩) B) (hs : In c (K + 4) w 1 ao n cap ((ids).map (Value.int .i64))) (hbf : B.buf = some (sh, first)) (hj : first + slotOf sh pos < la.length) (hsh : shownAt la first sh pos = false) (hp : -1 ≤ pos ∧ pos ≤ 4611686018427387904) (s0 : 0 ≤ s) (s1 : s < 4611686018427387904) :
    Calls Tryd.prog 18 #[.agg #[.pointer (some ⟨b, 0, none⟩), .int .i64 next, .int .i64 3, .slice ao n cap, .int .i64 most, .int .i64 hi, .int .i64 pos, .int .i64 sign, .bool false], .pointer (some ⟨q, 0, none⟩)] w fun e w' => e = .returned (.tuple #[.agg #[.pointer (some ⟨b, 0, none⟩), .int .i64 next, .int .i64 3, .slice ao n cap, .int .i64 most, .int .i64 hi, .int .i64 (pos - 1), .int .i64 sign, .bool true], .nilIface]) ∧ ∃ c', Stp (· = K) c c' w w' ∧ ArenaAt c' K w' q la (s + 1) ∧ In c' (K + 4) w' 1 ao n cap ((ids).map (Value.int .i64)) := by
  obtain ⟨c1, r1⟩ := SRel.start ha hB hs [.pointer (some ⟨b, 0, none⟩), .int .i64 next, .int .i64 3, .slice ao n cap, .int .i64 most, .int .i64 hi, .int .i64 pos, .int .i64 sign, .bool false]
  have R1 := Lib.hid r1
  obtain ⟨b0, b1, b2, b3, lb⟩ := r1.br.cells
  have Hs0 := Lib.hid s0
  have Hs1 := Lib.hid s1
  obtain ⟨x, hx⟩ : ∃ x, x = w.heap.size := ⟨_, rfl⟩
  obtain ⟨y, hy⟩ : ∃ y, y = w.heap.size + 1 := ⟨_, rfl⟩
  have Hbf := Lib.hid hbf
  have Hj := Lib.hid hj
  obtain ⟨v, hv⟩ : ∃ v, v = la.getD (first + slotOf sh pos) 0 := ⟨_, rfl⟩
  have Hv := Lib.hid hv
  obtain ⟨rd, hrd⟩ : ∃ rd, rd = pos / 2 ^ sh := ⟨_, rfl⟩
  have Hrd := Lib.hid hrd
  have tv : (v != rd) = true := by
    have := hsh
    unfold shownAt at this
    rw [← hv, ← hrd] at this
    simpa using this
  have W1 : wrap64 (pos - 1) = pos - 1 := IntWalk.wrap64_in _ (by constructor <;> omega)
  clear r1 hB ha hs s0 s1 hbf hj hsh hp hv hrd
  go_enter Tryd.func18, Tryd.ntmps18
  go_wp2_with fail
  rw [← hy, ← hx] at R1
  rw [← hy, ← hx]
  clear hx hy b0 b1 b2 b3 lb
  obtain ⟨x0, x1, x2, x3, x4, x5, x6, x7, x8⟩ := R1.out.xs rfl
  obtain ⟨⟨f2, f3, f4, f5, f6, f7⟩, -, lx, ly, nxy⟩ := R1.out.frees
  obtain ⟨-, b1, -, -, lb⟩ := R1.out.br.cells
  go_region_held3 (fun w' => w'.cell? ⟨x, 0, none⟩ = some (.pointer (some ⟨b, 0, none⟩)) ∧ w'.cell? ⟨x, 6, none⟩ = some (.int .i64 pos) ∧ w'.cell? ⟨b, 1, none⟩ = some (.pointer (some ⟨p, 0, none⟩)))
    (first | exact ⟨by assumption, by assumption, by assumption⟩ | go_keep)
    (first
      | (go_at_call 71; refine (SRel.cell_c (by first | exact R1.out | exact R1.out.drew | exact R1.out.drew.drew) Hbf.out rfl _).mono ?_; rintro e w2 ⟨rfl, c2, R2, ⟨x0, x1, x2, x3, x4, x5, x6, x7, x8⟩, b1⟩)
      | (go_at_call 31; refine (SRel.load_c (by first | exact R2.out | exact R2.out.drew | exact R2.out.drew.drew) rfl _ Hj.out Hs0.out Hs1.out).mono ?_; rintro e w3 ⟨rfl, c3, R3, ⟨x0, x1, x2, x3, x4, x5, x6, x7, x8⟩, b1⟩; rw [← Hv.out]))
  obtain ⟨⟨f2, f3, f4, f5, f6, f7⟩, -, lx, ly, nxy⟩ := R3.out.frees
  go_upto_region 9 with fail
  go_region_held3 (fun w' => w'.cell? ⟨x, 0, none⟩ = some (.pointer (some ⟨b, 0, none⟩)) ∧ w'.cell? ⟨x, 6, none⟩ = some (.int .i64 pos) ∧ w'.cell? ⟨b, 1, none⟩ = some (.pointer (some ⟨p, 0, none⟩)))
    (first | exact ⟨by assumption, by assumption, by assumption⟩ | go_keep)
    (first
      | (go_at_call 72; refine (SRel.round_c (by first | exact R3.out | exact R3.out.drew | exact R3.out.drew.drew) Hbf.out rfl _).mono ?_; rintro e w4 ⟨rfl, c4, R4, ⟨x0, x1, x2, x3, x4, x5, x6, x7, x8⟩, b1⟩; rw [← Hrd.out]))
  obtain ⟨-, -, lx, ly, nxy⟩ := R4.out.frees
  go_wp2_with fail
  refine (prsettle_any _ _ _ _ _ _ _ _ _ _ _ c4 _ _).mono ?_
  rintro e w5 ⟨rfl, c5, t5⟩
  have R5 := Lib.hid (R4.out.stpF t5)
  obtain ⟨y0, y1, y2, y3, y4, y5, y6, y7, y8⟩ := R5.out.ys
  obtain ⟨-, ⟨g0, g1, g2, g3, g4, g5, g6, g7, g8⟩, -, ly, -⟩ := R5.out.frees
  clear t5
  go_wp2
  exact bodyPost_ret (v := .tuple #[.agg #[.pointer (some ⟨b, 0, none⟩), .int .i64 next, .int .i64 3, .slice ao n cap, .int .i64 most, .int .i64 hi, .int .i64 (pos - 1), .int .i64 sign, .bool true], .nilIface]) (by simp [results, Tryd.results18, go_sem, y0, y1, y2, y3, y4, y5, y6, y7, y8]) rfl ⟨rfl, R5.out.res _ _ _ _ _ _ _ _ _⟩

set_option maxHeartbeats 1000000 in
set_option maxRecDepth 100000 in
theorem step_end {p sh first : Nat} (ha : ArenaAt c K w q la s) (hB : BarIs c (K + 1) w b g (some ⟨p, 0, none⟩) B) (hs : In c (K + 4) w 1 ao n cap ((ids).map (Value.int .i64))) (hbf : B.buf = some (sh, first)) (hj : first + slotOf sh pos < la.length) (hsh : shownAt la first sh pos = true) (hp : hi ≤ pos) (s0 : 0 ≤ s) (s1 : s < 4611686018427387904) :
    Calls Tryd.prog 18 #[.agg #[.pointer (some ⟨b, 0, none⟩), .int .i64 next, .int .i64 3, .slice ao n cap, .int .i64 most, .int .i64 hi, .int .i64 pos, .int .i64 sign, .bool false], .pointer (some ⟨q, 0, none⟩)] w fun e w' => e = .returned (.tuple #[.agg #[.pointer (some ⟨b, 0, none⟩), .int .i64 next, .int .i64 3, .slice ao n cap, .int .i64 most, .int .i64 hi, .int .i64 hi, .int .i64 sign, .bool true], .nilIface]) ∧ ∃ c', Stp (· = K) c c' w w' ∧ ArenaAt c' K w' q la (s + 1) ∧ In c' (K + 4) w' 1 ao n cap ((ids).map (Value.int .i64)) := by
  obtain ⟨c1, r1⟩ := SRel.start ha hB hs [.pointer (some ⟨b, 0, none⟩), .int .i64 next, .int .i64 3, .slice ao n cap, .int .i64 most, .int .i64 hi, .int .i64 pos, .int .i64 sign, .bool false]
  have R1 := Lib.hid r1
  obtain ⟨b0, b1, b2, b3, lb⟩ := r1.br.cells
  have Hs0 := Lib.hid s0
  have Hs1 := Lib.hid s1
  obtain ⟨x, hx⟩ : ∃ x, x = w.heap.size := ⟨_, rfl⟩
  obtain ⟨y, hy⟩ : ∃ y, y = w.heap.size + 1 := ⟨_, rfl⟩
  have Hbf := Lib.hid hbf
  have Hj := Lib.hid hj
  obtain ⟨v, hv⟩ : ∃ v, v = la.getD (first + slotOf sh pos) 0 := ⟨_, rfl⟩
  have Hv := Lib.hid hv
  obtain ⟨rd, hrd⟩ : ∃ rd, rd = pos / 2 ^ sh := ⟨_, rfl⟩
  have Hrd := Lib.hid hrd
  have tv : (v != rd) = false := by
    have := hsh
    unfold shownAt at this
    rw [← hv, ← hrd] at this
    simpa using this
  have t2 : decide (hi ≤ pos) = true := by simpa using hp
  clear r1 hB ha hs s0 s1 hbf hj hsh hp hv hrd
  go_enter Tryd.func18, Tryd.ntmps18
  go_wp2_with fail
  rw [← hy, ← hx] at R1
  rw [← hy, ← hx]
  clear hx hy b0 b1 b2 b3 lb
  obtain ⟨x0, x1, x2, x3, x4, x5, x6, x7, x8⟩ := R1.out.xs rfl
  obtain ⟨⟨f2, f3, f4, f5, f6, f7⟩, -, lx, ly, nxy⟩ := R1.out.frees
  obtain ⟨-, b1, -, -, lb⟩ := R1.out.br.cells
  go_region_held3 (fun w' => w'.cell? ⟨x, 0, none⟩ = some (.pointer (some ⟨b, 0, none⟩)) ∧ w'.cell? ⟨x, 6, none⟩ = some (.int .i64 pos) ∧ w'.cell? ⟨b, 1, none⟩ = some (.pointer (some ⟨p, 0, none⟩)))
    (first | exact ⟨by assumption, by assumption, by assumption⟩ | go_keep)
    (first
      | (go_at_call 71; refine (SRel.cell_c (by first | exact R1.out | exact R1.out.drew | exact R1.out.drew.drew) Hbf.out rfl _).mono ?_; rintro e w2 ⟨rfl, c2, R2, ⟨x0, x1, x2, x3, x4, x5, x6, x7, x8⟩, b1⟩)
      | (go_at_call 31; refine (SRel.load_c (by first | exact R2.out | exact R2.out.drew | exact R2.out.drew.drew) rfl _ Hj.out Hs0.out Hs1.out).mono ?_; rintro e w3 ⟨rfl, c3, R3, ⟨x0, x1, x2, x3, x4, x5, x6, x7, x8⟩, b1⟩; rw [← Hv.out]))
  obtain ⟨⟨f2, f3, f4, f5, f6, f7⟩, -, lx, ly, nxy⟩ := R3.out.frees
  go_upto_region 9 with fail
  go_region_held3 (fun w' => w'.cell? ⟨x, 0, none⟩ = some (.pointer (some ⟨b, 0, none⟩)) ∧ w'.cell? ⟨x, 6, none⟩ = some (.int .i64 pos) ∧ w'.cell? ⟨b, 1, none⟩ = some (.pointer (some ⟨p, 0, none⟩)))
    (first | exact ⟨by assumption, by assumption, by assumption⟩ | go_keep)
    (first
      | (go_at_call 72; refine (SRel.round_c (by first | exact R3.out | exact R3.out.drew | exact R3.out.drew.drew) Hbf.out rfl _).mono ?_; rintro e w4 ⟨rfl, c4, R4, ⟨x0, x1, x2, x3, x4, x5, x6, x7, x8⟩, b1⟩; rw [← Hrd.out]))
  obtain ⟨-, -, lx, ly, nxy⟩ := R4.out.frees
  go_wp2_with fail
  refine (prsettle_any _ _ _ _ _ _ _ _ _ _ _ c4 _ _).mono ?_
  rintro e w5 ⟨rfl, c5, t5⟩
  have R5 := Lib.hid (R4.out.stpF t5)
  obtain ⟨y0, y1, y2, y3, y4, y5, y6, y7, y8⟩ := R5.out.ys
  obtain ⟨-, ⟨g0, g1, g2, g3, g4, g5, g6, g7, g8⟩, -, ly, -⟩ := R5.out.frees
  clear t5
  go_wp2
  exact bodyPost_ret (v := .tuple #[.agg #[.pointer (some ⟨b, 0, none⟩), .int .i64 next, .int .i64 3, .slice ao n cap, .int .i64 most, .int .i64 hi, .int .i64 hi, .int .i64 sign, .bool true], .nilIface]) (by simp [results, Tryd.results18, go_sem, y0, y1, y2, y3, y4, y5, y6, y7, y8]) rfl ⟨rfl, R5.out.res _ _ _ _ _ _ _ _ _⟩

set_option maxHeartbeats 1000000 in
set_option maxRecDepth 100000 in
theorem step_next {p sh first : Nat} (ha : ArenaAt c K w q la s) (hB : BarIs c (K + 1) w b g (some ⟨p, 0, none⟩) B) (hs : In c (K + 4) w 1 ao n cap ((ids).map (Value.int .i64))) (hbf : B.buf = some (sh, first)) (hj : first + slotOf sh pos < la.length) (hsh : shownAt la first sh pos = true) (hp : pos < hi) (hp2 : -1 ≤ pos ∧ pos ≤ 4611686018427387904) (s0 : 0 ≤ s) (s1 : s < 4611686018427387904) :
    Calls Tryd.prog 18 #[.agg #[.pointer (some ⟨b, 0, none⟩), .int .i64 next, .int .i64 3, .slice ao n cap, .int .i64 most, .int .i64 hi, .int .i64 pos, .int .i64 sign, .bool false], .pointer (some ⟨q, 0, none⟩)] w fun e w' => e = .returned (.tuple #[.agg #[.pointer (some ⟨b, 0, none⟩), .int .i64 next, .int .i64 3, .slice ao n cap, .int .i64 most, .int .i64 hi, .int .i64 (pos + 1), .int .i64 sign, .bool false], .nilIface]) ∧ ∃ c', Stp (· = K) c c' w w' ∧ ArenaAt c' K w' q la (s + 1) ∧ In c' (K + 4) w' 1 ao n cap ((ids).map (Value.int .i64)) := by
  obtain ⟨c1, r1⟩ := SRel.start ha hB hs [.pointer (some ⟨b, 0, none⟩), .int .i64 next, .int .i64 3, .slice ao n cap, .int .i64 most, .int .i64 hi, .int .i64 pos, .int .i64 sign, .bool false]
  have R1 := Lib.hid r1
  obtain ⟨b0, b1, b2, b3, lb⟩ := r1.br.cells
  have Hs0 := Lib.hid s0
  have Hs1 := Lib.hid s1
  obtain ⟨x, hx⟩ : ∃ x, x = w.heap.size := ⟨_, rfl⟩
  obtain ⟨y, hy⟩ : ∃ y, y = w.heap.size + 1 := ⟨_, rfl⟩
  have Hbf := Lib.hid hbf
  have Hj := Lib.hid hj
  obtain ⟨v, hv⟩ : ∃ v, v = la.getD (first + slotOf sh pos) 0 := ⟨_, rfl⟩
  have Hv := Lib.hid hv
  obtain ⟨rd, hrd⟩ : ∃ rd, rd = pos / 2 ^ sh := ⟨_, rfl⟩
  have Hrd := Lib.hid hrd
  have tv : (v != rd) = false := by
    have := hsh
    unfold shownAt at this
    rw [← hv, ← hrd] at this
    simpa using this
  have t2 : decide (hi ≤ pos) = false := by simpa using hp
  have W1 : wrap64 (pos + 1) = pos + 1 := IntWalk.wrap64_in _ (by constructor <;> omega)
  clear r1 hB ha hs s0 s1 hbf hj hsh hp hv hrd hp2
  go_enter Tryd.func18, Tryd.ntmps18
  go_wp2_with fail
  rw [← hy, ← hx] at R1
  rw [← hy, ← hx]
  clear hx hy b0 b1 b2 b3 lb
  obtain ⟨x0, x1, x2, x3, x4, x5, x6, x7, x8⟩ := R1.out.xs rfl
  obtain ⟨⟨f2, f3, f4, f5, f6, f7⟩, -, lx, ly, nxy⟩ := R1.out.frees
  obtain ⟨-, b1, -, -, lb⟩ := R1.out.br.cells
  go_region_held3 (fun w' => w'.cell? ⟨x, 0, none⟩ = some (.pointer (some ⟨b, 0, none⟩)) ∧ w'.cell? ⟨x, 6, none⟩ = some (.int .i64 pos) ∧ w'.cell? ⟨b, 1, none⟩ = some (.pointer (some ⟨p, 0, none⟩)))
    (first | exact ⟨by assumption, by assumption, by assumption⟩ | go_keep)
    (first
      | (go_at_call 71; refine (SRel.cell_c (by first | exact R1.out | exact R1.out.drew | exact R1.out.drew.drew) Hbf.out rfl _).mono ?_; rintro e w2 ⟨rfl, c2, R2, ⟨x0, x1, x2, x3, x4, x5, x6, x7, x8⟩, b1⟩)
      | (go_at_call 31; refine (SRel.load_c (by first | exact R2.out | exact R2.out.drew | exact R2.out.drew.drew) rfl _ Hj.out Hs0.out Hs1.out).mono ?_; rintro e w3 ⟨rfl, c3, R3, ⟨x0, x1, x2, x3, x4, x5, x6, x7, x8⟩, b1⟩; rw [← Hv.out]))
  obtain ⟨⟨f2, f3, f4, f5, f6, f7⟩, -, lx, ly, nxy⟩ := R3.out.frees
  go_upto_region 9 with fail
  go_region_held3 (fun w' => w'.cell? ⟨x, 0, none⟩ = some (.pointer (some ⟨b, 0, none⟩)) ∧ w'.cell? ⟨x, 6, none⟩ = some (.int .i64 pos) ∧ w'.cell? ⟨b, 1, none⟩ = some (.pointer (some ⟨p, 0, none⟩)))
    (first | exact ⟨by assumption, by assumption, by assumption⟩ | go_keep)
    (first
      | (go_at_call 72; refine (SRel.round_c (by first | exact R3.out | exact R3.out.drew | exact R3.out.drew.drew) Hbf.out rfl _).mono ?_; rintro e w4 ⟨rfl, c4, R4, ⟨x0, x1, x2, x3, x4, x5, x6, x7, x8⟩, b1⟩; rw [← Hrd.out]))
  obtain ⟨x0, x1, x2, x3, x4, x5, x6, x7, x8⟩ := R4.out.xs rfl
  obtain ⟨⟨f2, f3, f4, f5, f6, f7⟩, -, lx, ly, nxy⟩ := R4.out.frees
  obtain ⟨y0, y1, y2, y3, y4, y5, y6, y7, y8⟩ := R4.out.ys
  obtain ⟨-, ⟨g0, g1, g2, g3, g4, g5, g6, g7, g8⟩, -, -, -⟩ := R4.out.frees
  have R5 := Lib.hid (R4.out.put 6 (.int .i64 (pos + 1)))
  go_wp2
  exact bodyPost_ret (v := .tuple #[.agg #[.pointer (some ⟨b, 0, none⟩), .int .i64 next, .int .i64 3, .slice ao n cap, .int .i64 most, .int .i64 hi, .int .i64 (pos + 1), .int .i64 sign, .bool false], .nilIface]) (by simp [results, Tryd.results18, go_sem, y0, y1, y2, y3, y4, y5, y6, y7, y8]) rfl ⟨rfl, R5.out.res _ _ _ _ _ _ _ _ _⟩
end
end Go.Proofs.YtoifknfmamcimaaDoor
