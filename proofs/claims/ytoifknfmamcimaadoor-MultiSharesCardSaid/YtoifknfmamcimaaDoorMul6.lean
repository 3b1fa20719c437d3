/- Try and Claim of a sequencer, where what was seen last is enough. No condition beyond each contract's own. -/
import Derived.Test.YtoifknfmamcimaaDoorMul4
namespace Go.Proofs.YtoifknfmamcimaaDoor
open Go.RowKit

section
variable {c : Nat → Nat} {K : Nat} {w : World} {p q bp gp : Nat} {S : Sq} {la : List Int}
set_option maxRecDepth 100000 in
theorem mtry_ok {k : Nat} (hB : SeqIs c k w p q bp gp S) (n : Int) (h1 : 1 ≤ n) (h2 : n ≤ 2 ^ S.sh) :
    Calls Tryd.prog 38 #[.pointer (some ⟨p, 0, none⟩), .int .i64 n] w fun e w' => e = .returned (.tuple #[.agg #[.pointer (some ⟨p, 0, none⟩), .int .i64 n, .int .i64 0, .int .i64 0, .int .i64 0, .slice none 0 0, .int .i64 0], .nilIface]) ∧ ∃ c', Stp (fun _ => False) c c' w w' := by
  have Hsh := Lib.hid hB.bf.1
  obtain ⟨s0, s1, s2, s3, s4, s5, lp⟩ := hB.cs
  have t1 : decide (n < 1) = false := by simp; omega
  have t2 : decide ((2 : Int) ^ S.sh < n) = false := by simp; omega
  have T := Lib.hid (((Stp.refl (fun _ => False) c w).alloc (.cells #[.pointer (some ⟨p, 0, none⟩), .int .i64 n, .int .i64 0, .int .i64 0, .int .i64 0, .slice none 0 0, .int .i64 0] 73) 0).alloc (.cells #[.int .i64 S.sh] 108) 0)
  clear hB h1 h2
  go_enter Tryd.func38, Tryd.ntmps38
  go_wp2_with (go_at_call 73; refine (slots_k S.sh Hsh.out _).mono ?_; rintro e w' ⟨rfl, rfl⟩)
  exact bodyPost_ret (v := .tuple #[.agg #[.pointer (some ⟨p, 0, none⟩), .int .i64 n, .int .i64 0, .int .i64 0, .int .i64 0, .slice none 0 0, .int .i64 0], .nilIface]) (by simp [results, Tryd.results38, go_sem]) rfl ⟨rfl, _, T.out⟩

set_option maxRecDepth 100000 in
theorem mtry_nil (c : Nat → Nat) (n : Int) (w : World) :
    Calls Tryd.prog 38 #[.pointer none, .int .i64 n] w fun e w' => e = .returned (.tuple #[.agg #[.pointer none, .int .i64 0, .int .i64 0, .int .i64 0, .int .i64 0, .slice none 0 0, .int .i64 0], .iface 119 (.int .i64 2)]) ∧ ∃ c', Stp (fun _ => False) c c' w w' := by
  have T := Lib.hid ((Stp.refl (fun _ => False) c w).alloc (.cells #[.pointer none, .int .i64 0, .int .i64 0, .int .i64 0, .int .i64 0, .slice none 0 0, .int .i64 0] 73) 0)
  go_enter Tryd.func38, Tryd.ntmps38
  go_wp2
  exact bodyPost_ret (v := .tuple #[.agg #[.pointer none, .int .i64 0, .int .i64 0, .int .i64 0, .int .i64 0, .slice none 0 0, .int .i64 0], .iface 119 (.int .i64 2)]) (by simp [results, Tryd.results38, go_sem]) rfl ⟨rfl, _, T.out⟩

set_option maxRecDepth 100000 in
theorem mtry_low {k : Nat} (_hB : SeqIs c k w p q bp gp S) (n : Int) (h1 : n < 1) :
    Calls Tryd.prog 38 #[.pointer (some ⟨p, 0, none⟩), .int .i64 n] w fun e w' => ∃ et ev, e = .returned (.tuple #[.agg #[.pointer none, .int .i64 0, .int .i64 0, .int .i64 0, .int .i64 0, .slice none 0 0, .int .i64 0], .iface et ev]) ∧ ∃ c', Stp (fun _ => False) c c' w w' ∧ ErrAt c' w' (.iface et ev) 1 := by
  have t1 : decide (n < 1) = true := by simpa using h1
  obtain ⟨c1, hc1, T⟩ := ((Stp.refl (fun _ => False) c w).alloc (.cells #[.pointer none, .int .i64 0, .int .i64 0, .int .i64 0, .int .i64 0, .slice none 0 0, .int .i64 0] 73) 0).name
  have T2 := Lib.hid (T.out.alloc (.cells #[.string ⟨#[99, 108, 97, 105, 109]⟩, .int .i64 n, .iface 119 (.int .i64 1)] 152) 1)
  have E2 := Lib.hid (ErrAt.new c1 (w.alloc (.cells #[.pointer none, .int .i64 0, .int .i64 0, .int .i64 0, .int .i64 0, .slice none 0 0, .int .i64 0] 73)) ⟨#[99, 108, 97, 105, 109]⟩ n 1)
  clear h1 hc1 T
  go_enter Tryd.func38, Tryd.ntmps38
  go_wp2_with (go_at_call 65; refine (wrap_some _ _ _ _ _).mono ?_; rintro e w' ⟨rfl, rfl⟩)
  exact bodyPost_ret (v := .tuple #[.agg #[.pointer none, .int .i64 0, .int .i64 0, .int .i64 0, .int .i64 0, .slice none 0 0, .int .i64 0], .iface 150 (.pointer (some ⟨(w.alloc (.cells #[.pointer none, .int .i64 0, .int .i64 0, .int .i64 0, .int .i64 0, .slice none 0 0, .int .i64 0] 73)).heap.size, 0, none⟩))]) (by simp [results, Tryd.results38, go_sem]) rfl ⟨_, _, rfl, _, T2.out, E2.out⟩

set_option maxRecDepth 100000 in
theorem mtry_high {k : Nat} (hB : SeqIs c k w p q bp gp S) (n : Int) (h1 : 1 ≤ n) (h2 : 2 ^ S.sh < n) :
    Calls Tryd.prog 38 #[.pointer (some ⟨p, 0, none⟩), .int .i64 n] w fun e w' => ∃ et ev, e = .returned (.tuple #[.agg #[.pointer none, .int .i64 0, .int .i64 0, .int .i64 0, .int .i64 0, .slice none 0 0, .int .i64 0], .iface et ev]) ∧ ∃ c', Stp (fun _ => False) c c' w w' ∧ ErrAt c' w' (.iface et ev) 1 := by
  have Hsh := Lib.hid hB.bf.1
  obtain ⟨s0, s1, s2, s3, s4, s5, lp⟩ := hB.cs
  have t1 : decide (n < 1) = false := by simp; omega
  have t2 : decide ((2 : Int) ^ S.sh < n) = true := by simpa using h2
  obtain ⟨c1, hc1, T⟩ := (((Stp.refl (fun _ => False) c w).alloc (.cells #[.pointer none, .int .i64 0, .int .i64 0, .int .i64 0, .int .i64 0, .slice none 0 0, .int .i64 0] 73) 0).alloc (.cells #[.int .i64 S.sh] 108) 0).name
  have T2 := Lib.hid (T.out.alloc (.cells #[.string ⟨#[99, 108, 97, 105, 109]⟩, .int .i64 n, .iface 119 (.int .i64 1)] 152) 1)
  have E2 := Lib.hid (ErrAt.new c1 ((w.alloc (.cells #[.pointer none, .int .i64 0, .int .i64 0, .int .i64 0, .int .i64 0, .slice none 0 0, .int .i64 0] 73)).alloc (.cells #[.int .i64 S.sh] 108)) ⟨#[99, 108, 97, 105, 109]⟩ n 1)
  clear hB h1 h2 hc1 T
  go_enter Tryd.func38, Tryd.ntmps38
  go_wp2_with (first
    | (go_at_call 73; refine (slots_k S.sh Hsh.out _).mono ?_; rintro e w' ⟨rfl, rfl⟩)
    | (go_at_call 65; refine (wrap_some _ _ _ _ _).mono ?_; rintro e w' ⟨rfl, rfl⟩))
  exact bodyPost_ret (v := .tuple #[.agg #[.pointer none, .int .i64 0, .int .i64 0, .int .i64 0, .int .i64 0, .slice none 0 0, .int .i64 0], .iface 150 (.pointer (some ⟨((w.alloc (.cells #[.pointer none, .int .i64 0, .int .i64 0, .int .i64 0, .int .i64 0, .slice none 0 0, .int .i64 0] 73)).alloc (.cells #[.int .i64 S.sh] 108)).heap.size, 0, none⟩))]) (by simp [results, Tryd.results38, go_sem]) rfl ⟨_, _, rfl, _, T2.out, E2.out⟩

theorem mtry_bad {k : Nat} (hB : SeqIs c k w p q bp gp S) (n : Int) (h : n < 1 ∨ 2 ^ S.sh < n) :
    Calls Tryd.prog 38 #[.pointer (some ⟨p, 0, none⟩), .int .i64 n] w fun e w' => ∃ et ev, e = .returned (.tuple #[.agg #[.pointer none, .int .i64 0, .int .i64 0, .int .i64 0, .int .i64 0, .slice none 0 0, .int .i64 0], .iface et ev]) ∧ ∃ c', Stp (fun _ => False) c c' w w' ∧ ErrAt c' w' (.iface et ev) 1 := by
  by_cases h1 : n < 1
  · exact mtry_low hB n h1
  · exact mtry_high hB n (by omega) (by omega)
end

/-- Claim, part of the way. -/
structure QAt (c0 : Nat → Nat) (w0 : World) (K p q bp gp : Nat) (S : Sq) (la : List Int) (z : Nat) (cs : List Value) (ao : Option Addr) (m cap : Nat) (ids : List Int) (c : Nat → Nat) (w : World) : Prop where
  st : Stp (· = K) c0 c w0 w
  ar : ArenaS c K w q la
  sq : SeqIs c (K + 1) w p q bp gp S
  bx : Blk c (K + 6) w z cs 73
  sc : In c (K + 4) w 1 ao m cap (ids.map (Value.int .i64))
  nz : w0.heap.size ≤ z

section
variable {c0 : Nat → Nat} {w0 : World} {K p q bp gp : Nat} {S : Sq} {la la' : List Int} {z : Nat} {cs : List Value} {ao ao' : Option Addr} {m m' cap cap' : Nat} {ids ids' : List Int} {c c' : Nat → Nat} {w w' : World}
theorem QAt.stpF (h : QAt c0 w0 K p q bp gp S la z cs ao m cap ids c w) (t : Stp (fun _ => False) c c' w w') : QAt c0 w0 K p q bp gp S la z cs ao m cap ids c' w' :=
  ⟨h.st.trans (t.mono fun _ h => h.elim), h.ar.stp t id, h.sq.stp t id id id, h.bx.stp t id, h.sc.stp t id, h.nz⟩
theorem QAt.go (h : QAt c0 w0 K p q bp gp S la z cs ao m cap ids c w) (t : Stp (· = K) c c' w w') (ha : ArenaS c' K w' q la') (hs : In c' (K + 4) w' 1 ao' m' cap' (ids'.map (Value.int .i64))) : QAt c0 w0 K p q bp gp S la' z cs ao' m' cap' ids' c' w' :=
  ⟨h.st.trans t, ha, h.sq.stp t (by omega) (by omega) (by omega), h.bx.stp t (by omega), hs, h.nz⟩
theorem QAt.put7 (h : QAt c0 w0 K p q bp gp S la z cs ao m cap ids c w) (hl : cs.length = 7) (u0 u1 u2 u3 u4 u5 u6 : Value) : QAt c0 w0 K p q bp gp S la z [u0, u1, u2, u3, u4, u5, u6] ao m cap ids c (((((((w.setCell ⟨z, 0, none⟩ u0).setCell ⟨z, 1, none⟩ u1).setCell ⟨z, 2, none⟩ u2).setCell ⟨z, 3, none⟩ u3).setCell ⟨z, 4, none⟩ u4).setCell ⟨z, 5, none⟩ u5).setCell ⟨z, 6, none⟩ u6) := by
  have hz := h.bx.1
  have t := (((((((Stp.refl (· = K + 6) c w).setCell (p := ⟨z, 0, none⟩) u0 hz).setCell (p := ⟨z, 1, none⟩) u1 hz).setCell (p := ⟨z, 2, none⟩) u2 hz).setCell (p := ⟨z, 3, none⟩) u3 hz).setCell (p := ⟨z, 4, none⟩) u4 hz).setCell (p := ⟨z, 5, none⟩) u5 hz).setCell (p := ⟨z, 6, none⟩) u6 hz
  have hb := ((((((h.bx.set 0 u0).set 1 u1).set 2 u2).set 3 u3).set 4 u4).set 5 u5).set 6 u6
  match cs, hl with
  | [a0, a1, a2, a3, a4, a5, a6], _ => exact ⟨((((((h.st.setNew (p := ⟨z, 0, none⟩) u0 h.nz).setNew (p := ⟨z, 1, none⟩) u1 h.nz).setNew (p := ⟨z, 2, none⟩) u2 h.nz).setNew (p := ⟨z, 3, none⟩) u3 h.nz).setNew (p := ⟨z, 4, none⟩) u4 h.nz).setNew (p := ⟨z, 5, none⟩) u5 h.nz).setNew (p := ⟨z, 6, none⟩) u6 h.nz, h.ar.stp t (by omega), h.sq.stp t (by omega) (by omega) (by omega), hb, h.sc.stp t (by omega), h.nz⟩
theorem QAt.xs (h : QAt c0 w0 K p q bp gp S la z cs ao m cap ids c w) {v0 v1 v2 v3 v4 v5 v6 : Value} (e : cs = [v0, v1, v2, v3, v4, v5, v6]) : (w.cell? ⟨z, 0, none⟩ = some v0 ∧ w.cell? ⟨z, 1, none⟩ = some v1 ∧ w.cell? ⟨z, 2, none⟩ = some v2 ∧ w.cell? ⟨z, 3, none⟩ = some v3 ∧ w.cell? ⟨z, 4, none⟩ = some v4 ∧ w.cell? ⟨z, 5, none⟩ = some v5 ∧ w.cell? ⟨z, 6, none⟩ = some v6) ∧ (w.frozen? ⟨z, 0, none⟩ = false ∧ w.frozen? ⟨z, 1, none⟩ = false ∧ w.frozen? ⟨z, 2, none⟩ = false ∧ w.frozen? ⟨z, 3, none⟩ = false ∧ w.frozen? ⟨z, 4, none⟩ = false ∧ w.frozen? ⟨z, 5, none⟩ = false ∧ w.frozen? ⟨z, 6, none⟩ = false) ∧ z < w.heap.size := by
  subst e
  exact ⟨⟨by simpa using h.bx.cell 0, by simpa using h.bx.cell 1, by simpa using h.bx.cell 2, by simpa using h.bx.cell 3, by simpa using h.bx.cell 4, by simpa using h.bx.cell 5, by simpa using h.bx.cell 6⟩, ⟨h.bx.free 0, h.bx.free 1, h.bx.free 2, h.bx.free 3, h.bx.free 4, h.bx.free 5, h.bx.free 6⟩, h.bx.lt⟩
end

section
variable {c : Nat → Nat} {K : Nat} {w : World} {p q bp gp : Nat} {S : Sq} {la : List Int}
theorem mclaim_nil (c : Nat → Nat) (n : Int) (w : World) :
    Calls Tryd.prog 24 #[.pointer none, .int .i64 n] w fun e w' => e = .returned (.tuple #[.int .i64 0, .iface 119 (.int .i64 2)]) ∧ ∃ c', Stp (fun _ => False) c c' w w' := by
  go_enter Tryd.func24, Tryd.ntmps24
  go_wp2_with fail
  refine (mtry_nil c n _).mono ?_
  rintro e w1 ⟨rfl, c1, t1⟩
  have T2 := Lib.hid (t1.alloc (.cells #[.pointer none, .int .i64 0, .int .i64 0, .int .i64 0, .int .i64 0, .slice none 0 0, .int .i64 0] 73) 0)
  clear t1
  go_wp2
  go_loopw [7] (fun v wr => v = .iface 119 (.int .i64 2) ∧ wr = w1.alloc (.cells #[.pointer none, .int .i64 0, .int .i64 0, .int .i64 0, .int .i64 0, .slice none 0 0, .int .i64 0] 73)) (fun _ _ => 0)
  case atStart => exact ⟨rfl, rfl⟩
  case round =>
    obtain ⟨rfl, rfl⟩ := hrel
    go_wp2
    go_ret2
    exact ⟨rfl, _, T2.out⟩

theorem mclaim_bad {k : Nat} (hB : SeqIs c k w p q bp gp S) (n : Int) (h : n < 1 ∨ 2 ^ S.sh < n) :
    Calls Tryd.prog 24 #[.pointer (some ⟨p, 0, none⟩), .int .i64 n] w fun e w' => ∃ ev, e = .returned (.tuple #[.int .i64 0, ev]) ∧ ∃ c', Stp (fun _ => False) c c' w w' ∧ ErrAt c' w' ev 1 := by
  have HB := Lib.hid hB
  have Hh := Lib.hid h
  clear hB h
  go_enter Tryd.func24, Tryd.ntmps24
  go_wp2_with fail
  refine (mtry_bad HB.out n Hh.out).mono ?_
  rintro e w1 ⟨et, ev, rfl, c1, t1, e1⟩
  obtain ⟨c2, -, T2⟩ := (t1.alloc (.cells #[.pointer none, .int .i64 0, .int .i64 0, .int .i64 0, .int .i64 0, .slice none 0 0, .int .i64 0] 73) 0).name
  have E2 := Lib.hid (e1.stp ((Stp.refl (fun _ => False) c1 w1).alloc (.cells #[.pointer none, .int .i64 0, .int .i64 0, .int .i64 0, .int .i64 0, .slice none 0 0, .int .i64 0] 73) 0) id)
  have T3 := Lib.hid (t1.alloc (.cells #[.pointer none, .int .i64 0, .int .i64 0, .int .i64 0, .int .i64 0, .slice none 0 0, .int .i64 0] 73) 0)
  clear t1 e1
  go_wp2
  go_loopw [7] (fun v wr => v = .iface et ev ∧ wr = w1.alloc (.cells #[.pointer none, .int .i64 0, .int .i64 0, .int .i64 0, .int .i64 0, .slice none 0 0, .int .i64 0] 73)) (fun _ _ => 0)
  case atStart => exact ⟨rfl, rfl⟩
  case round =>
    obtain ⟨rfl, rfl⟩ := hrel
    go_wp2
    go_ret2
    exact ⟨_, rfl, _, T3.out, E2.out⟩

def QRel (c0 : Nat → Nat) (w0 : World) (K p q bp gp : Nat) (S : Sq) (la : List Int) (z : Nat) (n v : Int) (gh : Nat) (ev : Value) (wr : World) : Prop :=
  ev = .nilIface ∧ ∃ (c : Nat → Nat) (ao : Option Addr) (m cap : Nat) (ids : List Int) (most : Int),
    (gh = 3 ∧ Hid (QAt c0 w0 K p q bp gp S la z [.pointer (some ⟨p, 0, none⟩), .int .i64 n, .int .i64 0, .int .i64 0, .int .i64 0, .slice none 0 0, .int .i64 0] ao m cap ids c wr) ∧ ao = none ∧ m = 0 ∧ cap = 0) ∨
    (gh = 2 ∧ Hid (QAt c0 w0 K p q bp gp S la z [.pointer (some ⟨p, 0, none⟩), .int .i64 n, .int .i64 1, .int .i64 v, .int .i64 (v + n), .slice ao m cap, .int .i64 most] ao m cap ids c wr)) ∨
    (gh = 1 ∧ Hid (QAt c0 w0 K p q bp gp S la z [.pointer (some ⟨p, 0, none⟩), .int .i64 n, .int .i64 4, .int .i64 v, .int .i64 (v + n), .slice ao m cap, .int .i64 most] ao m cap ids c wr)) ∨
    (gh = 0 ∧ Hid (QAt c0 w0 K p q bp gp S (la.set S.cur (v + n)) z [.pointer (some ⟨p, 0, none⟩), .int .i64 n, .int .i64 5, .int .i64 v, .int .i64 (v + n), .slice ao m cap, .int .i64 most] ao m cap ids c wr))

set_option maxRecDepth 100000 in
set_option maxHeartbeats 2000000 in
/-- Claim where what was seen last is enough. -/
theorem mclaim_quick (ha : ArenaS c K w q la) (hB : SeqIs c (K + 1) w p q bp gp S) (n : Int) (h1 : 1 ≤ n) (h2 : n ≤ 2 ^ S.sh) {v u : Int} (hcu : S.cur < la.length) (hca : S.cac < la.length) (hv : la.getD S.cur 0 = v) (hu : la.getD S.cac 0 = u) (hn : nextErr v n = 0) (hu1 : v + n - 2 ^ S.sh ≤ u) (hu2 : u ≤ v) (hw : wrap64 (v + n - 2 ^ S.sh) = v + n - 2 ^ S.sh) :
    Calls Tryd.prog 24 #[.pointer (some ⟨p, 0, none⟩), .int .i64 n] w fun e w' => e = .returned (.tuple #[.int .i64 (v + n), .nilIface]) ∧ ∃ c', Stp (· = K) c c' w w' ∧ ArenaS c' K w' q (la.set S.cur (v + n)) ∧ SeqIs c' (K + 1) w' p q bp gp S := by
  have HB := Lib.hid hB
  have HA := Lib.hid ha
  have Hcu := Lib.hid hcu
  have Hca := Lib.hid hca
  have Hv := Lib.hid hv
  have Hu := Lib.hid hu
  have Hn := Lib.hid hn
  have Hu1 := Lib.hid hu1
  have Hu2 := Lib.hid hu2
  have Hw := Lib.hid hw
  have H1 := Lib.hid h1
  have H2 := Lib.hid h2
  clear ha hB hcu hca hv hu hn hu1 hu2 hw h1 h2
  go_enter Tryd.func24, Tryd.ntmps24
  go_wp2_with fail
  refine (mtry_ok HB.out n H1.out H2.out).mono ?_
  rintro e w1 ⟨rfl, c1, t1⟩
  obtain ⟨z, hz⟩ : ∃ z, z = w1.heap.size := ⟨_, rfl⟩
  obtain ⟨c2, hc2, T2⟩ := (t1.alloc (.cells #[.pointer (some ⟨p, 0, none⟩), .int .i64 n, .int .i64 0, .int .i64 0, .int .i64 0, .slice none 0 0, .int .i64 0] 73) (K + 6)).name
  have Q2 := Lib.hid (show QAt c w K p q bp gp S la z [.pointer (some ⟨p, 0, none⟩), .int .i64 n, .int .i64 0, .int .i64 0, .int .i64 0, .slice none 0 0, .int .i64 0] none 0 0 [] c2 (w1.alloc (.cells #[.pointer (some ⟨p, 0, none⟩), .int .i64 n, .int .i64 0, .int .i64 0, .int .i64 0, .slice none 0 0, .int .i64 0] 73)) from ⟨T2.out.mono (fun _ h => h.elim), HA.out.stp T2.out id, HB.out.stp T2.out id id id, by rw [hc2.out, hz]; exact Blk.new c1 (K + 6) w1 _ _, In.nil _ _ _ _ _, by rw [hz]; exact t1.size⟩)
  clear t1 hc2 T2
  go_wp2
  rw [← hz]
  clear hz
  go_loopg [7] 3 (fun gh ev wr => QRel c w K p q bp gp S la z n v gh ev wr)
  case atStart => exact ⟨rfl, c2, none, 0, 0, [], 0, .inl ⟨rfl, Q2.out, rfl, rfl, rfl⟩⟩
  case round =>
    obtain ⟨rfl, c3, ao, m, cap, ids, most, h⟩ := hrel
    rcases h with ⟨hg, Q, rfl, rfl, rfl⟩ | ⟨hg, Q⟩ | ⟨hg, Q⟩ | ⟨hg, Q⟩
    · obtain ⟨⟨x0, x1, x2, x3, x4, x5, x6⟩, ⟨f0, f1, f2, f3, f4, f5, f6⟩, lz⟩ := Q.out.xs rfl
      clear f0 f1 f2 f3 f4 f5 f6 lz
      go_wp2_with fail
      refine (tdone_any _ _ _ _ _ _ _ _ c3 _ _ (b := false) (by decide)).mono ?_
      rintro e w4 ⟨rfl, c4, t4⟩
      have Q4 := Lib.hid (Q.out.stpF t4)
      clear t4 Q x0 x1 x2 x3 x4 x5 x6
      obtain ⟨⟨x0, x1, x2, x3, x4, x5, x6⟩, -, -⟩ := Q4.out.xs rfl
      go_wp2_with fail
      refine (ts_cur n 0 0 0 Q4.out.ar Q4.out.sq Q4.out.sc Hcu.out Hv.out Hn.out).mono ?_
      rintro e w5 ⟨rfl, c5, t5, a5, i5⟩
      have Q5 := Lib.hid (Q4.out.go t5 a5 i5)
      clear t5 a5 i5 Q4 x0 x1 x2 x3 x4 x5 x6
      obtain ⟨⟨x0, x1, x2, x3, x4, x5, x6⟩, ⟨f0, f1, f2, f3, f4, f5, f6⟩, lz⟩ := Q5.out.xs rfl
      have Q6 := Lib.hid (Q5.out.put7 rfl (.pointer (some ⟨p, 0, none⟩)) (.int .i64 n) (.int .i64 1) (.int .i64 v) (.int .i64 (v + n)) (.slice none 0 0) (.int .i64 0))
      go_wp2
      go_roundg (2)
      case rel => exact ⟨rfl, c5, none, 0, 0, ids, 0, .inr (.inl ⟨rfl, Q6.out⟩)⟩
      case measure => omega
    · obtain ⟨⟨x0, x1, x2, x3, x4, x5, x6⟩, ⟨f0, f1, f2, f3, f4, f5, f6⟩, lz⟩ := Q.out.xs rfl
      clear f0 f1 f2 f3 f4 f5 f6 lz
      go_wp2_with fail
      refine (tdone_any _ _ _ _ _ _ _ _ c3 _ _ (b := false) (by decide)).mono ?_
      rintro e w4 ⟨rfl, c4, t4⟩
      have Q4 := Lib.hid (Q.out.stpF t4)
      clear t4 Q x0 x1 x2 x3 x4 x5 x6
      obtain ⟨⟨x0, x1, x2, x3, x4, x5, x6⟩, -, -⟩ := Q4.out.xs rfl
      go_wp2_with fail
      refine (ts_enough n v (v + n) most Q4.out.ar Q4.out.sq Q4.out.sc Hca.out Hu.out Hu1.out Hu2.out Hw.out).mono ?_
      rintro e w5 ⟨rfl, c5, t5, a5, i5⟩
      have Q5 := Lib.hid (Q4.out.go t5 a5 i5)
      clear t5 a5 i5 Q4 x0 x1 x2 x3 x4 x5 x6
      obtain ⟨⟨x0, x1, x2, x3, x4, x5, x6⟩, ⟨f0, f1, f2, f3, f4, f5, f6⟩, lz⟩ := Q5.out.xs rfl
      have Q6 := Lib.hid (Q5.out.put7 rfl (.pointer (some ⟨p, 0, none⟩)) (.int .i64 n) (.int .i64 4) (.int .i64 v) (.int .i64 (v + n)) (.slice ao m cap) (.int .i64 most))
      go_wp2
      go_roundg (1)
      case rel => exact ⟨rfl, c5, ao, m, cap, ids, most, .inr (.inr (.inl ⟨rfl, Q6.out⟩))⟩
      case measure => omega
    · obtain ⟨⟨x0, x1, x2, x3, x4, x5, x6⟩, ⟨f0, f1, f2, f3, f4, f5, f6⟩, lz⟩ := Q.out.xs rfl
      clear f0 f1 f2 f3 f4 f5 f6 lz
      go_wp2_with fail
      refine (tdone_any _ _ _ _ _ _ _ _ c3 _ _ (b := false) (by decide)).mono ?_
      rintro e w4 ⟨rfl, c4, t4⟩
      have Q4 := Lib.hid (Q.out.stpF t4)
      clear t4 Q x0 x1 x2 x3 x4 x5 x6
      obtain ⟨⟨x0, x1, x2, x3, x4, x5, x6⟩, -, -⟩ := Q4.out.xs rfl
      go_wp2_with fail
      refine (ts_swapy n v (v + n) most Q4.out.ar Q4.out.sq Q4.out.sc Hcu.out Hv.out).mono ?_
      rintro e w5 ⟨rfl, c5, t5, a5, i5⟩
      have Q5 := Lib.hid (Q4.out.go t5 a5 i5)
      clear t5 a5 i5 Q4 x0 x1 x2 x3 x4 x5 x6
      obtain ⟨⟨x0, x1, x2, x3, x4, x5, x6⟩, ⟨f0, f1, f2, f3, f4, f5, f6⟩, lz⟩ := Q5.out.xs rfl
      have Q6 := Lib.hid (Q5.out.put7 rfl (.pointer (some ⟨p, 0, none⟩)) (.int .i64 n) (.int .i64 5) (.int .i64 v) (.int .i64 (v + n)) (.slice ao m cap) (.int .i64 most))
      go_wp2
      go_roundg (0)
      case rel => exact ⟨rfl, c5, ao, m, cap, ids, most, .inr (.inr (.inr ⟨rfl, Q6.out⟩))⟩
      case measure => omega
    · obtain ⟨⟨x0, x1, x2, x3, x4, x5, x6⟩, ⟨f0, f1, f2, f3, f4, f5, f6⟩, lz⟩ := Q.out.xs rfl
      clear f0 f1 f2 f3 f4 f5 f6 lz
      go_wp2_with fail
      refine (tdone_any _ _ _ _ _ _ _ _ c3 _ _ (b := true) (by decide)).mono ?_
      rintro e w4 ⟨rfl, c4, t4⟩
      have Q4 := Lib.hid (Q.out.stpF t4)
      clear t4 Q x0 x1 x2 x3 x4 x5 x6
      obtain ⟨⟨x0, x1, x2, x3, x4, x5, x6⟩, -, -⟩ := Q4.out.xs rfl
      go_wp2_with fail
      refine (tfull_any _ _ _ _ _ _ _ _ _ c4 _ (b := false) (by decide)).mono ?_
      rintro e w5 ⟨rfl, c5, t5⟩
      have Q5 := Lib.hid (Q4.out.stpF t5)
      clear t5 Q4 x0 x1 x2 x3 x4 x5 x6
      obtain ⟨⟨x0, x1, x2, x3, x4, x5, x6⟩, -, -⟩ := Q5.out.xs rfl
      go_wp2_with fail
      refine (tlast_any _ _ _ _ _ _ _ _ _ c5 _).mono ?_
      rintro e w6 ⟨rfl, c6, t6⟩
      rw [if_pos rfl]
      have Q6 := Lib.hid (Q5.out.stpF t6)
      clear t6 Q5 x0 x1 x2 x3 x4 x5 x6
      go_wp2
      go_ret2
      exact ⟨rfl, c6, Q6.out.st, Q6.out.ar, Q6.out.sq⟩
end
end Go.Proofs.YtoifknfmamcimaaDoor
