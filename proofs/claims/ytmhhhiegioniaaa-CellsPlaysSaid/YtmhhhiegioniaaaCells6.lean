/- The contract of play of norialaw03: what is done to an arena is done to the document's, and both are of one mind. No condition but that both hold the same numbers, and not too many. -/
import Derived.Test.YtmhhhiegioniaaaCells5
import Derived.Deep.QuietTactic
import Derived.BigQuiet
namespace Go.Proofs.Ytmhhhiegioniaaa
open Go.RowKit

def I64 (x : Int) : Prop := -9223372036854775808 ≤ x ∧ x ≤ 9223372036854775807

/-- Both arenas, the program's and the document's. -/
structure Both (c : Nat → Nat) (w : World) (a m : Nat) (l : List Int) (s : Int) : Prop where
  ar : ArenaAt c 2 w a l s
  rf : RefAt c 3 w m l s
  ok : ∀ x ∈ l, I64 x
  s0 : 0 ≤ s

theorem Both.stp {J : Nat → Prop} {c c' : Nat → Nat} {w w' : World} {a m : Nat} {l : List Int} {s : Int} (h : Both c w a m l s) (st : Stp J c c' w w') (h2 : ¬ J 2) (h3 : ¬ J 3) : Both c' w' a m l s :=
  ⟨h.ar.stp st h2, h.rf.stp st h3, h.ok, h.s0⟩

theorem RefAt.step {c : Nat → Nat} {k : Nat} {w : World} {p : Nat} {l : List Int} {s : Int} (h : RefAt c k w p l s) (s' : Int) : RefAt c k (w.setCell ⟨p, 1, none⟩ (.int .i64 s')) p l s' := by
  obtain ⟨ao, cap, hb, hr⟩ := h
  exact ⟨ao, cap, hb.set 1 _, hr.other _ (hr.ne_blk hb (by decide)) rfl⟩

theorem RefAt.open_cell {c : Nat → Nat} {k : Nat} {w : World} {p : Nat} {l : List Int} {s : Int} (h : RefAt c k w p l s) {j : Nat} (hj : j < l.length) :
    ∃ g off cap, Blk c k w p [.slice (some ⟨g, off, none⟩) l.length cap, .int .i64 s] 64 ∧ Row c k w 2 1 (some ⟨g, off, none⟩) l.length cap (l.map (Value.int .i64)) ∧
      w.cell? ⟨g, off + j, none⟩ = some (.int .i64 (l.getD j 0)) ∧ w.frozen? ⟨g, off + j, none⟩ = false ∧ g ≠ p := by
  obtain ⟨ao, cap, hb, hr⟩ := h
  have hv : (l.map (Value.int .i64))[j]? = some (.int .i64 (l.getD j 0)) := by simp [List.getD, hj]
  obtain ⟨a, rfl, hs, hc, hf, ha, _⟩ := hr.cell hv
  obtain ⟨g, off, sp⟩ := a
  simp only at hs
  subst hs
  rw [ha] at hc hf
  exact ⟨g, off, cap, hb, hr, hc, hf, hr.ne_blk hb (by decide) _ rfl⟩

/-- norialaw01.Is in a region that only reads, asked for the number that the error has. -/
theorem lawis_quiet {c : Nat → Nat} {w : World} {v : Value} {m : Int} (h : Err c w v m) (n : Nat) :
    Calls Try.prog 49 #[v, .int .i64 m] (w.drewN n) fun e w' => e = .returned (.bool true) ∧ ∃ k, w' = w.drewN k :=
  (lawis (h.stp ((Stp.refl (fun _ => False) c w).drewN n) id) m).mono fun _ _ ⟨he, hw⟩ => ⟨by simpa using he, n, hw.symm⟩

theorem lawis_true {c : Nat → Nat} {w : World} {v : Value} {m : Int} (h : Err c w v m) :
    Calls Try.prog 49 #[v, .int .i64 m] w fun e w' => e = .returned (.bool true) ∧ w = w' :=
  (lawis h m).mono fun _ _ ⟨he, hw⟩ => ⟨by simpa using he, hw⟩

/-- The state behind a step. -/
def Played (c : Nat → Nat) (w w' : World) (a m : Nat) (n : Nat) (s : Int) : Prop :=
  ∃ c' l' s', Stp (2 ≤ ·) c c' w w' ∧ Both c' w' a m l' s' ∧ l'.length ≤ n + 1 ∧ s' ≤ s + 1

set_option maxRecDepth 100000 in
theorem play_alloc {c : Nat → Nat} {w : World} {a m : Nat} {l : List Int} {s : Int} (h : Both c w a m l s) (hl : (l.length : Int) ≤ 1000) (ix old v : Int) (hv : I64 v) :
    Calls Try.prog 43 #[.pointer (some ⟨a, 0, none⟩), .pointer (some ⟨m, 0, none⟩), .agg #[.int .i64 0, .int .i64 ix, .int .i64 old, .int .i64 v]] w fun e w' => e = .returned (.bool true) ∧ Played c w w' a m l.length s := by
  obtain ⟨c1, hc1, A1⟩ := ((Stp.refl (fun _ => False) c w).alloc (.cells #[.int .i64 0, .int .i64 ix, .int .i64 old, .int .i64 v] 66) 0).name
  have B1 := Lib.hid (h.stp A1.out id id)
  have X1 := Lib.hid (show Blk c1 0 _ w.heap.size [.int .i64 0, .int .i64 ix, .int .i64 old, .int .i64 v] 66 by rw [hc1.out]; exact Blk.new c 0 w _ _)
  have Hv := Lib.hid hv
  have Hl := Lib.hid hl
  clear h hc1 hv hl
  go_enter Try.func43, Try.ntmps43
  go_wp2_with fail
  refine (alloc_ok B1.out.ar v (by have := Hl.out; omega)).mono ?_
  rintro e w2 ⟨rfl, c2, s2, a2⟩
  have A2 := Lib.hid a2
  have S2 := Lib.hid ((A1.out.mono (fun _ h => h.elim)).trans (s2.up (by decide)))
  have X2 := Lib.hid (X1.out.stp s2 (by decide))
  obtain ⟨ao, cap, hb, hr⟩ := B1.out.rf.stp s2 (by decide)
  have Hb := Lib.hid hb
  have Hr := Lib.hid hr
  have x3 := X2.out.cell 3
  have k0 := hb.cell 0
  have f0 := hb.free 0
  simp at x3 k0
  have hlt := hb.lt
  have d2 : Hid (l.length + 1 ≤ maxLen) := Lib.hid (by have := Hl.out; unfold maxLen; omega)
  have d3 : Hid ((l.length + 1) * 8 ≤ 140737488355328) := Lib.hid (by have := Hl.out; omega)
  clear a2 s2 hb hr
  go_wp2_with fail
  go_region_law (refine step_row rfl (.tmp 35) (.tmp 38) 44 rfl _ 3 2 (.int .i64 0) 1 8 Try.underlying44 Try.info2 rfl ao l.length cap (l.map (Value.int .i64)) rfl (Hr.out.drew.alloc _ 3) _ 1 [.int .i64 v] rfl (Src.one _ _ _) (by simp [Value.oneCell']) d2.out d3.out ?_; intro ao1 cap1 w3 hr3 st3 ot3; have hb3 := (Hb.out.drew.alloc (.cells #[.int .i64 v] 2) 3).kept (st3.col m (by simp; omega)) ot3 (Hr.out.ne_blk Hb.out (by decide)); have k1 := hb3.cell 0; have f1 := hb3.free 0; simp at k1)
  all_goals
    obtain ⟨c3, hc3, A3⟩ := ((((Stp.refl (· = 3) c2 w2).drew).alloc (.cells #[.int .i64 v] 2) 3).trans st3).name
    rw [← hc3.out] at hr3 hb3
    have S4 := Lib.hid (S2.out.trans ((A3.out.setCell (p := ⟨m, 0, none⟩) (.slice ao1 (l.length + 1) cap1) hb3.1).up (by decide)))
    have R4 := Lib.hid (show RefAt c3 3 (w3.setCell ⟨m, 0, none⟩ (.slice ao1 (l.length + 1) cap1)) m (l ++ [v]) s from ⟨ao1, cap1, by simpa using hb3.set 0 (.slice ao1 (l.length + 1) cap1), by simpa using hr3.other _ (hr3.ne_blk hb3 (by decide)) rfl⟩)
    have A4 := Lib.hid (A2.out.stp (A3.out.setCell (p := ⟨m, 0, none⟩) (.slice ao1 (l.length + 1) cap1) hb3.1) (by decide))
    have W1 : wrap64 (l.length : Int) = l.length := IntWalk.wrap64_in _ (by have := Hl.out; constructor <;> omega)
    have g0 := R4.out
    obtain ⟨ao', cap', hb4, -⟩ := R4.out
    have k4 := hb4.cell 0
    simp at k4
    clear hr3 st3 ot3 hb3 hc3 A3 k1 f1 k0 f0 g0 hb4
    go_wp2
    go_ret
    exact ⟨rfl, _, l ++ [v], s, S4.out, ⟨A4.out, R4.out, fun x hx => by
      rcases List.mem_append.1 hx with hx | hx
      · exact B1.out.ok x hx
      · simp at hx; subst hx; exact Hv.out, B1.out.s0⟩, by simp, by omega⟩
set_option maxRecDepth 100000 in
set_option maxHeartbeats 2000000 in
theorem play_load_r {c : Nat → Nat} {w : World} {a m : Nat} {l : List Int} {s : Int} (h : Both c w a m l s) (j : Nat) (hj : j < l.length) (old v : Int) (hv : I64 v) (hs : s < 1000) (hl : (l.length : Int) ≤ 1000000) :
    Calls Try.prog 43 #[.pointer (some ⟨a, 0, none⟩), .pointer (some ⟨m, 0, none⟩), .agg #[.int .i64 1, .int .i64 j, .int .i64 old, .int .i64 v]] w fun e w' => e = .returned (.bool true) ∧ Played c w w' a m l.length s := by
  obtain ⟨c1, hc1, A1⟩ := ((Stp.refl (fun _ => False) c w).alloc (.cells #[.int .i64 1, .int .i64 j, .int .i64 old, .int .i64 v] 66) 0).name
  have B1 := Lib.hid (h.stp A1.out id id)
  have X1 := Lib.hid (show Blk c1 0 _ w.heap.size [.int .i64 1, .int .i64 j, .int .i64 old, .int .i64 v] 66 by rw [hc1.out]; exact Blk.new c 0 w _ _)
  have Hj := Lib.hid hj
  have Hs := Lib.hid hs
  have Hl := Lib.hid hl
  have HV := Lib.hid hv
  have W := IntWalk.wrap64_in (s + 1) ⟨by have := h.s0; omega, by omega⟩
  obtain ⟨ao, cap, hb, hr⟩ := B1.out.rf
  have k0 := hb.cell 0
  have k1 := hb.cell 1
  have x1 := X1.out.cell 1
  simp at k0 k1 x1
  clear h hc1 hv hb hr hs hl
  go_enter Try.func43, Try.ntmps43
  go_wp2_with fail
  go_region_with ((go_at_call 107; refine (r03right_in _ _ _ _ _ hj _).mono ?_; rintro e w2 ⟨rfl, hB2⟩))
  all_goals
    obtain ⟨c2, hc2, A2⟩ := (((Stp.refl (fun _ => False) c1 _).drew).trans (Stp.ofBelow hB2 0)).name
    have B2 := Lib.hid (B1.out.stp A2.out id id)
    have X2 := Lib.hid (X1.out.stp A2.out id)
    have S2 := Lib.hid ((A1.out.trans A2.out).mono (J' := (2 ≤ ·)) (fun _ h => h.elim))
    clear hB2 hc2 A2 k0 k1 x1
    obtain ⟨ao, cap, hb, hr⟩ := B2.out.rf
    have k1 := hb.cell 1
    have f1 := hb.free 1
    have x0 := X2.out.cell 0
    simp at k1 x0
    have S3 := Lib.hid ((Stp.refl (· = 3) c2 w2).setCell (p := ⟨m, 1, none⟩) (.int .i64 (s + 1)) hb.1)
    have A3 := Lib.hid (B2.out.ar.stp S3.out (by decide))
    have R3 := Lib.hid (B2.out.rf.step (s + 1))
    have X3 := Lib.hid (X2.out.stp S3.out (by decide))
    have S4 := Lib.hid (S2.out.trans (S3.out.up (by decide)))
    have Hok := Lib.hid B2.out.ok
    have Hs0 := Lib.hid B2.out.s0
    have y0 := X3.out.cell 0
    have y1 := X3.out.cell 1
    have y2 := X3.out.cell 2
    have y3 := X3.out.cell 3
    simp at y0 y1 y2 y3
    clear hb hr S2 S3
    go_wp2_with fail
    refine (load_ok A3.out j Hj.out Hs0.out (by have := Hs.out; omega)).mono ?_
    rintro e w4 ⟨rfl, c4, s4, a4⟩
    have T4 := Lib.hid (S4.out.trans (s4.up (by decide)))
    have A4 := Lib.hid a4
    have R4 := Lib.hid (R3.out.stp s4 (by decide))
    have E4 := Lib.hid (Err.nil c4 w4)
    have X4 := Lib.hid (X3.out.stp s4 (by decide))
    clear a4 s4
    have x1 := X4.out.cell 1
    simp at x1
    obtain ⟨g, off, cap', hb, hr, hc, hf, hne⟩ := R4.out.open_cell Hj.out
    have k0 := hb.cell 0
    simp at k0
    clear hb hr hf hne
    generalize l.getD j 0 = xv at hc ⊢
    go_wp2_with fail
    go_quiet ((go_at_call 49; exact lawis_quiet E4.out _))
    go_wp2
    go_ret
    exact ⟨rfl, _, l, s + 1, T4.out.drewN _, (Both.mk A4.out R4.out Hok.out (by have := Hs0.out; omega)).stp ((Stp.refl (fun _ => False) _ _).drewN _) id id, by omega, by omega⟩

set_option maxRecDepth 100000 in
set_option maxHeartbeats 2000000 in
theorem play_load_w {c : Nat → Nat} {w : World} {a m : Nat} {l : List Int} {s : Int} (h : Both c w a m l s) (ix : Int) (hi : ix < 0 ∨ (l.length : Int) ≤ ix) (old v : Int) :
    Calls Try.prog 43 #[.pointer (some ⟨a, 0, none⟩), .pointer (some ⟨m, 0, none⟩), .agg #[.int .i64 1, .int .i64 ix, .int .i64 old, .int .i64 v]] w fun e w' => e = .returned (.bool true) ∧ Played c w w' a m l.length s := by
  obtain ⟨c1, hc1, A1⟩ := ((Stp.refl (fun _ => False) c w).alloc (.cells #[.int .i64 1, .int .i64 ix, .int .i64 old, .int .i64 v] 66) 0).name
  have B1 := Lib.hid (h.stp A1.out id id)
  have X1 := Lib.hid (show Blk c1 0 _ w.heap.size [.int .i64 1, .int .i64 ix, .int .i64 old, .int .i64 v] 66 by rw [hc1.out]; exact Blk.new c 0 w _ _)
  have Hi := Lib.hid hi
  obtain ⟨ao, cap, hb, hr⟩ := B1.out.rf
  have k0 := hb.cell 0
  have k1 := hb.cell 1
  have x1 := X1.out.cell 1
  simp at k0 k1 x1
  clear h hc1 hb hr hi
  go_enter Try.func43, Try.ntmps43
  go_wp2_with fail
  go_region_with ((go_at_call 107; refine (r03right_out _ _ _ _ _ Hi.out _).mono ?_; rintro e w2 ⟨rfl, hB2⟩))
  all_goals
    obtain ⟨c2, hc2, A2⟩ := (((Stp.refl (fun _ => False) c1 _).drew).trans (Stp.ofBelow hB2 0)).name
    have B2 := Lib.hid (B1.out.stp A2.out id id)
    have X2 := Lib.hid (X1.out.stp A2.out id)
    have S2 := Lib.hid ((A1.out.trans A2.out).mono (J' := (2 ≤ ·)) (fun _ h => h.elim))
    clear hB2 hc2 A2 k0 k1 x1
    have y0 := X2.out.cell 0
    have y1 := X2.out.cell 1
    have y2 := X2.out.cell 2
    have y3 := X2.out.cell 3
    simp at y0 y1 y2 y3
    go_wp2_with fail
    refine (load_no B2.out.ar ix Hi.out).mono ?_
    rintro e w4 ⟨ev, rfl, c4, s4, e4⟩
    have T4 := Lib.hid (S2.out.trans (s4.mono (fun _ h => h.elim)))
    have B4 := Lib.hid (B2.out.stp s4 id id)
    have E4 := Lib.hid (e4.err (by decide))
    clear e4 s4
    go_wp2_with fail
    go_quiet ((go_at_call 49; exact lawis_quiet E4.out _))
    go_wp2
    go_ret
    exact ⟨rfl, _, l, s, T4.out.drewN _, B4.out.stp ((Stp.refl (fun _ => False) _ _).drewN _) id id, by omega, by omega⟩

set_option maxRecDepth 100000 in
set_option maxHeartbeats 2000000 in
theorem play_store_r {c : Nat → Nat} {w : World} {a m : Nat} {l : List Int} {s : Int} (h : Both c w a m l s) (j : Nat) (hj : j < l.length) (old v : Int) (hv : I64 v) (hs : s < 1000) (hl : (l.length : Int) ≤ 1000000) :
    Calls Try.prog 43 #[.pointer (some ⟨a, 0, none⟩), .pointer (some ⟨m, 0, none⟩), .agg #[.int .i64 2, .int .i64 j, .int .i64 old, .int .i64 v]] w fun e w' => e = .returned (.bool true) ∧ Played c w w' a m l.length s := by
  obtain ⟨c1, hc1, A1⟩ := ((Stp.refl (fun _ => False) c w).alloc (.cells #[.int .i64 2, .int .i64 j, .int .i64 old, .int .i64 v] 66) 0).name
  have B1 := Lib.hid (h.stp A1.out id id)
  have X1 := Lib.hid (show Blk c1 0 _ w.heap.size [.int .i64 2, .int .i64 j, .int .i64 old, .int .i64 v] 66 by rw [hc1.out]; exact Blk.new c 0 w _ _)
  have Hj := Lib.hid hj
  have Hs := Lib.hid hs
  have Hl := Lib.hid hl
  have HV := Lib.hid hv
  have W := IntWalk.wrap64_in (s + 1) ⟨by have := h.s0; omega, by omega⟩
  obtain ⟨ao, cap, hb, hr⟩ := B1.out.rf
  have k0 := hb.cell 0
  have k1 := hb.cell 1
  have x1 := X1.out.cell 1
  simp at k0 k1 x1
  clear h hc1 hv hb hr hs hl
  go_enter Try.func43, Try.ntmps43
  go_wp2_with fail
  go_region_with ((go_at_call 107; refine (r03right_in _ _ _ _ _ hj _).mono ?_; rintro e w2 ⟨rfl, hB2⟩))
  all_goals
    obtain ⟨c2, hc2, A2⟩ := (((Stp.refl (fun _ => False) c1 _).drew).trans (Stp.ofBelow hB2 0)).name
    have B2 := Lib.hid (B1.out.stp A2.out id id)
    have X2 := Lib.hid (X1.out.stp A2.out id)
    have S2 := Lib.hid ((A1.out.trans A2.out).mono (J' := (2 ≤ ·)) (fun _ h => h.elim))
    clear hB2 hc2 A2 k0 k1 x1
    obtain ⟨ao, cap, hb, hr⟩ := B2.out.rf
    have k1 := hb.cell 1
    have f1 := hb.free 1
    have x0 := X2.out.cell 0
    simp at k1 x0
    have S3 := Lib.hid ((Stp.refl (· = 3) c2 w2).setCell (p := ⟨m, 1, none⟩) (.int .i64 (s + 1)) hb.1)
    have A3 := Lib.hid (B2.out.ar.stp S3.out (by decide))
    have R3 := Lib.hid (B2.out.rf.step (s + 1))
    have X3 := Lib.hid (X2.out.stp S3.out (by decide))
    have S4 := Lib.hid (S2.out.trans (S3.out.up (by decide)))
    have Hok := Lib.hid B2.out.ok
    have Hs0 := Lib.hid B2.out.s0
    have y0 := X3.out.cell 0
    have y1 := X3.out.cell 1
    have y2 := X3.out.cell 2
    have y3 := X3.out.cell 3
    simp at y0 y1 y2 y3
    clear hb hr S2 S3
    go_wp2_with fail
    refine (store_ok A3.out j v Hj.out Hs0.out (by have := Hs.out; omega)).mono ?_
    rintro e w4 ⟨rfl, c4, s4, a4⟩
    have T4 := Lib.hid (S4.out.trans (s4.up (by decide)))
    have A4 := Lib.hid a4
    have R4 := Lib.hid (R3.out.stp s4 (by decide))
    have E4 := Lib.hid (Err.nil c4 w4)
    have X4 := Lib.hid (X3.out.stp s4 (by decide))
    clear a4 s4
    obtain ⟨aos, caps, hb, hr⟩ := R4.out
    have k0 := hb.cell 0
    have k1 := hb.cell 1
    have x1 := (X4.out).cell 1
    have x3 := (X4.out).cell 3
    have f0 := hb.free 0
    have f1 := hb.free 1
    simp at k0 k1 x1 x3
    have Hb := Lib.hid hb
    have Hr := Lib.hid hr
    clear hb hr
    go_wp2_with fail
    go_region_with ((go_at_call 108; refine (r03set_ok (c := c4) (s + 1) Hr.out.drew.toIn 3 j v Hj.out Hl.out).mono ?_; rintro e w5 ⟨ao5, cap5, rfl, c5, s5, r5⟩; have hb5 := Hb.out.drew.stp s5 id; have k2 := hb5.cell 0; have k3 := hb5.cell 1; have f2 := hb5.free 0; have f3 := hb5.free 1; simp at k2 k3))
    all_goals
      have hb6 := (hb5.set 0 (.slice ao5 l.length cap5)).set 1 (.int .i64 (s + 1))
      have S5 := Lib.hid ((((Stp.refl (fun _ => False) c4 w4).drew.trans s5).mono (J' := (· = 3)) (fun _ h => h.elim) |>.setCell (p := ⟨m, 0, none⟩) (.slice ao5 l.length cap5) hb5.1).setCell (p := ⟨m, 1, none⟩) (.int .i64 (s + 1)) hb5.1)
      have T5 := Lib.hid (T4.out.trans (S5.out.up (by decide)))
      have A5 := Lib.hid (A4.out.stp S5.out (by decide))
      have E5 := Lib.hid (E4.out.stp S5.out (by decide))
      have R5 := Lib.hid (show RefAt c5 3 ((w5.setCell ⟨m, 0, none⟩ (.slice ao5 l.length cap5)).setCell ⟨m, 1, none⟩ (.int .i64 (s + 1))) m (l.set j v) (s + 1) from ⟨ao5, cap5, by simpa using hb6, by
        have q := (r5.other (p := ⟨m, 0, none⟩) (.slice ao5 l.length cap5) (r5.ne_blk hb5 (by decide)) rfl).other (p := ⟨m, 1, none⟩) (.int .i64 (s + 1)) (r5.ne_blk hb5 (by decide)) rfl
        simpa using q⟩)
      have X5 := Lib.hid (X4.out.stp S5.out (by decide))
      clear hb5 hb6 s5 r5 k0 k1 x1 x3 f0 f1 k2 k3 f2 f3
      go_wp2_with (go_at_call 49; refine (lawis_true E5.out).mono ?_; rintro e w9 ⟨rfl, rfl⟩)
      go_ret
      exact ⟨rfl, _, l.set j v, s + 1, T5.out, ⟨A5.out, R5.out, fun x hx => (List.mem_or_eq_of_mem_set hx).elim (Hok.out x) (fun e => e ▸ HV.out), by have := Hs0.out; omega⟩, by simp, by omega⟩

set_option maxRecDepth 100000 in
set_option maxHeartbeats 2000000 in
theorem play_store_w {c : Nat → Nat} {w : World} {a m : Nat} {l : List Int} {s : Int} (h : Both c w a m l s) (ix : Int) (hi : ix < 0 ∨ (l.length : Int) ≤ ix) (old v : Int) :
    Calls Try.prog 43 #[.pointer (some ⟨a, 0, none⟩), .pointer (some ⟨m, 0, none⟩), .agg #[.int .i64 2, .int .i64 ix, .int .i64 old, .int .i64 v]] w fun e w' => e = .returned (.bool true) ∧ Played c w w' a m l.length s := by
  obtain ⟨c1, hc1, A1⟩ := ((Stp.refl (fun _ => False) c w).alloc (.cells #[.int .i64 2, .int .i64 ix, .int .i64 old, .int .i64 v] 66) 0).name
  have B1 := Lib.hid (h.stp A1.out id id)
  have X1 := Lib.hid (show Blk c1 0 _ w.heap.size [.int .i64 2, .int .i64 ix, .int .i64 old, .int .i64 v] 66 by rw [hc1.out]; exact Blk.new c 0 w _ _)
  have Hi := Lib.hid hi
  obtain ⟨ao, cap, hb, hr⟩ := B1.out.rf
  have k0 := hb.cell 0
  have k1 := hb.cell 1
  have x1 := X1.out.cell 1
  simp at k0 k1 x1
  clear h hc1 hb hr hi
  go_enter Try.func43, Try.ntmps43
  go_wp2_with fail
  go_region_with ((go_at_call 107; refine (r03right_out _ _ _ _ _ Hi.out _).mono ?_; rintro e w2 ⟨rfl, hB2⟩))
  all_goals
    obtain ⟨c2, hc2, A2⟩ := (((Stp.refl (fun _ => False) c1 _).drew).trans (Stp.ofBelow hB2 0)).name
    have B2 := Lib.hid (B1.out.stp A2.out id id)
    have X2 := Lib.hid (X1.out.stp A2.out id)
    have S2 := Lib.hid ((A1.out.trans A2.out).mono (J' := (2 ≤ ·)) (fun _ h => h.elim))
    clear hB2 hc2 A2 k0 k1 x1
    have y0 := X2.out.cell 0
    have y1 := X2.out.cell 1
    have y2 := X2.out.cell 2
    have y3 := X2.out.cell 3
    simp at y0 y1 y2 y3
    go_wp2_with fail
    refine (store_no B2.out.ar ix v Hi.out).mono ?_
    rintro e w4 ⟨ev, rfl, c4, s4, e4⟩
    have T4 := Lib.hid (S2.out.trans (s4.mono (fun _ h => h.elim)))
    have B4 := Lib.hid (B2.out.stp s4 id id)
    have E4 := Lib.hid (e4.err (by decide))
    clear e4 s4
    go_wp2_with (go_at_call 49; refine (lawis_true E4.out).mono ?_; rintro e w9 ⟨rfl, rfl⟩)
    go_ret
    exact ⟨rfl, _, l, s, T4.out, B4.out, by omega, by omega⟩

set_option maxRecDepth 100000 in
set_option maxHeartbeats 2000000 in
theorem play_swap_y {c : Nat → Nat} {w : World} {a m : Nat} {l : List Int} {s : Int} (h : Both c w a m l s) (j : Nat) (hj : j < l.length) (old v : Int) (hv : I64 v) (hs : s < 1000) (ho : l.getD j 0 = old) (hl : (l.length : Int) ≤ 1000000) :
    Calls Try.prog 43 #[.pointer (some ⟨a, 0, none⟩), .pointer (some ⟨m, 0, none⟩), .agg #[.int .i64 3, .int .i64 j, .int .i64 old, .int .i64 v]] w fun e w' => e = .returned (.bool true) ∧ Played c w w' a m l.length s := by
  have Ho := Lib.hid ho
  clear ho
  obtain ⟨c1, hc1, A1⟩ := ((Stp.refl (fun _ => False) c w).alloc (.cells #[.int .i64 3, .int .i64 j, .int .i64 old, .int .i64 v] 66) 0).name
  have B1 := Lib.hid (h.stp A1.out id id)
  have X1 := Lib.hid (show Blk c1 0 _ w.heap.size [.int .i64 3, .int .i64 j, .int .i64 old, .int .i64 v] 66 by rw [hc1.out]; exact Blk.new c 0 w _ _)
  have Hj := Lib.hid hj
  have Hs := Lib.hid hs
  have Hl := Lib.hid hl
  have HV := Lib.hid hv
  have W := IntWalk.wrap64_in (s + 1) ⟨by have := h.s0; omega, by omega⟩
  obtain ⟨ao, cap, hb, hr⟩ := B1.out.rf
  have k0 := hb.cell 0
  have k1 := hb.cell 1
  have x1 := X1.out.cell 1
  simp at k0 k1 x1
  clear h hc1 hv hb hr hs hl
  go_enter Try.func43, Try.ntmps43
  go_wp2_with fail
  go_region_with ((go_at_call 107; refine (r03right_in _ _ _ _ _ hj _).mono ?_; rintro e w2 ⟨rfl, hB2⟩))
  all_goals
    obtain ⟨c2, hc2, A2⟩ := (((Stp.refl (fun _ => False) c1 _).drew).trans (Stp.ofBelow hB2 0)).name
    have B2 := Lib.hid (B1.out.stp A2.out id id)
    have X2 := Lib.hid (X1.out.stp A2.out id)
    have S2 := Lib.hid ((A1.out.trans A2.out).mono (J' := (2 ≤ ·)) (fun _ h => h.elim))
    clear hB2 hc2 A2 k0 k1 x1
    obtain ⟨ao, cap, hb, hr⟩ := B2.out.rf
    have k1 := hb.cell 1
    have f1 := hb.free 1
    have x0 := X2.out.cell 0
    simp at k1 x0
    have S3 := Lib.hid ((Stp.refl (· = 3) c2 w2).setCell (p := ⟨m, 1, none⟩) (.int .i64 (s + 1)) hb.1)
    have A3 := Lib.hid (B2.out.ar.stp S3.out (by decide))
    have R3 := Lib.hid (B2.out.rf.step (s + 1))
    have X3 := Lib.hid (X2.out.stp S3.out (by decide))
    have S4 := Lib.hid (S2.out.trans (S3.out.up (by decide)))
    have Hok := Lib.hid B2.out.ok
    have Hs0 := Lib.hid B2.out.s0
    have y0 := X3.out.cell 0
    have y1 := X3.out.cell 1
    have y2 := X3.out.cell 2
    have y3 := X3.out.cell 3
    simp at y0 y1 y2 y3
    clear hb hr S2 S3
    go_wp2_with fail
    refine (swap_yes A3.out j old v Hj.out Ho.out Hs0.out (by have := Hs.out; omega)).mono ?_
    rintro e w4 ⟨rfl, c4, s4, a4⟩
    have T4 := Lib.hid (S4.out.trans (s4.up (by decide)))
    have A4 := Lib.hid a4
    have R4 := Lib.hid (R3.out.stp s4 (by decide))
    have E4 := Lib.hid (Err.nil c4 w4)
    have X4 := Lib.hid (X3.out.stp s4 (by decide))
    clear a4 s4
    have x1 := X4.out.cell 1
    have x2 := X4.out.cell 2
    simp at x1 x2
    obtain ⟨g, off, cap', hb, hr, hc, hf, hne⟩ := R4.out.open_cell Hj.out
    have k0 := hb.cell 0
    simp at k0
    clear hb hr hf hne
    rw [Ho.out] at hc
    go_wp2_with fail
    go_quiet (fail)
    clear hc k0 x1 x2
    have R4' := R4
    have A4' := A4
    have T4' := T4
    have X4' := X4
    have E4' := E4
    clear R4 A4 T4 X4 E4
    obtain ⟨wq, hwq⟩ : ∃ wq : World, wq = w4.drewN nq := ⟨_, rfl⟩
    have R4 := Lib.hid (show RefAt c4 3 wq m l (s + 1) by rw [hwq]; exact R4'.out)
    have A4 := Lib.hid (show ArenaAt c4 2 wq a (l.set j v) (s + 1) by rw [hwq]; exact A4'.out)
    have T4 := Lib.hid (show Stp (2 ≤ ·) c c4 w wq by rw [hwq]; exact T4'.out.drewN _)
    have X4 := Lib.hid (show Blk c4 0 wq w.heap.size _ 66 by rw [hwq]; exact X4'.out)
    have E4 := Lib.hid (show Err c4 wq .nilIface 0 by rw [hwq]; exact Err.nil _ _)
    clear R4' A4' T4' X4' E4'
    rw [← hwq]
    clear hwq
    obtain ⟨aos, caps, hb, hr⟩ := R4.out
    have k0 := hb.cell 0
    have k1 := hb.cell 1
    have x1 := (X4.out).cell 1
    have x3 := (X4.out).cell 3
    have f0 := hb.free 0
    have f1 := hb.free 1
    simp at k0 k1 x1 x3
    have Hb := Lib.hid hb
    have Hr := Lib.hid hr
    clear hb hr
    go_wp2_with fail
    go_region_with ((go_at_call 108; refine (r03set_ok (c := c4) (s + 1) Hr.out.drew.toIn 3 j v Hj.out Hl.out).mono ?_; rintro e w5 ⟨ao5, cap5, rfl, c5, s5, r5⟩; have hb5 := Hb.out.drew.stp s5 id; have k2 := hb5.cell 0; have k3 := hb5.cell 1; have f2 := hb5.free 0; have f3 := hb5.free 1; simp at k2 k3))
    all_goals
      have hb6 := (hb5.set 0 (.slice ao5 l.length cap5)).set 1 (.int .i64 (s + 1))
      have S5 := Lib.hid ((((Stp.refl (fun _ => False) c4 wq).drew.trans s5).mono (J' := (· = 3)) (fun _ h => h.elim) |>.setCell (p := ⟨m, 0, none⟩) (.slice ao5 l.length cap5) hb5.1).setCell (p := ⟨m, 1, none⟩) (.int .i64 (s + 1)) hb5.1)
      have T5 := Lib.hid (T4.out.trans (S5.out.up (by decide)))
      have A5 := Lib.hid (A4.out.stp S5.out (by decide))
      have E5 := Lib.hid (E4.out.stp S5.out (by decide))
      have R5 := Lib.hid (show RefAt c5 3 ((w5.setCell ⟨m, 0, none⟩ (.slice ao5 l.length cap5)).setCell ⟨m, 1, none⟩ (.int .i64 (s + 1))) m (l.set j v) (s + 1) from ⟨ao5, cap5, by simpa using hb6, by
        have q := (r5.other (p := ⟨m, 0, none⟩) (.slice ao5 l.length cap5) (r5.ne_blk hb5 (by decide)) rfl).other (p := ⟨m, 1, none⟩) (.int .i64 (s + 1)) (r5.ne_blk hb5 (by decide)) rfl
        simpa using q⟩)
      have X5 := Lib.hid (X4.out.stp S5.out (by decide))
      clear hb5 hb6 s5 r5 k0 k1 x1 x3 f0 f1 k2 k3 f2 f3
      go_wp2_with (go_at_call 49; refine (lawis_true E5.out).mono ?_; rintro e w9 ⟨rfl, rfl⟩)
      go_ret
      exact ⟨rfl, _, l.set j v, s + 1, T5.out, ⟨A5.out, R5.out, fun x hx => (List.mem_or_eq_of_mem_set hx).elim (Hok.out x) (fun e => e ▸ HV.out), by have := Hs0.out; omega⟩, by simp, by omega⟩

set_option maxRecDepth 100000 in
set_option maxHeartbeats 2000000 in
theorem play_swap_n {c : Nat → Nat} {w : World} {a m : Nat} {l : List Int} {s : Int} (h : Both c w a m l s) (j : Nat) (hj : j < l.length) (old v : Int) (hv : I64 v) (hs : s < 1000) (ho : l.getD j 0 ≠ old) (hl : (l.length : Int) ≤ 1000000) :
    Calls Try.prog 43 #[.pointer (some ⟨a, 0, none⟩), .pointer (some ⟨m, 0, none⟩), .agg #[.int .i64 3, .int .i64 j, .int .i64 old, .int .i64 v]] w fun e w' => e = .returned (.bool true) ∧ Played c w w' a m l.length s := by
  have Ho := Lib.hid ho
  clear ho
  obtain ⟨c1, hc1, A1⟩ := ((Stp.refl (fun _ => False) c w).alloc (.cells #[.int .i64 3, .int .i64 j, .int .i64 old, .int .i64 v] 66) 0).name
  have B1 := Lib.hid (h.stp A1.out id id)
  have X1 := Lib.hid (show Blk c1 0 _ w.heap.size [.int .i64 3, .int .i64 j, .int .i64 old, .int .i64 v] 66 by rw [hc1.out]; exact Blk.new c 0 w _ _)
  have Hj := Lib.hid hj
  have Hs := Lib.hid hs
  have Hl := Lib.hid hl
  have HV := Lib.hid hv
  have W := IntWalk.wrap64_in (s + 1) ⟨by have := h.s0; omega, by omega⟩
  obtain ⟨ao, cap, hb, hr⟩ := B1.out.rf
  have k0 := hb.cell 0
  have k1 := hb.cell 1
  have x1 := X1.out.cell 1
  simp at k0 k1 x1
  clear h hc1 hv hb hr hs hl
  go_enter Try.func43, Try.ntmps43
  go_wp2_with fail
  go_region_with ((go_at_call 107; refine (r03right_in _ _ _ _ _ hj _).mono ?_; rintro e w2 ⟨rfl, hB2⟩))
  all_goals
    obtain ⟨c2, hc2, A2⟩ := (((Stp.refl (fun _ => False) c1 _).drew).trans (Stp.ofBelow hB2 0)).name
    have B2 := Lib.hid (B1.out.stp A2.out id id)
    have X2 := Lib.hid (X1.out.stp A2.out id)
    have S2 := Lib.hid ((A1.out.trans A2.out).mono (J' := (2 ≤ ·)) (fun _ h => h.elim))
    clear hB2 hc2 A2 k0 k1 x1
    obtain ⟨ao, cap, hb, hr⟩ := B2.out.rf
    have k1 := hb.cell 1
    have f1 := hb.free 1
    have x0 := X2.out.cell 0
    simp at k1 x0
    have S3 := Lib.hid ((Stp.refl (· = 3) c2 w2).setCell (p := ⟨m, 1, none⟩) (.int .i64 (s + 1)) hb.1)
    have A3 := Lib.hid (B2.out.ar.stp S3.out (by decide))
    have R3 := Lib.hid (B2.out.rf.step (s + 1))
    have X3 := Lib.hid (X2.out.stp S3.out (by decide))
    have S4 := Lib.hid (S2.out.trans (S3.out.up (by decide)))
    have Hok := Lib.hid B2.out.ok
    have Hs0 := Lib.hid B2.out.s0
    have y0 := X3.out.cell 0
    have y1 := X3.out.cell 1
    have y2 := X3.out.cell 2
    have y3 := X3.out.cell 3
    simp at y0 y1 y2 y3
    clear hb hr S2 S3
    go_wp2_with fail
    refine (swap_no A3.out j old v Hj.out Ho.out Hs0.out (by have := Hs.out; omega)).mono ?_
    rintro e w4 ⟨rfl, c4, s4, a4⟩
    have T4 := Lib.hid (S4.out.trans (s4.up (by decide)))
    have A4 := Lib.hid a4
    have R4 := Lib.hid (R3.out.stp s4 (by decide))
    have E4 := Lib.hid (Err.nil c4 w4)
    have X4 := Lib.hid (X3.out.stp s4 (by decide))
    clear a4 s4
    have x1 := X4.out.cell 1
    have x2 := X4.out.cell 2
    simp at x1 x2
    obtain ⟨g, off, cap', hb, hr, hc, hf, hne⟩ := R4.out.open_cell Hj.out
    have k0 := hb.cell 0
    simp at k0
    clear hb hr hf hne
    have t1 : (l.getD j 0 == old) = false := by have := Ho.out; simpa using this
    generalize l.getD j 0 = xv at hc t1 ⊢
    go_wp2_with fail
    go_quiet (fail)
    have E4' := Lib.hid (Err.nil c4 (w4.drewN nq))
    go_wp2_with (go_at_call 49; refine (lawis_true E4'.out).mono ?_; rintro e w9 ⟨rfl, rfl⟩)
    go_ret
    exact ⟨rfl, _, l, s + 1, T4.out.drewN _, (Both.mk A4.out R4.out Hok.out (by have := Hs0.out; omega)).stp ((Stp.refl (fun _ => False) _ _).drewN _) id id, by omega, by omega⟩

set_option maxRecDepth 100000 in
set_option maxHeartbeats 2000000 in
theorem play_swap_w {c : Nat → Nat} {w : World} {a m : Nat} {l : List Int} {s : Int} (h : Both c w a m l s) (ix : Int) (hi : ix < 0 ∨ (l.length : Int) ≤ ix) (old v : Int) :
    Calls Try.prog 43 #[.pointer (some ⟨a, 0, none⟩), .pointer (some ⟨m, 0, none⟩), .agg #[.int .i64 3, .int .i64 ix, .int .i64 old, .int .i64 v]] w fun e w' => e = .returned (.bool true) ∧ Played c w w' a m l.length s := by
  obtain ⟨c1, hc1, A1⟩ := ((Stp.refl (fun _ => False) c w).alloc (.cells #[.int .i64 3, .int .i64 ix, .int .i64 old, .int .i64 v] 66) 0).name
  have B1 := Lib.hid (h.stp A1.out id id)
  have X1 := Lib.hid (show Blk c1 0 _ w.heap.size [.int .i64 3, .int .i64 ix, .int .i64 old, .int .i64 v] 66 by rw [hc1.out]; exact Blk.new c 0 w _ _)
  have Hi := Lib.hid hi
  obtain ⟨ao, cap, hb, hr⟩ := B1.out.rf
  have k0 := hb.cell 0
  have k1 := hb.cell 1
  have x1 := X1.out.cell 1
  simp at k0 k1 x1
  clear h hc1 hb hr hi
  go_enter Try.func43, Try.ntmps43
  go_wp2_with fail
  go_region_with ((go_at_call 107; refine (r03right_out _ _ _ _ _ Hi.out _).mono ?_; rintro e w2 ⟨rfl, hB2⟩))
  all_goals
    obtain ⟨c2, hc2, A2⟩ := (((Stp.refl (fun _ => False) c1 _).drew).trans (Stp.ofBelow hB2 0)).name
    have B2 := Lib.hid (B1.out.stp A2.out id id)
    have X2 := Lib.hid (X1.out.stp A2.out id)
    have S2 := Lib.hid ((A1.out.trans A2.out).mono (J' := (2 ≤ ·)) (fun _ h => h.elim))
    clear hB2 hc2 A2 k0 k1 x1
    have y0 := X2.out.cell 0
    have y1 := X2.out.cell 1
    have y2 := X2.out.cell 2
    have y3 := X2.out.cell 3
    simp at y0 y1 y2 y3
    go_wp2_with fail
    refine (swap_bad B2.out.ar ix old v Hi.out).mono ?_
    rintro e w4 ⟨ev, rfl, c4, s4, e4⟩
    have T4 := Lib.hid (S2.out.trans (s4.mono (fun _ h => h.elim)))
    have B4 := Lib.hid (B2.out.stp s4 id id)
    have E4 := Lib.hid (e4.err (by decide))
    clear e4 s4
    go_wp2_with fail
    go_quiet (fail)
    have E4' := Lib.hid (E4.out.stp ((Stp.refl (fun _ => False) c4 w4).drewN nq) id)
    go_wp2_with (go_at_call 49; refine (lawis_true E4'.out).mono ?_; rintro e w9 ⟨rfl, rfl⟩)
    go_ret
    exact ⟨rfl, _, l, s, T4.out.drewN _, B4.out.stp ((Stp.refl (fun _ => False) _ _).drewN _) id id, by omega, by omega⟩

end Go.Proofs.Ytmhhhiegioniaaa
