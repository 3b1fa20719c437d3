/- Contracts that the closing theorem wants (DwX). No condition beyond each law's own. -/
import Derived.Test.YtiphdedfbafhkaaGreatDoorZDocA
import Derived.Deep.LoopGhost
import Derived.Deep.DeepCutAuto
import Derived.Deep.RegionHeld3
namespace Go.Proofs.YtiphdedfbafhkaaGreatDoor
open Go.RowKit

/-- The document's world: its struct of colour 7, its timers of colour k, its table, its rings' row of colour 12 (what stands in it is held apart). -/
structure DW (c : Nat → Nat) (k : Nat) (w : World) (p tp : Nat) (now : Int) (dl : List Tm) (lo : Option Addr) (lcap : Nat) (l : List One) (rs : Value) : Prop where
  hb : Blk c 7 w p [.int .i64 now, .slice lo dl.length lcap, .pointer (some ⟨tp, 0, none⟩), .slice none 0 0, rs] 158
  tm : In c k w 2 lo dl.length lcap (dl.flatMap Tm.cells)
  tb : RTabAt c w tp l
section
variable {c c' : Nat → Nat} {k : Nat} {w w' : World} {p tp : Nat} {now : Int} {dl : List Tm} {lo : Option Addr} {lcap : Nat} {l l' : List One} {rs : Value}
theorem DW.stp {J : Nat → Prop} (h : DW c k w p tp now dl lo lcap l rs) (t : Stp J c c' w w') (h3 : ¬ J 3) (h4 : ¬ J 4) (h5 : ¬ J 5) (h6 : ¬ J 6) (h7 : ¬ J 7) (hk : ¬ J k) : DW c' k w' p tp now dl lo lcap l rs :=
  ⟨h.hb.stp t h7, h.tm.stp t hk, h.tb.stp t h3 h4 h5 h6⟩
theorem DW.cells (h : DW c k w p tp now dl lo lcap l rs) : w.cell? ⟨p, 0, none⟩ = some (.int .i64 now) ∧ w.cell? ⟨p, 1, none⟩ = some (.slice lo dl.length lcap) ∧ w.cell? ⟨p, 2, none⟩ = some (.pointer (some ⟨tp, 0, none⟩)) ∧ w.cell? ⟨p, 3, none⟩ = some (.slice none 0 0) ∧ w.cell? ⟨p, 4, none⟩ = some rs ∧ p < w.heap.size :=
  ⟨by simpa using h.hb.cell 0, by simpa using h.hb.cell 1, by simpa using h.hb.cell 2, by simpa using h.hb.cell 3, by simpa using h.hb.cell 4, h.hb.lt⟩

theorem r14wrong_any (h : DW c k w p tp now dl lo lcap l rs) (who : Int) :
    Calls Tryz.prog 126 #[.pointer (some ⟨p, 0, none⟩), .int .i64 who] w fun e w' => e = .returned (.int .i64 (wrongAt l who)) ∧ w = w' := by
  have H := Lib.hid h
  obtain ⟨p0, p1, p2, p3, p4, lp⟩ := h.cells
  clear h
  go_enter Tryz.func126, Tryz.ntmps126
  go_wp2_with fail
  refine (r05wrong_any H.out.tb who).mono ?_
  rintro e w1 ⟨rfl, rfl⟩
  go_wp2
  go_ret
  exact ⟨rfl, rfl⟩

/-- Wake's table in plain Lean, as the code's side has it. -/
def rwakeT (l : List One) (id : Int) : List One × Bool × Int :=
  if wrongAt l id ≠ 0 then (l, false, wrongAt l id)
  else if (l.getD id.toNat ⟨0, false, 0⟩).state = 1 then (l.set id.toNat { l.getD id.toNat ⟨0, false, 0⟩ with state := 0, wakes := (l.getD id.toNat ⟨0, false, 0⟩).wakes + 1 }, true, 0)
  else (l.set id.toNat { l.getD id.toNat ⟨0, false, 0⟩ with token := true, wakes := (l.getD id.toNat ⟨0, false, 0⟩).wakes + 1 }, false, 0)
theorem rright_of {l : List One} {id : Int} (h : wrongAt l id = 0) : ∃ (j : Nat) (x : One), id = (j : Int) ∧ l[j]? = some x ∧ x.state ≠ 2 ∧ l.getD id.toNat ⟨0, false, 0⟩ = x ∧ id.toNat = j := by
  by_cases h1 : id < 0 ∨ (l.length : Int) ≤ id
  · unfold wrongAt at h
    rw [if_pos h1] at h
    cases h
  · obtain ⟨j, rfl⟩ := Int.eq_ofNat_of_zero_le (show 0 ≤ id by omega)
    have hj : j < l.length := by omega
    rw [wrong_eq (List.getElem?_eq_getElem hj)] at h
    refine ⟨j, l[j], rfl, List.getElem?_eq_getElem hj, ?_, ?_, by omega⟩
    · intro hx
      rw [if_pos hx] at h
      cases h
    · simp [List.getD, hj]
theorem r05wake_any (h : RTabAt c w p l) (who : Int) (hw : ∀ x ∈ l, 0 ≤ x.wakes ∧ x.wakes ≤ 4611686018427387903) :
    Calls Tryz.prog 130 #[.pointer (some ⟨p, 0, none⟩), .int .i64 who] w fun e w' => e = .returned (.tuple #[.bool (rwakeT l who).2.1, .int .i64 (rwakeT l who).2.2]) ∧ ∃ c', Stp (fun j => 3 ≤ j ∧ j ≤ 6) c c' w w' ∧ RTabAt c' w' p (rwakeT l who).1 := by
  by_cases he : wrongAt l who = 0
  · obtain ⟨j, x, rfl, hj, hx, hg, hn⟩ := rright_of he
    have hb := hw x (List.mem_of_getElem? hj)
    by_cases h1 : x.state = 1
    · have e : rwakeT l (j : Int) = (l.set j { x with state := 0, wakes := x.wakes + 1 }, true, 0) := by
        unfold rwakeT
        rw [if_neg (by simp [he]), hg, if_pos h1, hn]
      rw [e]
      refine (r05wake_parked h j hj h1 hb.1 (by omega)).mono ?_
      rintro e w1 ⟨rfl, c1, t1, r1⟩
      exact ⟨rfl, c1, t1, r1⟩
    · have e : rwakeT l (j : Int) = (l.set j { x with token := true, wakes := x.wakes + 1 }, false, 0) := by
        unfold rwakeT
        rw [if_neg (by simp [he]), hg, if_neg h1, hn]
      rw [e]
      refine (r05wake_ready h j hj hx h1 hb.1 (by omega)).mono ?_
      rintro e w1 ⟨rfl, c1, t1, r1⟩
      exact ⟨rfl, c1, t1, r1⟩
  · have e : rwakeT l who = (l, false, wrongAt l who) := by
      unfold rwakeT
      rw [if_pos he]
    rw [e]
    refine (r05wake_bad h who he).mono ?_
    rintro e w1 ⟨rfl, rfl⟩
    exact ⟨rfl, c, Stp.refl _ _ _, h⟩

theorem two_cells {b : Nat} {v0 v1 v2 v3 v4 : Value} {t : TypeId} (h : Blk c 7 w b [v0, v1, v2, v3, v4] t) (x y : Value) : Blk c 7 ((w.setCell ⟨b, 0, none⟩ x).setCell ⟨b, 1, none⟩ y) b [x, y, v2, v3, v4] t := (h.set 0 x).set 1 y

/-- The world, its timers of one colour or the other. -/
def DWs (c : Nat → Nat) (w : World) (p tp : Nat) (now : Int) (dl : List Tm) (l : List One) (rs : Value) : Prop := ∃ k lo lcap, (k = 8 ∨ k = 10) ∧ DW c k w p tp now dl lo lcap l rs
/-- What the world's own steps turn. -/
def JD (j : Nat) : Prop := 3 ≤ j ∧ j ≤ 11
theorem DWs.stp {J : Nat → Prop} (h : DWs c w p tp now dl l rs) (t : Stp J c c' w w') (hJ : ∀ j, J j → ¬ JD j) : DWs c' w' p tp now dl l rs := by
  obtain ⟨k, lo, lcap, hk, h⟩ := h
  have g : ∀ j, JD j → ¬ J j := fun j h1 h2 => hJ j h2 h1
  exact ⟨k, lo, lcap, hk, h.stp t (g _ (by unfold JD; omega)) (g _ (by unfold JD; omega)) (g _ (by unfold JD; omega)) (g _ (by unfold JD; omega)) (g _ (by unfold JD; omega)) (g _ (by unfold JD; omega))⟩
theorem DWs.wrong (h : DWs c w p tp now dl l rs) (who : Int) :
    Calls Tryz.prog 126 #[.pointer (some ⟨p, 0, none⟩), .int .i64 who] w fun e w' => e = .returned (.int .i64 (wrongAt l who)) ∧ w = w' := by
  obtain ⟨k, lo, lcap, hk, h⟩ := h
  exact r14wrong_any h who
set_option maxRecDepth 100000 in
theorem r14wake_any (h : DW c k w p tp now dl lo lcap l rs) (who : Int) (k2 : Nat) (hk : 8 ≤ k ∧ k ≤ 10 ∧ 8 ≤ k2 ∧ k2 ≤ 10 ∧ k ≠ k2) (hn : dl.length ≤ 1000) (hw : ∀ x ∈ l, 0 ≤ x.wakes ∧ x.wakes ≤ 4611686018427387903) :
    Calls Tryz.prog 94 #[.pointer (some ⟨p, 0, none⟩), .int .i64 who] w fun e w' => e = .returned (.tuple #[.bool (rwakeT l who).2.1, .int .i64 (rwakeT l who).2.2]) ∧ ∃ lo' lcap' c', Stp JD c c' w w' ∧ DW c' k2 w' p tp now (dl.filter (stays who)) lo' lcap' (rwakeT l who).1 rs := by
  have H := Lib.hid h
  have HK := Lib.hid hk
  have HN := Lib.hid hn
  have HW := Lib.hid hw
  obtain ⟨p0, p1, p2, p3, p4, lp⟩ := h.cells
  clear h hk hn hw
  go_enter Tryz.func94, Tryz.ntmps94
  go_wp2_with fail
  refine (r04drop_any H.out.tm rfl k2 HK.out.2.2.2.2 HN.out now who).mono ?_
  rintro e w1 ⟨lo', N, lcap', rfl, hN, c1, t1, r1⟩
  subst hN
  have B1 := Lib.hid (H.out.hb.stp t1 (by have := HK.out; omega))
  have TB1 := Lib.hid (H.out.tb.stp t1 (by have := HK.out; omega) (by have := HK.out; omega) (by have := HK.out; omega) (by have := HK.out; omega))
  have R1 := Lib.hid r1
  have S1 := Lib.hid (t1.mono (J' := JD) (fun j h => by have := HK.out; unfold JD; omega))
  clear t1 r1 p0 p1 p2 p3 p4 lp
  have b0 := B1.out.cell 0
  have b1 := B1.out.cell 1
  have b2 := B1.out.cell 2
  have f0 := B1.out.free 0
  have f1 := B1.out.free 1
  have lb := B1.out.lt
  simp at b0 b1 b2
  have T2 := Lib.hid (((Stp.refl (· = 7) c1 w1).setCell (p := ⟨p, 0, none⟩) (.int .i64 now) B1.out.1).setCell (p := ⟨p, 1, none⟩) (.slice lo' (dl.filter (stays who)).length lcap') B1.out.1)
  have B2 := Lib.hid (two_cells B1.out (.int .i64 now) (.slice lo' (dl.filter (stays who)).length lcap'))
  have TB2 := Lib.hid (TB1.out.stp T2.out (by decide) (by decide) (by decide) (by decide))
  have R2 := Lib.hid (R1.out.stp T2.out (by have := HK.out; omega))
  have S2 := Lib.hid (S1.out.trans (T2.out.mono (fun j h => by unfold JD; omega)))
  clear TB1 R1 S1 T2
  go_wp2_with fail
  refine (r05wake_any TB2.out who HW.out).mono ?_
  rintro e w3 ⟨rfl, c3, t3, tb3⟩
  have S3 := Lib.hid (S2.out.trans (t3.mono (fun j h => by unfold JD; omega)))
  have B3 := Lib.hid (B2.out.stp t3 (by omega))
  have R3 := Lib.hid (R2.out.stp t3 (by have := HK.out; omega))
  have TB3 := Lib.hid tb3
  clear t3 tb3 B1 B2 R2 TB2 S2
  go_wp2
  go_ret2
  exact ⟨rfl, lo', lcap', c3, S3.out, B3.out, R3.out.toIn, TB3.out⟩
theorem DWs.wake (h : DWs c w p tp now dl l rs) (who : Int) (hn : dl.length ≤ 1000) (hw : ∀ x ∈ l, 0 ≤ x.wakes ∧ x.wakes ≤ 4611686018427387903) :
    Calls Tryz.prog 94 #[.pointer (some ⟨p, 0, none⟩), .int .i64 who] w fun e w' => e = .returned (.tuple #[.bool (rwakeT l who).2.1, .int .i64 (rwakeT l who).2.2]) ∧ ∃ c', Stp JD c c' w w' ∧ DWs c' w' p tp now (dl.filter (stays who)) (rwakeT l who).1 rs := by
  obtain ⟨k, lo, lcap, hk, h⟩ := h
  rcases hk with rfl | rfl
  · refine (r14wake_any h who 10 (by decide) hn hw).mono ?_
    rintro e w1 ⟨rfl, lo', lcap', c1, t1, h1⟩
    exact ⟨rfl, c1, t1, 10, lo', lcap', .inr rfl, h1⟩
  · refine (r14wake_any h who 8 (by decide) hn hw).mono ?_
    rintro e w1 ⟨rfl, lo', lcap', c1, t1, h1⟩
    exact ⟨rfl, c1, t1, 8, lo', lcap', .inl rfl, h1⟩
end
end Go.Proofs.YtiphdedfbafhkaaGreatDoor

namespace Go.Proofs.YtiphdedfbafhkaaGreatDoor
open Go.RowKit

/-- A ring of the document's: its numbers, where its own slices lie, what they have. -/
structure DR where
  n : Int
  many : Bool
  cl : Int
  pub : Int
  seen : Int
  so : Option Addr
  scap : Nat
  shown : List Int
  ea : Option Addr
  en : Nat
  ecap : Nat
  wo : Option Addr
  wcap : Nat
  wl : List Int
def DR.cells (d : DR) : List Value := [.int .i64 d.n, .bool d.many, .int .i64 d.cl, .int .i64 d.pub, .int .i64 d.seen, .slice d.so d.shown.length d.scap, (.slice d.ea d.en d.ecap), .slice none 0 0, .slice d.wo d.wl.length d.wcap]
theorem DR.len (d : DR) : d.cells.length = 9 := rfl
/-- The colours of a ring's own slices begin here. -/
def dk (i : Nat) : Nat := 200 + 2 * i
/-- The rings. -/
structure DRs (c : Nat → Nat) (w : World) (ro : Option Addr) (rcap : Nat) (R : List DR) : Prop where
  rr : Row c 12 w 178 9 ro R.length rcap (R.flatMap DR.cells)
  sh : ∀ (i : Nat) (d : DR), R[i]? = some d → Row c (dk i) w 2 1 d.so d.shown.length d.scap (d.shown.map (Value.int .i64)) ∧ Row c (dk i + 1) w 3 1 d.wo d.wl.length d.wcap (d.wl.map (Value.int .i64))
/-- The world with its rings. -/
structure DWR (c : Nat → Nat) (w : World) (p tp : Nat) (now : Int) (dl : List Tm) (l : List One) (ro : Option Addr) (rcap : Nat) (R : List DR) : Prop where
  wd : DWs c w p tp now dl l (.slice ro R.length rcap)
  rs : DRs c w ro rcap R
section
variable {c c' : Nat → Nat} {w w' : World} {p tp : Nat} {now : Int} {dl dl' : List Tm} {l l' : List One} {ro : Option Addr} {rcap : Nat} {R : List DR} {i : Nat} {d : DR} {a : Addr}
theorem DRs.stp {J : Nat → Prop} (h : DRs c w ro rcap R) (t : Stp J c c' w w') (h12 : ¬ J 12) (hJ : ∀ i, ¬ J (dk i) ∧ ¬ J (dk i + 1)) : DRs c' w' ro rcap R :=
  ⟨h.rr.stp t h12, fun i d hd => ⟨(h.sh i d hd).1.stp t (hJ i).1, (h.sh i d hd).2.stp t (hJ i).2⟩⟩
theorem DWR.stpF (h : DWR c w p tp now dl l ro rcap R) (t : Stp (fun _ => False) c c' w w') : DWR c' w' p tp now dl l ro rcap R :=
  ⟨h.wd.stp t (fun _ h => h.elim), h.rs.stp t id (fun _ => ⟨id, id⟩)⟩
/-- The clock and the table change. -/
theorem DWR.go {now' : Int} (h : DWR c w p tp now dl l ro rcap R) (t : Stp JD c c' w w') (g : DWs c' w' p tp now' dl' l' (.slice ro R.length rcap)) : DWR c' w' p tp now' dl' l' ro rcap R :=
  ⟨g, h.rs.stp t (by unfold JD; omega) (fun i => by unfold JD dk; omega)⟩
theorem DWR.r4 (h : DWR c w p tp now dl l ro rcap R) : w.cell? ⟨p, 4, none⟩ = some (.slice ro R.length rcap) ∧ p < w.heap.size := by
  obtain ⟨k, lo, lcap, -, h⟩ := h.wd
  exact ⟨h.cells.2.2.2.2.1, h.cells.2.2.2.2.2⟩
theorem add_flat {a : Addr} (h : a.spot = none) (n : Nat) : a.add n = ⟨a.block, a.off + n, none⟩ := by
  obtain ⟨b, o, s⟩ := a
  simp only at h
  subst h
  unfold Addr.add
  split
  · rename_i h0; subst h0; rfl
  · rfl
/-- A ring's cells. -/
theorem DWR.ring (h : DWR c w p tp now dl l ro rcap R) (hd : R[i]? = some d) : ∃ b off, ro = some ⟨b, off, none⟩ ∧
    w.cell? ⟨b, off + i * 9, none⟩ = some (.int .i64 d.n) ∧ w.cell? ⟨b, off + i * 9 + 1, none⟩ = some (.bool d.many) ∧ w.cell? ⟨b, off + i * 9 + 2, none⟩ = some (.int .i64 d.cl) ∧ w.cell? ⟨b, off + i * 9 + 3, none⟩ = some (.int .i64 d.pub) ∧ w.cell? ⟨b, off + i * 9 + 4, none⟩ = some (.int .i64 d.seen) ∧
    w.cell? ⟨b, off + i * 9 + 5, none⟩ = some (.slice d.so d.shown.length d.scap) ∧ w.cell? ⟨b, off + i * 9 + 6, none⟩ = some (.slice d.ea d.en d.ecap) ∧ w.cell? ⟨b, off + i * 9 + 7, none⟩ = some (.slice none 0 0) ∧ w.cell? ⟨b, off + i * 9 + 8, none⟩ = some (.slice d.wo d.wl.length d.wcap) := by
  have f := fun (j : Nat) (v : Value) (hv : d.cells[j]? = some v) => h.rs.rr.toIn.field (fun x => DR.len x) hd (f := j) (v := v) hv
  obtain ⟨a, ha, h0⟩ := f 0 _ rfl
  obtain ⟨⟨b, off, sp⟩, e⟩ : ∃ x, x = a := ⟨_, rfl⟩
  subst e
  have hs : sp = none := by
    obtain ⟨a', ha', hs, -⟩ := h.rs.rr.cell (j := i * 9) (v := .int .i64 d.n) (by
      have := flat_get DR.cells 9 DR.len 0 (by decide) R i d hd
      simpa [DR.cells] using this)
    rw [ha] at ha'
    cases ha'
    exact hs
  subst hs
  have g := fun (j : Nat) (v : Value) (hv : d.cells[j]? = some v) => show w.cell? ⟨b, off + i * 9 + j, none⟩ = some v by
    obtain ⟨a', ha', hj⟩ := f j v hv
    rw [ha] at ha'
    cases ha'
    rw [add_flat rfl] at hj
    simpa [Nat.add_assoc] using hj
  exact ⟨b, off, ha, g 0 _ rfl, g 1 _ rfl, g 2 _ rfl, g 3 _ rfl, g 4 _ rfl, g 5 _ rfl, g 6 _ rfl, g 7 _ rfl, g 8 _ rfl⟩
/-- The same, as a walk wants them. -/
theorem DWR.ringA (h : DWR c w p tp now dl l ro rcap R) (hd : R[i]? = some d) : ∃ a, ro = some a ∧ a.spot = none ∧ c a.block = 12 ∧
    w.cell? (a.add (i * 9)) = some (.int .i64 d.n) ∧ w.cell? ⟨(a.add (i * 9)).block, (a.add (i * 9)).off + 1, none⟩ = some (.bool d.many) ∧ w.cell? ⟨(a.add (i * 9)).block, (a.add (i * 9)).off + 2, none⟩ = some (.int .i64 d.cl) ∧ w.cell? ⟨(a.add (i * 9)).block, (a.add (i * 9)).off + 3, none⟩ = some (.int .i64 d.pub) ∧ w.cell? ⟨(a.add (i * 9)).block, (a.add (i * 9)).off + 4, none⟩ = some (.int .i64 d.seen) ∧
    w.cell? ⟨(a.add (i * 9)).block, (a.add (i * 9)).off + 5, none⟩ = some (.slice d.so d.shown.length d.scap) ∧ w.cell? ⟨(a.add (i * 9)).block, (a.add (i * 9)).off + 8, none⟩ = some (.slice d.wo d.wl.length d.wcap) := by
  obtain ⟨b, off, rfl, h0, h1, h2, h3, h4, h5, h6, h7, h8⟩ := h.ring hd
  have hc : c b = 12 := by
    obtain ⟨a', ha', -, -, -, -, hk⟩ := h.rs.rr.cell (j := i * 9) (v := .int .i64 d.n) (by
      have := flat_get DR.cells 9 DR.len 0 (by decide) R i d hd
      simpa [DR.cells] using this)
    cases ha'
    exact hk
  refine ⟨_, rfl, rfl, hc, ?_⟩
  rw [add_flat (a := ⟨b, off, none⟩) rfl]
  exact ⟨h0, h1, h2, h3, h4, h5, h8⟩
theorem DWR.lt (_h : DWR c w p tp now dl l ro rcap R) (hd : R[i]? = some d) : (0 : Int) ≤ (i : Int) ∧ (i : Int) < (R.length : Int) := by
  have := (List.getElem?_eq_some_iff.1 hd).1
  omega

theorem r14cursor_c (h : DWR c w p tp now dl l ro rcap R) (hd : R[i]? = some d) :
    Calls Tryz.prog 102 #[.pointer (some ⟨p, 0, none⟩), .int .i64 (i : Int)] w fun e w' => e = .returned (.int .i64 (if d.many = true then d.cl else d.pub)) ∧ w = w' := by
  obtain ⟨r4, lp⟩ := h.r4
  obtain ⟨a, rfl, hs, -, h0, h1, h2, h3, -⟩ := h.ringA hd
  obtain ⟨i0, i1⟩ := h.lt hd
  clear h hd
  rcases hm : d.many with _ | _
  · rw [hm] at h1
    clear hm
    go_enter Tryz.func102, Tryz.ntmps102
    go_wp2
    go_ret
    exact ⟨rfl, rfl⟩
  · rw [hm] at h1
    clear hm
    go_enter Tryz.func102, Tryz.ntmps102
    go_wp2
    go_ret
    exact ⟨rfl, rfl⟩
theorem DWR.ring67 (h : DWR c w p tp now dl l (some a) rcap R) (hd : R[i]? = some d) : w.cell? ⟨(a.add (i * 9)).block, (a.add (i * 9)).off + 6, none⟩ = some (.slice d.ea d.en d.ecap) ∧ w.cell? ⟨(a.add (i * 9)).block, (a.add (i * 9)).off + 7, none⟩ = some (.slice none 0 0) := by
  obtain ⟨b, off, hb, -, -, -, -, -, -, h6, h7, -⟩ := h.ring hd
  cases hb
  rw [add_flat (a := ⟨b, off, none⟩) rfl]
  exact ⟨h6, h7⟩
end
end Go.Proofs.YtiphdedfbafhkaaGreatDoor

namespace Go.Proofs.YtiphdedfbafhkaaGreatDoor
open Go.RowKit

section
variable {c c' : Nat → Nat} {w w' : World} {p tp : Nat} {now : Int} {dl dl' : List Tm} {l l' : List One} {ro : Option Addr} {rcap : Nat} {R : List DR} {i : Nat} {d d' : DR} {a : Addr}
/-- One cell of a ring is set. -/
theorem DWR.put (h : DWR c w p tp now dl l (some a) rcap R) (hd : R[i]? = some d) {f : Nat} {v u : Value} (hf : d.cells[f]? = some u) (he : d'.cells = d.cells.set f v)
    (hr : Row c (dk i) w 2 1 d'.so d'.shown.length d'.scap (d'.shown.map (Value.int .i64)) ∧ Row c (dk i + 1) w 3 1 d'.wo d'.wl.length d'.wcap (d'.wl.map (Value.int .i64))) :
    Stp (· = 12) c c w (w.setCell ⟨(a.add (i * 9)).block, (a.add (i * 9)).off + f, none⟩ v) ∧ DWR c (w.setCell ⟨(a.add (i * 9)).block, (a.add (i * 9)).off + f, none⟩ v) p tp now dl l (some a) rcap (R.set i d') := by
  obtain ⟨a', ha', hs, hc, -⟩ := h.ringA hd
  cases ha'
  have hi : i < R.length := (List.getElem?_eq_some_iff.1 hd).1
  have hf9 : f < 9 := by have := (List.getElem?_eq_some_iff.1 hf).1; rw [DR.len] at this; exact this
  have ea := add_flat hs (i * 9)
  rw [ea]
  have t : Stp (· = 12) c c w (w.setCell ⟨a.block, a.off + i * 9 + f, none⟩ v) := (Stp.refl (· = 12) c w).setCell (p := ⟨a.block, a.off + i * 9 + f, none⟩) v hc
  refine ⟨t, ?_, ?_, ?_⟩
  · have := h.wd.stp t (fun j hj => by unfold JD; omega)
    rw [List.length_set]
    exact this
  · rw [List.length_set]
    obtain ⟨b, off, sp⟩ := a
    simp only at hs
    subst hs
    have hx : i * 9 + f < (R.flatMap DR.cells).length := by
      rw [flat_len DR.cells 9 DR.len]
      omega
    have hrow := h.rs.rr.set (i * 9 + f) v hx
    rw [flat_set DR.cells 9 DR.len f hf9 v R i d d' hd he] at hrow
    simpa [Nat.add_assoc] using hrow
  · intro j y hy
    by_cases hj : i = j
    · subst hj
      rw [List.getElem?_set_self hi] at hy
      cases hy
      exact ⟨hr.1.stp t (by unfold dk; omega), hr.2.stp t (by unfold dk; omega)⟩
    · rw [List.getElem?_set_ne hj] at hy
      exact ⟨(h.rs.sh j y hy).1.stp t (by unfold dk; omega), (h.rs.sh j y hy).2.stp t (by unfold dk; omega)⟩

theorem DWR.ring8 (h : DWR c w p tp now dl l (some a) rcap R) (hd : R[i]? = some d) : w.frozen? ⟨(a.add (i * 9)).block, (a.add (i * 9)).off + 8, none⟩ = false := by
  have hx : (R.flatMap DR.cells)[i * 9 + 8]? = some (.slice d.wo d.wl.length d.wcap) := by
    rw [flat_get DR.cells 9 DR.len 8 (by decide) R i d hd]
    rfl
  obtain ⟨a', ha', hs, -, hf, ea, -⟩ := h.rs.rr.cell hx
  cases ha'
  rw [ea] at hf
  rw [add_flat hs (i * 9)]
  simpa [Nat.add_assoc] using hf
/-- Signal in plain Lean. -/
def rsigT : List Int → List Tm → List One → Nat → List Tm × List One × Nat
  | [], tl, l, n => (tl, l, n)
  | who :: ws, tl, l, n => rsigT ws (tl.filter (stays who)) (rwakeT l who).1 (n + if (rwakeT l who).2.1 = true then 1 else 0)
def RWakesOK (l : List One) (B : Int) : Prop := ∀ x ∈ l, 0 ≤ x.wakes ∧ x.wakes ≤ B
theorem RWakesOK.wake {l : List One} {B : Int} (h : RWakesOK l B) (who : Int) (_hB : 0 ≤ B) : RWakesOK (rwakeT l who).1 (B + 1) := by
  have up : RWakesOK l (B + 1) := fun x hx => ⟨(h x hx).1, by have := (h x hx).2; omega⟩
  unfold rwakeT
  split
  · exact up
  · next he =>
    obtain ⟨j, x, rfl, hj, hx, hg, hn⟩ := rright_of (show wrongAt l who = 0 by simpa using he)
    have hb := h x (List.mem_of_getElem? hj)
    rw [hg, hn]
    split <;> exact fun y hy => by
      rcases List.mem_or_eq_of_mem_set hy with hy | rfl
      · exact up y hy
      · exact ⟨by simp only; omega, by simp only; omega⟩
theorem RWakesOK.mono {l : List One} {B B' : Int} (h : RWakesOK l B) (hB : B ≤ B') : RWakesOK l B' := fun x hx => ⟨(h x hx).1, by have := (h x hx).2; omega⟩
theorem rwake_ok {l : List One} {who : Int} (h : (rwakeT l who).2.1 = true) : (rwakeT l who).2.2 = 0 := by
  unfold rwakeT at h ⊢
  split
  · next he => rw [if_pos he] at h; cases h
  · split <;> rfl

set_option maxRecDepth 100000 in
set_option maxHeartbeats 2000000 in
theorem r14signal_any (h : DWR c w p tp now dl l ro rcap R) (hd : R[i]? = some d) {B : Int} (hw : RWakesOK l B) (hB : 0 ≤ B ∧ B ≤ 1099511627776) (hlen : d.wl.length ≤ 100) (hl : dl.length ≤ 1000) :
    Calls Tryz.prog 92 #[.pointer (some ⟨p, 0, none⟩), .int .i64 (i : Int)] w fun e w' => e = .returned (.tuple #[.int .i64 ((rsigT d.wl dl l 0).2.2 : Int), .int .i64 0]) ∧ ∃ c', Stp (fun j => JD j ∨ j = 12) c c' w w' ∧ DWR c' w' p tp now (rsigT d.wl dl l 0).1 (rsigT d.wl dl l 0).2.1 ro rcap (R.set i { d with wl := [], wo := none, wcap := 0 }) := by
  obtain ⟨Z, hZ⟩ : ∃ Z, Z = rsigT d.wl dl l 0 := ⟨_, rfl⟩
  obtain ⟨N, hN⟩ : ∃ N, N = d.wl.length := ⟨_, rfl⟩
  obtain ⟨wo, hwo⟩ : ∃ x, x = d.wo := ⟨_, rfl⟩
  obtain ⟨r4, lp⟩ := h.r4
  obtain ⟨a, ha, hs, -, h0, h1, h2, h3, h4, h5, h8⟩ := h.ringA hd
  subst ha
  obtain ⟨i0, i1⟩ := h.lt hd
  have g0 : decide ((i : Int) < 0) = false := by simp
  have g1 : decide (R.length ≤ i) = false := by simp; omega
  have H := Lib.hid h
  have HD := Lib.hid hd
  have HZ := Lib.hid hZ
  have HW := Lib.hid hw
  have HB := Lib.hid hB
  have HL := Lib.hid hl
  have HN := Lib.hid hN
  have HN1 := Lib.hid (show N ≤ 100 by rw [hN]; exact hlen)
  have HWO := Lib.hid hwo
  rw [← hN, ← hwo] at h8
  rw [← hZ]
  clear h hd hw hB hlen hl hZ hN hwo hs h0 h1 h2 h3 h4 h5
  go_enter Tryz.func92, Tryz.ntmps92
  go_wp2
  go_loopg [6, 8] N (fun gh nv iv wr => ∃ (c1 : Nat → Nat) (j n : Nat) (dl1 : List Tm) (l1 : List One), nv = .int .i64 n ∧ iv = .int .i64 j ∧ j + gh = N ∧ Hid (n ≤ j) ∧ Hid (rsigT (d.wl.drop j) dl1 l1 n = Z) ∧ Hid (RWakesOK l1 (B + j)) ∧ Hid (dl1.length ≤ 1000) ∧ Hid (DWR c1 wr p tp now dl1 l1 (some a) rcap R) ∧ Hid (Stp JD c c1 w wr))
  case atStart => exact ⟨c, 0, 0, dl, l, rfl, rfl, by omega, Lib.hid (Nat.le_refl _), Lib.hid HZ.out.symm, Lib.hid (by simpa using HW.out), HL, H, Lib.hid (Stp.refl _ _ _)⟩
  case round =>
    obtain ⟨c1, j, n, dl1, l1, rfl, rfl, hj, Hn, HS, HW1, HL1, HM1, ST1⟩ := hrel
    clear H HW HL HZ
    by_cases hlt : j < N
    · have hjl : j < d.wl.length := by rw [← HN.out]; exact hlt
      obtain ⟨b, hb, y0⟩ := ((HM1.out.rs.sh i d HD.out).2.toIn).ints (j := j) hjl
      obtain ⟨who, hwho⟩ : ∃ z, z = d.wl.getD j 0 := ⟨_, rfl⟩
      rw [← hwho] at y0
      have hdrop : d.wl.drop j = who :: d.wl.drop (j + 1) := by
        rw [List.drop_eq_getElem_cons hjl, hwho]
        simp [List.getD, hjl]
      rw [hdrop] at HS
      have g3 : (j : Int) < (N : Int) := by omega
      have hb' : wo = some b := by rw [HWO.out]; exact hb
      subst hb'
      have HJ := Lib.hid (show j + 1 + (gk - 1) = N ∧ gk - 1 < gk by omega)
      have W1 : wrap64 ((n : Int) + 1) = ((n + 1 : Nat) : Int) := by rw [IntWalk.wrap64_in _ ⟨by omega, by have := Hn.out; have := HN1.out; omega⟩]; omega
      have hj9 : j ≤ 100 := by have := HN1.out; omega
      clear hjl hdrop hwho hlt hj hb
      go_wp2_with fail
      refine (HM1.out.wd.wake who HL1.out (HW1.out.mono (by have := HB.out; have := HN1.out; omega))).mono ?_
      rintro e w2 ⟨rfl, c2, t2, m2⟩
      have HM2 := Lib.hid (HM1.out.go t2 m2)
      have ST2 := Lib.hid (ST1.out.trans t2)
      have HW2 := Lib.hid (HW1.out.wake who (by have := HB.out; omega))
      have HL2 := Lib.hid (show (dl1.filter (stays who)).length ≤ 1000 by have := List.length_filter_le (stays who) dl1; have := HL1.out; omega)
      have HO := Lib.hid (rwake_ok (l := l1) (who := who))
      have HS2 := Lib.hid (show rsigT (d.wl.drop (j + 1)) (dl1.filter (stays who)) (rwakeT l1 who).1 (n + if (rwakeT l1 who).2.1 = true then 1 else 0) = Z from HS.out)
      clear t2 m2 HM1 ST1 HW1 HL1 HS y0
      rcases hW : rwakeT l1 who with ⟨l2, bb, er⟩
      rw [hW] at HM2 HW2 HO HS2
      simp only at HM2 HW2 HO HS2
      cases bb with
      | true =>
        obtain rfl : er = 0 := HO.out rfl
        clear HO hW
        go_wp2
        go_roundg (gk - 1)
        case rel => exact ⟨c2, j + 1, n + 1, _, l2, by first | rfl | rw [W1], by go_num, HJ.out.1, Lib.hid (by have := Hn.out; omega), Lib.hid (by simpa using HS2.out), Lib.hid (HW2.out.mono (by omega)), HL2, HM2, ST2⟩
        case measure => exact HJ.out.2
      | false =>
        clear HO hW
        go_wp2
        go_roundg (gk - 1)
        case rel => exact ⟨c2, j + 1, n, _, l2, rfl, by go_num, HJ.out.1, Lib.hid (by have := Hn.out; omega), Lib.hid (by simpa using HS2.out), Lib.hid (HW2.out.mono (by omega)), HL2, HM2, ST2⟩
        case measure => exact HJ.out.2
    · have hjn : j = N := by omega
      subst hjn
      have hE : Z = (dl1, l1, n) := by
        rw [← HS.out, HN.out, List.drop_length]
        rfl
      have HE := Lib.hid hE
      obtain ⟨r4', lp'⟩ := HM1.out.r4
      obtain ⟨a', ha', -, -, -, -, -, -, -, -, k8⟩ := HM1.out.ringA HD.out
      cases ha'
      have k8f := HM1.out.ring8 HD.out
      have g3 : ¬ (j : Int) < (j : Int) := Int.lt_irrefl _
      have HP := Lib.hid (HM1.out.put HD.out (d' := { d with wl := [], wo := none, wcap := 0 }) (f := 8) (v := .slice none 0 0) (u := .slice d.wo d.wl.length d.wcap) rfl rfl ⟨(HM1.out.rs.sh i d HD.out).1, Row.nil _ _ _ _ _⟩)
      clear hE hlt hj HS r4 lp h8
      go_wp2
      go_ret2
      rw [HE.out]
      exact ⟨rfl, c1, (ST1.out.mono (J' := fun j => JD j ∨ j = 12) (fun j h => Or.inl h)).trans (HP.out.1.mono (fun j h => Or.inr h)), HP.out.2⟩
end
end Go.Proofs.YtiphdedfbafhkaaGreatDoor

namespace Go.Proofs.YtiphdedfbafhkaaGreatDoor
open Go.RowKit

/-- Park in plain Lean, as the document has it: the timers as they came. -/
def rparkR (now : Int) (dl : List Tm) (l : List One) (who d : Int) : List Tm × List One × Bool × Int :=
  if d < 0 ∨ 1099511627776 < d then (dl, l, false, 5)
  else if wrongAt l who ≠ 0 then (dl, l, false, wrongAt l who)
  else if d ≠ 0 ∧ d ≤ now then (dl, l, false, 0)
  else if (l.getD who.toNat ⟨0, false, 0⟩).token = true then (dl, l.set who.toNat { l.getD who.toNat ⟨0, false, 0⟩ with token := false }, false, 0)
  else (if d = 0 then dl else dl.filter (stays who) ++ [⟨d, who⟩], l.set who.toNat { l.getD who.toNat ⟨0, false, 0⟩ with state := 1 }, true, 0)

section
variable {c c' : Nat → Nat} {k : Nat} {w w' : World} {p tp : Nat} {now : Int} {dl dl' : List Tm} {lo : Option Addr} {lcap : Nat} {l l' : List One} {rs : Value}
theorem JD.t : ∀ j, 3 ≤ j ∧ j ≤ 6 → JD j := fun j h => by unfold JD; omega
theorem DWs.table (h : DWs c w p tp now dl l rs) (t : Stp (fun j => 3 ≤ j ∧ j ≤ 6) c c' w w') (g : RTabAt c' w' tp l') : DWs c' w' p tp now dl l' rs := by
  obtain ⟨k, lo, lcap, hk, h⟩ := h
  exact ⟨k, lo, lcap, hk, h.hb.stp t (by omega), h.tm.stp t (by omega), g⟩
theorem DWs.cells (h : DWs c w p tp now dl l rs) : ∃ lo lcap, w.cell? ⟨p, 0, none⟩ = some (.int .i64 now) ∧ w.cell? ⟨p, 1, none⟩ = some (.slice lo dl.length lcap) ∧ w.cell? ⟨p, 2, none⟩ = some (.pointer (some ⟨tp, 0, none⟩)) ∧ p < w.heap.size ∧ RTabAt c w tp l := by
  obtain ⟨k, lo, lcap, hk, h⟩ := h
  obtain ⟨p0, p1, p2, p3, p4, lp⟩ := h.cells
  exact ⟨lo, lcap, p0, p1, p2, lp, h.tb⟩

set_option maxRecDepth 100000 in
/-- Park with a deadline that is to come. -/
theorem r14park_d (h : DW c k w p tp now dl lo lcap l rs) (k2 : Nat) (hk : 8 ≤ k ∧ k ≤ 10 ∧ 8 ≤ k2 ∧ k2 ≤ 10 ∧ k ≠ k2) {j : Nat} {x : One} (hj : l[j]? = some x) (hx : x.state ≠ 2) (ht : x.token = false) (d : Int) (h0 : 1 ≤ d) (h1 : d ≤ 1099511627776) (hd : now < d) (hn : dl.length ≤ 1000) (hf : (dl.filter (stays j)).length < 64) (hj64 : j < 64) :
    Calls Tryz.prog 93 #[.pointer (some ⟨p, 0, none⟩), .int .i64 j, .int .i64 d] w fun e w' => e = .returned (.tuple #[.bool true, .int .i64 0]) ∧ ∃ lo' lcap' c', Stp JD c c' w w' ∧ DW c' k w' p tp now (dl.filter (stays j) ++ [⟨d, j⟩]) lo' lcap' (l.set j { x with state := 1 }) rs := by
  have H := Lib.hid h
  have HK := Lib.hid hk
  have HN := Lib.hid hn
  have HF := Lib.hid hf
  have Hj := Lib.hid hj
  have Hx := Lib.hid hx
  have Ht := Lib.hid ht
  have Hj64 := Lib.hid hj64
  have Hd := Lib.hid (And.intro hd h1)
  have g0 : decide (d < 0) = false := by simp; omega
  have g1 : decide ((1099511627776 : Int) < d) = false := by simp; omega
  have g2 : (d == 0) = false := by simp; omega
  have g2' : (d != 0) = true := by simp; omega
  have g3 : decide (d ≤ now) = false := by simpa using hd
  obtain ⟨p0, p1, p2, p3, p4, lp⟩ := h.cells
  have HWZ := Lib.hid (show wrongAt l (j : Int) = 0 by rw [wrong_eq hj, if_neg hx])
  clear h hk hn hf hj hx ht hj64 h0 h1 hd
  go_enter Tryz.func93, Tryz.ntmps93
  go_wp2_with fail
  refine (r14wrong_any H.out j).mono ?_
  rintro e w1 ⟨rfl, hw1⟩
  subst hw1
  rw [HWZ.out]
  go_wp2_with fail
  refine (r05park_yes H.out.tb j Hj.out Hx.out Ht.out).mono ?_
  rintro e w1 ⟨rfl, c1, t1, tb1⟩
  have B1 := Lib.hid (H.out.hb.stp t1 (by omega))
  have TM1 := Lib.hid (H.out.tm.stp t1 (by have := HK.out; omega))
  have TB1 := Lib.hid tb1
  have S1 := Lib.hid (t1.mono JD.t)
  clear t1 tb1 p0 p1 p2 p3 p4 lp
  have b0 := B1.out.cell 0
  have b1 := B1.out.cell 1
  have f0 := B1.out.free 0
  have f1 := B1.out.free 1
  have lb := B1.out.lt
  simp at b0 b1
  go_wp2_with fail
  refine (r04drop_any TM1.out rfl k2 HK.out.2.2.2.2 HN.out now j).mono ?_
  rintro e w2 ⟨lo2, N, lcap2, rfl, hN, c2, t2, r2⟩
  subst hN
  have B2 := Lib.hid (B1.out.stp t2 (by have := HK.out; omega))
  have TB2 := Lib.hid (TB1.out.stp t2 (by have := HK.out; omega) (by have := HK.out; omega) (by have := HK.out; omega) (by have := HK.out; omega))
  have R2 := Lib.hid r2
  have S2 := Lib.hid (S1.out.trans (t2.mono (fun j h => by have := HK.out; unfold JD; omega)))
  clear t2 r2 b0 b1 f0 f1 lb B1 TM1 TB1 S1
  have b0 := B2.out.cell 0
  have b1 := B2.out.cell 1
  have f0 := B2.out.free 0
  have f1 := B2.out.free 1
  have lb := B2.out.lt
  simp at b0 b1
  have T3 := Lib.hid (((Stp.refl (· = 7) c2 w2).setCell (p := ⟨p, 0, none⟩) (.int .i64 now) B2.out.1).setCell (p := ⟨p, 1, none⟩) (.slice lo2 (dl.filter (stays j)).length lcap2) B2.out.1)
  have B3 := Lib.hid (two_cells B2.out (.int .i64 now) (.slice lo2 (dl.filter (stays j)).length lcap2))
  have TB3 := Lib.hid (TB2.out.stp T3.out (by decide) (by decide) (by decide) (by decide))
  have R3 := Lib.hid (R2.out.stp T3.out (by have := HK.out; omega))
  have S3 := Lib.hid (S2.out.trans (T3.out.mono (fun j h => by unfold JD; omega)))
  clear TB2 R2 S2 T3
  go_upto_region 11 with fail
  clear b0 b1 f0 f1 lb B2
  generalize (w2.setCell ⟨p, 0, none⟩ (.int .i64 now)).setCell ⟨p, 1, none⟩ (.slice lo2 (dl.filter (stays j)).length lcap2) = w3 at B3 TB3 R3 S3 ⊢
  have b0 := B3.out.cell 0
  have b1 := B3.out.cell 1
  have f0 := B3.out.free 0
  have f1 := B3.out.free 1
  have lb := B3.out.lt
  simp at b0 b1
  go_wp2_with fail
  refine (r04set_ok R3.out.toIn rfl k now d j Hd.out.1 Hd.out.2 (by omega) (by have := Hj64.out; omega) HF.out).mono ?_
  rintro e w4 ⟨lo4, lcap4, rfl, c4, t4, r4⟩
  have B4 := Lib.hid (B3.out.stp t4 (by have := HK.out; omega))
  have TB4 := Lib.hid (TB3.out.stp t4 (by have := HK.out; omega) (by have := HK.out; omega) (by have := HK.out; omega) (by have := HK.out; omega))
  have R4 := Lib.hid r4
  have S4 := Lib.hid (S3.out.trans (t4.mono (fun j h => by have := HK.out; unfold JD; omega)))
  clear t4 r4 b0 b1 f0 f1 lb B3 R3 TB3 S3
  have b0 := B4.out.cell 0
  have b1 := B4.out.cell 1
  have f0 := B4.out.free 0
  have f1 := B4.out.free 1
  have lb := B4.out.lt
  simp at b0 b1
  have T5 := Lib.hid (((Stp.refl (· = 7) c4 w4).setCell (p := ⟨p, 0, none⟩) (.int .i64 now) B4.out.1).setCell (p := ⟨p, 1, none⟩) (.slice lo4 ((dl.filter (stays j)).length + 1) lcap4) B4.out.1)
  have B5 := Lib.hid (two_cells B4.out (.int .i64 now) (.slice lo4 ((dl.filter (stays j)).length + 1) lcap4))
  have TB5 := Lib.hid (TB4.out.stp T5.out (by decide) (by decide) (by decide) (by decide))
  have R5 := Lib.hid (R4.out.stp T5.out (by have := HK.out; omega))
  have S5 := Lib.hid (S4.out.trans (T5.out.mono (fun j h => by unfold JD; omega)))
  clear TB4 R4 S4 T5
  go_wp2
  go_ret2
  exact ⟨rfl, lo4, lcap4, c4, S5.out, by simpa using B5.out, by simpa using R5.out.toIn, TB5.out⟩

set_option maxRecDepth 100000 in
/-- Park that asks the table alone. -/
theorem r14park_t (h : DWs c w p tp now dl l rs) {j : Nat} {x : One} (hj : l[j]? = some x) (hx : x.state ≠ 2) (d : Int) (h0 : 0 ≤ d) (h1 : d ≤ 1099511627776) (hd : (x.token = true ∧ (d = 0 ∨ now < d)) ∨ (x.token = false ∧ d = 0)) :
    Calls Tryz.prog 93 #[.pointer (some ⟨p, 0, none⟩), .int .i64 j, .int .i64 d] w fun e w' => e = .returned (.tuple #[.bool (!x.token), .int .i64 0]) ∧ ∃ c', Stp JD c c' w w' ∧ DWs c' w' p tp now dl (l.set j (if x.token = true then { x with token := false } else { x with state := 1 })) rs := by
  have H := Lib.hid h
  have Hj := Lib.hid hj
  have Hx := Lib.hid hx
  have g0 : decide (d < 0) = false := by simp; omega
  have g1 : decide ((1099511627776 : Int) < d) = false := by simp; omega
  obtain ⟨lo, lcap, p0, p1, p2, lp, tb⟩ := h.cells
  have TB := Lib.hid tb
  have HWZ := Lib.hid (show wrongAt l (j : Int) = 0 by rw [wrong_eq hj, if_neg hx])
  have hz : (d = 0) ∨ (x.token = true ∧ (d == 0) = false ∧ (d != 0) = true ∧ decide (d ≤ now) = false) := by
    by_cases hz : d = 0
    · exact .inl hz
    · rcases hd with ⟨a, b⟩ | ⟨a, b⟩
      · exact .inr ⟨a, by simpa using hz, by simpa using hz, by simp; omega⟩
      · exact absurd b hz
  clear h hj hx h0 h1 hd tb
  rcases hz with rfl | ⟨ht, g2, g2', g3⟩
  · rcases ht : x.token with _ | _
    · have Ht := Lib.hid ht
      clear ht
      go_enter Tryz.func93, Tryz.ntmps93
      go_wp2_with fail
      refine (H.out.wrong j).mono ?_
      rintro e w1 ⟨rfl, hw1⟩
      subst hw1
      rw [HWZ.out]
      go_wp2_with fail
      refine (r05park_yes TB.out j Hj.out Hx.out Ht.out).mono ?_
      rintro e w1 ⟨rfl, c1, t1, tb1⟩
      have D1 := Lib.hid (H.out.table t1 tb1)
      have S1 := Lib.hid (t1.mono JD.t)
      clear t1 tb1
      go_wp2
      go_ret2
      exact ⟨rfl, c1, S1.out, by have h := D1.out; rw [Ht.out] at h; exact h⟩
    · have Ht := Lib.hid ht
      clear ht
      go_enter Tryz.func93, Tryz.ntmps93
      go_wp2_with fail
      refine (H.out.wrong j).mono ?_
      rintro e w1 ⟨rfl, hw1⟩
      subst hw1
      rw [HWZ.out]
      go_wp2_with fail
      refine (r05park_token TB.out j Hj.out Hx.out Ht.out).mono ?_
      rintro e w1 ⟨rfl, c1, t1, tb1⟩
      have D1 := Lib.hid (H.out.table t1 tb1)
      have S1 := Lib.hid (t1.mono JD.t)
      clear t1 tb1
      go_wp2
      go_ret2
      exact ⟨rfl, c1, S1.out, D1.out⟩
  · have Ht := Lib.hid ht
    rw [ht]
    clear ht
    go_enter Tryz.func93, Tryz.ntmps93
    go_wp2_with fail
    refine (H.out.wrong j).mono ?_
    rintro e w1 ⟨rfl, hw1⟩
    subst hw1
    rw [HWZ.out]
    go_wp2_with fail
    refine (r05park_token TB.out j Hj.out Hx.out Ht.out).mono ?_
    rintro e w1 ⟨rfl, c1, t1, tb1⟩
    have D1 := Lib.hid (H.out.table t1 tb1)
    have S1 := Lib.hid (t1.mono JD.t)
    clear t1 tb1
    go_wp2
    go_ret2
    exact ⟨rfl, c1, S1.out, D1.out⟩

theorem r14park_any (h : DWs c w p tp now dl l rs) (who d : Int) (hl : dl.length ≤ 1000) (hl64 : l.length ≤ 64) (hf : wrongAt l who = 0 → (dl.filter (stays who)).length < 64) :
    Calls Tryz.prog 93 #[.pointer (some ⟨p, 0, none⟩), .int .i64 who, .int .i64 d] w fun e w' => e = .returned (.tuple #[.bool (rparkR now dl l who d).2.2.1, .int .i64 (rparkR now dl l who d).2.2.2]) ∧ ∃ c', Stp JD c c' w w' ∧ DWs c' w' p tp now (rparkR now dl l who d).1 (rparkR now dl l who d).2.1 rs := by
  by_cases h5 : d < 0 ∨ 1099511627776 < d
  · have e : rparkR now dl l who d = (dl, l, false, 5) := by unfold rparkR; rw [if_pos h5]
    rw [e]
    have H := Lib.hid h
    have t : decide (d < 0) = true ∨ (decide (d < 0) = false ∧ decide ((1099511627776 : Int) < d) = true) := by
      simp only [decide_eq_true_eq, decide_eq_false_iff_not]; omega
    clear h hl hf e h5
    rcases t with g0 | ⟨g0, g1⟩
    all_goals
      go_enter Tryz.func93, Tryz.ntmps93
      go_wp2
      go_ret2
      exact ⟨rfl, c, Stp.refl _ _ _, H.out⟩
  · have g0 : decide (d < 0) = false := by simp; omega
    have g1 : decide ((1099511627776 : Int) < d) = false := by simp; omega
    by_cases he : wrongAt l who = 0
    · obtain ⟨j, x, rfl, hj, hx, hg, hn⟩ := rright_of he
      have hj64 : j < 64 := by have := (List.getElem?_eq_some_iff.1 hj).1; omega
      by_cases hp : d ≠ 0 ∧ d ≤ now
      · have e : rparkR now dl l (j : Int) d = (dl, l, false, 0) := by unfold rparkR; rw [if_neg h5, if_neg (by simp [he]), if_pos hp]
        rw [e]
        have H := Lib.hid h
        have HWZ := Lib.hid he
        have g2' : (d != 0) = true := by simpa using hp.1
        have g3 : decide (d ≤ now) = true := by simpa using hp.2
        obtain ⟨lo, lcap, p0, p1, p2, lp, -⟩ := h.cells
        clear h hl hf e h5 he hj hx hg hn hp
        go_enter Tryz.func93, Tryz.ntmps93
        go_wp2_with fail
        refine (H.out.wrong j).mono ?_
        rintro e w1 ⟨rfl, hw1⟩
        subst hw1
        rw [HWZ.out]
        go_wp2
        go_ret2
        exact ⟨rfl, c, Stp.refl _ _ _, H.out⟩
      · by_cases ht : x.token = true
        · have e : rparkR now dl l (j : Int) d = (dl, l.set j { x with token := false }, false, 0) := by unfold rparkR; rw [if_neg h5, if_neg (by simp [he]), if_neg hp, hg, if_pos ht, hn]
          rw [e]
          refine (r14park_t h hj hx d (by omega) (by omega) (.inl ⟨ht, by omega⟩)).mono ?_
          rintro e w1 ⟨rfl, c1, t1, r1⟩
          rw [if_pos ht] at r1
          exact ⟨by rw [ht]; rfl, c1, t1, r1⟩
        · have ht' : x.token = false := by simpa using ht
          have e : rparkR now dl l (j : Int) d = (if d = 0 then dl else dl.filter (stays (j : Int)) ++ [⟨d, (j : Int)⟩], l.set j { x with state := 1 }, true, 0) := by unfold rparkR; rw [if_neg h5, if_neg (by simp [he]), if_neg hp, hg, if_neg ht, hn]
          rw [e]
          by_cases hz : d = 0
          · subst hz
            rw [if_pos rfl]
            refine (r14park_t h hj hx 0 (by decide) (by decide) (.inr ⟨ht', rfl⟩)).mono ?_
            rintro e w1 ⟨rfl, c1, t1, r1⟩
            rw [if_neg (by simp [ht'])] at r1
            exact ⟨by rw [ht']; rfl, c1, t1, r1⟩
          · rw [if_neg hz]
            obtain ⟨k, lo, lcap, hk, h⟩ := h
            rcases hk with rfl | rfl
            · refine (r14park_d h 10 (by decide) hj hx ht' d (by omega) (by omega) (by omega) hl (hf he) hj64).mono ?_
              rintro e w1 ⟨rfl, lo', lcap', c1, t1, r1⟩
              exact ⟨rfl, c1, t1, 8, lo', lcap', .inl rfl, r1⟩
            · refine (r14park_d h 8 (by decide) hj hx ht' d (by omega) (by omega) (by omega) hl (hf he) hj64).mono ?_
              rintro e w1 ⟨rfl, lo', lcap', c1, t1, r1⟩
              exact ⟨rfl, c1, t1, 10, lo', lcap', .inr rfl, r1⟩
    · have e : rparkR now dl l who d = (dl, l, false, wrongAt l who) := by unfold rparkR; rw [if_neg h5, if_pos he]
      rw [e]
      have H := Lib.hid h
      have hne : (wrongAt l who != 0) = true := by simpa using he
      obtain ⟨z, hz⟩ : ∃ z, z = wrongAt l who := ⟨_, rfl⟩
      have HZ := Lib.hid hz
      rw [← hz] at hne ⊢
      clear h hl hf e h5 he hz
      go_enter Tryz.func93, Tryz.ntmps93
      go_wp2_with fail
      refine (H.out.wrong who).mono ?_
      rintro e w1 ⟨rfl, hw1⟩
      subst hw1
      rw [← HZ.out]
      go_wp2
      go_ret2
      exact ⟨rfl, c, Stp.refl _ _ _, H.out⟩
end
end Go.Proofs.YtiphdedfbafhkaaGreatDoor

namespace Go.Proofs.YtiphdedfbafhkaaGreatDoor
open Go.RowKit

section
variable {c c' : Nat → Nat} {k : Nat} {w w' : World} {p tp : Nat} {now : Int} {dl dl' : List Tm} {lo : Option Addr} {lcap : Nat} {l l' : List One} {rs : Value}
set_option maxRecDepth 100000 in
theorem r14halt_ok (h : DW c k w p tp now dl lo lcap l rs) (k2 : Nat) (hk : 8 ≤ k ∧ k ≤ 10 ∧ 8 ≤ k2 ∧ k2 ≤ 10 ∧ k ≠ k2) {j : Nat} {x : One} (hj : l[j]? = some x) (hx : x.state ≠ 2) (hn : dl.length ≤ 1000) :
    Calls Tryz.prog 97 #[.pointer (some ⟨p, 0, none⟩), .int .i64 j] w fun e w' => e = .returned (.int .i64 0) ∧ ∃ lo' lcap' c', Stp JD c c' w w' ∧ DW c' k2 w' p tp now (dl.filter (stays j)) lo' lcap' (l.set j { x with state := 2, token := false }) rs := by
  have H := Lib.hid h
  have HK := Lib.hid hk
  have HN := Lib.hid hn
  have Hj := Lib.hid hj
  obtain ⟨p0, p1, p2, p3, p4, lp⟩ := h.cells
  have HWZ := Lib.hid (show wrongAt l (j : Int) = 0 by rw [wrong_eq hj, if_neg hx])
  have hjl : (j : Int) < (l.length : Int) := by have := (List.getElem?_eq_some_iff.1 hj).1; omega
  have hj0 : (0 : Int) ≤ (j : Int) := by omega
  clear h hk hn hj hx
  go_enter Tryz.func97, Tryz.ntmps97
  go_wp2_with fail
  refine (r14wrong_any H.out j).mono ?_
  rintro e w1 ⟨rfl, hw1⟩
  subst hw1
  rw [HWZ.out]
  go_wp2_with fail
  refine (r04drop_any H.out.tm rfl k2 HK.out.2.2.2.2 HN.out now j).mono ?_
  rintro e w2 ⟨lo2, N, lcap2, rfl, hN, c2, t2, r2⟩
  subst hN
  have B2 := Lib.hid (H.out.hb.stp t2 (by have := HK.out; omega))
  have TB2 := Lib.hid (H.out.tb.stp t2 (by have := HK.out; omega) (by have := HK.out; omega) (by have := HK.out; omega) (by have := HK.out; omega))
  have R2 := Lib.hid r2
  have S2 := Lib.hid (t2.mono (J' := JD) (fun j h => by have := HK.out; unfold JD; omega))
  clear t2 r2 p0 p1 p2 p3 p4 lp
  have b0 := B2.out.cell 0
  have b1 := B2.out.cell 1
  have f0 := B2.out.free 0
  have f1 := B2.out.free 1
  have lb := B2.out.lt
  simp at b0 b1
  have T3 := Lib.hid (((Stp.refl (· = 7) c2 w2).setCell (p := ⟨p, 0, none⟩) (.int .i64 now) B2.out.1).setCell (p := ⟨p, 1, none⟩) (.slice lo2 (dl.filter (stays j)).length lcap2) B2.out.1)
  have B3 := Lib.hid (two_cells B2.out (.int .i64 now) (.slice lo2 (dl.filter (stays j)).length lcap2))
  have TB3 := Lib.hid (TB2.out.stp T3.out (by decide) (by decide) (by decide) (by decide))
  have R3 := Lib.hid (R2.out.stp T3.out (by have := HK.out; omega))
  have S3 := Lib.hid (S2.out.trans (T3.out.mono (fun j h => by unfold JD; omega)))
  clear TB2 R2 S2 T3
  go_upto_region 5 with fail
  clear b0 b1 f0 f1 lb B2
  generalize (w2.setCell ⟨p, 0, none⟩ (.int .i64 now)).setCell ⟨p, 1, none⟩ (.slice lo2 (dl.filter (stays j)).length lcap2) = w3 at B3 TB3 R3 S3 ⊢
  have b2 := B3.out.cell 2
  have lb := B3.out.lt
  simp at b2
  obtain ⟨sa, ta, wa, sc, tc, wc, hT⟩ := TB3.out
  obtain ⟨g, off, rfl, hc, hf, hg⟩ := hT.rs.open1 Hj.out
  have q0 := hT.hb.cell 0
  have q1 := hT.hb.cell 1
  have lq := hT.hb.lt
  simp at q0 q1
  have HT4 := Lib.hid (hT.setState Hj.out 2)
  have T4 := Lib.hid ((Stp.refl (fun j => 3 ≤ j ∧ j ≤ 6) c2 w3).setCell (p := ⟨g, off + j, none⟩) (.int .i64 2) (by show 3 ≤ c2 g ∧ c2 g ≤ 6; omega))
  have B4 := Lib.hid (B3.out.stp T4.out (by omega))
  have R4 := Lib.hid (R3.out.stp T4.out (by have := HK.out; omega))
  have S4 := Lib.hid (S3.out.trans (T4.out.mono JD.t))
  clear hT TB3 R3 S3 T4
  go_upto_region 6 with fail
  clear b2 lb B3 q0 q1 lq hc hf hg
  generalize w3.setCell ⟨g, off + j, none⟩ (.int .i64 2) = w4 at HT4 B4 R4 S4 ⊢
  have Hj4 := Lib.hid (show (l.set j { x with state := 2 })[j]? = some { x with state := 2 } from List.getElem?_set_self (List.getElem?_eq_some_iff.1 Hj.out).1)
  have b2 := B4.out.cell 2
  have lb := B4.out.lt
  simp at b2
  obtain ⟨g5, off5, rfl, hc, hf, hg⟩ := HT4.out.rt.open1 Hj4.out
  have q1 := HT4.out.hb.cell 1
  have lq := HT4.out.hb.lt
  simp at q1
  have HT5 := Lib.hid (HT4.out.setToken Hj4.out false)
  have T5 := Lib.hid ((Stp.refl (fun j => 3 ≤ j ∧ j ≤ 6) c2 w4).setCell (p := ⟨g5, off5 + j, none⟩) (.bool false) (by show 3 ≤ c2 g5 ∧ c2 g5 ≤ 6; omega))
  have B5 := Lib.hid (B4.out.stp T5.out (by omega))
  have R5 := Lib.hid (R4.out.stp T5.out (by have := HK.out; omega))
  have S5 := Lib.hid (S4.out.trans (T5.out.mono JD.t))
  clear HT4 B4 R4 S4 T5
  go_wp2
  go_ret
  refine ⟨rfl, lo2, lcap2, c2, S5.out, B5.out, R5.out.toIn, ?_⟩
  have := HT5.out
  rw [List.set_set] at this
  exact ⟨_, _, _, _, _, _, this⟩

theorem r14halt_any (h : DWs c w p tp now dl l rs) (who : Int) (hl : dl.length ≤ 1000) :
    Calls Tryz.prog 97 #[.pointer (some ⟨p, 0, none⟩), .int .i64 who] w fun e w' => e = .returned (.int .i64 (wrongAt l who)) ∧ ∃ c', Stp JD c c' w w' ∧ DWs c' w' p tp now (if wrongAt l who = 0 then dl.filter (stays who) else dl) (if wrongAt l who = 0 then l.set who.toNat { l.getD who.toNat ⟨0, false, 0⟩ with state := 2, token := false } else l) rs := by
  by_cases he : wrongAt l who = 0
  · rw [if_pos he, if_pos he, he]
    obtain ⟨j, x, rfl, hj, hx, hg, hn⟩ := rright_of he
    rw [hg, hn]
    obtain ⟨k, lo, lcap, hk, h⟩ := h
    rcases hk with rfl | rfl
    · refine (r14halt_ok h 10 (by decide) hj hx hl).mono ?_
      rintro e w1 ⟨rfl, lo', lcap', c1, t1, r1⟩
      exact ⟨rfl, c1, t1, 10, lo', lcap', .inr rfl, r1⟩
    · refine (r14halt_ok h 8 (by decide) hj hx hl).mono ?_
      rintro e w1 ⟨rfl, lo', lcap', c1, t1, r1⟩
      exact ⟨rfl, c1, t1, 8, lo', lcap', .inl rfl, r1⟩
  · rw [if_neg he, if_neg he]
    have H := Lib.hid h
    have hne : (wrongAt l who != 0) = true := by simpa using he
    obtain ⟨z, hz⟩ : ∃ z, z = wrongAt l who := ⟨_, rfl⟩
    have HZ := Lib.hid hz
    rw [← hz] at hne ⊢
    clear h hl he hz
    go_enter Tryz.func97, Tryz.ntmps97
    go_wp2_with fail
    refine (H.out.wrong who).mono ?_
    rintro e w1 ⟨rfl, hw1⟩
    subst hw1
    rw [← HZ.out]
    go_wp2
    go_ret
    exact ⟨rfl, c, Stp.refl _ _ _, H.out⟩
end
end Go.Proofs.YtiphdedfbafhkaaGreatDoor

namespace Go.Proofs.YtiphdedfbafhkaaGreatDoor
open Go.RowKit

def rwakesT : List Int → List One → List One
  | [], l => l
  | who :: ws, l => rwakesT ws (rwakeT l who).1

section
variable {c c' : Nat → Nat} {k : Nat} {w w' : World} {p tp : Nat} {now : Int} {dl dl' : List Tm} {lo : Option Addr} {lcap : Nat} {l l' : List One} {rs : Value}
theorem DWs.wk (h : DWs c w p tp now dl l rs) {W : World} (hW : Stp (fun _ => False) c c w W) (who : Int) (hw : ∀ x ∈ l, 0 ≤ x.wakes ∧ x.wakes ≤ 4611686018427387903) :
    Calls Tryz.prog 130 #[.pointer (some ⟨tp, 0, none⟩), .int .i64 who] W fun e w' => e = .returned (.tuple #[.bool (rwakeT l who).2.1, .int .i64 (rwakeT l who).2.2]) ∧ ∃ c', Hid (Stp (fun j => 3 ≤ j ∧ j ≤ 6) c c' w w') ∧ Hid (DWs c' w' p tp now dl (rwakeT l who).1 rs) ∧ w'.cell? ⟨p, 2, none⟩ = some (.pointer (some ⟨tp, 0, none⟩)) := by
  have h1 := h.stp hW (fun _ h => h.elim)
  obtain ⟨_, _, -, -, -, -, tb⟩ := h1.cells
  refine (r05wake_any tb who hw).mono ?_
  rintro e w' ⟨rfl, c', t, g⟩
  have h2 := h1.table t g
  obtain ⟨_, _, -, -, q2, -, -⟩ := h2.cells
  exact ⟨rfl, c', Lib.hid ((hW.mono (fun _ h => h.elim)).trans t), Lib.hid h2, q2⟩

set_option maxRecDepth 100000 in
set_option maxHeartbeats 2000000 in
theorem r14tick_k (h : DW c k w p tp now dl lo lcap l rs) (k2 : Nat) (hk : (k = 8 ∧ k2 = 10) ∨ (k = 10 ∧ k2 = 8)) (d : Int) (hn : dl.length ≤ 1000) (hnow : 0 ≤ now) (hd : 1 ≤ d) (hd2 : d ≤ 1099511627776 - now) {B : Int} (hw : RWakesOK l B) (hB : 0 ≤ B ∧ B ≤ 1099511627776) :
    Calls Tryz.prog 95 #[.pointer (some ⟨p, 0, none⟩), .int .i64 d] w fun e w' => ∃ oo n oc, e = .returned (.tuple #[.slice oo n oc, .int .i64 0]) ∧ ∃ mm, srt mm = (srt dl).dropWhile (fun x => decide (x.at_ ≤ now + d)) ∧ ∃ c', Stp (fun j => JD j ∨ j = 13) c c' w w' ∧ DWs c' w' p tp (now + d) mm (rwakesT (((srt dl).takeWhile fun x => decide (x.at_ ≤ now + d)).map Tm.who) l) rs ∧
      Row c' 13 w' 3 1 oo n oc ((((srt dl).takeWhile fun x => decide (x.at_ ≤ now + d)).map Tm.who).map (Value.int .i64)) := by
  obtain ⟨ws, hws⟩ : ∃ ws, ws = ((srt dl).takeWhile fun x => decide (x.at_ ≤ now + d)).map Tm.who := ⟨_, rfl⟩
  obtain ⟨Z, hZ⟩ : ∃ Z, Z = rwakesT ws l := ⟨_, rfl⟩
  have H := Lib.hid h
  have HK := Lib.hid hk
  have HN := Lib.hid hn
  have HWS := Lib.hid (show ((srt dl).takeWhile fun x => decide (x.at_ ≤ now + d)).map (fun x : Tm => Value.int .i64 x.who) = ws.map (Value.int .i64) by rw [hws, List.map_map]; rfl)
  have HCAP := Lib.hid (show ws.length ≤ (srt dl).length ∧ (srt dl).length = dl.length by
    refine ⟨?_, srt_len dl⟩
    rw [hws, List.length_map]
    exact (List.takeWhile_sublist (l := srt dl) (fun x => decide (x.at_ ≤ now + d))).length_le)
  rw [← hws, ← hZ]
  have HZ := Lib.hid hZ
  have HW := Lib.hid hw
  have HB := Lib.hid hB
  have HD := Lib.hid (And.intro hnow (And.intro hd hd2))
  obtain ⟨p0, p1, p2, p3, p4, lp⟩ := h.cells
  clear h hk hn hws hZ hw hB hnow hd hd2
  go_enter Tryz.func95, Tryz.ntmps95
  go_wp2_with fail
  refine (r04tick_ok H.out.tm rfl k2 13 (by have := HK.out; omega) (by have := HK.out; omega) (by have := HK.out; omega) (by have := HK.out; omega) HN.out now d HD.out.1 HD.out.2.1 HD.out.2.2).mono ?_
  rintro e w2 ⟨lo2, n2, lcap2, oo, n, oc, mm, k3, rfl, hmm, hk3, hsr, c2, t2, i2, r2⟩
  rw [HWS.out] at r2
  have S2 := Lib.hid (t2.mono (J' := fun j => JD j ∨ j = 13) (fun j h => by have := HK.out; unfold TJ at h; unfold JD; omega))
  have B2 := Lib.hid (H.out.hb.stp t2 (by have := HK.out; unfold TJ; omega))
  have TB2 := Lib.hid (H.out.tb.stp t2 (by have := HK.out; unfold TJ; omega) (by have := HK.out; unfold TJ; omega) (by have := HK.out; unfold TJ; omega) (by have := HK.out; unfold TJ; omega))
  have I2 := Lib.hid i2
  have R2 := Lib.hid r2
  have K3 := Lib.hid (show k3 = 8 ∨ k3 = 10 by have := HK.out; omega)
  have HSR := Lib.hid hsr
  have HMM := Lib.hid hmm
  have HLN := Lib.hid (show ws.length = n by simpa using r2.1)
  clear t2 i2 r2 hmm hk3 hsr p0 p1 p2 p3 p4 lp
  obtain ⟨xb, hxb⟩ : ∃ x, x = w2.heap.size := ⟨_, rfl⟩
  obtain ⟨c3, hc3, t3⟩ := ((Stp.refl (fun _ => False) c2 w2).alloc (.cells #[.int .i64 (now + d), .slice lo2 n2 lcap2] 155) 14).name
  have S3 := Lib.hid (S2.out.trans (t3.out.mono (fun _ h => h.elim)))
  have B3 := Lib.hid (B2.out.stp t3.out id)
  have TB3 := Lib.hid (TB2.out.stp t3.out id id id id)
  have I3 := Lib.hid (I2.out.stp t3.out id)
  have R3 := Lib.hid (R2.out.stp t3.out id)
  have X3 := Lib.hid (show Blk c3 14 (w2.alloc (.cells #[.int .i64 (now + d), .slice lo2 n2 lcap2] 155)) xb [.int .i64 (now + d), .slice lo2 n2 lcap2] 155 by rw [hc3.out, hxb]; exact Blk.new c2 14 w2 _ _)
  clear S2 B2 TB2 I2 R2 hc3 t3
  go_upto_region 2 with fail
  rw [← hxb]
  generalize w2.alloc (.cells #[.int .i64 (now + d), .slice lo2 n2 lcap2] 155) = w3 at S3 B3 TB3 I3 R3 X3 ⊢
  clear hxb
  have x0 := X3.out.cell 0
  have x1 := X3.out.cell 1
  have b0 := B3.out.cell 0
  have b1 := B3.out.cell 1
  have f0 := B3.out.free 0
  have f1 := B3.out.free 1
  have lb := B3.out.lt
  simp at x0 x1 b0 b1
  have T4 := Lib.hid (((Stp.refl (· = 7) c3 w3).setCell (p := ⟨p, 0, none⟩) (.int .i64 (now + d)) B3.out.1).setCell (p := ⟨p, 1, none⟩) (.slice lo2 n2 lcap2) B3.out.1)
  have B4 := Lib.hid (two_cells B3.out (.int .i64 (now + d)) (.slice lo2 n2 lcap2))
  have D4 := Lib.hid (show DWs c3 ((w3.setCell ⟨p, 0, none⟩ (.int .i64 (now + d))).setCell ⟨p, 1, none⟩ (.slice lo2 n2 lcap2)) p tp (now + d) mm l rs from ⟨k3, lo2, lcap2, K3.out, by rw [HMM.out]; exact B4.out, by rw [HMM.out]; exact I3.out.stp T4.out (by have := K3.out; omega), TB3.out.stp T4.out (by decide) (by decide) (by decide) (by decide)⟩)
  have R4 := Lib.hid (R3.out.stp T4.out (by decide))
  have S4 := Lib.hid (S3.out.trans (T4.out.mono (fun j h => Or.inl (by unfold JD; omega))))
  clear B3 TB3 I3 R3 S3 T4 B4
  go_upto_region 5 with fail
  clear x0 x1 b0 b1 f0 f1 lb X3
  generalize (w3.setCell ⟨p, 0, none⟩ (.int .i64 (now + d))).setCell ⟨p, 1, none⟩ (.slice lo2 n2 lcap2) = w4 at D4 R4 S4 ⊢
  go_wp2
  go_loopg [9] n (fun gh iv wr => ∃ (c1 : Nat → Nat) (j : Nat) (l1 : List One), iv = .int .i64 j ∧ j + gh = n ∧ Hid (rwakesT (ws.drop j) l1 = Z) ∧ Hid (RWakesOK l1 (B + j)) ∧ Hid (DWs c1 wr p tp (now + d) mm l1 rs) ∧ Hid (Row c1 13 wr 3 1 oo n oc (ws.map (Value.int .i64))) ∧ Hid (Stp (fun j => JD j ∨ j = 13) c c1 w wr))
  case atStart => exact ⟨c3, 0, l, rfl, by omega, Lib.hid HZ.out.symm, Lib.hid (by simpa using HW.out), D4, R4, S4⟩
  case round =>
    obtain ⟨c1, j, l1, rfl, hj, HS, HW1, HM1, HR1, ST1⟩ := hrel
    clear HZ HW D4 R4 S4
    by_cases hlt : j < n
    · have hjl : j < ws.length := by rw [HLN.out]; exact hlt
      obtain ⟨b, hb, y0⟩ := HR1.out.toIn.ints (j := j) hlt
      subst hb
      obtain ⟨who, hwho⟩ : ∃ z, z = ws.getD j 0 := ⟨_, rfl⟩
      have HWJ := Lib.hid hwho
      rw [← hwho] at y0
      have hdrop : ws.drop j = who :: ws.drop (j + 1) := by
        rw [List.drop_eq_getElem_cons hjl, hwho]
        simp [List.getD, hjl]
      rw [hdrop] at HS
      have g3 : (j : Int) < (n : Int) := by omega
      have hws1 : ws.length ≤ 1000 := by
        have h1 := HN.out
        have h2 := HLN.out
        have h3 := HCAP.out
        omega
      have HJ := Lib.hid (show j + 1 + (gk - 1) = n ∧ gk - 1 < gk by omega)
      have hj9 : j ≤ 1000 := by omega
      obtain ⟨_, _, -, -, q2, lq, -⟩ := HM1.out.cells
      have HWK := Lib.hid (fun (W : World) (hW : Stp (fun _ => False) c1 c1 wr W) => (HM1.out.wk hW who (HW1.out.mono (by have := HB.out; omega))).mono (fun e w' (h : e = .returned (.tuple #[.bool (rwakeT l1 who).2.1, .int .i64 (rwakeT l1 who).2.2]) ∧ ∃ c', Hid (Stp (fun j => 3 ≤ j ∧ j ≤ 6) c1 c' wr w') ∧ Hid (DWs c' w' p tp (now + d) mm (rwakeT l1 who).1 rs) ∧ w'.cell? ⟨p, 2, none⟩ = some (.pointer (some ⟨tp, 0, none⟩))) =>
        show e = .returned (.tuple #[.bool (rwakeT l1 who).2.1, .int .i64 (rwakeT l1 who).2.2]) ∧ ∃ c', Hid (Stp (fun j => 3 ≤ j ∧ j ≤ 6) c1 c' wr w') ∧ Hid (DWs c' w' p tp (now + d) mm (rwakeT l1 who).1 rs) ∧ w'.cell? ⟨p, 2, none⟩ = some (.pointer (some ⟨tp, 0, none⟩)) ∧ w'.cell? (b.add j) = some (.int .i64 who) by
          obtain ⟨he, c', t, D, q⟩ := h
          obtain ⟨b', hb', y0'⟩ := (HR1.out.stp t.out (by omega)).toIn.ints (j := j) hlt
          cases hb'
          rw [← hwho] at y0'
          exact ⟨he, c', t, D, q, y0'⟩))
      clear hjl hdrop hwho hj hws1
      have HLT := Lib.hid hlt
      clear hlt
      go_wp2
      go_region_held3 (fun w' => w'.cell? ⟨p, 2, none⟩ = some (.pointer (some ⟨tp, 0, none⟩)) ∧ w'.cell? (b.add j) = some (.int .i64 who))
        (first | exact ⟨by assumption, by assumption⟩ | go_keep)
        (first | (go_at_call 130; refine (HWK.out _ (by first | exact (Stp.refl _ _ _).drew | exact Stp.refl _ _ _)).mono ?_; rintro e w5 ⟨rfl, c5, T5, D5, q2, y0⟩))
      have R5 := Lib.hid (HR1.out.stp T5.out (by omega))
      have ST5 := Lib.hid (ST1.out.trans (T5.out.mono (fun j h => Or.inl (JD.t j h))))
      have HW5 := Lib.hid (HW1.out.wake who (by have := HB.out; omega))
      have HS5 := Lib.hid (show rwakesT (ws.drop (j + 1)) (rwakeT l1 who).1 = Z from HS.out)
      clear HWK HM1 HR1 ST1 HW1 HS T5
      generalize (rwakeT l1 who).1 = l2 at *
      go_wp2
      go_roundg (gk - 1)
      case rel => exact ⟨c5, j + 1, l2, by go_num, HJ.out.1, HS5, Lib.hid (HW5.out.mono (by omega)), D5, R5, ST5⟩
      case measure => exact HJ.out.2
    · have hjn : j = n := by omega
      subst hjn
      have hE : Z = l1 := by
        rw [← HS.out, ← HLN.out, List.drop_length]
        rfl
      have HE := Lib.hid hE
      have g3 : ¬ (j : Int) < (j : Int) := Int.lt_irrefl _
      clear hE hlt hj HS
      go_wp2
      go_ret2
      rw [HE.out]
      exact ⟨oo, j, oc, rfl, mm, HSR.out, c1, ST1.out, HM1.out, HR1.out⟩

theorem r14tick_ok (h : DWs c w p tp now dl l rs) (d : Int) (hn : dl.length ≤ 1000) (hnow : 0 ≤ now) (hd : 1 ≤ d) (hd2 : d ≤ 1099511627776 - now) {B : Int} (hw : RWakesOK l B) (hB : 0 ≤ B ∧ B ≤ 1099511627776) :
    Calls Tryz.prog 95 #[.pointer (some ⟨p, 0, none⟩), .int .i64 d] w fun e w' => ∃ oo n oc, e = .returned (.tuple #[.slice oo n oc, .int .i64 0]) ∧ ∃ mm, srt mm = (srt dl).dropWhile (fun x => decide (x.at_ ≤ now + d)) ∧ ∃ c', Stp (fun j => JD j ∨ j = 13) c c' w w' ∧ DWs c' w' p tp (now + d) mm (rwakesT (((srt dl).takeWhile fun x => decide (x.at_ ≤ now + d)).map Tm.who) l) rs ∧
      Row c' 13 w' 3 1 oo n oc ((((srt dl).takeWhile fun x => decide (x.at_ ≤ now + d)).map Tm.who).map (Value.int .i64)) := by
  obtain ⟨k, lo, lcap, hk, h⟩ := h
  rcases hk with rfl | rfl
  · exact r14tick_k h 10 (.inl ⟨rfl, rfl⟩) d hn hnow hd hd2 hw hB
  · exact r14tick_k h 8 (.inr ⟨rfl, rfl⟩) d hn hnow hd hd2 hw hB
end
end Go.Proofs.YtiphdedfbafhkaaGreatDoor

namespace Go.Proofs.YtiphdedfbafhkaaGreatDoor
open Go.RowKit

theorem flat_same {α : Type} (enc : α → List Value) : ∀ (l : List α) (j : Nat) (x y : α), l[j]? = some x → enc y = enc x → (l.set j y).flatMap enc = l.flatMap enc
  | [], j, x, y, h, _ => by simp at h
  | z :: l, 0, x, y, h, he => by
    simp at h; subst h
    simp [he]
  | z :: l, j + 1, x, y, h, he => by
    simp at h
    simp only [List.set_cons_succ, List.flatMap_cons]
    rw [flat_same enc l j x y h he]

section
variable {c c' : Nat → Nat} {w w' : World} {p tp : Nat} {now : Int} {dl dl' : List Tm} {l l' : List One} {ro : Option Addr} {rcap : Nat} {R : List DR} {i : Nat} {d d' : DR} {a b : Addr}
/-- One of a ring's shown numbers is set. -/
theorem DWR.show1 (h : DWR c w p tp now dl l ro rcap R) (hd : R[i]? = some d) (hb : d.so = some b) {s : Nat} (hs : s < d.shown.length) (v : Int) :
    Stp (· = dk i) c c w (w.setCell (b.add s) (.int .i64 v)) ∧ DWR c (w.setCell (b.add s) (.int .i64 v)) p tp now dl l ro rcap (R.set i { d with shown := d.shown.set s v }) ∧ w.frozen? (b.add s) = false ∧ (b.add s).block < w.heap.size ∧ ∃ u, w.cell? (b.add s) = some u := by
  have hi : i < R.length := (List.getElem?_eq_some_iff.1 hd).1
  obtain ⟨hsh, hwl⟩ := h.rs.sh i d hd
  have hx : (d.shown.map (Value.int .i64))[s]? = some (.int .i64 (d.shown.getD s 0)) := by simp [List.getD, hs]
  obtain ⟨b', hb', hsp, hcell, hf, ea, hk⟩ := hsh.cell hx
  rw [hb] at hb'
  cases hb'
  have t : Stp (· = dk i) c c w (w.setCell (b.add s) (.int .i64 v)) := (Stp.refl (· = dk i) c w).setCell (p := b.add s) (.int .i64 v) (by rw [ea]; exact hk)
  have hlt : (b.add s).block < w.heap.size := World.block_lt_of_cell? w _ hcell
  refine ⟨t, ⟨?_, ?_, ?_⟩, hf, hlt, _, hcell⟩
  · rw [List.length_set]
    exact h.wd.stp t (fun j hj => by unfold JD; unfold dk at hj; omega)
  · rw [List.length_set, flat_same DR.cells R i d _ hd (by simp [DR.cells])]
    exact h.rs.rr.stp t (by unfold dk; omega)
  · intro j y hy
    by_cases hj : i = j
    · subst hj
      rw [List.getElem?_set_self hi] at hy
      cases hy
      refine ⟨?_, hwl.stp t (by unfold dk; omega)⟩
      rw [hb] at hsh
      have h1 := hsh.set s (.int .i64 v) (by simpa using hs)
      simp only [hb, List.length_set, List.map_set]
      rw [ea]
      exact h1
    · rw [List.getElem?_set_ne hj] at hy
      exact ⟨(h.rs.sh j y hy).1.stp t (by unfold dk; omega), (h.rs.sh j y hy).2.stp t (by unfold dk; omega)⟩

set_option maxRecDepth 100000 in
theorem r14show_none (h : DWR c w p tp now dl l ro rcap R) (k at0 hi : Int) (hk : k < 0 ∨ (R.length : Int) ≤ k) :
    Calls Tryz.prog 99 #[.pointer (some ⟨p, 0, none⟩), .int .i64 k, .int .i64 at0, .int .i64 hi] w fun e w' => e = .returned (.tuple #[.int .i64 0, .int .i64 3]) ∧ w = w' := by
  obtain ⟨r4, lp⟩ := h.r4
  have t : decide (k < 0) = true ∨ (decide (k < 0) = false ∧ decide ((R.length : Int) ≤ k) = true) := by
    simp only [decide_eq_true_eq, decide_eq_false_iff_not]; omega
  clear h hk
  rcases t with g0 | ⟨g0, g1⟩
  all_goals
    go_enter Tryz.func99, Tryz.ntmps99
    go_wp2
    go_ret2
    exact ⟨rfl, rfl⟩

set_option maxRecDepth 100000 in
theorem r14show_back (h : DWR c w p tp now dl l ro rcap R) (hd : R[i]? = some d) (at0 hi : Int) (hb : hi < at0) :
    Calls Tryz.prog 99 #[.pointer (some ⟨p, 0, none⟩), .int .i64 (i : Int), .int .i64 at0, .int .i64 hi] w fun e w' => e = .returned (.tuple #[.int .i64 0, .int .i64 1]) ∧ w = w' := by
  obtain ⟨r4, lp⟩ := h.r4
  obtain ⟨a, rfl, hs, -, h0, -⟩ := h.ringA hd
  obtain ⟨i0, i1⟩ := h.lt hd
  have g0 : decide ((i : Int) < 0) = false := by simp
  have g1 : decide (R.length ≤ i) = false := by simp; omega
  have g2 : decide (hi < at0) = true := by simpa using hb
  clear h hd hb hs
  go_enter Tryz.func99, Tryz.ntmps99
  go_wp2
  go_ret2
  exact ⟨rfl, rfl⟩

set_option maxRecDepth 100000 in
theorem r14show_sbad (h : DWR c w p tp now dl l ro rcap R) (hd : R[i]? = some d) (hm : d.many = false) (at0 hi : Int) (h0 : at0 ≤ hi) (hb : hi ≤ d.pub ∨ d.cl < hi) :
    Calls Tryz.prog 99 #[.pointer (some ⟨p, 0, none⟩), .int .i64 (i : Int), .int .i64 at0, .int .i64 hi] w fun e w' => e = .returned (.tuple #[.int .i64 0, .int .i64 1]) ∧ w = w' := by
  obtain ⟨r4, lp⟩ := h.r4
  obtain ⟨a, rfl, hs, -, k0, k1, k2, k3, -⟩ := h.ringA hd
  obtain ⟨i0, i1⟩ := h.lt hd
  have g0 : decide ((i : Int) < 0) = false := by simp
  have g1 : decide (R.length ≤ i) = false := by simp; omega
  have g2 : decide (hi < at0) = false := by simp; omega
  have t : decide (hi ≤ d.pub) = true ∨ (decide (hi ≤ d.pub) = false ∧ decide (d.cl < hi) = true) := by
    simp only [decide_eq_true_eq, decide_eq_false_iff_not]; omega
  rw [hm] at k1
  clear h hd hb hs hm h0
  rcases t with g3 | ⟨g3, g4⟩
  all_goals
    go_enter Tryz.func99, Tryz.ntmps99
    go_wp2
    go_ret2
    exact ⟨rfl, rfl⟩

set_option maxRecDepth 100000 in
theorem r14show_s (h : DWR c w p tp now dl l ro rcap R) (hd : R[i]? = some d) (hm : d.many = false) (at0 hi : Int) (h0 : at0 ≤ hi) (h1 : d.pub < hi) (h2 : hi ≤ d.cl) (h3 : -9223372036854775808 ≤ hi ∧ hi ≤ 4611686018427387904) :
    Calls Tryz.prog 99 #[.pointer (some ⟨p, 0, none⟩), .int .i64 (i : Int), .int .i64 at0, .int .i64 hi] w fun e w' => e = .returned (.tuple #[.int .i64 (hi + 1), .int .i64 0]) ∧ Stp (· = 12) c c w w' ∧ DWR c w' p tp now dl l ro rcap (R.set i { d with pub := hi }) := by
  obtain ⟨r4, lp⟩ := h.r4
  obtain ⟨a, rfl, hs, -, k0, k1, k2, k3, -⟩ := h.ringA hd
  obtain ⟨i0, i1⟩ := h.lt hd
  have g0 : decide ((i : Int) < 0) = false := by simp
  have g1 : decide (R.length ≤ i) = false := by simp; omega
  have g2 : decide (hi < at0) = false := by simp; omega
  have g3 : decide (hi ≤ d.pub) = false := by simp; omega
  have g4 : decide (d.cl < hi) = false := by simp; omega
  have v1 : wrap64 (hi + 1) = hi + 1 := IntWalk.wrap64_in _ (by constructor <;> omega)
  have v2 : IntKind.i64.wrap (hi + 1) = hi + 1 := (IntWalk.i64_left _).trans v1
  have HP := Lib.hid (h.put hd (d' := { d with pub := hi }) (f := 3) (v := .int .i64 hi) (u := .int .i64 d.pub) rfl rfl (h.rs.sh i d hd))
  have hfz : w.frozen? ⟨(a.add (i * 9)).block, (a.add (i * 9)).off + 3, none⟩ = false := by
    have hx : (R.flatMap DR.cells)[i * 9 + 3]? = some (.int .i64 d.pub) := by
      rw [flat_get DR.cells 9 DR.len 3 (by decide) R i d hd]
      rfl
    obtain ⟨a', ha', hs', -, hf, ea, -⟩ := h.rs.rr.cell hx
    cases ha'
    rw [ea] at hf
    rw [add_flat hs (i * 9)]
    simpa [Nat.add_assoc] using hf
  rw [hm] at k1
  clear h hd hs hm h0 h1 h2 h3
  go_enter Tryz.func99, Tryz.ntmps99
  go_wp2
  go_ret2
  exact ⟨rfl, HP.out.1, HP.out.2⟩

set_option maxRecDepth 100000 in
theorem r14show_mbad (h : DWR c w p tp now dl l ro rcap R) (hd : R[i]? = some d) (hm : d.many = true) (at0 hi : Int) (h0 : at0 ≤ hi) (hb : at0 < 0 ∨ d.cl < at0) :
    Calls Tryz.prog 99 #[.pointer (some ⟨p, 0, none⟩), .int .i64 (i : Int), .int .i64 at0, .int .i64 hi] w fun e w' => e = .returned (.tuple #[.int .i64 0, .int .i64 1]) ∧ w = w' := by
  obtain ⟨r4, lp⟩ := h.r4
  obtain ⟨a, rfl, hs, -, k0, k1, k2, k3, -⟩ := h.ringA hd
  obtain ⟨i0, i1⟩ := h.lt hd
  have g0 : decide ((i : Int) < 0) = false := by simp
  have g1 : decide (R.length ≤ i) = false := by simp; omega
  have g2 : decide (hi < at0) = false := by simp; omega
  have t : decide (at0 < 0) = true ∨ (decide (at0 < 0) = false ∧ decide (d.cl < at0) = true) := by
    simp only [decide_eq_true_eq, decide_eq_false_iff_not]; omega
  rw [hm] at k1
  clear h hd hb hs hm h0
  rcases t with g3 | ⟨g3, g4⟩
  all_goals
    go_enter Tryz.func99, Tryz.ntmps99
    go_wp2
    go_ret2
    exact ⟨rfl, rfl⟩
end
end Go.Proofs.YtiphdedfbafhkaaGreatDoor
