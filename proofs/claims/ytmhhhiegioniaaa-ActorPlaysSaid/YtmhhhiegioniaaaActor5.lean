/- Contracts of the document's Park, Wake, Add, Runnable for actors, where they do something. No condition beyond each contract's own. -/
import Derived.Test.YtmhhhiegioniaaaActor4
namespace Go.Proofs.Ytmhhhiegioniaaa
open Go.RowKit

theorem wrong_zero {l : List One} {j : Nat} {x : One} (hj : l[j]? = some x) (hx : x.state ≠ 2) : wrongAt l (j : Int) = 0 := by
  rw [wrong_eq hj, if_neg hx]

theorem r05wrong_ok {c : Nat → Nat} {w : World} {p : Nat} {l : List One} (h : RTabAt c w p l) {j : Nat} {x : One} (hj : l[j]? = some x) (hx : x.state ≠ 2) :
    Calls Try.prog 53 #[.pointer (some ⟨p, 0, none⟩), .int .i64 j] w fun e w' => e = .returned (.int .i64 0) ∧ w = w' :=
  (r05wrong_any h _).mono fun _ _ ⟨he, hw⟩ => ⟨by rw [he, wrong_zero hj hx], hw⟩

theorem r05park_token {c : Nat → Nat} {w : World} {p : Nat} {l : List One} (h : RTabAt c w p l) (j : Nat) {x : One} (hj : l[j]? = some x) (hx : x.state ≠ 2) (ht : x.token = true) :
    Calls Try.prog 51 #[.pointer (some ⟨p, 0, none⟩), .int .i64 j] w fun e w' => e = .returned (.tuple #[.bool false, .int .i64 0]) ∧ ∃ c', Stp (3 ≤ ·) c c' w w' ∧ RTabAt c' w' p (l.set j { x with token := false }) := by
  have H := Lib.hid h
  have Hj := Lib.hid hj
  have Hx := Lib.hid hx
  obtain ⟨sa, ta, wa, sc, tc, wc, h⟩ := h
  obtain ⟨g, off, rfl, hc, hf, hg⟩ := h.rt.open1 hj
  simp only [tkOf] at hc
  rw [ht] at hc
  have b1 := h.hb.cell 1
  simp at b1
  have HR := Lib.hid h
  have hjl := (List.getElem?_eq_some_iff.1 hj).1
  clear h hj hx ht
  go_enter Try.func51, Try.ntmps51
  go_wp2_with (go_at_call 53; refine (r05wrong_ok H.out Hj.out Hx.out).mono ?_; rintro e w' ⟨rfl, rfl⟩)
  go_ret2
  exact ⟨rfl, c, (Stp.refl _ c w).setCell _ (by show 3 ≤ c g; omega), _, _, _, _, _, _, HR.out.setToken Hj.out false⟩

theorem r05park_yes {c : Nat → Nat} {w : World} {p : Nat} {l : List One} (h : RTabAt c w p l) (j : Nat) {x : One} (hj : l[j]? = some x) (hx : x.state ≠ 2) (ht : x.token = false) :
    Calls Try.prog 51 #[.pointer (some ⟨p, 0, none⟩), .int .i64 j] w fun e w' => e = .returned (.tuple #[.bool true, .int .i64 0]) ∧ ∃ c', Stp (3 ≤ ·) c c' w w' ∧ RTabAt c' w' p (l.set j { x with state := 1 }) := by
  have H := Lib.hid h
  have Hj := Lib.hid hj
  have Hx := Lib.hid hx
  obtain ⟨sa, ta, wa, sc, tc, wc, h⟩ := h
  obtain ⟨g, off, rfl, hc, -, -⟩ := h.rt.open1 hj
  obtain ⟨g2, off2, rfl, hc2, hf2, hg2⟩ := h.rs.open1 hj
  simp only [tkOf, stOf] at hc hc2
  rw [ht] at hc
  have b0 := h.hb.cell 0
  have b1 := h.hb.cell 1
  simp at b0 b1
  have HR := Lib.hid h
  have hjl := (List.getElem?_eq_some_iff.1 hj).1
  clear h hj hx ht
  go_enter Try.func51, Try.ntmps51
  go_wp2_with (go_at_call 53; refine (r05wrong_ok H.out Hj.out Hx.out).mono ?_; rintro e w' ⟨rfl, rfl⟩)
  go_ret2
  exact ⟨rfl, c, (Stp.refl _ c w).setCell _ (by show 3 ≤ c g2; omega), _, _, _, _, _, _, HR.out.setState Hj.out 1⟩

theorem r05wake_parked {c : Nat → Nat} {w : World} {p : Nat} {l : List One} (h : RTabAt c w p l) (j : Nat) {x : One} (hj : l[j]? = some x) (hx : x.state = 1) (h0 : 0 ≤ x.wakes) (h1 : x.wakes < 4611686018427387904) :
    Calls Try.prog 52 #[.pointer (some ⟨p, 0, none⟩), .int .i64 j] w fun e w' => e = .returned (.tuple #[.bool true, .int .i64 0]) ∧ ∃ c', Stp (3 ≤ ·) c c' w w' ∧ RTabAt c' w' p (l.set j { x with state := 0, wakes := x.wakes + 1 }) := by
  have H := Lib.hid h
  have Hj := Lib.hid hj
  have Hx := Lib.hid (show x.state ≠ 2 by omega)
  obtain ⟨sa, ta, wa, sc, tc, wc, h⟩ := h
  obtain ⟨g, off, rfl, hc, hf, hg⟩ := h.rw.open1 hj
  obtain ⟨g2, off2, rfl, hc2, hf2, hg2⟩ := h.rs.open1 hj
  simp only [wkOf, stOf] at hc hc2
  rw [hx] at hc2
  have b0 := h.hb.cell 0
  have b2 := h.hb.cell 2
  simp at b0 b2
  have hne : g ≠ g2 := by rintro rfl; omega
  have hnp : g ≠ p := by have := h.hb.1; rintro rfl; omega
  have hnp2 : g2 ≠ p := by have := h.hb.1; rintro rfl; omega
  have HR := Lib.hid h
  have hjl := (List.getElem?_eq_some_iff.1 hj).1
  have Hg := Lib.hid hg
  have Hg2 := Lib.hid hg2
  clear h hj hx hg hg2
  go_enter Try.func52, Try.ntmps52
  go_wp2_with (go_at_call 53; refine (r05wrong_ok H.out Hj.out Hx.out).mono ?_; rintro e w' ⟨rfl, rfl⟩)
  go_ret2
  have t := (HR.out.setWakes Hj.out (x.wakes + 1)).setState (j := j) (x := { x with wakes := x.wakes + 1 }) (by simp [hjl]) 0
  refine ⟨rfl, c, ((Stp.refl _ c w).setCell _ (by show 3 ≤ c g; have := Hg.out; omega)).setCell _ (by show 3 ≤ c g2; have := Hg2.out; omega), some ⟨g2, off2, none⟩, ta, some ⟨g, off, none⟩, sc, tc, wc, ?_⟩
  simpa using t

theorem r05wake_ready {c : Nat → Nat} {w : World} {p : Nat} {l : List One} (h : RTabAt c w p l) (j : Nat) {x : One} (hj : l[j]? = some x) (hx : x.state ≠ 2) (hx1 : x.state ≠ 1) (h0 : 0 ≤ x.wakes) (h1 : x.wakes < 4611686018427387904) :
    Calls Try.prog 52 #[.pointer (some ⟨p, 0, none⟩), .int .i64 j] w fun e w' => e = .returned (.tuple #[.bool false, .int .i64 0]) ∧ ∃ c', Stp (3 ≤ ·) c c' w w' ∧ RTabAt c' w' p (l.set j { x with token := true, wakes := x.wakes + 1 }) := by
  have H := Lib.hid h
  have Hj := Lib.hid hj
  have Hx := Lib.hid hx
  have hx1' : (x.state == 1) = false := by simpa using hx1
  obtain ⟨sa, ta, wa, sc, tc, wc, h⟩ := h
  obtain ⟨g, off, rfl, hc, hf, hg⟩ := h.rw.open1 hj
  obtain ⟨g2, off2, rfl, hc2, hf2, hg2⟩ := h.rs.open1 hj
  obtain ⟨g3, off3, rfl, hc3, hf3, hg3⟩ := h.rt.open1 hj
  simp only [wkOf, stOf, tkOf] at hc hc2 hc3
  have b0 := h.hb.cell 0
  have b1 := h.hb.cell 1
  have b2 := h.hb.cell 2
  simp at b0 b1 b2
  have hne : g ≠ g2 := by rintro rfl; omega
  have hne3 : g ≠ g3 := by rintro rfl; omega
  have hnp : g ≠ p := by have := h.hb.1; rintro rfl; omega
  have HR := Lib.hid h
  have hjl := (List.getElem?_eq_some_iff.1 hj).1
  have Hg := Lib.hid hg
  have Hg3 := Lib.hid hg3
  clear h hj hx hx1 hg hg2 hg3
  go_enter Try.func52, Try.ntmps52
  go_wp2_with (go_at_call 53; refine (r05wrong_ok H.out Hj.out Hx.out).mono ?_; rintro e w' ⟨rfl, rfl⟩)
  go_ret2
  have t := (HR.out.setWakes Hj.out (x.wakes + 1)).setToken (j := j) (x := { x with wakes := x.wakes + 1 }) (by simp [hjl]) true
  refine ⟨rfl, c, ((Stp.refl _ c w).setCell _ (by show 3 ≤ c g; have := Hg.out; omega)).setCell _ (by show 3 ≤ c g3; have := Hg3.out; omega), some ⟨g2, off2, none⟩, some ⟨g3, off3, none⟩, some ⟨g, off, none⟩, sc, tc, wc, ?_⟩
  simpa using t

theorem r05add_full {c : Nat → Nat} {w : World} {p : Nat} {l : List One} (h : RTabAt c w p l) (hl : 64 ≤ (l.length : Int)) :
    Calls Try.prog 50 #[.pointer (some ⟨p, 0, none⟩)] w fun e w' => e = .returned (.int .i64 8) ∧ w = w' := by
  obtain ⟨sa, ta, wa, sc, tc, wc, h⟩ := h
  have b0 := h.hb.cell 0
  simp at b0
  clear h
  go_enter Try.func50, Try.ntmps50
  go_wp2
  go_ret
  exact ⟨rfl, rfl⟩

theorem Try.infoBool : (Try.prog.info? 4).map (fun i => (i.zero, i.size, i.bytes)) = some (some (.bool false), 1, 1) := by kernel_rfl

theorem r05add_ok {c : Nat → Nat} {w : World} {p : Nat} {l : List One} (h : RTabAt c w p l) (hl : (l.length : Int) < 64) :
    Calls Try.prog 50 #[.pointer (some ⟨p, 0, none⟩)] w fun e w' => e = .returned (.int .i64 0) ∧ ∃ c', Stp (3 ≤ ·) c c' w w' ∧ RTabAt c' w' p (l ++ [⟨0, false, 0⟩]) := by
  obtain ⟨sa, ta, wa, sc, tc, wc, h⟩ := h
  have b0 := h.hb.cell 0
  simp at b0
  have HR := Lib.hid h
  have d2 : Hid (l.length + 1 ≤ maxLen) := Lib.hid (by unfold maxLen; omega)
  have d3 : Hid ((l.length + 1) * 8 ≤ 140737488355328) := Lib.hid (by omega)
  have d4 : Hid ((l.length + 1) * 1 ≤ 140737488355328) := Lib.hid (by omega)
  clear h
  go_enter Try.func50, Try.ntmps50
  have HB := Lib.hid HR.out.hb
  have RS := Lib.hid HR.out.rs
  have RT := Lib.hid HR.out.rt
  have RW := Lib.hid HR.out.rw
  have S0 := Lib.hid (Stp.refl (3 ≤ ·) c w)
  clear HR
  go_wp2_with (at_builtin; refine wpList_append_row _ rfl (.tmp 13) (.tmp 14) 40 rfl (paint c w.heap.size 4) 4 3 (.int .i64 0) 1 8 Try.underlying40 Try.infoInt rfl sa l.length sc (l.map stOf) rfl (RS.out.allocG (by simp)) _ 1 [.int .i64 0] rfl (Src.oneAt (by simp)) (by simp [Value.oneCell']) d2.out d3.out ?_)
  intro ao4 cap4 w4 r4 st4 _
  obtain ⟨e4, he4, A4⟩ := ((Stp.allocG (n := w.heap.size) (j := 4) (o := .cells #[.int .i64 0] 3) (Stp.refl (· = 4) c w) (by simp)).trans st4).name
  rw [← he4.out] at r4
  clear b0
  have q0 := (HB.out.stp A4.out (by decide)).cell 0
  have q1 := (HB.out.stp A4.out (by decide)).cell 1
  have q2 := (HB.out.stp A4.out (by decide)).cell 2
  have f0 := (HB.out.stp A4.out (by decide)).free 0
  have hp := (HB.out.stp A4.out (by decide)).lt
  simp at q0 q1 q2
  have C4 : Stp (· = 3) e4 e4 w4 (w4.setCell ⟨p, 0, none⟩ (.slice ao4 (l.length + 1) cap4)) := (Stp.refl _ _ _).setCell _ (HB.out.stp A4.out (by decide)).1
  have S1 := Lib.hid ((S0.out.trans (A4.out.mono (J' := (3 ≤ ·)) (fun _ h => by rw [h]; decide))).trans (C4.mono (J' := (3 ≤ ·)) (fun _ h => by rw [h]; decide)))
  have HB' := Lib.hid (show Blk e4 3 (w4.setCell ⟨p, 0, none⟩ (.slice ao4 (l.length + 1) cap4)) p [.slice ao4 (l.length + 1) cap4, .slice ta l.length tc, .slice wa l.length wc] 78 from (HB.out.stp A4.out (by decide)).set 0 (.slice ao4 (l.length + 1) cap4))
  have RS' := Lib.hid (r4.stp C4 (by decide))
  have RT' := Lib.hid ((RT.out.stp A4.out (by decide)).stp C4 (by decide))
  have RW' := Lib.hid ((RW.out.stp A4.out (by decide)).stp C4 (by decide))
  clear HB RS RT RW r4 st4 he4 A4 C4
  have HB := HB'
  have RS := RS'
  have RT := RT'
  have RW := RW'
  clear HB' RS' RT' RW'
  go_wp2_with (at_builtin; refine wpList_append_row _ rfl (.tmp 22) (.tmp 23) 76 rfl (paint e4 w4.heap.size 5) 5 4 (.bool false) 1 1 Try.underlying76 Try.infoBool rfl ta l.length tc (l.map tkOf) rfl (RT.out.allocG (by simp)) _ 1 [.bool false] rfl (Src.oneAt (by simp)) (by simp [Value.oneCell']) d2.out d4.out ?_)
  intro ao5 cap5 w5 r5 st5 _
  obtain ⟨e5, he5, A5⟩ := ((Stp.allocG (n := w4.heap.size) (j := 5) (o := .cells #[.bool false] 4) (Stp.refl (· = 5) e4 (w4.setCell ⟨p, 0, none⟩ (.slice ao4 (l.length + 1) cap4))) (by simp)).trans st5).name
  rw [← he5.out] at r5
  clear q0 q1 q2 f0 hp
  have q0 := (HB.out.stp A5.out (by decide)).cell 0
  have q1 := (HB.out.stp A5.out (by decide)).cell 1
  have q2 := (HB.out.stp A5.out (by decide)).cell 2
  have f0 := (HB.out.stp A5.out (by decide)).free 1
  have hp := (HB.out.stp A5.out (by decide)).lt
  simp at q0 q1 q2
  have C5 : Stp (· = 3) e5 e5 w5 (w5.setCell ⟨p, 1, none⟩ (.slice ao5 (l.length + 1) cap5)) := (Stp.refl _ _ _).setCell _ (HB.out.stp A5.out (by decide)).1
  have S2 := Lib.hid ((S1.out.trans (A5.out.mono (J' := (3 ≤ ·)) (fun _ h => by rw [h]; decide))).trans (C5.mono (J' := (3 ≤ ·)) (fun _ h => by rw [h]; decide)))
  have HB' := Lib.hid (show Blk e5 3 (w5.setCell ⟨p, 1, none⟩ (.slice ao5 (l.length + 1) cap5)) p [.slice ao4 (l.length + 1) cap4, .slice ao5 (l.length + 1) cap5, .slice wa l.length wc] 78 from (HB.out.stp A5.out (by decide)).set 1 (.slice ao5 (l.length + 1) cap5))
  have RS' := Lib.hid ((RS.out.stp A5.out (by decide)).stp C5 (by decide))
  have RT' := Lib.hid (r5.stp C5 (by decide))
  have RW' := Lib.hid ((RW.out.stp A5.out (by decide)).stp C5 (by decide))
  clear HB RS RT RW r5 st5 he5 A5 C5
  have HB := HB'
  have RS := RS'
  have RT := RT'
  have RW := RW'
  clear HB' RS' RT' RW'
  go_wp2_with (at_builtin; refine wpList_append_row _ rfl (.tmp 31) (.tmp 32) 40 rfl (paint e5 w5.heap.size 6) 6 3 (.int .i64 0) 1 8 Try.underlying40 Try.infoInt rfl wa l.length wc (l.map wkOf) rfl (RW.out.allocG (by simp)) _ 1 [.int .i64 0] rfl (Src.oneAt (by simp)) (by simp [Value.oneCell']) d2.out d3.out ?_)
  intro ao6 cap6 w6 r6 st6 _
  obtain ⟨e6, he6, A6⟩ := ((Stp.allocG (n := w5.heap.size) (j := 6) (o := .cells #[.int .i64 0] 3) (Stp.refl (· = 6) e5 (w5.setCell ⟨p, 1, none⟩ (.slice ao5 (l.length + 1) cap5))) (by simp)).trans st6).name
  rw [← he6.out] at r6
  clear q0 q1 q2 f0 hp
  have q0 := (HB.out.stp A6.out (by decide)).cell 0
  have q1 := (HB.out.stp A6.out (by decide)).cell 1
  have q2 := (HB.out.stp A6.out (by decide)).cell 2
  have f0 := (HB.out.stp A6.out (by decide)).free 2
  have hp := (HB.out.stp A6.out (by decide)).lt
  simp at q0 q1 q2
  have C6 : Stp (· = 3) e6 e6 w6 (w6.setCell ⟨p, 2, none⟩ (.slice ao6 (l.length + 1) cap6)) := (Stp.refl _ _ _).setCell _ (HB.out.stp A6.out (by decide)).1
  have S3 := Lib.hid ((S2.out.trans (A6.out.mono (J' := (3 ≤ ·)) (fun _ h => by rw [h]; decide))).trans (C6.mono (J' := (3 ≤ ·)) (fun _ h => by rw [h]; decide)))
  have HB' := Lib.hid (show Blk e6 3 (w6.setCell ⟨p, 2, none⟩ (.slice ao6 (l.length + 1) cap6)) p [.slice ao4 (l.length + 1) cap4, .slice ao5 (l.length + 1) cap5, .slice ao6 (l.length + 1) cap6] 78 from (HB.out.stp A6.out (by decide)).set 2 (.slice ao6 (l.length + 1) cap6))
  have RS' := Lib.hid ((RS.out.stp A6.out (by decide)).stp C6 (by decide))
  have RT' := Lib.hid ((RT.out.stp A6.out (by decide)).stp C6 (by decide))
  have RW' := Lib.hid (r6.stp C6 (by decide))
  clear HB RS RT RW r6 st6 he6 A6 C6
  have HB := HB'
  have RS := RS'
  have RT := RT'
  have RW := RW'
  clear HB' RS' RT' RW'
  go_wp2
  go_ret
  exact ⟨rfl, e6, S3.out, ao4, ao5, ao6, cap4, cap5, cap6, by simpa using HB.out, by simpa [stOf] using RS.out, by simpa [tkOf] using RT.out, by simpa [wkOf] using RW.out⟩
end Go.Proofs.Ytmhhhiegioniaaa
