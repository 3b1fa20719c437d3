/- The document's Link of a graph. No condition beyond each contract's own. -/
import Derived.Test.YtmhhhiegioniaaaRGraph4
import Derived.BigRegion
namespace Go.Proofs.Ytmhhhiegioniaaa
open Go.RowKit Go.Deep

set_option maxRecDepth 100000 in
theorem r13link_none1 {c : Nat → Nat} {k : Nat} {w : World} {S : GS} {vs : List Value} {n : Nat} {ao : Option Addr} {cap : Nat} {bo : Option Addr} {bcap : Nat} (h : RefIs c k w S.1 S.2 vs n ao cap bo bcap) (x y : Int) (hx : hasB S.2 x = false) :
    Calls Try.prog 91 #[.agg #[.slice ao n cap, .slice bo n bcap], .int .i64 x, .int .i64 y] w (RefPost c k w S 3) := by
  have T1 := Lib.hid (RTwo.start h)
  have Hx := Lib.hid hx
  obtain ⟨pb, hpb⟩ : ∃ pb, pb = w.heap.size := ⟨_, rfl⟩
  obtain ⟨qb, hqb⟩ : ∃ qb, qb = w.heap.size + 1 := ⟨_, rfl⟩
  clear h hx
  go_enter Try.func91, Try.ntmps91
  go_wp2_with fail
  rw [← hqb, ← hpb] at T1
  rw [← hqb, ← hpb]
  clear hqb hpb
  refine (r13has_any T1.out.rf x false Hx.out).mono ?_
  rintro e w2 ⟨rfl, c2, s2⟩
  have T2 := Lib.hid (T1.out.stpF s2)
  obtain ⟨p0, p1, q0, q1, f0, f1, lp, lq, nq⟩ := T2.out.facts
  clear s2 T1
  go_wp2
  exact bodyPost_ret (v := .tuple #[.agg #[.slice ao n cap, .slice bo n bcap], .int .i64 3]) (by simp [results, Try.results91, go_sem, q0, q1]) rfl (T2.out.fin 3)

set_option maxRecDepth 100000 in
theorem r13link_none2 {c : Nat → Nat} {k : Nat} {w : World} {S : GS} {vs : List Value} {n : Nat} {ao : Option Addr} {cap : Nat} {bo : Option Addr} {bcap : Nat} (h : RefIs c k w S.1 S.2 vs n ao cap bo bcap) (x y : Int) (hx : hasB S.2 x = true) (hy : hasB S.2 y = false) :
    Calls Try.prog 91 #[.agg #[.slice ao n cap, .slice bo n bcap], .int .i64 x, .int .i64 y] w (RefPost c k w S 3) := by
  have T1 := Lib.hid (RTwo.start h)
  have Hx := Lib.hid hx
  have Hy := Lib.hid hy
  obtain ⟨pb, hpb⟩ : ∃ pb, pb = w.heap.size := ⟨_, rfl⟩
  obtain ⟨qb, hqb⟩ : ∃ qb, qb = w.heap.size + 1 := ⟨_, rfl⟩
  clear h hx hy
  go_enter Try.func91, Try.ntmps91
  go_wp2_with fail
  rw [← hqb, ← hpb] at T1
  rw [← hqb, ← hpb]
  clear hqb hpb
  refine (r13has_any T1.out.rf x true Hx.out).mono ?_
  rintro e w2 ⟨rfl, c2, s2⟩
  have T2 := Lib.hid (T1.out.stpF s2)
  obtain ⟨p0, p1, q0, q1, f0, f1, lp, lq, nq⟩ := T2.out.facts
  clear s2 T1
  go_wp2_with fail
  refine (r13has_any T2.out.rf y false Hy.out).mono ?_
  rintro e w3 ⟨rfl, c3, s3⟩
  have T3 := Lib.hid (T2.out.stpF s3)
  clear p0 p1 q0 q1 f0 f1 lp lq nq T2 s3
  obtain ⟨p0, p1, q0, q1, f0, f1, lp, lq, nq⟩ := T3.out.facts
  go_wp2
  exact bodyPost_ret (v := .tuple #[.agg #[.slice ao n cap, .slice bo n bcap], .int .i64 3]) (by simp [results, Try.results91, go_sem, q0, q1]) rfl (T3.out.fin 3)

set_option maxRecDepth 100000 in
set_option maxHeartbeats 2000000 in
theorem r13link_self {c : Nat → Nat} {k : Nat} {w : World} {S : GS} {vs : List Value} {n : Nat} {ao : Option Addr} {cap : Nat} {bo : Option Addr} {bcap : Nat} (h : RefIs c k w S.1 S.2 vs n ao cap bo bcap) (x : Nat) (hx : hasB S.2 (x : Nat) = true) :
    Calls Try.prog 91 #[.agg #[.slice ao n cap, .slice bo n bcap], .int .i64 (x : Nat), .int .i64 (x : Nat)] w (RefPost c k w S 16) := by
  have T1 := Lib.hid (RTwo.start h)
  have Hx := Lib.hid hx
  have t : ((x : Int) == (x : Int)) = true := by simp
  obtain ⟨pb, hpb⟩ : ∃ pb, pb = w.heap.size := ⟨_, rfl⟩
  obtain ⟨qb, hqb⟩ : ∃ qb, qb = w.heap.size + 1 := ⟨_, rfl⟩
  clear h hx
  go_enter Try.func91, Try.ntmps91
  go_wp2_with fail
  rw [← hqb, ← hpb] at T1
  rw [← hqb, ← hpb]
  clear hqb hpb
  refine (r13has_any T1.out.rf (x : Nat) true Hx.out).mono ?_
  rintro e w2 ⟨rfl, c2, s2⟩
  have T2 := Lib.hid (T1.out.stpF s2)
  obtain ⟨p0, p1, q0, q1, f0, f1, lp, lq, nq⟩ := T2.out.facts
  clear s2 T1
  go_wp2_with fail
  refine (r13has_any T2.out.rf (x : Nat) true Hx.out).mono ?_
  rintro e w3 ⟨rfl, c3, s3⟩
  have T3 := Lib.hid (T2.out.stpF s3)
  clear p0 p1 q0 q1 f0 f1 lp lq nq T2 s3
  obtain ⟨p0, p1, q0, q1, f0, f1, lp, lq, nq⟩ := T3.out.facts
  go_wp2
  exact bodyPost_ret (v := .tuple #[.agg #[.slice ao n cap, .slice bo n bcap], .int .i64 16]) (by simp [results, Try.results91, go_sem, q0, q1]) rfl (T3.out.fin 16)

set_option maxRecDepth 100000 in
set_option maxHeartbeats 2000000 in
theorem r13link_ring {c : Nat → Nat} {k : Nat} {w : World} {S : GS} {vs : List Value} {n : Nat} {ao : Option Addr} {cap : Nat} {bo : Option Addr} {bcap : Nat} (h : RefIs c k w S.1 S.2 vs n ao cap bo bcap) (gd : GoodS S) (x y : Nat) (hx : hasB S.2 (x : Nat) = true) (hy : hasB S.2 (y : Nat) = true) (hne : x ≠ y) (hr : Reaches S.1 y x) :
    Calls Try.prog 91 #[.agg #[.slice ao n cap, .slice bo n bcap], .int .i64 (x : Nat), .int .i64 (y : Nat)] w (RefPost c k w S 16) := by
  have T1 := Lib.hid (RTwo.start h)
  have Hx := Lib.hid hx
  have Hy := Lib.hid hy
  have Gd := Lib.hid gd
  have t : ((x : Int) == (y : Int)) = false := by simpa using (by omega : ¬ (x : Int) = y)
  have hxn : x < n := by have := hasB_nat_lt hx; rw [h.lg] at this; exact this
  have hyn : y < n := by have := hasB_nat_lt hy; rw [h.lg] at this; exact this
  have hx2 : (x : Int) < n := by omega
  have hy2 : (y : Int) < n := by omega
  have hle := h.le
  have Hxn := Lib.hid hxn
  have Hyn := Lib.hid hyn
  have Hr := Lib.hid (show reachB S.1 y x = true by rw [reachB_iff]; exact hr)
  obtain ⟨pb, hpb⟩ : ∃ pb, pb = w.heap.size := ⟨_, rfl⟩
  obtain ⟨qb, hqb⟩ : ∃ qb, qb = w.heap.size + 1 := ⟨_, rfl⟩
  clear h hx hy hxn hyn hne hr gd
  go_enter Try.func91, Try.ntmps91
  go_wp2_with fail
  rw [← hqb, ← hpb] at T1
  rw [← hqb, ← hpb]
  clear hqb hpb
  refine (r13has_any T1.out.rf (x : Nat) true Hx.out).mono ?_
  rintro e w2 ⟨rfl, c2, s2⟩
  have T2 := Lib.hid (T1.out.stpF s2)
  obtain ⟨p0, p1, q0, q1, f0, f1, lp, lq, nq⟩ := T2.out.facts
  clear s2 T1
  go_wp2_with fail
  refine (r13has_any T2.out.rf (y : Nat) true Hy.out).mono ?_
  rintro e w3 ⟨rfl, c3, s3⟩
  have T3 := Lib.hid (T2.out.stpF s3)
  clear p0 p1 q0 q1 f0 f1 lp lq nq T2 s3
  obtain ⟨p0, p1, q0, q1, f0, f1, lp, lq, nq⟩ := T3.out.facts
  go_wp2_with fail
  refine (r13ahead_p T3.out.rf Gd.out (k + 71)).mono ?_
  rintro e w4 ⟨ta, tcap, B, rfl, c4, s4, t4⟩
  have T4 := Lib.hid (T3.out.stpF s4)
  obtain ⟨g, off, rfl, hgl, x0, xl, xr⟩ := t4.cell Hyn.out
  obtain ⟨x1, -⟩ := xr x Hxn.out
  rw [Hr.out] at x1
  clear p0 p1 q0 q1 f0 f1 lp lq nq T3 s4 xr t4
  obtain ⟨p0, p1, q0, q1, f0, f1, lp, lq, nq⟩ := T4.out.facts
  go_wp2
  exact bodyPost_ret (v := .tuple #[.agg #[.slice ao n cap, .slice bo n bcap], .int .i64 16]) (by simp [results, Try.results91, go_sem, q0, q1]) rfl (T4.out.fin 16)

set_option maxRecDepth 100000 in
set_option maxHeartbeats 2000000 in
theorem r13link_there {c : Nat → Nat} {k : Nat} {w : World} {S : GS} {vs : List Value} {n : Nat} {ao : Option Addr} {cap : Nat} {bo : Option Addr} {bcap : Nat} (h : RefIs c k w S.1 S.2 vs n ao cap bo bcap) (gd : GoodS S) (x y : Nat) (hx : hasB S.2 (x : Nat) = true) (hy : hasB S.2 (y : Nat) = true) (hne : x ≠ y) (hr : ¬ Reaches S.1 y x) (hm : y ∈ S.1.getD x []) :
    Calls Try.prog 91 #[.agg #[.slice ao n cap, .slice bo n bcap], .int .i64 (x : Nat), .int .i64 (y : Nat)] w (RefPost c k w S 4) := by
  have T1 := Lib.hid (RTwo.start h)
  have Hx := Lib.hid hx
  have Hy := Lib.hid hy
  have Gd := Lib.hid gd
  have t : ((x : Int) == (y : Int)) = false := by simpa using (by omega : ¬ (x : Int) = y)
  have hxn : x < n := by have := hasB_nat_lt hx; rw [h.lg] at this; exact this
  have hyn : y < n := by have := hasB_nat_lt hy; rw [h.lg] at this; exact this
  have hx2 : (x : Int) < n := by omega
  have hy2 : (y : Int) < n := by omega
  have hle := h.le
  have Hxn := Lib.hid hxn
  have Hyn := Lib.hid hyn
  have Hr := Lib.hid (show reachB S.1 y x = false by rw [Bool.eq_false_iff]; exact fun e => hr (reachB_iff.1 e))
  have Hm := Lib.hid (show decide ((y : Int) ∈ ints (S.1.getD x [])) = true by rw [decide_eq_true_iff, ints_mem]; exact hm)
  obtain ⟨pb, hpb⟩ : ∃ pb, pb = w.heap.size := ⟨_, rfl⟩
  obtain ⟨qb, hqb⟩ : ∃ qb, qb = w.heap.size + 1 := ⟨_, rfl⟩
  clear h hx hy hxn hyn hne hr gd hm
  go_enter Try.func91, Try.ntmps91
  go_wp2_with fail
  rw [← hqb, ← hpb] at T1
  rw [← hqb, ← hpb]
  clear hqb hpb
  refine (r13has_any T1.out.rf (x : Nat) true Hx.out).mono ?_
  rintro e w2 ⟨rfl, c2, s2⟩
  have T2 := Lib.hid (T1.out.stpF s2)
  obtain ⟨p0, p1, q0, q1, f0, f1, lp, lq, nq⟩ := T2.out.facts
  clear s2 T1
  go_wp2_with fail
  refine (r13has_any T2.out.rf (y : Nat) true Hy.out).mono ?_
  rintro e w3 ⟨rfl, c3, s3⟩
  have T3 := Lib.hid (T2.out.stpF s3)
  clear p0 p1 q0 q1 f0 f1 lp lq nq T2 s3
  obtain ⟨p0, p1, q0, q1, f0, f1, lp, lq, nq⟩ := T3.out.facts
  go_wp2_with fail
  refine (r13ahead_p T3.out.rf Gd.out (k + 71)).mono ?_
  rintro e w4 ⟨ta, tcap, B, rfl, c4, s4, t4⟩
  have T4 := Lib.hid (T3.out.stpF s4)
  obtain ⟨g, off, rfl, hgl, x0, xl, xr⟩ := t4.cell Hyn.out
  obtain ⟨x1, -⟩ := xr x Hxn.out
  rw [Hr.out] at x1
  clear p0 p1 q0 q1 f0 f1 lp lq nq T3 s4 xr t4
  obtain ⟨p0, p1, q0, q1, f0, f1, lp, lq, nq⟩ := T4.out.facts
  obtain ⟨g2, off2, oi, ci, rfl, hcg, hgl2, y0, yf, hrow⟩ := T4.out.rf.node Hxn.out
  have HR := Lib.hid hrow
  obtain ⟨L, hL⟩ : ∃ L, L = (S.1.getD x []).length := ⟨_, rfl⟩
  rw [← hL] at y0 HR
  have HL := Lib.hid hL
  clear hrow hL hcg
  go_wp2_with (go_at_call 82; refine (in13_any HR.out.toIn (y : Nat) true Hm.out).mono ?_; rintro e w' ⟨rfl, rfl⟩)
  exact bodyPost_ret (v := .tuple #[.agg #[.slice (some ⟨g2, off2, none⟩) n cap, .slice bo n bcap], .int .i64 4]) (by simp [results, Try.results91, go_sem, q0, q1]) rfl (T4.out.fin 4)

theorem RTwo.rstp {c : Nat → Nat} {k : Nat} {w : World} {pb qb n0 : Nat} {ao0 : Option Addr} {cap0 : Nat} {bo0 : Option Addr} {bcap0 : Nat} {S : GS} {vs : List Value} {n : Nat} {g off : Nat} {cap : Nat} {bo : Option Addr} {bcap x : Nat} {c' c3 : Nat → Nat} {wr w3 : World}
    (h : RTwo c k w pb qb n0 ao0 cap0 bo0 bcap0 S vs n (some ⟨g, off, none⟩) cap bo bcap c' wr) (hx : x < n) (st : Stp (· = k + 3 + x) c' c3 wr w3) :
    w3.cell? ⟨pb, 0, none⟩ = some (.slice ao0 n0 cap0) ∧ w3.cell? ⟨pb, 1, none⟩ = some (.slice bo0 n0 bcap0) ∧ w3.cell? ⟨qb, 0, none⟩ = some (.slice none 0 0) ∧ w3.cell? ⟨qb, 1, none⟩ = some (.slice none 0 0) ∧ w3.frozen? ⟨qb, 0, none⟩ = false ∧ w3.frozen? ⟨qb, 1, none⟩ = false ∧ pb < w3.heap.size ∧ qb < w3.heap.size ∧
      (∃ v, w3.cell? ⟨g, off + x, none⟩ = some v) ∧ w3.frozen? ⟨g, off + x, none⟩ = false ∧ g < w3.heap.size := by
  have hle := h.rf.le
  have hb := h.box.stp st (by omega)
  have hq := h.res.stp st (by omega)
  have ha := h.rf.ha.stp st (by omega)
  have hl : vs.length = n := by have := ha.1; omega
  obtain ⟨a, e, -, yc, yz, yadd, -⟩ := ha.cell (List.getElem?_eq_getElem (show x < vs.length by omega))
  cases e
  rw [yadd] at yc yz
  obtain ⟨cur, hcur, -⟩ := ha.2.2.2.2.2
  exact ⟨by simpa using hb.cell 0, by simpa using hb.cell 1, by simpa using hq.cell 0, by simpa using hq.cell 1, hq.free 0, hq.free 1, hb.lt, hq.lt, ⟨_, yc⟩, yz, lt_of_block hcur⟩

theorem RTwo.rlinked {c : Nat → Nat} {k : Nat} {w : World} {pb qb n0 : Nat} {ao0 : Option Addr} {cap0 : Nat} {bo0 : Option Addr} {bcap0 : Nat} {S : GS} {vs : List Value} {n : Nat} {g off : Nat} {cap : Nat} {bo : Option Addr} {bcap x y : Nat} {oi : Option Addr} {ni ci : Nat} {c' c3 : Nat → Nat} {wr w3 : World}
    (h : RTwo c k w pb qb n0 ao0 cap0 bo0 bcap0 S vs n (some ⟨g, off, none⟩) cap bo bcap c' wr) (hx : x < n) (st : Stp (· = k + 3 + x) c' c3 wr w3) (hr : Row c3 (k + 3 + x) w3 3 1 oi ni ci ((ints (S.1.getD x [])).map (Value.int .i64) ++ [.int .i64 (y : Int)])) :
    RTwo c k w pb qb n0 ao0 cap0 bo0 bcap0 (S.1.set x (S.1.getD x [] ++ [y]), S.2) (vs.set x (.slice oi ni ci)) n (some ⟨g, off, none⟩) cap bo bcap c3 (w3.setCell ⟨g, off + x, none⟩ (.slice oi ni ci)) := by
  have hle := h.rf.le
  have ha := h.rf.ha.stp st (by omega)
  have hgc : c3 g = k + 1 := ha.2.2.2.2.1
  have s := (Stp.refl (· = k + 1) c3 w3).setCell (p := ⟨g, off + x, none⟩) (.slice oi ni ci) hgc
  refine ⟨h.rf.turn hx st ?_, (h.box.stp st (by omega)).stp s (by omega), (h.res.stp st (by omega)).stp s (by omega), (h.st.trans (st.mono fun q hq => ⟨by omega, by omega⟩)).trans (s.mono fun q hq => ⟨by omega, by omega⟩), h.new, h.ne⟩
  rw [ints_app, List.map_append]
  exact hr

theorem drawn_alloc {c c3 : Nat → Nat} {j : Nat} {w w3 : World} {o : Obj} (st : Stp (· = j) (paint c w.drew.heap.size j) c3 (w.drew.alloc o) w3) : Stp (· = j) c c3 w w3 := ((Stp.refl _ c w).drew.alloc o j).trans st

set_option maxRecDepth 100000 in
set_option maxHeartbeats 2000000 in
theorem r13link_ok {c : Nat → Nat} {k : Nat} {w : World} {S : GS} {vs : List Value} {n : Nat} {ao : Option Addr} {cap : Nat} {bo : Option Addr} {bcap : Nat} (h : RefIs c k w S.1 S.2 vs n ao cap bo bcap) (gd : GoodS S) (x y : Nat) (hx : hasB S.2 (x : Nat) = true) (hy : hasB S.2 (y : Nat) = true) (hne : x ≠ y) (hr : ¬ Reaches S.1 y x) (hm : y ∉ S.1.getD x []) :
    Calls Try.prog 91 #[.agg #[.slice ao n cap, .slice bo n bcap], .int .i64 (x : Nat), .int .i64 (y : Nat)] w (RefPost c k w (S.1.set x (S.1.getD x [] ++ [y]), S.2) 0) := by
  have T1 := Lib.hid (RTwo.start h)
  have Hx := Lib.hid hx
  have Hy := Lib.hid hy
  have Gd := Lib.hid gd
  have t : ((x : Int) == (y : Int)) = false := by simpa using (by omega : ¬ (x : Int) = y)
  have hxn : x < n := by have := hasB_nat_lt hx; rw [h.lg] at this; exact this
  have hyn : y < n := by have := hasB_nat_lt hy; rw [h.lg] at this; exact this
  have hx2 : (x : Int) < n := by omega
  have hy2 : (y : Int) < n := by omega
  have hle := h.le
  have Hxn := Lib.hid hxn
  have Hyn := Lib.hid hyn
  have Hr := Lib.hid (show reachB S.1 y x = false by rw [Bool.eq_false_iff]; exact fun e => hr (reachB_iff.1 e))
  have Hm := Lib.hid (show decide ((y : Int) ∈ ints (S.1.getD x [])) = false by rw [decide_eq_false_iff_not, ints_mem]; exact hm)
  have hsm := gd.small x
  obtain ⟨pb, hpb⟩ : ∃ pb, pb = w.heap.size := ⟨_, rfl⟩
  obtain ⟨qb, hqb⟩ : ∃ qb, qb = w.heap.size + 1 := ⟨_, rfl⟩
  clear h hx hy hxn hyn hne hr gd hm
  go_enter Try.func91, Try.ntmps91
  go_wp2_with fail
  rw [← hqb, ← hpb] at T1
  rw [← hqb, ← hpb]
  clear hqb hpb
  refine (r13has_any T1.out.rf (x : Nat) true Hx.out).mono ?_
  rintro e w2 ⟨rfl, c2, s2⟩
  have T2 := Lib.hid (T1.out.stpF s2)
  obtain ⟨p0, p1, q0, q1, f0, f1, lp, lq, nq⟩ := T2.out.facts
  clear s2 T1
  go_wp2_with fail
  refine (r13has_any T2.out.rf (y : Nat) true Hy.out).mono ?_
  rintro e w3 ⟨rfl, c3, s3⟩
  have T3 := Lib.hid (T2.out.stpF s3)
  clear p0 p1 q0 q1 f0 f1 lp lq nq T2 s3
  obtain ⟨p0, p1, q0, q1, f0, f1, lp, lq, nq⟩ := T3.out.facts
  go_wp2_with fail
  refine (r13ahead_p T3.out.rf Gd.out (k + 71)).mono ?_
  rintro e w4 ⟨ta, tcap, B, rfl, c4, s4, t4⟩
  have T4 := Lib.hid (T3.out.stpF s4)
  obtain ⟨g, off, rfl, hgl, x0, xl, xr⟩ := t4.cell Hyn.out
  obtain ⟨x1, -⟩ := xr x Hxn.out
  rw [Hr.out] at x1
  clear p0 p1 q0 q1 f0 f1 lp lq nq T3 s4 xr t4
  obtain ⟨p0, p1, q0, q1, f0, f1, lp, lq, nq⟩ := T4.out.facts
  obtain ⟨g2, off2, oi, ci, rfl, hcg, hgl2, y0, yf, hrow⟩ := T4.out.rf.node Hxn.out
  have HR := Lib.hid hrow
  obtain ⟨L, hL⟩ : ∃ L, L = (S.1.getD x []).length := ⟨_, rfl⟩
  rw [← hL] at y0 HR
  have HL := Lib.hid hL
  have n2 : g2 ≠ pb := by rintro rfl; have := T4.out.box.1; omega
  have n4 : g2 ≠ qb := by rintro rfl; have := T4.out.res.1; omega
  have Hcg := Lib.hid hcg
  have d1 : Hid (L + 1 ≤ maxLen) := Lib.hid (by unfold maxLen; omega)
  have d2 : Hid ((L + 1) * 8 ≤ 140737488355328) := Lib.hid (by omega)
  have hvlen := T4.out.rf.ha.1
  obtain ⟨v0, hv0⟩ : ∃ v, vs[x]? = some v := ⟨_, List.getElem?_eq_getElem (by have := Hxn.out; omega)⟩
  have Hv := Lib.hid hv0
  clear hrow hL hcg hsm hv0 hvlen
  go_wp2_with fail
  refine (in13_any HR.out.toIn (y : Nat) false Hm.out).mono ?_
  rintro e w' ⟨rfl, rfl⟩
  go_wp2_with fail
  go_region_law (refine step_row rfl (.tmp 48) (.tmp 50) 40 rfl _ (k + 3 + x) 3 (.int .i64 0) 1 8 Try.underlying40 Try.infoInt rfl oi L ci ((ints (S.1.getD x [])).map (Value.int .i64)) rfl (HR.out.drew.alloc _ (k + 3 + x)) _ 1 [.int .i64 (y : Int)] rfl (Src.one _ _ 3) (by simp [Value.oneCell']) d1.out d2.out ?_; intro oi2 ci2 w5 hr5 st5 ot5; have st6 := drawn_alloc st5; have T5 := Lib.hid (T4.out.rlinked Hxn.out st6 hr5); obtain ⟨p0, p1, q0, q1, f0, f1, lp, lq, ⟨yv, yc⟩, yz, gl⟩ := T4.out.rstp Hxn.out st6)
  all_goals
    go_wp2
    exact bodyPost_ret (v := .tuple #[.agg #[.slice (some ⟨g2, off2, none⟩) n cap, .slice bo n bcap], .int .i64 0]) (by simp [results, Try.results91, go_sem, q0, q1]) rfl (T5.out.fin 0)
end Go.Proofs.Ytmhhhiegioniaaa
