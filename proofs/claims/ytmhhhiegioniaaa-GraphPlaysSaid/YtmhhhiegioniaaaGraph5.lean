/- Contracts of the graph's Drop and Link. No condition beyond each contract's own. -/
import Derived.Test.YtmhhhiegioniaaaGraph4
import Derived.Test.YtmhhhiegioniaaaErrs2
import Derived.BigRegion
namespace Go.Proofs.Ytmhhhiegioniaaa
open Go.RowKit

/-- What hands back an error's value, and touches nothing that was there. -/
def NewErr (c : Nat → Nat) (w : World) (er : Int) (e : Ending) (w' : World) : Prop :=
  ∃ ev, e = .returned ev ∧ ∃ c', Stp (fun _ => False) c c' w w' ∧ ErrAt c' w' ev er

theorem grdrop_nil (c : Nat → Nat) (x : Int) (w : World) : Calls Try.prog 92 #[.pointer none, .int .i64 x] w (NewErr c w 2) := by
  go_enter Try.func92, Try.ntmps92
  go_wp2
  go_ret
  exact ⟨_, rfl, c, Stp.refl _ _ _, .inl rfl⟩

theorem grdrop_none {c : Nat → Nat} {k : Nat} {w : World} {p : Nat} {A : List (List Nat)} {G : List Bool} (h : GraphAt c k w p A G) (x : Int) (hx : hasB G x = false) :
    Calls Try.prog 92 #[.pointer (some ⟨p, 0, none⟩), .int .i64 x] w (NewErr c w 3) := by
  have H := Lib.hid h
  have Hx := Lib.hid hx
  clear h hx
  go_enter Try.func92, Try.ntmps92
  go_wp2_with (first
    | (go_at_call 80; refine (ghas_no H.out x Hx.out).mono ?_; rintro e w' ⟨rfl, rfl⟩)
    | (go_at_call 102; refine (wrap_some _ _ _ _ _).mono ?_; rintro e w' ⟨rfl, rfl⟩))
  go_ret
  exact ⟨_, rfl, _, (Stp.refl _ c w).alloc _ 1, ErrAt.new _ _ _ _ _⟩

theorem grdrop_busy {c : Nat → Nat} {k : Nat} {w : World} {p : Nat} {A : List (List Nat)} {G : List Bool} (h : GraphAt c k w p A G) (x : Nat) (hx : hasB G x = true) (hb : behindL A x ≠ []) :
    Calls Try.prog 92 #[.pointer (some ⟨p, 0, none⟩), .int .i64 x] w (NewErr c w 18) := by
  have H := Lib.hid h
  have Hx := Lib.hid hx
  obtain ⟨B, hB⟩ : ∃ B, B = (behindL A x).length := ⟨_, rfl⟩
  have hB0 : 0 < B := by rw [hB]; exact List.length_pos_iff.2 hb
  have hB1 : (0 : Int) < (B : Int) := by omega
  have HB := Lib.hid hB
  clear h hx hb hB hB0
  go_enter Try.func92, Try.ntmps92
  go_wp2_with (go_at_call 80; refine (ghas_yes H.out x Hx.out).mono ?_; rintro e w' ⟨rfl, rfl⟩)
  refine (grbehind_p H.out x Hx.out 0).mono ?_
  rintro e w1 ⟨ao, cap, rfl, c1, s1, r1⟩
  have S1 := Lib.hid s1
  rw [← HB.out]
  clear s1 r1
  go_wp2_with (go_at_call 102; refine (wrap_some _ _ _ _ _).mono ?_; rintro e w' ⟨rfl, rfl⟩)
  go_ret
  exact ⟨_, rfl, _, S1.out.alloc _ 1, ErrAt.new _ _ _ _ _⟩

/-- A graph behind a new list of a node. -/
theorem GraphIs.setNode {c : Nat → Nat} {k : Nat} {w : World} {p : Nat} {A : List (List Nat)} {G : List Bool} {vs : List Value} {n : Nat} {g off : Nat} {cap : Nat} {bo : Option Addr} {bcap : Nat} (h : GraphIs c k w p A G vs n (some ⟨g, off, none⟩) cap bo bcap) {x : Nat} (hx : x < n) {l : List Nat} {oi : Option Addr} {ni ci : Nat}
    (hr : Row c (k + 3 + x) w 3 1 oi ni ci ((ints l).map (Value.int .i64))) :
    GraphIs c k (w.setCell ⟨g, off + x, none⟩ (.slice oi ni ci)) p (A.set x l) G (vs.set x (.slice oi ni ci)) n (some ⟨g, off, none⟩) cap bo bcap := by
  have hlen : vs.length = n := by have := h.ha.1; omega
  have hgc : c g = k + 1 := h.ha.2.2.2.2.1
  refine ⟨h.hb.other _ (fun e => ?_), h.ha.set x _ (by omega), h.hg.other (u := .slice oi ni ci) _ (h.hg.ne_col (by simp only; omega)) rfl, fun i hi => ?_, by simp [h.la], h.lg, h.le⟩
  · have := h.hb.1
    simp only at e
    rw [e] at hgc
    omega
  · by_cases hix : x = i
    · subst hix
      refine ⟨oi, ni, ci, by rw [List.getElem?_set, if_pos rfl, if_pos (by omega)], ?_⟩
      rw [getD_set _ _ _ (by rw [h.la]; exact hi), if_pos rfl]
      exact hr.other (u := .slice oi ni ci) _ (hr.ne_col (by simp only; omega)) rfl
    · obtain ⟨oj, nj, cj, h1, h2⟩ := h.hv i hi
      refine ⟨oj, nj, cj, by rw [List.getElem?_set, if_neg hix]; exact h1, ?_⟩
      rw [getD_set _ _ _ (by rw [h.la]; exact hx), if_neg (fun e => hix e.symm)]
      exact h2.other (u := .slice oi ni ci) _ (h2.ne_col (by simp only; omega)) rfl

/-- A graph behind a change of one node's list, and its store. -/
theorem GraphIs.turn {c c' : Nat → Nat} {k : Nat} {w w' : World} {p : Nat} {A : List (List Nat)} {G : List Bool} {vs : List Value} {n : Nat} {g off : Nat} {cap : Nat} {bo : Option Addr} {bcap : Nat} (h : GraphIs c k w p A G vs n (some ⟨g, off, none⟩) cap bo bcap) {x : Nat} (hx : x < n) {l : List Nat} {oi : Option Addr} {ni ci : Nat}
    (st : Stp (· = k + 3 + x) c c' w w') (hr : Row c' (k + 3 + x) w' 3 1 oi ni ci ((ints l).map (Value.int .i64))) :
    GraphIs c' k (w'.setCell ⟨g, off + x, none⟩ (.slice oi ni ci)) p (A.set x l) G (vs.set x (.slice oi ni ci)) n (some ⟨g, off, none⟩) cap bo bcap := by
  have hlen : vs.length = n := by have := h.ha.1; omega
  have ha := h.ha.stp st (by omega)
  have hgc : c' g = k + 1 := ha.2.2.2.2.1
  have hb := h.hb.stp st (by omega)
  have hg := h.hg.stp st (by omega)
  refine ⟨hb.other _ (fun e => ?_), ha.set x _ (by omega), hg.other (u := .slice oi ni ci) _ (hg.ne_col (by simp only; omega)) rfl, fun i hi => ?_, by simp [h.la], h.lg, h.le⟩
  · have := hb.1
    simp only at e
    rw [e] at hgc
    omega
  · by_cases hix : x = i
    · subst hix
      refine ⟨oi, ni, ci, by rw [List.getElem?_set, if_pos rfl, if_pos (by omega)], ?_⟩
      rw [getD_set _ _ _ (by rw [h.la]; exact hi), if_pos rfl]
      exact hr.other (u := .slice oi ni ci) _ (hr.ne_col (by simp only; omega)) rfl
    · obtain ⟨oj, nj, cj, h1, h2⟩ := h.hv i hi
      have h2 := h2.stp st (by omega)
      refine ⟨oj, nj, cj, by rw [List.getElem?_set, if_neg hix]; exact h1, ?_⟩
      rw [getD_set _ _ _ (by rw [h.la]; exact hx), if_neg (fun e => hix e.symm)]
      exact h2.other (u := .slice oi ni ci) _ (h2.ne_col (by simp only; omega)) rfl

theorem GraphIs.setGone {c : Nat → Nat} {k : Nat} {w : World} {p : Nat} {A : List (List Nat)} {G : List Bool} {vs : List Value} {n : Nat} {ao : Option Addr} {cap g off : Nat} {bcap : Nat} (h : GraphIs c k w p A G vs n ao cap (some ⟨g, off, none⟩) bcap) {x : Nat} (hx : x < n) (b : Bool) :
    GraphIs c k (w.setCell ⟨g, off + x, none⟩ (.bool b)) p A (G.set x b) vs n ao cap (some ⟨g, off, none⟩) bcap := by
  have hgc : c g = k + 2 := h.hg.2.2.2.2.1
  refine ⟨h.hb.other _ (fun e => ?_), h.ha.other (u := .bool b) _ (h.ha.ne_col (by simp only; omega)) rfl, ?_, fun i hi => ?_, h.la, by simp [h.lg], h.le⟩
  · have := h.hb.1
    simp only at e
    rw [e] at hgc
    omega
  · have := h.hg.set x (.bool b) (by have := h.lg; simp; omega)
    rw [List.map_set]
    exact this
  · obtain ⟨oj, nj, cj, h1, h2⟩ := h.hv i hi
    exact ⟨oj, nj, cj, h1, h2.other (u := .bool b) _ (h2.ne_col (by simp only; omega)) rfl⟩

set_option maxRecDepth 100000 in
theorem grdrop_ok {c : Nat → Nat} {k : Nat} {w : World} {p : Nat} {A : List (List Nat)} {G : List Bool} (h : GraphAt c k w p A G) (x : Nat) (hx : hasB G x = true) (hb : behindL A x = []) :
    Calls Try.prog 92 #[.pointer (some ⟨p, 0, none⟩), .int .i64 x] w fun e w' => e = .returned .nilIface ∧ ∃ c', Stp (GJ k) c c' w w' ∧ GraphAt c' k w' p (A.set x []) (G.set x true) := by
  have H := Lib.hid h
  have Hx := Lib.hid hx
  have HB := Lib.hid (show (behindL A x).length = 0 by rw [hb]; rfl)
  clear h hb
  go_enter Try.func92, Try.ntmps92
  go_wp2_with (go_at_call 80; refine (ghas_yes H.out x Hx.out).mono ?_; rintro e w' ⟨rfl, rfl⟩)
  refine (grbehind_p H.out x Hx.out 0).mono ?_
  rintro e w1 ⟨ao, cap, rfl, c1, s1, r1⟩
  have S1 := Lib.hid s1
  rw [HB.out]
  obtain ⟨vs, n, ao, cap, bo, bcap, h⟩ := H.out.stp s1 (fun _ h => h.elim)
  have h1 : x < n := by have := hasB_nat_lt hx; rw [h.lg] at this; exact this
  obtain ⟨g, off, oi, ci, rfl, hcg, -, y0, yf, hr⟩ := h.node h1
  obtain ⟨g2, off2, rfl, hcg2, -, z0, zf⟩ := h.bit h1
  have b0 := h.hb.cell 0
  have b1 := h.hb.cell 1
  simp at b0 b1
  have hne : g ≠ g2 := by rintro rfl; omega
  have hnp : g ≠ p := by rintro rfl; have := h.hb.1; omega
  have hnp2 : g2 ≠ p := by rintro rfl; have := h.hb.1; omega
  have hl : (x : Int) < n := by omega
  have I := Lib.hid h
  have Hcg := Lib.hid hcg
  have Hcg2 := Lib.hid hcg2
  have Hh1 := Lib.hid h1
  clear s1 r1 h hr hx hcg hcg2 h1 HB
  go_wp2
  go_region
  all_goals
    go_wp2
    go_ret
    have I2 := (I.out.setGone Hh1.out true).setNode Hh1.out (l := []) (Row.nil _ _ _ _ _)
    exact ⟨by simp, c1, (((S1.out.mono (fun _ h => h.elim)).setCell (p := ⟨g2, off2 + x, none⟩) (.bool true) (by rw [Hcg2.out]; exact ⟨by omega, by omega⟩)).setCell (p := ⟨g, off + x, none⟩) (.slice none 0 0) (by rw [Hcg.out]; exact ⟨by omega, by omega⟩)).drew, _, _, _, _, _, _, I2.stp ((Stp.refl (fun _ => False) _ _).drew) (fun _ h => h.elim)⟩

theorem grlink_nil (c : Nat → Nat) (x y : Int) (w : World) : Calls Try.prog 90 #[.pointer none, .int .i64 x, .int .i64 y] w (NewErr c w 2) := by
  go_enter Try.func90, Try.ntmps90
  go_wp2
  go_ret
  exact ⟨_, rfl, c, Stp.refl _ _ _, .inl rfl⟩

set_option maxRecDepth 100000 in
theorem grlink_none1 {c : Nat → Nat} {k : Nat} {w : World} {p : Nat} {A : List (List Nat)} {G : List Bool} (h : GraphAt c k w p A G) (x y : Int) (hx : hasB G x = false) :
    Calls Try.prog 90 #[.pointer (some ⟨p, 0, none⟩), .int .i64 x, .int .i64 y] w (NewErr c w 3) := by
  have H := Lib.hid h
  have Hx := Lib.hid hx
  clear h hx
  go_enter Try.func90, Try.ntmps90
  go_wp2_with (first
    | (go_at_call 80; refine (ghas_no H.out x Hx.out).mono ?_; rintro e w' ⟨rfl, rfl⟩)
    | (go_at_call 102; refine (wrap_some _ _ _ _ _).mono ?_; rintro e w' ⟨rfl, rfl⟩))
  go_ret
  exact ⟨_, rfl, _, (Stp.refl _ c w).alloc _ 1, ErrAt.new _ _ _ _ _⟩

set_option maxRecDepth 100000 in
theorem grlink_none2 {c : Nat → Nat} {k : Nat} {w : World} {p : Nat} {A : List (List Nat)} {G : List Bool} (h : GraphAt c k w p A G) (x : Nat) (y : Int) (hx : hasB G x = true) (hy : hasB G y = false) :
    Calls Try.prog 90 #[.pointer (some ⟨p, 0, none⟩), .int .i64 x, .int .i64 y] w (NewErr c w 3) := by
  have H := Lib.hid h
  have Hx := Lib.hid hx
  have Hy := Lib.hid hy
  clear h hx hy
  go_enter Try.func90, Try.ntmps90
  go_wp2_with fail
  go_at_call 80
  refine (ghas_yes H.out x Hx.out).mono ?_
  rintro e w' ⟨rfl, rfl⟩
  go_wp2_with fail
  go_at_call 80
  refine (ghas_no H.out y Hy.out).mono ?_
  rintro e w' ⟨rfl, rfl⟩
  go_wp2_with fail
  go_at_call 102
  refine (wrap_some _ _ _ _ _).mono ?_
  rintro e w' ⟨rfl, rfl⟩
  go_wp2_with fail
  go_ret
  exact ⟨_, rfl, _, (Stp.refl _ c w).alloc _ 1, ErrAt.new _ _ _ _ _⟩

set_option maxRecDepth 100000 in
theorem grlink_self {c : Nat → Nat} {k : Nat} {w : World} {p : Nat} {A : List (List Nat)} {G : List Bool} (h : GraphAt c k w p A G) (x : Nat) (hx : hasB G x = true) :
    Calls Try.prog 90 #[.pointer (some ⟨p, 0, none⟩), .int .i64 x, .int .i64 x] w (NewErr c w 16) := by
  have H := Lib.hid h
  have Hx := Lib.hid hx
  clear h hx
  have t : ((x : Int) == (x : Int)) = true := by simp
  go_enter Try.func90, Try.ntmps90
  go_wp2_with (first
    | (go_at_call 80; refine (ghas_yes H.out x Hx.out).mono ?_; rintro e w' ⟨rfl, rfl⟩)
    | (go_at_call 102; refine (wrap_some _ _ _ _ _).mono ?_; rintro e w' ⟨rfl, rfl⟩))
  go_ret
  exact ⟨_, rfl, _, (Stp.refl _ c w).alloc _ 1, ErrAt.new _ _ _ _ _⟩

set_option maxRecDepth 100000 in
theorem grlink_ring {c : Nat → Nat} {k : Nat} {w : World} {p : Nat} {A : List (List Nat)} {G : List Bool} (h : GraphAt c k w p A G) (gd : Good A G) (x y : Nat) (hx : hasB G x = true) (hy : hasB G y = true) (hne : x ≠ y) (hr : Reaches A y x) :
    Calls Try.prog 90 #[.pointer (some ⟨p, 0, none⟩), .int .i64 x, .int .i64 y] w (NewErr c w 16) := by
  have H := Lib.hid h
  have Hx := Lib.hid hx
  have Hy := Lib.hid hy
  have Gd := Lib.hid gd
  have Hm := Lib.hid (ints_mem.2 ((mem_reachL gd).2 hr))
  have t : ((x : Int) == (y : Int)) = false := by simpa using (by omega : ¬ (x : Int) = y)
  clear h hx hy gd hne hr
  go_enter Try.func90, Try.ntmps90
  go_wp2_with fail
  go_at_call 80
  refine (ghas_yes H.out x Hx.out).mono ?_
  rintro e w' ⟨rfl, rfl⟩
  go_wp2_with fail
  go_at_call 80
  refine (ghas_yes H.out y Hy.out).mono ?_
  rintro e w' ⟨rfl, rfl⟩
  go_wp2_with fail
  go_at_call 83
  refine (grreach_p H.out Gd.out y Hy.out 0).mono ?_
  rintro e w1 ⟨ao, cap, rfl, c1, s1, r1⟩
  have S1 := Lib.hid s1
  have R1 := Lib.hid r1
  clear s1 r1
  go_wp2_with (first
    | (go_at_call 105; refine (contains_yes R1.out.toIn _ Hm.out).mono ?_; rintro e w' ⟨rfl, rfl⟩)
    | (go_at_call 102; refine (wrap_some _ _ _ _ _).mono ?_; rintro e w' ⟨rfl, rfl⟩))
  go_ret
  exact ⟨_, rfl, _, S1.out.alloc _ 1, ErrAt.new _ _ _ _ _⟩
set_option maxRecDepth 100000 in
theorem grlink_there {c : Nat → Nat} {k : Nat} {w : World} {p : Nat} {A : List (List Nat)} {G : List Bool} (h : GraphAt c k w p A G) (gd : Good A G) (x y : Nat) (hx : hasB G x = true) (hy : hasB G y = true) (hne : x ≠ y) (hr : ¬ Reaches A y x) (hm : y ∈ A.getD x []) :
    Calls Try.prog 90 #[.pointer (some ⟨p, 0, none⟩), .int .i64 x, .int .i64 y] w (NewErr c w 4) := by
  have H := Lib.hid h
  have Hx := Lib.hid hx
  have Hy := Lib.hid hy
  have Gd := Lib.hid gd
  have Hm := Lib.hid (fun hh => hr ((mem_reachL gd).1 (ints_mem.1 hh)))
  have Hm2 := Lib.hid (ints_mem.2 hm)
  have t : ((x : Int) == (y : Int)) = false := by simpa using (by omega : ¬ (x : Int) = y)
  clear h hy gd hne hr hm
  go_enter Try.func90, Try.ntmps90
  go_wp2_with fail
  go_at_call 80
  refine (ghas_yes H.out x Hx.out).mono ?_
  rintro e w' ⟨rfl, rfl⟩
  go_wp2_with fail
  go_at_call 80
  refine (ghas_yes H.out y Hy.out).mono ?_
  rintro e w' ⟨rfl, rfl⟩
  go_wp2_with fail
  go_at_call 83
  refine (grreach_p H.out Gd.out y Hy.out 0).mono ?_
  rintro e w1 ⟨ao, cap, rfl, c1, s1, r1⟩
  have S1 := Lib.hid s1
  have R1 := Lib.hid r1
  obtain ⟨vs, n, ao, cap, bo, bcap, h⟩ := H.out.stp s1 (fun _ h => h.elim)
  have h1 : x < n := by have := hasB_nat_lt hx; rw [h.lg] at this; exact this
  obtain ⟨g, off, oi, ci, rfl, hcg, -, y0, yf, hr⟩ := h.node h1
  have b0 := h.hb.cell 0
  simp at b0
  have hl : (x : Int) < n := by omega
  have HR := Lib.hid hr
  obtain ⟨L, hL⟩ : ∃ L, L = (A.getD x []).length := ⟨_, rfl⟩
  rw [← hL] at y0 HR
  clear s1 r1 h hr hL hx
  go_wp2_with fail
  go_at_call 105
  refine (contains_no R1.out.toIn _ Hm.out).mono ?_
  rintro e w' ⟨rfl, rfl⟩
  go_wp2_with fail
  go_at_call 105
  refine (contains_yes HR.out.toIn _ Hm2.out).mono ?_
  rintro e w' ⟨rfl, rfl⟩
  go_wp2_with fail
  go_at_call 102
  refine (wrap_some _ _ _ _ _).mono ?_
  rintro e w' ⟨rfl, rfl⟩
  go_wp2_with fail
  go_ret
  exact ⟨_, rfl, _, S1.out.alloc _ 1, ErrAt.new _ _ _ _ _⟩

theorem linked {c c1 c3 : Nat → Nat} {k : Nat} {w w1 w3 : World} {p : Nat} {A : List (List Nat)} {G : List Bool} {vs : List Value} {n : Nat} {g off : Nat} {cap : Nat} {bo : Option Addr} {bcap x : Nat} {y : Nat} {oi : Option Addr} {ni ci : Nat} {o : Obj}
    (s : Stp (fun _ => False) c c1 w w1) (h : GraphIs c1 k w1 p A G vs n (some ⟨g, off, none⟩) cap bo bcap) (hx : x < n) (hcg : c1 g = k + 1)
    (st : Stp (· = k + 3 + x) (paint c1 w1.drew.heap.size (k + 3 + x)) c3 (w1.drew.alloc o) w3) (hr : Row c3 (k + 3 + x) w3 3 1 oi ni ci ((ints (A.getD x [])).map (Value.int .i64) ++ [.int .i64 (y : Int)])) :
    ∃ c', Stp (GJ k) c c' w (w3.setCell ⟨g, off + x, none⟩ (.slice oi ni ci)) ∧ GraphAt c' k (w3.setCell ⟨g, off + x, none⟩ (.slice oi ni ci)) p (A.set x (A.getD x [] ++ [y])) G := by
  have st' : Stp (· = k + 3 + x) c1 c3 w1 w3 := ((Stp.refl _ c1 w1).drew.alloc o (k + 3 + x)).trans st
  have hgl : g < w1.heap.size := by
    obtain ⟨_, _, _, _, _, _, hb, _⟩ := h.ha
    exact lt_of_block hb
  refine ⟨c3, ((s.mono (fun _ h => h.elim)).trans (st'.mono (fun j hj => by have := h.le; exact ⟨by omega, by omega⟩))).setCell _ (by simp only; rw [st'.col g hgl, hcg]; exact ⟨by omega, by omega⟩), _, _, _, _, _, _, h.turn hx st' ?_⟩
  rw [ints_app, List.map_append]
  exact hr

set_option maxRecDepth 100000 in
set_option maxHeartbeats 4000000 in
theorem grlink_ok {c : Nat → Nat} {k : Nat} {w : World} {p : Nat} {A : List (List Nat)} {G : List Bool} (h : GraphAt c k w p A G) (gd : Good A G) (x y : Nat) (hx : hasB G x = true) (hy : hasB G y = true) (hne : x ≠ y) (hr : ¬ Reaches A y x) (hm : y ∉ A.getD x []) :
    Calls Try.prog 90 #[.pointer (some ⟨p, 0, none⟩), .int .i64 x, .int .i64 y] w fun e w' => e = .returned .nilIface ∧ ∃ c', Stp (GJ k) c c' w w' ∧ GraphAt c' k w' p (A.set x (A.getD x [] ++ [y])) G := by
  have H := Lib.hid h
  have Hx := Lib.hid hx
  have Hy := Lib.hid hy
  have Gd := Lib.hid gd
  have Hm := Lib.hid (fun hh => hr ((mem_reachL gd).1 (ints_mem.1 hh)))
  have Hm2 := Lib.hid (fun hh => hm (ints_mem.1 hh))
  have hsm := gd.small x
  have t : ((x : Int) == (y : Int)) = false := by simpa using (by omega : ¬ (x : Int) = y)
  clear h hy gd hne hr hm
  go_enter Try.func90, Try.ntmps90
  go_wp2_with fail
  go_at_call 80
  refine (ghas_yes H.out x Hx.out).mono ?_
  rintro e w' ⟨rfl, rfl⟩
  go_wp2_with fail
  go_at_call 80
  refine (ghas_yes H.out y Hy.out).mono ?_
  rintro e w' ⟨rfl, rfl⟩
  go_wp2_with fail
  go_at_call 83
  refine (grreach_p H.out Gd.out y Hy.out 0).mono ?_
  rintro e w1 ⟨ao, cap, rfl, c1, s1, r1⟩
  have S1 := Lib.hid s1
  have R1 := Lib.hid r1
  obtain ⟨vs, n, ao, cap, bo, bcap, h⟩ := H.out.stp s1 (fun _ h => h.elim)
  have h1 : x < n := by have := hasB_nat_lt hx; rw [h.lg] at this; exact this
  obtain ⟨g, off, oi, ci, rfl, hcg, hglt, y0, yf, hr⟩ := h.node h1
  have hplt := h.hb.lt
  have b0 := h.hb.cell 0
  simp at b0
  have hl : (x : Int) < n := by omega
  have HR := Lib.hid hr
  have I := Lib.hid h
  have Hcg := Lib.hid hcg
  have hnp : g ≠ p := by rintro rfl; have := h.hb.1; omega
  have d1 : Hid ((A.getD x []).length + 1 ≤ maxLen) := Lib.hid (by unfold maxLen; omega)
  have d2 : Hid (((A.getD x []).length + 1) * 8 ≤ 140737488355328) := Lib.hid (by omega)
  obtain ⟨L, hL⟩ : ∃ L, L = (A.getD x []).length := ⟨_, rfl⟩
  rw [← hL] at y0 HR d1 d2
  have HL := Lib.hid hL
  have Hh1 := Lib.hid h1
  have Ha := Lib.hid h.ha
  have Hb := Lib.hid h.hb
  obtain ⟨v0, hv0⟩ : ∃ v, vs[x]? = some v := ⟨_, List.getElem?_eq_getElem (by have := h.ha.1; omega)⟩
  have Hv := Lib.hid hv0
  clear s1 r1 h hr hL hx hsm hcg h1 hv0
  go_wp2_with fail
  go_at_call 105
  refine (contains_no R1.out.toIn _ Hm.out).mono ?_
  rintro e w' ⟨rfl, rfl⟩
  go_wp2_with fail
  go_at_call 105
  refine (contains_no HR.out.toIn _ Hm2.out).mono ?_
  rintro e w' ⟨rfl, rfl⟩
  go_wp2_with fail
  go_region_law (refine step_row rfl (.tmp 65) (.tmp 67) 40 rfl _ (k + 3 + x) 3 (.int .i64 0) 1 8 Try.underlying40 Try.infoInt rfl oi L ci ((ints (A.getD x [])).map (Value.int .i64)) rfl (HR.out.drew.alloc _ (k + 3 + x)) _ 1 [.int .i64 (y : Int)] rfl (Src.one _ _ 3) (by simp [Value.oneCell']) d1.out d2.out ?_; intro oi2 ci2 w3 hr3 st3 ot3; obtain ⟨a3, ha3, -, yc, yz, yadd, -⟩ := ((Ha.out.drew.alloc (.cells #[.int .i64 (y : Int)] 3) (k + 3 + x)).stp st3 (by omega)).cell Hv.out; cases ha3; rw [yadd] at yc yz; simp only at yc yz; clear yadd; have k0 := ((Hb.out.drew.alloc (.cells #[.int .i64 (y : Int)] 3) (k + 3 + x)).stp st3 (by omega)).cell 0; simp at k0)
  all_goals
    go_wp2
    go_ret
    exact ⟨by simp, linked S1.out I.out Hh1.out Hcg.out st3 hr3⟩
end Go.Proofs.Ytmhhhiegioniaaa
