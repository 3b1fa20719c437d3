/- The document's graph: what its value is; contracts of Has, Behind, Drop. No condition beyond each contract's own. -/
import Derived.Test.YtmhhhiegioniaaaGraphDrops
namespace Go.Proofs.Ytmhhhiegioniaaa
open Go.RowKit Go.Deep

/-- The document's graph: two slices, and each node's own list. -/
structure RefIs (c : Nat → Nat) (k : Nat) (w : World) (A : List (List Nat)) (G : List Bool) (vs : List Value) (n : Nat) (ao : Option Addr) (cap : Nat) (bo : Option Addr) (bcap : Nat) : Prop where
  ha : Row c (k + 1) w 40 1 ao n cap vs
  hg : Row c (k + 2) w 4 1 bo n bcap (G.map Value.bool)
  hv : ∀ i, i < n → ∃ oi ni ci, vs[i]? = some (.slice oi ni ci) ∧ Row c (k + 3 + i) w 3 1 oi ni ci ((ints (A.getD i [])).map (Value.int .i64))
  la : A.length = n
  lg : G.length = n
  le : n ≤ 64

section
variable {c c' : Nat → Nat} {k : Nat} {w w' : World} {A : List (List Nat)} {G : List Bool} {vs : List Value} {n : Nat} {ao : Option Addr} {cap : Nat} {bo : Option Addr} {bcap : Nat}

theorem RefIs.stp {J : Nat → Prop} (h : RefIs c k w A G vs n ao cap bo bcap) (s : Stp J c c' w w') (hJ : ∀ j, J j → ¬ GJ k j) : RefIs c' k w' A G vs n ao cap bo bcap :=
  ⟨h.ha.stp s (fun hh => hJ _ hh ⟨by omega, by omega⟩), h.hg.stp s (fun hh => hJ _ hh ⟨by omega, by omega⟩), fun i hi => by
    obtain ⟨oi, ni, ci, h1, h2⟩ := h.hv i hi
    exact ⟨oi, ni, ci, h1, h2.stp s (fun hh => hJ _ hh ⟨by omega, by have := h.le; omega⟩)⟩, h.la, h.lg, h.le⟩

theorem RefIs.recol (h : RefIs c k w A G vs n ao cap bo bcap) : RefIs (recol c k) k w A G vs n ao cap bo bcap :=
  ⟨h.ha.recol ⟨by omega, by omega⟩, h.hg.recol ⟨by omega, by omega⟩, fun i hi => by
    obtain ⟨oi, ni, ci, h1, h2⟩ := h.hv i hi
    exact ⟨oi, ni, ci, h1, h2.recol ⟨by omega, by have := h.le; omega⟩⟩, h.la, h.lg, h.le⟩

theorem RefIs.node (h : RefIs c k w A G vs n ao cap bo bcap) {i : Nat} (hi : i < n) :
    ∃ g off oi ci, ao = some ⟨g, off, none⟩ ∧ c g = k + 1 ∧ g < w.heap.size ∧ w.cell? ⟨g, off + i, none⟩ = some (.slice oi (A.getD i []).length ci) ∧ w.frozen? ⟨g, off + i, none⟩ = false ∧ Row c (k + 3 + i) w 3 1 oi (A.getD i []).length ci ((ints (A.getD i [])).map (Value.int .i64)) := by
  obtain ⟨oi, ni, ci, h1, h2⟩ := h.hv i hi
  obtain ⟨a, rfl, hs, hc, hf, ha, hcol⟩ := h.ha.cell h1
  obtain ⟨g, off, sp⟩ := a
  simp only at hs
  subst hs
  rw [ha] at hc hf
  have hni : ni = (A.getD i []).length := by have := h2.1; rw [List.length_map, ints_len] at this; omega
  subst hni
  obtain ⟨cur, hb, -⟩ := h.ha.2.2.2.2.2
  exact ⟨g, off, oi, ci, rfl, hcol, lt_of_block hb, hc, hf, h2⟩

theorem RefIs.bit (h : RefIs c k w A G vs n ao cap bo bcap) {i : Nat} (hi : i < n) :
    ∃ g off, bo = some ⟨g, off, none⟩ ∧ c g = k + 2 ∧ g < w.heap.size ∧ w.cell? ⟨g, off + i, none⟩ = some (.bool (G.getD i true)) ∧ w.frozen? ⟨g, off + i, none⟩ = false := by
  have hlt : i < G.length := by rw [h.lg]; exact hi
  obtain ⟨a, rfl, hs, hc, hf, ha, hcol⟩ := h.hg.cell (j := i) (v := .bool (G.getD i true)) (by simp [List.getD, hlt])
  obtain ⟨g, off, sp⟩ := a
  simp only at hs
  subst hs
  rw [ha] at hc hf
  obtain ⟨cur, hb, -⟩ := h.hg.2.2.2.2.2
  exact ⟨g, off, rfl, hcol, lt_of_block hb, hc, hf⟩

theorem RefIs.turn {g off : Nat} (h : RefIs c k w A G vs n (some ⟨g, off, none⟩) cap bo bcap) {x : Nat} (hx : x < n) {l : List Nat} {oi : Option Addr} {ni ci : Nat}
    (st : Stp (· = k + 3 + x) c c' w w') (hr : Row c' (k + 3 + x) w' 3 1 oi ni ci ((ints l).map (Value.int .i64))) :
    RefIs c' k (w'.setCell ⟨g, off + x, none⟩ (.slice oi ni ci)) (A.set x l) G (vs.set x (.slice oi ni ci)) n (some ⟨g, off, none⟩) cap bo bcap := by
  have hlen : vs.length = n := by have := h.ha.1; omega
  have ha := h.ha.stp st (by omega)
  have hgc : c' g = k + 1 := ha.2.2.2.2.1
  have hg := h.hg.stp st (by omega)
  refine ⟨ha.set x _ (by omega), hg.other (u := .slice oi ni ci) _ (hg.ne_col (by simp only; omega)) rfl, fun i hi => ?_, by simp [h.la], h.lg, h.le⟩
  by_cases hix : x = i
  · subst hix
    refine ⟨oi, ni, ci, by rw [List.getElem?_set, if_pos rfl, if_pos (by omega)], ?_⟩
    rw [getD_set _ _ _ (by rw [h.la]; exact hi), if_pos rfl]
    exact hr.other (u := .slice oi ni ci) _ (hr.ne_col (by simp only; omega)) rfl
  · obtain ⟨oj, nj, cj, h1, h2⟩ := h.hv i hi
    have h2 := h2.stp st (by omega)
    refine ⟨oj, nj, cj, by rw [List.getElem?_set, if_neg hix]; exact h1, ?_⟩
    rw [getD_set _ _ _ (by rw [h.la]; exact hx), if_neg (fun e => hix e.symm)]
    exact h2.other (u := .slice oi ni ci) _ (h2.ne_col (by simp only; omega)) rfl

theorem RefIs.setGone {g off : Nat} (h : RefIs c k w A G vs n ao cap (some ⟨g, off, none⟩) bcap) {x : Nat} (hx : x < n) (b : Bool) :
    RefIs c k (w.setCell ⟨g, off + x, none⟩ (.bool b)) A (G.set x b) vs n ao cap (some ⟨g, off, none⟩) bcap := by
  have hgc : c g = k + 2 := h.hg.2.2.2.2.1
  refine ⟨h.ha.other (u := .bool b) _ (h.ha.ne_col (by simp only; omega)) rfl, ?_, fun i hi => ?_, h.la, by simp [h.lg], h.le⟩
  · have := h.hg.set x (.bool b) (by have := h.lg; simp; omega)
    rw [List.map_set]
    exact this
  · obtain ⟨oj, nj, cj, h1, h2⟩ := h.hv i hi
    exact ⟨oj, nj, cj, h1, h2.other (u := .bool b) _ (h2.ne_col (by simp only; omega)) rfl⟩
end

set_option maxRecDepth 100000 in
theorem r13has_any {c : Nat → Nat} {k : Nat} {w : World} {A : List (List Nat)} {G : List Bool} {vs : List Value} {n : Nat} {ao : Option Addr} {cap : Nat} {bo : Option Addr} {bcap : Nat} (h : RefIs c k w A G vs n ao cap bo bcap) (x : Int) (b : Bool) (hb : hasB G x = b) :
    Calls Try.prog 96 #[.agg #[.slice ao n cap, .slice bo n bcap], .int .i64 x] w fun e w' => e = .returned (.bool b) ∧ ∃ c', Stp (fun _ => False) c c' w w' := by
  have HS := Lib.hid ((Stp.refl (fun _ => False) c w).alloc (.cells #[.slice ao n cap, .slice bo n bcap] 134) 0)
  have hle := h.le
  by_cases h0 : x < 0
  · have t0 : decide (x ≥ 0) = false := by simp; omega
    have t1 : decide (0 ≤ x) = false := by simp; omega
    have Hb := Lib.hid (show b = false by rw [← hb, hasB, t1]; rfl)
    clear h hb h0
    go_enter Try.func96, Try.ntmps96
    go_wp2
    go_ret
    rw [Hb.out]
    exact ⟨by simp, _, HS.out⟩
  · obtain ⟨i, rfl⟩ : ∃ i : Nat, x = i := ⟨x.toNat, by omega⟩
    have tg : decide ((0 : Int) ≤ (i : Int)) = true := by simp
    by_cases hlt : i < n
    · obtain ⟨g, off, rfl, -, hg, y0, -⟩ := h.bit hlt
      have Hb := Lib.hid (show (!G.getD i true) = b by rw [← hb, hasB, tg, Int.toNat_natCast, Bool.true_and])
      have hl : (i : Int) < n := by omega
      obtain ⟨u, hu⟩ : ∃ u, u = G.getD i true := ⟨_, rfl⟩
      rw [← hu] at y0 Hb
      clear h hb hu tg
      cases u
      all_goals
        go_enter Try.func96, Try.ntmps96
        go_wp2
        go_ret
        rw [← Hb.out]
        exact ⟨by simp, _, HS.out⟩
    · have t1 : decide ((i : Int) < n) = false := by simp; omega
      have Hb := Lib.hid (show b = false by
        rw [← hb, hasB, Int.toNat_natCast, List.getD_eq_getElem?_getD, List.getElem?_eq_none (by have := h.lg; omega)]
        simp)
      clear h hb tg
      go_enter Try.func96, Try.ntmps96
      go_wp2
      go_ret
      rw [Hb.out]
      exact ⟨by simp, _, HS.out⟩

structure RFRel (c : Nat → Nat) (k kr kb : Nat) (w : World) (b : Nat) (A : List (List Nat)) (G : List Bool) (vs : List Value) (n : Nat) (ao : Option Addr) (cap : Nat) (bo : Option Addr) (bcap : Nat) (l : List Nat) (oo : Option Addr) (N oc : Nat) (c' : Nat → Nat) (wr : World) : Prop where
  len : N = l.length
  row : Row c' kr wr 3 1 oo N oc ((ints l).map (Value.int .i64))
  rf : RefIs c' k wr A G vs n ao cap bo bcap
  box : Blk c' kb wr b [.slice ao n cap, .slice bo n bcap] 134
  st : Stp (· = kr) c c' w wr

theorem RFRel.push {c : Nat → Nat} {k kr kb : Nat} {w : World} {b : Nat} {A : List (List Nat)} {G : List Bool} {vs : List Value} {n : Nat} {ao : Option Addr} {cap : Nat} {bo : Option Addr} {bcap : Nat} {l : List Nat} {oo : Option Addr} {N oc : Nat} {c' : Nat → Nat} {wr : World}
    (h : RFRel c k kr kb w b A G vs n ao cap bo bcap l oo N oc c' wr) (hk : ¬ GJ k kr) (hb : kb ≠ kr) {j : Nat} {oo2 : Option Addr} {oc2 : Nat} {c2 : Nat → Nat} {w2 : World} (hr : Row c2 kr w2 3 1 oo2 (N + 1) oc2 ((ints l).map (Value.int .i64) ++ [.int .i64 (j : Int)])) (st : Stp (· = kr) c' c2 wr w2) :
    RFRel c k kr kb w b A G vs n ao cap bo bcap (l ++ [j]) oo2 (N + 1) oc2 c2 w2 :=
  ⟨by rw [List.length_append, ← h.len]; rfl, by rw [ints_app, List.map_append]; exact hr, h.rf.stp st (fun q hq => by rw [hq]; exact hk), h.box.stp st hb, h.st.trans st⟩

theorem RFRel.stpF {c : Nat → Nat} {k kr kb : Nat} {w : World} {b : Nat} {A : List (List Nat)} {G : List Bool} {vs : List Value} {n : Nat} {ao : Option Addr} {cap : Nat} {bo : Option Addr} {bcap : Nat} {l : List Nat} {oo : Option Addr} {N oc : Nat} {c' c2 : Nat → Nat} {wr w2 : World}
    (h : RFRel c k kr kb w b A G vs n ao cap bo bcap l oo N oc c' wr) (s : Stp (fun _ => False) c' c2 wr w2) : RFRel c k kr kb w b A G vs n ao cap bo bcap l oo N oc c2 w2 :=
  ⟨h.len, h.row.stp s id, h.rf.stp s (fun _ h => h.elim), h.box.stp s id, h.st.trans (s.mono fun _ h => h.elim)⟩

theorem RFRel.start {c : Nat → Nat} {k : Nat} (kr kb : Nat) {w : World} {A : List (List Nat)} {G : List Bool} {vs : List Value} {n : Nat} {ao : Option Addr} {cap : Nat} {bo : Option Addr} {bcap : Nat} (h : RefIs c k w A G vs n ao cap bo bcap) :
    RFRel c k kr kb w w.heap.size A G vs n ao cap bo bcap [] none 0 0 (paint c w.heap.size kb) (w.alloc (.cells #[.slice ao n cap, .slice bo n bcap] 134)) :=
  ⟨rfl, Row.nil _ _ _ _ _, h.stp ((Stp.refl (fun _ => False) c w).alloc _ kb) (fun _ h => h.elim), Blk.new c kb w _ _, (Stp.refl _ c w).alloc _ kb⟩

set_option maxRecDepth 100000 in
theorem r13behind_any {c : Nat → Nat} {k : Nat} {w : World} {A : List (List Nat)} {G : List Bool} {vs : List Value} {n : Nat} {ao : Option Addr} {cap : Nat} {bo : Option Addr} {bcap : Nat} (h : RefIs c k w A G vs n ao cap bo bcap) (x : Nat) (kr kb : Nat) (hk : ¬ GJ k kr) (hkb : kb ≠ kr) :
    Calls Try.prog 99 #[.agg #[.slice ao n cap, .slice bo n bcap], .int .i64 x] w fun e w' => ∃ ao cap, e = .returned (.slice ao (behindL A x).length cap) ∧ ∃ c', Stp (· = kr) c c' w w' ∧ Row c' kr w' 3 1 ao (behindL A x).length cap ((ints (behindL A x)).map (Value.int .i64)) := by
  have hle := h.le
  have Hk := Lib.hid hk
  have Hkb := Lib.hid hkb
  obtain ⟨f, hf⟩ : ∃ f : Nat → Bool, f = fun i => decide (x ∈ A.getD i []) := ⟨_, rfl⟩
  have F := Lib.hid hf
  rw [show behindL A x = (List.range n).filter f by rw [behindL, h.la, hf]]
  have R0 := Lib.hid (RFRel.start kr kb h)
  clear h hf hk hkb
  go_enter Try.func99, Try.ntmps99
  go_wp2
  obtain ⟨b, hb⟩ : ∃ b, b = w.heap.size := ⟨_, rfl⟩
  rw [← hb] at R0 ⊢
  clear hb
  go_loopw [5, 6] (fun v i wr => ∃ (c' : Nat → Nat) (j : Nat) (oo : Option Addr) (N oc : Nat), v = .slice oo N oc ∧ i = .int .i64 j ∧ j ≤ n ∧ RFRel c k kr kb w b A G vs n ao cap bo bcap ((List.range j).filter f) oo N oc c' wr) (fun _ i _ => n - (intOf i).toNat)
  case atStart => exact ⟨_, 0, none, 0, 0, rfl, rfl, Nat.zero_le _, R0.out⟩
  case round =>
    obtain ⟨c1, j, oo, N, oc, rfl, rfl, hj, hr⟩ := hrel
    have R := Lib.hid hr
    have b0 := hr.box.cell 0
    simp at b0
    clear hr R0
    by_cases hlt : j < n
    · obtain ⟨g, off, oi, ci, rfl, -, -, y0, -, hrow⟩ := R.out.rf.node hlt
      have HR := Lib.hid hrow
      obtain ⟨L, hL⟩ : ∃ L, L = (A.getD j []).length := ⟨_, rfl⟩
      rw [← hL] at y0 HR
      clear hrow hL
      have hN : N ≤ 64 := by rw [R.out.len]; have := range_filter_le f j; omega
      by_cases hm : x ∈ A.getD j []
      · have Hf := Lib.hid (show (List.range (j + 1)).filter f = (List.range j).filter f ++ [j] by rw [range_filter_succ, if_pos (by rw [F.out]; simpa using hm)])
        have Hm := Lib.hid (show decide ((x : Int) ∈ ints (A.getD j [])) = true by rw [decide_eq_true_iff]; exact ints_mem.2 hm)
        clear hm
        have d1 : Hid (N + 1 ≤ maxLen) := Lib.hid (by unfold maxLen; omega)
        have d2 : Hid ((N + 1) * 8 ≤ 140737488355328) := Lib.hid (by omega)
        go_wp2_with (first
          | (go_at_call 82; refine (in13_any HR.out.toIn _ true Hm.out).mono ?_; rintro e w' ⟨rfl, rfl⟩)
          | (at_builtin; refine wpList_append_row _ rfl (.tmp 21) (.tmp 23) 40 rfl (paint c1 wr.heap.size kr) kr 3 (.int .i64 0) 1 8 Try.underlying40 Try.infoInt rfl oo N oc ((ints ((List.range j).filter f)).map (Value.int .i64)) rfl (R.out.row.alloc _ kr) _ 1 [.int .i64 (j : Int)] rfl (Src.one wr _ 3) (by simp [Value.oneCell']) d1.out d2.out ?_))
        intro oo2 oc2 w2 hr2 st2 _
        have s2 := ((Stp.refl (· = kr) c1 wr).alloc (.cells #[.int .i64 (j : Int)] 3) kr).trans st2
        have R2 := Lib.hid (R.out.push Hk.out Hkb.out hr2 s2)
        rw [← Hf.out] at R2
        clear hr2 st2 s2 y0 hN
        go_wp2
        go_roundw
        case rel => exact ⟨_, j + 1, oo2, N + 1, oc2, rfl, by go_num, by omega, R2.out⟩
        case measure => simp [intOf]; omega
      · have Hf := Lib.hid (show (List.range (j + 1)).filter f = (List.range j).filter f by rw [range_filter_succ, if_neg (by rw [F.out]; simpa using hm), List.append_nil])
        have Hm := Lib.hid (show decide ((x : Int) ∈ ints (A.getD j [])) = false by rw [decide_eq_false_iff_not]; exact fun h => hm (ints_mem.1 h))
        clear hm
        go_wp2_with (go_at_call 82; refine (in13_any HR.out.toIn _ false Hm.out).mono ?_; rintro e w' ⟨rfl, rfl⟩)
        go_roundw
        case rel => exact ⟨_, j + 1, oo, N, oc, rfl, by go_num, by omega, by rw [Hf.out]; exact R.out⟩
        case measure => simp [intOf]; omega
    · obtain rfl : j = n := by omega
      go_wp2
      go_ret
      rw [← R.out.len]
      exact ⟨oo, oc, rfl, c1, R.out.st, R.out.row⟩

theorem r13behind_p {c : Nat → Nat} {k : Nat} {w : World} {A : List (List Nat)} {G : List Bool} {vs : List Value} {n : Nat} {ao : Option Addr} {cap : Nat} {bo : Option Addr} {bcap : Nat} (h : RefIs c k w A G vs n ao cap bo bcap) (x : Nat) (kr : Nat) :
    Calls Try.prog 99 #[.agg #[.slice ao n cap, .slice bo n bcap], .int .i64 x] w (NewInts c kr w (behindL A x)) := by
  refine (r13behind_any h.recol x (k + 70) (k + 71) (by unfold GJ; omega) (by omega)).mono ?_
  rintro e w' ⟨ao, cap, rfl, c', st, hr⟩
  exact ⟨ao, cap, rfl, _, st.pure (fun i => recol_ne c k _ ⟨by omega, by omega⟩ i) c kr, hr.fresh st (recol_ne c k _ ⟨by omega, by omega⟩) c kr⟩
end Go.Proofs.Ytmhhhiegioniaaa
