/- The contract of the graph's Depth; and of what is asked of no graph. No condition beyond each contract's own. -/
import Derived.Test.YtmhhhiegioniaaaGraph8
namespace Go.Proofs.Ytmhhhiegioniaaa
open Go.RowKit Go.Deep

/-- Sixty-four numbers. -/
def nums (D : Nat → Nat) : List Value := (List.range 64).map (fun i => Value.int .i64 (D i : Nat))
theorem nums_get {D : Nat → Nat} {i : Nat} (h : i < 64) : (nums D)[i]? = some (.int .i64 (D i : Nat)) := by simp [nums, h]
def updN (D : Nat → Nat) (x v : Nat) : Nat → Nat := fun i => if i = x then v else D i
theorem nums_set (D : Nat → Nat) (x v : Nat) : (nums D).set x (.int .i64 (v : Nat)) = nums (updN D x v) := by
  apply List.ext_getElem?
  intro i
  rw [List.getElem?_set]
  by_cases h : x = i
  · subst h
    by_cases hx : x < 64
    · rw [if_pos rfl, if_pos (by simp [nums, hx]), nums_get hx]; simp [updN]
    · rw [if_pos rfl, if_neg (by simp [nums]; omega), List.getElem?_eq_none (by simp [nums]; omega)]
  · rw [if_neg h]
    by_cases hi : i < 64
    · rw [nums_get hi, nums_get hi, updN, if_neg (fun e => h e.symm)]
    · rw [List.getElem?_eq_none (by simp [nums]; omega), List.getElem?_eq_none (by simp [nums]; omega)]
theorem updN_self (D : Nat → Nat) (x v u : Nat) : updN (updN D x v) x u = updN D x u := by
  funext i
  unfold updN
  split <;> rfl

/-- The depths of so many of a list; nought of the others. -/
def depT (A : List (List Nat)) (l : List Nat) (j : Nat) : Nat → Nat := fun i => if i ∈ l.take j then depN A i else 0

theorem depT_step {A : List (List Nat)} {G : List Bool} (gd : Good A G) {j : Nat} (hj : j < (ordL A G).length) : updN (depT A (ordL A G) j) (ordL A G)[j] (depS (A.getD (ordL A G)[j] []) (depN A)) = depT A (ordL A G) (j + 1) := by
  funext i
  rw [← gd.dep]
  unfold updN depT
  rw [List.take_succ_eq_append_getElem hj]
  by_cases h : i = (ordL A G)[j]
  · subst h
    rw [if_pos rfl, if_pos (List.mem_append_right _ (List.mem_singleton.2 rfl))]
  · rw [if_neg h]
    by_cases h2 : i ∈ (ordL A G).take j
    · rw [if_pos h2, if_pos (List.mem_append_left _ h2)]
    · rw [if_neg h2, if_neg (fun hh => by
        rcases List.mem_append.1 hh with hh | hh
        · exact h2 hh
        · exact h (by simpa using hh))]

theorem depT_new {A : List (List Nat)} {G : List Bool} {j : Nat} (hj : j < (ordL A G).length) : depT A (ordL A G) j (ordL A G)[j] = 0 := by
  unfold depT
  rw [if_neg]
  intro h
  obtain ⟨i, hi, e⟩ := List.getElem_of_mem h
  rw [List.length_take] at hi
  rw [List.getElem_take] at e
  have e1 := (ordL_spec A G).1.nd.idxOf_getElem i (by omega)
  have e2 := (ordL_spec A G).1.nd.idxOf_getElem j (by omega)
  rw [e, e2] at e1
  omega

theorem depT_start {A : List (List Nat)} {G : List Bool} {j : Nat} (hj : j < (ordL A G).length) {y : Nat} (hy : y = (ordL A G)[j]) : updN (depT A (ordL A G) j) y (depS [] (depN A)) = depT A (ordL A G) j := by
  funext i
  unfold updN
  split
  · next h => rw [h, hy, depT_new hj]; rfl
  · rfl

theorem depT_old {A : List (List Nat)} {G : List Bool} {j : Nat} (hj : j < (ordL A G).length) {y : Nat} (hy : y ∈ A.getD (ordL A G)[j] []) : depT A (ordL A G) j y = depN A y := by
  unfold depT
  rw [if_pos ((ordL_spec A G).1.ahead j hj y hy)]

structure DRel (c0 : Nat → Nat) (k kd kr : Nat) (w : World) (p : Nat) (A : List (List Nat)) (G : List Bool) (vs : List Value) (n : Nat) (ao : Option Addr) (cap : Nat) (bo : Option Addr) (bcap : Nat) (db : Nat) (oo : Option Addr) (N oc : Nat) (D : Nat → Nat) (c' : Nat → Nat) (wr : World) : Prop where
  ord : Row c' kr wr 3 1 oo N oc ((ints (ordL A G)).map (Value.int .i64))
  dep : Blk c' kd wr db (nums D) 125
  gr : GraphIs c' k wr p A G vs n ao cap bo bcap
  st : Stp (· = kd) c0 c' w wr

set_option maxRecDepth 100000 in
set_option maxHeartbeats 1000000 in
theorem grdepth_any {c : Nat → Nat} {k : Nat} {w : World} {p : Nat} {A : List (List Nat)} {G : List Bool} (h : GraphAt c k w p A G) (gd : Good A G) (x : Nat) (hx : hasB G x = true) (kd kr : Nat) (hd : kr ≠ kd) (hkd : ¬ GJ k kd) :
    Calls Try.prog 86 #[.pointer (some ⟨p, 0, none⟩), .int .i64 x] w fun e w' => e = .returned (.int .i64 (depN A x : Nat)) ∧ ∃ c', Stp (· = kd) c c' w w' := by
  have H := Lib.hid h
  have Hx := Lib.hid hx
  have Gd := Lib.hid gd
  have Hd := Lib.hid hd
  have Hkd := Lib.hid hkd
  obtain ⟨vs, n, ao, cap, bo, bcap, h⟩ := h
  have hle := h.le
  have hxn : (x : Int) < 64 := by have := hasB_nat_lt hx; have := h.lg; omega
  obtain ⟨c1, hc1, A1⟩ := ((Stp.refl (fun _ => False) c w).alloc (.cells (nums fun _ => 0).toArray 125) kd).name
  have B1 := Lib.hid (show Blk c1 kd (w.alloc (.cells (nums fun _ => 0).toArray 125)) w.heap.size (nums fun _ => 0) 125 by rw [hc1.out]; exact Blk.new c kd w _ _)
  have I1 := Lib.hid (h.stp A1.out (fun _ h => h.elim))
  clear h hx gd hd hkd hc1
  go_enter Try.func86, Try.ntmps86
  go_wp2_with (go_at_call 80; refine (ghas_yes H.out x Hx.out).mono ?_; rintro e w' ⟨rfl, rfl⟩)
  refine (grorder_p (w := w.alloc (.cells (nums fun _ => 0).toArray 125)) ⟨_, _, _, _, _, _, I1.out⟩ Gd.out kr).mono ?_
  rintro e w2 ⟨oo, oc, rfl, c2, s2, r2⟩
  obtain ⟨N, hN⟩ : ∃ N, N = (ordL A G).length := ⟨_, rfl⟩
  rw [← hN] at r2 ⊢
  have HN := Lib.hid hN
  have hN64 : N ≤ 64 := by have := (ordL_spec A G).1.len; have := Gd.out.le; omega
  have R2 := Lib.hid (show DRel c k kd kr w p A G vs n ao cap bo bcap w.heap.size oo N oc (depT A (ordL A G) 0) c2 w2 from ⟨r2, B1.out.stp s2 id, I1.out.stp s2 (fun _ h => h.elim), (A1.out.trans s2).mono (fun _ h => h.elim)⟩)
  obtain ⟨db, hdb⟩ : ∃ db, db = w.heap.size := ⟨_, rfl⟩
  rw [← hdb] at R2 ⊢
  clear s2 r2 hN A1 B1 I1 hdb
  go_wp2
  go_loopw [17] (fun i wr => ∃ (c' : Nat → Nat) (j : Nat), i = .int .i64 j ∧ j ≤ N ∧ DRel c k kd kr w p A G vs n ao cap bo bcap db oo N oc (depT A (ordL A G) j) c' wr) (fun i _ => N - (intOf i).toNat)
  case atStart => exact ⟨c2, 0, rfl, Nat.zero_le _, R2.out⟩
  case round =>
    obtain ⟨c3, j, rfl, hj, hr⟩ := hrel
    have R := Lib.hid hr
    clear hr R2
    obtain ⟨wo, rfl⟩ : ∃ wo : World, wo = wr := ⟨_, rfl⟩
    by_cases hlt : j < N
    · have hjl : j < (ordL A G).length := by rw [← HN.out]; exact hlt
      obtain ⟨y, hy⟩ : ∃ y, y = (ordL A G)[j] := ⟨_, rfl⟩
      have hyn : y < n := by have := (ordL_spec A G).1.lt y (hy ▸ List.getElem_mem hjl); have := R.out.gr.la; omega
      obtain ⟨a, ha, hs, hc, -, hadd, -⟩ := R.out.ord.cell (j := j) (v := .int .i64 (y : Nat)) (by rw [getD_val _ _ hjl]; simp [List.getD, hjl, hy])
      obtain ⟨g1, off1, sp1⟩ := a
      simp only at hs
      subst hs ha
      rw [hadd] at hc
      obtain ⟨g, off, oi, ci, rfl, -, -, y0, -, hrow⟩ := R.out.gr.node hyn
      have b0 := R.out.gr.hb.cell 0
      simp at b0
      have hst := depT_start hjl hy
      have hdn := depT_step Gd.out hjl
      have hol := fun z (hz : z ∈ A.getD y []) => depT_old hjl (y := z) (by rw [← hy]; exact hz)
      rw [← hy] at hdn
      obtain ⟨l, hl0⟩ : ∃ l, l = A.getD y [] := ⟨_, rfl⟩
      have Hl := Lib.hid hl0
      have Hjn := Lib.hid hlt
      rw [← hl0] at hdn hol y0
      have Hdn := Lib.hid hdn
      have Hol := Lib.hid hol
      obtain ⟨L, hL⟩ : ∃ L, L = l.length := ⟨_, rfl⟩
      have HL := Lib.hid hL
      rw [← hL] at y0
      have Hrow := Lib.hid (show Row c3 (k + 3 + y) wo 3 1 oi L ci ((ints l).map (Value.int .i64)) by rw [hL, hl0]; exact hrow)
      have Hky := Lib.hid (show k + 3 + y ≠ kd from fun e => Hkd.out (e ▸ ⟨by omega, by omega⟩))
      have hL64 : L ≤ 64 := by rw [hL, hl0]; exact Gd.out.small y
      have hyn2 : (y : Int) < n := by omega
      have hy64 : (y : Int) < 64 := by omega
      obtain ⟨D, hD⟩ : ∃ D, D = depT A (ordL A G) j := ⟨_, rfl⟩
      rw [← hD] at R hst
      have HD := Lib.hid hD
      have Rs := Lib.hid (show DRel c k kd kr w p A G vs n (some ⟨g, off, none⟩) cap bo bcap db (some ⟨g1, off1, none⟩) N oc (updN D y (depS (l.take 0) (depN A))) c3 wo from by rw [List.take_zero, hst]; exact R.out)
      clear hjl hy hadd hdn hol hl0 hL hD hst R hrow
      go_wp2
      go_loopw [29] (fun i wr => ∃ (c' : Nat → Nat) (q : Nat), i = .int .i64 q ∧ q ≤ L ∧ Row c' (k + 3 + y) wr 3 1 oi L ci ((ints l).map (Value.int .i64)) ∧ DRel c k kd kr w p A G vs n (some ⟨g, off, none⟩) cap bo bcap db (some ⟨g1, off1, none⟩) N oc (updN D y (depS (l.take q) (depN A))) c' wr) (fun i _ => L - (intOf i).toNat)
      case atStart => exact ⟨c3, 0, rfl, Nat.zero_le _, Hrow.out, Rs.out⟩
      case round =>
        obtain ⟨c4, q, rfl, hq, hrw, hr⟩ := hrel
        have R := Lib.hid hr
        have W := Lib.hid hrw
        clear hr hrw Rs Hrow
        by_cases hlt2 : q < L
        · have hql : q < l.length := by rw [← HL.out]; exact hlt2
          obtain ⟨z, hz⟩ : ∃ z, z = l[q] := ⟨_, rfl⟩
          have hzl : z ∈ l := hz ▸ List.getElem_mem hql
          have hzA : z ∈ A.getD y [] := by rw [← Hl.out]; exact hzl
          have hzy : z ≠ y := fun e => Gd.out.acyc y (.base (e ▸ hzA))
          have hzn : z < n := by have := Gd.out.lt hzA; have := R.out.gr.la; omega
          obtain ⟨a9, ha9, hs9, hc9, -, hadd9, -⟩ := W.out.cell (j := q) (v := .int .i64 (z : Nat)) (by rw [getD_val _ _ hql]; simp [List.getD, hql, hz])
          obtain ⟨g9, off9, sp9⟩ := a9
          simp only at hs9
          subst hs9 ha9
          rw [hadd9] at hc9
          have d0 := R.out.dep.cell y
          have d1 := R.out.dep.cell z
          have df := R.out.dep.free y
          rw [nums_get (by omega)] at d0 d1
          rw [show updN D y (depS (l.take q) (depN A)) z = depN A z by rw [updN, if_neg hzy, HD.out]; exact Hol.out z hzl] at d1
          rw [show updN D y (depS (l.take q) (depN A)) y = depS (l.take q) (depN A) by rw [updN, if_pos rfl]] at d0
          have Hsn := Lib.hid (show max (depS (l.take q) (depN A)) (depN A z + 1) = depS (l.take (q + 1)) (depN A) by
            rw [List.take_succ_eq_append_getElem hql, depS_snoc, ← hz])
          have hb := (Gd.out.dep_lt z).1
          rw [R.out.gr.la] at hb
          obtain ⟨u, hu⟩ : ∃ u, u = depS (l.take q) (depN A) := ⟨_, rfl⟩
          obtain ⟨v, hv⟩ : ∃ v, v = depN A z := ⟨_, rfl⟩
          rw [← hu, ← hv] at Hsn
          rw [← hu] at d0 R
          rw [← hv] at d1 hb
          have hw : IntKind.i64.wrap ((v : Int) + 1) = (v : Int) + 1 := by rw [IntKind.wrap_i64]; omega
          have hz64 : (z : Int) < 64 := by omega
          have hdl := R.out.dep.lt
          have Hw := Lib.hid hw
          clear hu hv hadd9 hql hz hzl hzA hw
          go_wp2
          go_region
          have hqn := hlt2
          have Rm := Lib.hid (show (Row c4 (k + 3 + y) (wr.setCell ⟨db, y, none⟩ (.int .i64 (if (u : Int) < (v : Int) + 1 then (v : Int) + 1 else (u : Int)))).drew 3 1 (some ⟨g9, off9, none⟩) L ci ((ints l).map (Value.int .i64))) ∧ DRel c k kd kr w p A G vs n (some ⟨g, off, none⟩) cap bo bcap db (some ⟨g1, off1, none⟩) N oc (updN D y (depS (l.take (q + 1)) (depN A))) c4 (wr.setCell ⟨db, y, none⟩ (.int .i64 (if (u : Int) < (v : Int) + 1 then (v : Int) + 1 else (u : Int)))).drew from by
            have e : (if (u : Int) < (v : Int) + 1 then (v : Int) + 1 else (u : Int)) = ((depS (l.take (q + 1)) (depN A) : Nat) : Int) := by
              rw [← Hsn.out]
              split <;> omega
            rw [e]
            have s := ((Stp.refl (· = kd) c4 wr).setCell (p := ⟨db, y, none⟩) (.int .i64 ((depS (l.take (q + 1)) (depN A) : Nat) : Int)) R.out.dep.1).drew
            refine ⟨W.out.stp s Hky.out, R.out.ord.stp s Hd.out, ?_, R.out.gr.stp s (fun j hj => by rw [hj]; exact Hkd.out), R.out.st.trans s⟩
            have := R.out.dep.set y (.int .i64 ((depS (l.take (q + 1)) (depN A) : Nat) : Int))
            rw [nums_set, updN_self] at this
            exact this)
          go_wp2
          go_roundw
          case rel => exact ⟨c4, q + 1, by go_num, by omega, Rm.out.1, Rm.out.2⟩
          case measure => simp [intOf]; omega
        · obtain rfl : q = L := by omega
          have Rn := Lib.hid (show DRel c k kd kr w p A G vs n (some ⟨g, off, none⟩) cap bo bcap db (some ⟨g1, off1, none⟩) N oc (depT A (ordL A G) (j + 1)) c4 wr from by
            have := R.out
            rw [List.take_of_length_le (by rw [← HL.out]; exact Nat.le_refl _), HD.out, Hdn.out] at this
            exact this)
          have hjn := Hjn.out
          clear R
          go_wp2
          go_roundw
          case rel => exact ⟨c4, j + 1, by go_num, by omega, Rn.out⟩
          case measure => simp [intOf]; omega
    · obtain rfl : j = N := by omega
      have d0 := R.out.dep.cell x
      rw [nums_get (by omega), show depT A (ordL A G) j x = depN A x by
        unfold depT
        rw [List.take_of_length_le (by rw [← HN.out]; exact Nat.le_refl _), if_pos (ordL_all Gd.out Hx.out)]] at d0
      go_wp2
      go_ret
      exact ⟨rfl, c3, R.out.st⟩

theorem grdepth_p {c : Nat → Nat} {k : Nat} {w : World} {p : Nat} {A : List (List Nat)} {G : List Bool} (h : GraphAt c k w p A G) (gd : Good A G) (x : Nat) (hx : hasB G x = true) :
    Calls Try.prog 86 #[.pointer (some ⟨p, 0, none⟩), .int .i64 x] w fun e w' => e = .returned (.int .i64 (depN A x : Nat)) ∧ ∃ c', Stp (fun _ => False) c c' w w' := by
  refine (grdepth_any h.recol gd x hx (k + 70) (k + 71) (by omega) (by unfold GJ; omega)).mono ?_
  rintro e w' ⟨rfl, c', st⟩
  exact ⟨rfl, _, st.pure (fun i hi => recol_ne c k _ ⟨by omega, by omega⟩ i hi) c 0⟩

theorem grdepth_no {c : Nat → Nat} {k : Nat} {w : World} {p : Nat} {A : List (List Nat)} {G : List Bool} (h : GraphAt c k w p A G) (x : Int) (hx : hasB G x = false) :
    Calls Try.prog 86 #[.pointer (some ⟨p, 0, none⟩), .int .i64 x] w fun e w' => e = .returned (.int .i64 0) ∧ w = w' := by
  have H := Lib.hid h
  have Hx := Lib.hid hx
  clear h hx
  go_enter Try.func86, Try.ntmps86
  go_wp2_with (go_at_call 80; refine (ghas_no H.out x Hx.out).mono ?_; rintro e w' ⟨rfl, rfl⟩)
  go_ret
  exact ⟨rfl, rfl⟩

/-! ### Of no graph -/

theorem nil_after (x : Int) (w : World) : Calls Try.prog 85 #[.pointer none, .int .i64 x] w fun e w' => e = .returned (.slice none 0 0) ∧ w = w' := by
  go_enter Try.func85, Try.ntmps85
  go_wp2_with (go_at_call 80; refine (ghas_nil x _).mono ?_; rintro e w' ⟨rfl, rfl⟩)
  go_ret
  exact ⟨rfl, rfl⟩
theorem nil_behind (x : Int) (w : World) : Calls Try.prog 98 #[.pointer none, .int .i64 x] w fun e w' => e = .returned (.slice none 0 0) ∧ w = w' := by
  go_enter Try.func98, Try.ntmps98
  go_wp2_with (go_at_call 80; refine (ghas_nil x _).mono ?_; rintro e w' ⟨rfl, rfl⟩)
  go_ret
  exact ⟨rfl, rfl⟩
theorem nil_reach (x : Int) (w : World) : Calls Try.prog 83 #[.pointer none, .int .i64 x] w fun e w' => e = .returned (.slice none 0 0) ∧ w = w' := by
  go_enter Try.func83, Try.ntmps83
  go_wp2_with (go_at_call 80; refine (ghas_nil x _).mono ?_; rintro e w' ⟨rfl, rfl⟩)
  go_ret
  exact ⟨rfl, rfl⟩
theorem nil_depth (x : Int) (w : World) : Calls Try.prog 86 #[.pointer none, .int .i64 x] w fun e w' => e = .returned (.int .i64 0) ∧ w = w' := by
  go_enter Try.func86, Try.ntmps86
  go_wp2_with (go_at_call 80; refine (ghas_nil x _).mono ?_; rintro e w' ⟨rfl, rfl⟩)
  go_ret
  exact ⟨rfl, rfl⟩
theorem nil_ends (w : World) : Calls Try.prog 100 #[.pointer none] w fun e w' => e = .returned (.slice none 0 0) ∧ w = w' := by
  go_enter Try.func100, Try.ntmps100
  go_wp2_with (go_at_call 81; refine (grlen_nil _).mono ?_; rintro e w' ⟨rfl, rfl⟩)
  go_loop [3, 7] (fun v i => v = .slice none 0 0 ∧ i = .int .i64 0) (fun _ _ => 0)
  case atStart => exact ⟨rfl, rfl⟩
  case round =>
    obtain ⟨rfl, rfl⟩ := hrel
    go_wp2
    go_ret
    exact ⟨rfl, rfl⟩
theorem nil_order (c : Nat → Nat) (w : World) : Calls Try.prog 79 #[.pointer none] w fun e w' => e = .returned (.slice none 0 0) ∧ ∃ c', Stp (fun _ => False) c c' w w' := by
  obtain ⟨i0, hi, hz0, hz1, hz2⟩ := info_parts Try.infoBoolG
  have hmk : ∀ wx : World, (Instr.makeSlice 76 (.int .i64 0) (.int .i64 0)).run Try.prog wx = .ok (.slice (some ⟨wx.heap.size, 0, none⟩) 0 0) (wx.alloc (.cells (bitsN 0 fun _ => false).toArray 4)) := fun wx => by
    have := run_make (P := Try.prog) wx 76 4 i0 (.bool false) Try.underlying76 hi hz0 .i64 .i64 0 0 (by omega) (Int.le_refl _) (by rw [hz2]; omega) (by omega)
    rw [hz1, show (Value.bool false).cells = #[.bool false] from rfl, show Int.toNat 0 * 1 = 0 from rfl, made_bits] at this
    exact this
  clear hi hz0 hz1 hz2
  have HS := Lib.hid ((Stp.refl (fun _ => False) c w).alloc (.cells (bitsN 0 fun _ => false).toArray 4) 0)
  go_enter Try.func79, Try.ntmps79
  go_wp2_with (go_at_call 81; refine (grlen_nil _).mono ?_; rintro e w' ⟨rfl, rfl⟩)
  go_step3
  go_wp2_with (go_at_call 81; refine (grlen_nil _).mono ?_; rintro e w' ⟨rfl, rfl⟩)
  go_step3
  go_wp2_with (go_at_call 81; refine (grlen_nil _).mono ?_; rintro e w' ⟨rfl, rfl⟩)
  obtain ⟨wa, hwa⟩ : ∃ wa : World, wa = w.alloc (.cells (bitsN 0 fun _ => false).toArray 4) := ⟨_, rfl⟩
  rw [← hwa] at HS ⊢
  clear hmk hwa
  go_loopg [3] 0 (fun _ v wr => v = .slice none 0 0 ∧ wr = wa)
  case atStart => exact ⟨rfl, rfl⟩
  case round =>
    obtain ⟨rfl, rfl⟩ := hrel
    go_wp2_with (go_at_call 81; refine (grlen_nil _).mono ?_; rintro e w' ⟨rfl, rfl⟩)
    go_loopg [3, 11] 0 (fun _ v i wb => v = .slice none 0 0 ∧ i = .int .i64 0 ∧ wb = wr)
    case atStart => exact ⟨rfl, rfl, rfl⟩
    case round =>
      obtain ⟨rfl, rfl, rfl⟩ := hrel
      go_wp2
      try rw [Exit.noGoto_ret]
      go_ret
      exact ⟨rfl, _, HS.out⟩
end Go.Proofs.Ytmhhhiegioniaaa
