/- The walk of the law GraphOrders. No condition. -/
import Derived.Test.YtmhhhiegioniaaaGraphDepths
import Derived.Deep.RegionWith
import Derived.Deep.DeepCutAuto
namespace Go.Proofs.Ytmhhhiegioniaaa
open Go.RowKit Go.Deep

/-- Where each stands in a list, one more; nought where it doesn't. -/
def posT (l : List Nat) (j : Nat) : Nat → Nat := fun x => if x ∈ l.take j then l.idxOf x + 1 else 0

theorem posT_step {l : List Nat} (hn : l.Nodup) {j : Nat} (hj : j < l.length) : updN (posT l j) l[j] (j + 1) = posT l (j + 1) := by
  funext x
  unfold updN posT
  rw [List.take_succ_eq_append_getElem hj]
  by_cases h : x = l[j]
  · subst h
    rw [if_pos rfl, if_pos (List.mem_append_right _ (List.mem_singleton.2 rfl)), hn.idxOf_getElem j hj]
  · rw [if_neg h]
    by_cases h2 : x ∈ l.take j
    · rw [if_pos h2, if_pos (List.mem_append_left _ h2)]
    · rw [if_neg h2, if_neg (fun hh => by
        rcases List.mem_append.1 hh with hh | hh
        · exact h2 hh
        · exact h (by simpa using hh))]

theorem posT_new {l : List Nat} (hn : l.Nodup) {j : Nat} (hj : j < l.length) : posT l j l[j] = 0 := by
  unfold posT
  rw [if_neg]
  intro h
  obtain ⟨i, hi, e⟩ := List.getElem_of_mem h
  rw [List.length_take] at hi
  rw [List.getElem_take] at e
  have e1 := hn.idxOf_getElem i (by omega)
  have e2 := hn.idxOf_getElem j (by omega)
  rw [e, e2] at e1
  omega

theorem posT_all (l : List Nat) (x : Nat) : posT l l.length x = if x ∈ l then l.idxOf x + 1 else 0 := by rw [posT, List.take_length]

theorem pos_edge {S : GS} (h : GoodS S) {x y : Nat} (hy : y ∈ S.1.getD x []) : y ∈ ordL S.1 S.2 ∧ x ∈ ordL S.1 S.2 ∧ (ordL S.1 S.2).idxOf y < (ordL S.1 S.2).idxOf x := by
  have hs := (ordL_spec S.1 S.2).1
  have hhx : hasB S.2 x = true := by
    cases hh : hasB S.2 x with
    | true => rfl
    | false => rw [h.own x hh] at hy; cases hy
  have hxm := ordL_all h hhx
  have hx := List.idxOf_lt_length_of_mem hxm
  have h1 := hs.ahead _ hx y (by rw [List.getElem_idxOf]; exact hy)
  obtain ⟨j, hj, e⟩ := List.getElem_of_mem h1
  rw [List.length_take] at hj
  rw [List.getElem_take] at e
  refine ⟨ordL_all h (h.has _ _ hy), hxm, ?_⟩
  have := hs.nd.idxOf_getElem j (by omega)
  rw [e] at this
  omega

theorem pos_reach {S : GS} (h : GoodS S) {x y : Nat} (hy : Reaches S.1 x y) : y ∈ ordL S.1 S.2 ∧ x ∈ ordL S.1 S.2 ∧ (ordL S.1 S.2).idxOf y < (ordL S.1 S.2).idxOf x := by
  induction hy with
  | base h1 => exact pos_edge h h1
  | step _ h2 ih =>
    obtain ⟨a1, a2, a3⟩ := pos_edge h h2
    exact ⟨a1, ih.2.1, Nat.lt_trans a3 ih.2.2⟩

theorem mem_reachI {S : GS} (h : GoodS S) {x : Nat} {y : Nat} : y ∈ reachI S x ↔ hasB S.2 x = true ∧ Reaches S.1 x y := by
  rw [reachI]
  split
  · next hx => rw [Int.toNat_natCast, mem_reachL h]; simp [hx]
  · next hx => simp [hx]

theorem reachI_le {S : GS} (h : GoodS S) (x : Int) : (reachI S x).length ≤ 64 := by
  rw [reachI]
  split
  · have := range_filter_le (reachB S.1 x.toNat) S.1.length
    have := h.le
    rw [reachL]
    omega
  · simp

theorem has_ord {S : GS} (h : GoodS S) (x : Nat) : hasB S.2 x = decide (x ∈ ordL S.1 S.2) := by
  cases hx : hasB S.2 x
  · symm
    rw [decide_eq_false_iff_not]
    intro hm
    rw [(ordL_spec S.1 S.2).1.has x hm] at hx
    cases hx
  · rw [decide_eq_true (ordL_all h hx)]

structure QRel (w : World) (p : Nat) (S : GS) (ab : Nat) (D : Nat → Nat) (oo : Option Addr) (N oc : Nat) (l : List Nat) (c : Nat → Nat) (wr : World) : Prop where
  lr : LRel w p S c wr
  tab : Blk c 81 wr ab (nums D) 125
  row : Row c 80 wr 3 1 oo N oc ((ints l).map (Value.int .i64))
theorem QRel.stpF {w : World} {p : Nat} {S : GS} {ab : Nat} {D : Nat → Nat} {oo : Option Addr} {N oc : Nat} {l : List Nat} {c c' : Nat → Nat} {wr w' : World} (h : QRel w p S ab D oo N oc l c wr) (s : Stp (fun _ => False) c c' wr w') : QRel w p S ab D oo N oc l c' w' :=
  ⟨h.lr.stpF s, h.tab.stp s id, h.row.stp s id⟩

set_option maxRecDepth 100000 in
set_option maxHeartbeats 8000000 in
theorem gorders_in {w : World} (ao : Option Addr) (n cap : Nat) (ops : List Op13) (hl : In (fun _ => 0) 0 w 4 ao n cap (ops.flatMap Op13.cells)) (hlen : ops.length = n) (hin : ∀ x ∈ ops, In (fun _ => 0) 0 w 1 x.lo x.ln x.lc (x.l.map (Value.int .i64))) (hs : smallB ops = true) :
    Calls Try.prog 12 #[.slice ao n cap] w fun e w' => e = .returned (.bool true) ∧ Below w.heap.size w w' := by
  have Hl := Lib.hid hl
  have Hlen := Lib.hid hlen
  have Hin := Lib.hid hin
  have Hs := Lib.hid hs
  clear hl hlen hin hs
  go_enter Try.func12, Try.ntmps12
  go_wp2_with fail
  refine (small13_any Hl.out Hlen.out true Hs.out).mono ?_
  rintro e w1 ⟨rfl, c1, s1⟩
  have S1 := Lib.hid (show Stp (2 ≤ ·) (fun _ => 0) c1 w w1 from s1.mono (fun _ h => h.elim))
  have H1 := Lib.hid (Hl.out.stp s1 id)
  have Hin1 := Lib.hid (fun x hx => (Hin.out x hx).stp s1 id)
  clear s1
  go_wp2_with fail
  refine (begun13_any (k := 2) H1.out Hlen.out Hs.out Hin1.out (by decide)).mono ?_
  rintro e w2 ⟨p, rfl, c2, s2, g2⟩
  obtain ⟨S, hS⟩ : ∃ S, S = ops.foldl opS ([], []) := ⟨_, rfl⟩
  rw [← hS] at g2
  have Gd := Lib.hid (show GoodS S by rw [hS]; exact GoodS.ops (S := ([], [])) Good.empty ops)
  obtain ⟨m, hm⟩ : ∃ m, m = S.1.length := ⟨_, rfl⟩
  have Hm := Lib.hid hm
  have hm64 : m ≤ 64 := by rw [hm]; exact Gd.out.le
  have R2 := Lib.hid (show LRel w p S c2 w2 from ⟨S1.out.trans (s2.mono fun _ h => h.1), g2⟩)
  obtain ⟨ab, hab⟩ : ∃ ab, ab = w2.heap.size := ⟨_, rfl⟩
  obtain ⟨c3, hc3, A3⟩ := ((Stp.refl (fun _ => False) c2 w2).alloc (.cells (nums fun _ => 0).toArray 125) 81).name
  have R3 := Lib.hid (R2.out.stpF A3.out)
  have T3 := Lib.hid (show Blk c3 81 (w2.alloc (.cells (nums fun _ => 0).toArray 125)) ab (nums fun _ => 0) 125 by rw [hc3.out, hab]; exact Blk.new c2 81 w2 _ _)
  clear s2 g2 S1 H1 Hin1 hS hm A3 hc3 R2
  go_wp2_with fail
  rw [← hab]
  clear hab
  refine (grorder_all (w := w2.alloc (.cells (nums fun _ => 0).toArray 125)) R3.out.gr Gd.out 80).mono ?_
  rintro e w4 ⟨oo, oc, rfl, c4, s4, r4⟩
  obtain ⟨l, hl⟩ : ∃ l, l = ordL S.1 S.2 := ⟨_, rfl⟩
  rw [← hl] at r4 ⊢
  have Hll := Lib.hid hl
  have Hnd := Lib.hid (show l.Nodup by rw [hl]; exact (ordL_spec S.1 S.2).1.nd)
  have Hlm := Lib.hid (show ∀ x ∈ l, hasB S.2 x = true ∧ x < m from fun x hx => by rw [hl] at hx; rw [Hm.out]; exact ⟨(ordL_spec S.1 S.2).1.has x hx, (ordL_spec S.1 S.2).1.lt x hx⟩)
  obtain ⟨N, hN⟩ : ∃ N, N = l.length := ⟨_, rfl⟩
  have HN := Lib.hid hN
  have hN64 : N ≤ 64 := by rw [hN, hl]; have := (ordL_spec S.1 S.2).1.len; have := Hm.out; omega
  rw [← hN] at r4 ⊢
  have Q4 := Lib.hid (show QRel w p S ab (posT l 0) oo N oc l c4 w4 from ⟨R3.out.stpF s4, T3.out.stp s4 id, r4⟩)
  clear s4 r4 hl hN R3 T3
  go_wp2
  go_loopw [19] (fun i wr => ∃ (c' : Nat → Nat) (j : Nat), i = .int .i64 j ∧ j ≤ N ∧ QRel w p S ab (posT l j) oo N oc l c' wr) (fun i _ => N - (intOf i).toNat)
  case atStart => exact ⟨c4, 0, rfl, Nat.zero_le _, Q4.out⟩
  case round =>
    obtain ⟨c5, j, rfl, hj, hr⟩ := hrel
    have Q := Lib.hid hr
    clear hr Q4
    by_cases hlt : j < N
    · have hjl : j < l.length := by rw [← HN.out]; exact hlt
      obtain ⟨y, hy⟩ : ∃ y, y = l[j] := ⟨_, rfl⟩
      obtain ⟨hhy, hym⟩ := Hlm.out y (hy ▸ List.getElem_mem hjl)
      obtain ⟨a, ha, hs, hc, -, hadd, -⟩ := Q.out.row.cell (j := j) (v := .int .i64 (y : Nat)) (by rw [getD_val _ _ hjl]; simp [List.getD, hjl, hy])
      obtain ⟨g1, off1, sp1⟩ := a
      simp only at hs
      subst hs ha
      rw [hadd] at hc
      have d0 := Q.out.tab.cell y
      have df := Q.out.tab.free y
      have dl := Q.out.tab.lt
      rw [nums_get (by omega), show posT l j y = 0 by rw [hy]; exact posT_new Hnd.out hjl] at d0
      have Hst := Lib.hid (show updN (posT l j) y (j + 1) = posT l (j + 1) by rw [hy]; exact posT_step Hnd.out hjl)
      have Hhy := Lib.hid hhy
      have hy64 : (y : Int) < 64 := by omega
      have t1 : decide ((63 : Int) < (y : Int)) = false := by simp; omega
      have Q2 := Lib.hid (show QRel w p S ab (posT l (j + 1)) (some ⟨g1, off1, none⟩) N oc l c5 (wr.setCell ⟨ab, y, none⟩ (.int .i64 ((j : Int) + 1))) from by
        have s := (Stp.refl (· = 81) c5 wr).setCell (p := ⟨ab, y, none⟩) (.int .i64 ((j : Int) + 1)) Q.out.tab.1
        refine ⟨Q.out.lr.stp s (fun k hk => by omega), ?_, Q.out.row.stp s (by decide)⟩
        have h2 := Q.out.tab.set y (.int .i64 ((j + 1 : Nat) : Int))
        rw [nums_set, Hst.out] at h2
        exact h2)
      clear hy hjl hadd hhy
      go_wp2_with (go_at_call 80; refine (ghas_all Q.out.lr.gr _ true Hhy.out).mono ?_; rintro e w' ⟨rfl, rfl⟩)
      go_roundw
      case rel => exact ⟨c5, j + 1, by go_num, by omega, Q2.out⟩
      case measure => simp [intOf]; omega
    · obtain rfl : j = N := by omega
      have Q2 := Lib.hid (show QRel w p S ab (fun x => if x ∈ l then l.idxOf x + 1 else 0) oo j oc l c5 wr from by
        have := Q.out
        rw [show posT l j = (fun x => if x ∈ l then l.idxOf x + 1 else 0) by funext x; rw [HN.out, posT_all]] at this
        exact this)
      obtain ⟨D, hD⟩ : ∃ D, D = (fun x => if x ∈ l then l.idxOf x + 1 else 0) := ⟨_, rfl⟩
      rw [← hD] at Q2
      have HD := Lib.hid hD
      have t64 : decide ((64 : Int) < (m : Int)) = false := by simp; omega
      clear hD Q
      go_wp2_with (go_at_call 81; refine (grlen_all Q2.out.lr.gr).mono ?_; rintro e w' ⟨rfl, rfl⟩; rw [← Hm.out])
      go_loopg [52] m (fun gh i wr => ∃ (c' : Nat → Nat) (q : Nat), i = .int .i64 q ∧ gh + q = m ∧ QRel w p S ab D oo j oc l c' wr)
      case atStart => exact ⟨c5, 0, rfl, by omega, Q2.out⟩
      case round =>
        obtain ⟨c6, q, rfl, hq, hr⟩ := hrel
        have Q := Lib.hid hr
        clear hr Q2
        obtain ⟨wo, rfl⟩ : ∃ wo : World, wo = wr := ⟨_, rfl⟩
        by_cases hlt2 : q < m
        · have hdl := Q.out.tab.lt
          have d0 := Q.out.tab.cell q
          rw [nums_get (by omega)] at d0
          obtain ⟨b, hb⟩ : ∃ b, b = hasB S.2 q := ⟨_, rfl⟩
          have Hb := Lib.hid hb.symm
          have Hbd := Lib.hid (show decide (0 < (D q : Int)) = b by
            rw [hb, has_ord Gd.out, HD.out, ← Hll.out]
            by_cases h : q ∈ l
            · simp [h]
            · simp [h])
          have Hni := Lib.hid (show decide ((q : Int) ∈ ints (reachI S (q : Nat))) = false by
            rw [decide_eq_false_iff_not, ints_mem, mem_reachI Gd.out]
            exact fun h => Gd.out.acyc q h.2)
          have hq64 : (q : Int) < 64 := by omega
          obtain ⟨u, hu⟩ : ∃ u, u = D q := ⟨_, rfl⟩
          rw [← hu] at d0 Hbd
          clear hb hu
          go_upto_region 17 with fail
          go_cut [69] (fun v wx => v = .bool false ∧ ∃ c', QRel w p S ab D oo j oc l c' wx)
          case first =>
            have Gq := Lib.hid Q.out.lr.gr
            have Hf0 := Lib.hid (show ∀ b2 : Bool, b = b2 → (b2 = false → u = 0) ∧ (b2 = true → 0 < u) from fun b2 e => by
              have := Hbd.out
              rw [e] at this
              refine ⟨fun e2 => ?_, fun e2 => ?_⟩
              · rw [e2, decide_eq_false_iff_not] at this; omega
              · rw [e2, decide_eq_true_iff] at this; omega)
            cases b
            · obtain rfl : u = 0 := (Hf0.out false rfl).1 rfl
              go_region_with (first
                | (go_at_call 80; refine (ghas_all (Gq.out.stp (Stp.refl (fun _ => False) c6 _).drew (fun _ h => h.elim)) _ _ Hb.out).mono ?_; rintro e w' ⟨rfl, rfl⟩)
                | (go_at_call 83; refine (grreach_all (Gq.out.stp (Stp.refl (fun _ => False) c6 _).drew (fun _ h => h.elim)) Gd.out (q : Nat) 82).mono ?_; rintro e w7 ⟨oo7, oc7, rfl, c7, s7, r7⟩)
                | (go_at_call 82; refine (in13_any r7.toIn (q : Nat) false Hni.out).mono ?_; rintro e w' ⟨rfl, rfl⟩))
              all_goals
                have Q8 := Lib.hid ((Q.out.stpF ((Stp.refl (fun _ => False) c6 wo).drew)).stpF s7)
                go_wp2_with fail
                go_simp
                go_meet
                exact ⟨rfl, c7, Q8.out⟩
            · have hu0 : 0 < u := (Hf0.out true rfl).2 rfl
              go_region_with (first
                | (go_at_call 80; refine (ghas_all (Gq.out.stp (Stp.refl (fun _ => False) c6 _).drew (fun _ h => h.elim)) _ _ Hb.out).mono ?_; rintro e w' ⟨rfl, rfl⟩)
                | (go_at_call 83; refine (grreach_all (Gq.out.stp (Stp.refl (fun _ => False) c6 _).drew (fun _ h => h.elim)) Gd.out (q : Nat) 82).mono ?_; rintro e w7 ⟨oo7, oc7, rfl, c7, s7, r7⟩)
                | (go_at_call 82; refine (in13_any r7.toIn (q : Nat) false Hni.out).mono ?_; rintro e w' ⟨rfl, rfl⟩))
              all_goals
                have Q8 := Lib.hid ((Q.out.stpF ((Stp.refl (fun _ => False) c6 wo).drew)).stpF s7)
                go_wp2_with fail
                go_simp
                go_meet
                exact ⟨rfl, c7, Q8.out⟩
          case rest =>
            obtain ⟨rfl, c8, hq8⟩ := hcut
            have Q8 := Lib.hid hq8
            have Hqm := Lib.hid hlt2
            have Hqg := Lib.hid hq
            clear hq8 Q d0 hdl Hbd
            go_wp2_with fail
            refine (grreach_all Q8.out.lr.gr Gd.out (q : Nat) 82).mono ?_
            rintro e w9 ⟨o9, oc9, rfl, c9, s9, r9⟩
            obtain ⟨rl, hrl⟩ : ∃ rl, rl = reachI S (q : Nat) := ⟨_, rfl⟩
            rw [← hrl] at r9 ⊢
            have Hrl := Lib.hid (show ∀ z ∈ rl, z < m ∧ 0 < D z ∧ D z < D q from fun z hz => by
              rw [hrl, mem_reachI Gd.out] at hz
              obtain ⟨z1, z2, z3⟩ := pos_reach Gd.out hz.2
              rw [← Hll.out] at z1 z2 z3
              rw [HD.out]
              simp only [z1, z2, if_true]
              exact ⟨(Hlm.out z z1).2, by omega, by omega⟩)
            obtain ⟨M, hM⟩ : ∃ M, M = rl.length := ⟨_, rfl⟩
            have hM64 : M ≤ 64 := by rw [hM, hrl]; exact reachI_le Gd.out _
            rw [← hM] at r9 ⊢
            have HM := Lib.hid hM
            have Q9 := Lib.hid (Q8.out.stpF s9)
            have R9 := Lib.hid r9
            clear s9 r9 hrl hM Q8
            go_wp2
            go_loopw [74] (fun i wr => ∃ (c' : Nat → Nat) (q2 : Nat), i = .int .i64 q2 ∧ q2 ≤ M ∧ QRel w p S ab D oo j oc l c' wr ∧ Row c' 82 wr 3 1 o9 M oc9 ((ints rl).map (Value.int .i64))) (fun i _ => M - (intOf i).toNat)
            case atStart => exact ⟨c9, 0, rfl, Nat.zero_le _, Q9.out, R9.out⟩
            case round =>
              obtain ⟨c10, q2, rfl, hq2, hq3, hr3⟩ := hrel
              have Q := Lib.hid hq3
              have R := Lib.hid hr3
              clear hq3 hr3 Q9 R9
              by_cases hlt3 : q2 < M
              · have hql : q2 < rl.length := by rw [← HM.out]; exact hlt3
                obtain ⟨z, hz⟩ : ∃ z, z = rl[q2] := ⟨_, rfl⟩
                obtain ⟨hzm, hz0, hzq⟩ := Hrl.out z (hz ▸ List.getElem_mem hql)
                obtain ⟨a9, ha9, hs9, hc9, -, hadd9, -⟩ := R.out.cell (j := q2) (v := .int .i64 (z : Nat)) (by rw [getD_val _ _ hql]; simp [List.getD, hql, hz])
                obtain ⟨g9, off9, sp9⟩ := a9
                simp only at hs9
                subst hs9 ha9
                rw [hadd9] at hc9
                have hqm := Hqm.out
                have d0 := Q.out.tab.cell q
                have d1 := Q.out.tab.cell z
                rw [nums_get (by omega)] at d0 d1
                obtain ⟨u1, hu1⟩ : ∃ u, u = D q := ⟨_, rfl⟩
                obtain ⟨u2, hu2⟩ : ∃ u, u = D z := ⟨_, rfl⟩
                rw [← hu1] at d0 hzq
                rw [← hu2] at d1 hzq hz0
                have t1 : decide ((63 : Int) < (z : Int)) = false := by simp; omega
                have t2 : ((u2 : Int) == 0) = false := by simp; omega
                have t3 : decide (u1 ≤ u2) = false := by simp; omega
                have hz64 : (z : Int) < 64 := by omega
                have hq64' : (q : Int) < 64 := by omega
                clear hu1 hu2 hadd9 hql hz
                go_wp2
                go_quiet (fail)
                go_wp2
                go_roundw
                case rel => exact ⟨c10, q2 + 1, by go_num, by omega, Q.out.stpF ((Stp.refl (fun _ => False) _ _).drewN _), R.out.stp ((Stp.refl (fun _ => False) _ _).drewN _) id⟩
                case measure => simp [intOf]; omega
              · have hqm := Hqm.out
                go_wp2
                have hqg := Hqg.out
                go_roundg (gk - 1)
                case rel => exact ⟨c10, q + 1, by go_num, by omega, Q.out⟩
                case measure => omega
        · go_wp2_with fail
          refine (awake13 c6 _).mono ?_
          rintro e w9 ⟨rfl, c9, s9⟩
          have R9 := Lib.hid (Q.out.lr.stpF s9)
          clear s9 Q
          go_wp2
          go_ret
          exact ⟨rfl, R9.out.st.fin⟩

set_option maxRecDepth 100000 in
theorem gorders_walk {w : World} (ao : Option Addr) (n cap : Nat) (ops : List Op13) (hl : In (fun _ => 0) 0 w 4 ao n cap (ops.flatMap Op13.cells)) (hlen : ops.length = n) (hin : ∀ x ∈ ops, In (fun _ => 0) 0 w 1 x.lo x.ln x.lc (x.l.map (Value.int .i64))) :
    Calls Try.prog 12 #[.slice ao n cap] w fun e w' => e = .returned (.bool true) ∧ Below w.heap.size w w' := by
  by_cases hs : smallB ops = true
  · exact gorders_in ao n cap ops hl hlen hin hs
  · have Hl := Lib.hid hl
    have Hlen := Lib.hid hlen
    have Hs := Lib.hid (show smallB ops = false by simpa using hs)
    clear hl hlen hin hs
    go_enter Try.func12, Try.ntmps12
    go_wp2_with fail
    refine (small13_any Hl.out Hlen.out false Hs.out).mono ?_
    rintro e w1 ⟨rfl, c1, s1⟩
    have S1 := Lib.hid (show Stp (2 ≤ ·) (fun _ => 0) c1 w w1 from s1.mono (fun _ h => h.elim))
    clear s1
    go_wp2_with fail
    refine (awake13 c1 _).mono ?_
    rintro e w2 ⟨rfl, c2, s2⟩
    have S2 := Lib.hid (S1.out.trans (s2.mono (fun _ h => h.elim)))
    clear s2 S1
    go_wp2
    go_ret
    exact ⟨rfl, S2.out.fin⟩
end Go.Proofs.Ytmhhhiegioniaaa
