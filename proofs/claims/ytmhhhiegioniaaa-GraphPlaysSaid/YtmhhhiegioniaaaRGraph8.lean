/- The document's Depths of a graph. No condition beyond each contract's own. -/
import Derived.Test.YtmhhhiegioniaaaRGraph7
namespace Go.Proofs.Ytmhhhiegioniaaa
open Go.RowKit Go.Deep

/-- So many numbers. -/
def numsN (n : Nat) (D : Nat → Nat) : List Value := (List.range n).map (fun i => Value.int .i64 (D i : Nat))
theorem numsN_len (n : Nat) (D : Nat → Nat) : (numsN n D).length = n := by simp [numsN]
theorem numsN_get {n : Nat} {D : Nat → Nat} {i : Nat} (h : i < n) : (numsN n D)[i]? = some (.int .i64 (D i : Nat)) := by simp [numsN, h]
theorem numsN_set (n : Nat) (D : Nat → Nat) (x v : Nat) : (numsN n D).set x (.int .i64 (v : Nat)) = numsN n (updN D x v) := by
  apply List.ext_getElem?
  intro i
  rw [List.getElem?_set]
  by_cases h : x = i
  · subst h
    by_cases hx : x < n
    · rw [if_pos rfl, if_pos (by rw [numsN_len]; exact hx), numsN_get hx]; simp [updN]
    · rw [if_pos rfl, if_neg (by rw [numsN_len]; exact hx), List.getElem?_eq_none (by rw [numsN_len]; omega)]
  · rw [if_neg h]
    by_cases hi : i < n
    · rw [numsN_get hi, numsN_get hi, updN, if_neg (fun e => h e.symm)]
    · rw [List.getElem?_eq_none (by rw [numsN_len]; omega), List.getElem?_eq_none (by rw [numsN_len]; omega)]
theorem numsN_congr {n : Nat} {D E : Nat → Nat} (h : ∀ i, i < n → D i = E i) : numsN n D = numsN n E := by
  unfold numsN
  exact List.map_congr_left fun i hi => by rw [h i (List.mem_range.1 hi)]

theorem made_nums (n : Nat) : madeCells #[.int .i64 0] n = (numsN n fun _ => 0).toArray := by
  apply Array.toList_inj.1
  rw [toList_madeCells_one]
  show _ = (List.range n).map (fun _ => Value.int .i64 0)
  rw [List.map_const', List.length_range]

/-- Part of the way: the graph with its box, and the table. -/
structure DepRel (c : Nat → Nat) (k kd kb : Nat) (w : World) (b db : Nat) (A : List (List Nat)) (G : List Bool) (vs : List Value) (n : Nat) (ao : Option Addr) (cap : Nat) (bo : Option Addr) (bcap : Nat) (D : Nat → Nat) (c' : Nat → Nat) (wr : World) : Prop where
  rf : RefIs c' k wr A G vs n ao cap bo bcap
  box : Blk c' kb wr b [.slice ao n cap, .slice bo n bcap] 134
  tab : Blk c' kd wr db (numsN n D) 3
  st : Stp (· = kd) c c' w wr

section
variable {c : Nat → Nat} {k kd kb : Nat} {w : World} {b db : Nat} {A : List (List Nat)} {G : List Bool} {vs : List Value} {n : Nat} {ao : Option Addr} {cap : Nat} {bo : Option Addr} {bcap : Nat} {D : Nat → Nat} {c' : Nat → Nat} {wr : World}
theorem DepRel.drewN (h : DepRel c k kd kb w b db A G vs n ao cap bo bcap D c' wr) (q : Nat) : DepRel c k kd kb w b db A G vs n ao cap bo bcap D c' (wr.drewN q) :=
  ⟨h.rf.stp ((Stp.refl (fun _ => False) _ _).drewN q) (fun _ h => h.elim), h.box.stp ((Stp.refl (fun _ => False) _ _).drewN q) id, h.tab.stp ((Stp.refl (fun _ => False) _ _).drewN q) id, h.st.drewN q⟩
theorem DepRel.put (h : DepRel c k kd kb w b db A G vs n ao cap bo bcap D c' wr) (hk : ¬ GJ k kd) (hb : kb ≠ kd) (x v : Nat) : DepRel c k kd kb w b db A G vs n ao cap bo bcap (updN D x v) c' (wr.setCell ⟨db, x, none⟩ (.int .i64 (v : Nat))) := by
  have s := (Stp.refl (· = kd) c' wr).setCell (p := ⟨db, x, none⟩) (.int .i64 (v : Nat)) h.tab.1
  exact ⟨h.rf.stp s (fun q hq => by rw [hq]; exact hk), h.box.stp s hb, by rw [← numsN_set]; exact h.tab.set x _, h.st.trans s⟩
theorem DepRel.start (kd kb : Nat) (h : RefIs c k w A G vs n ao cap bo bcap) : ∃ c', DepRel c k kd kb w w.heap.size (w.heap.size + 1) A G vs n ao cap bo bcap (fun _ => 0) c' ((w.alloc (.cells #[.slice ao n cap, .slice bo n bcap] 134)).alloc (.cells (numsN n fun _ => 0).toArray 3)) := by
  obtain ⟨w1, hw1⟩ : ∃ w1, w1 = w.alloc (.cells #[.slice ao n cap, .slice bo n bcap] 134) := ⟨_, rfl⟩
  have hz : w.heap.size + 1 = w1.heap.size := by rw [hw1]; simp
  have s1 : Stp (fun _ => False) c (paint c w.heap.size kb) w w1 := by rw [hw1]; exact (Stp.refl (fun _ => False) c w).alloc _ kb
  have b1 : Blk (paint c w.heap.size kb) kb w1 w.heap.size [.slice ao n cap, .slice bo n bcap] 134 := by rw [hw1]; exact Blk.new c kb w _ _
  rw [← hw1, hz]
  have s2 := (Stp.refl (fun _ => False) (paint c w.heap.size kb) w1).alloc (.cells (numsN n fun _ => 0).toArray 3) kd
  exact ⟨paint (paint c w.heap.size kb) w1.heap.size kd, h.stp (s1.trans s2) (fun _ h => h.elim), b1.stp s2 id, Blk.new _ kd w1 _ _, (s1.trans s2).mono (fun _ h => h.elim)⟩
end

set_option maxRecDepth 100000 in
set_option maxHeartbeats 2000000 in
theorem r13depths_any {c : Nat → Nat} {k : Nat} {w : World} {S : GS} {vs : List Value} {n : Nat} {ao : Option Addr} {cap : Nat} {bo : Option Addr} {bcap : Nat} (h : RefIs c k w S.1 S.2 vs n ao cap bo bcap) (gd : GoodS S) (kd kb : Nat) (hk : ¬ GJ k kd) (hkb : kb ≠ kd) :
    Calls Try.prog 95 #[.agg #[.slice ao n cap, .slice bo n bcap]] w fun e w' => ∃ db, e = .returned (.slice (some ⟨db, 0, none⟩) n n) ∧ ∃ c', Stp (· = kd) c c' w w' ∧ Blk c' kd w' db (numsN n (fun y => depI S (y : Nat))) 3 := by
  have hle := h.le
  have Gd := Lib.hid gd
  have Hk := Lib.hid hk
  have Hkb := Lib.hid hkb
  have Hla := Lib.hid h.la
  obtain ⟨i0, hi, hz0, hz1, hz2⟩ := info_parts Try.infoInt
  have hmk : ∀ wx : World, (Instr.makeSlice 40 (.int .i64 (n : Int)) (.int .i64 (n : Int))).run Try.prog wx = .ok (.slice (some ⟨wx.heap.size, 0, none⟩) n n) (wx.alloc (.cells (numsN n fun _ => 0).toArray 3)) := fun wx => by
    have := run_make (P := Try.prog) wx 40 3 i0 (.int .i64 0) Try.underlying40 hi hz0 .i64 .i64 n n (by omega) (Int.le_refl _) (by rw [hz2]; omega) (by omega)
    rw [hz1, show (Value.int .i64 0).cells = #[.int .i64 0] from rfl, Int.toNat_natCast, Nat.mul_one, made_nums] at this
    exact this
  obtain ⟨c0, hc0⟩ := DepRel.start kd kb h
  have R0 := Lib.hid hc0
  obtain ⟨b, hb⟩ : ∃ b, b = w.heap.size := ⟨_, rfl⟩
  obtain ⟨db, hdb⟩ : ∃ db, db = w.heap.size + 1 := ⟨_, rfl⟩
  clear h gd hk hkb hc0 hi hz0 hz1 hz2
  go_enter Try.func95, Try.ntmps95
  go_wp2
  rw [← hdb, ← hb] at R0
  rw [← hdb, ← hb]
  clear hb hdb hmk
  go_loopg [4] n (fun gh i wr => ∃ (c' : Nat → Nat) (j : Nat) (D : Nat → Nat), i = .int .i64 j ∧ gh + j = n ∧ DInv S.1 j 0 D ∧ DepRel c k kd kb w b db S.1 S.2 vs n ao cap bo bcap D c' wr)
  case atStart => exact ⟨c0, 0, _, rfl, by omega, DInv.start _, R0.out⟩
  case round =>
    obtain ⟨c1, j, D, rfl, hg, hi, hr⟩ := hrel
    have R := Lib.hid hr
    have I := Lib.hid hi
    have b0 := hr.box.cell 0
    simp at b0
    clear hr hi R0
    obtain ⟨go, rfl⟩ : ∃ go : Nat, go = gk := ⟨_, rfl⟩
    by_cases hlt : j < n
    · have Hg := Lib.hid (show go - 1 + (j + 1) = n ∧ go - 1 < go by omega)
      clear hg
      go_wp2
      clear b0
      go_loopg [5] n (fun gh i wr => ∃ (c' : Nat → Nat) (x : Nat) (D : Nat → Nat), i = .int .i64 x ∧ gh + x = n ∧ DInv S.1 j x D ∧ DepRel c k kd kb w b db S.1 S.2 vs n ao cap bo bcap D c' wr)
      case atStart => exact ⟨c1, 0, D, rfl, by omega, I.out, R.out⟩
      case round =>
        obtain ⟨c2, x, D2, rfl, hg2, hi, hr⟩ := hrel
        have R2 := Lib.hid hr
        have I2 := Lib.hid hi
        have b0 := hr.box.cell 0
        simp at b0
        clear hr hi R I D
        obtain ⟨g2, rfl⟩ : ∃ go : Nat, go = gk := ⟨_, rfl⟩
        by_cases hx : x < n
        · have Hg2 := Lib.hid (show g2 - 1 + (x + 1) = n ∧ g2 - 1 < g2 by omega)
          have Hx := Lib.hid hx
          obtain ⟨l, hl⟩ : ∃ l, l = S.1.getD x [] := ⟨_, rfl⟩
          obtain ⟨M, hM⟩ : ∃ M, M = l.length := ⟨_, rfl⟩
          have hM64 : M ≤ 64 := by rw [hM, hl]; exact Good.small Gd.out x
          have HM := Lib.hid hM
          have Hl := Lib.hid hl
          clear hl hM hg2
          go_wp2
          clear b0
          go_loopw [6] (fun i wr => ∃ (c' : Nat → Nat) (q : Nat) (D : Nat → Nat), i = .int .i64 q ∧ q ≤ M ∧ DInv S.1 j x D ∧ (∀ z ∈ l.take q, depF S.1 j z + 1 ≤ D x) ∧ DepRel c k kd kb w b db S.1 S.2 vs n ao cap bo bcap D c' wr) (fun i _ => M - (intOf i).toNat)
          case atStart => exact ⟨c2, 0, D2, rfl, Nat.zero_le _, I2.out, by simp, R2.out⟩
          case round =>
            obtain ⟨c3, q, D, rfl, hq, hi, hn, hr⟩ := hrel
            have R3 := Lib.hid hr
            have I3 := Lib.hid hi
            have N3 := Lib.hid hn
            have b0 := hr.box.cell 0
            simp at b0
            have hxn := Hx.out
            obtain ⟨g, off, oi, ci, he, -, hgl, y0, -, hrow⟩ := hr.rf.node hxn
            subst he
            rw [← Hl.out] at y0 hrow
            rw [← HM.out] at y0 hrow
            have HR := Lib.hid hrow
            clear hr hi hn hrow R2 I2
            by_cases hlt2 : q < M
            · have hql : q < l.length := by rw [← HM.out]; exact hlt2
              obtain ⟨z, hz⟩ : ∃ z, z = l[q] := ⟨_, rfl⟩
              have hzn : z < n := by have := Good.lt Gd.out (x := x) (y := z) (by rw [← Hl.out, hz]; exact List.getElem_mem hql); have := Hla.out; omega
              obtain ⟨a9, ha9, hs9, hc9, -, hadd9, -⟩ := HR.out.cell (j := q) (v := .int .i64 (z : Nat)) (by rw [getD_val _ _ hql]; simp [List.getD, hql, hz])
              obtain ⟨g9, off9, sp9⟩ := a9
              simp only at hs9
              subst hs9 ha9
              rw [hadd9] at hc9
              have d0 := R3.out.tab.cell z
              have d1 := R3.out.tab.cell x
              have df := R3.out.tab.free x
              have dl := R3.out.tab.lt
              rw [numsN_get hzn] at d0
              rw [numsN_get hxn] at d1
              have hst := DInv.step (G := S.2) (x := x) (q := q) Gd.out I3.out (by rw [← Hl.out]; exact hql) (by rw [← Hl.out]; exact N3.out)
              have hzz : (S.1.getD x [])[q]'(by rw [← Hl.out]; exact hql) = z := by rw [hz]; simp only [← Hl.out]
              rw [hzz, ← Hl.out] at hst
              have Hst := Lib.hid hst
              have hu64 : D z ≤ 64 := by have := I3.out.le z; have := (Good.dep_lt Gd.out z).1; have := Hla.out; omega
              obtain ⟨u1, hu1⟩ : ∃ u, u = D x := ⟨_, rfl⟩
              obtain ⟨u2, hu2⟩ : ∃ u, u = D z := ⟨_, rfl⟩
              rw [← hu1] at d1
              rw [← hu2] at d0 hu64
              have Hu1 := Lib.hid hu1
              have Hu2 := Lib.hid hu2
              have hz2 : (z : Int) < n := by omega
              have hx2 : (x : Int) < n := by omega
              clear hst hzz hz hadd9 hql hu1 hu2
              by_cases hgt : u1 ≤ u2
              · have t : decide ((u1 : Int) < (u2 : Int) + 1) = true := by simp; omega
                have HD := Lib.hid (show updN D x (max (D x) (D z + 1)) = updN D x (u2 + 1) by rw [← Hu1.out, ← Hu2.out, Nat.max_eq_right (by omega)])
                have R4 := Lib.hid (show ∀ qn : Nat, DepRel c k kd kb w b db S.1 S.2 vs n (some ⟨g, off, none⟩) cap bo bcap (updN D x (u2 + 1)) c3 ((wr.drewN qn).setCell ⟨db, x, none⟩ (.int .i64 ((u2 : Int) + 1))) from fun qn => (R3.out.drewN qn).put Hk.out Hkb.out x (u2 + 1))
                go_wp2
                go_quiet (fail)
                go_wp2
                go_roundw
                case rel => exact ⟨c3, q + 1, _, by go_num, by omega, HD.out ▸ Hst.out.1, HD.out ▸ Hst.out.2, R4.out _⟩
                case measure => simp [intOf]; omega
              · have t : decide ((u1 : Int) < (u2 : Int) + 1) = false := by simp; omega
                have HD := Lib.hid (show updN D x (max (D x) (D z + 1)) = D by
                  rw [← Hu1.out, ← Hu2.out, Nat.max_eq_left (by omega), Hu1.out]
                  funext y
                  unfold updN
                  split
                  · next e => rw [e]
                  · rfl)
                go_wp2
                go_quiet (fail)
                go_wp2
                go_roundw
                case rel => exact ⟨c3, q + 1, D, by go_num, by omega, HD.out ▸ Hst.out.1, (by have := Hst.out.2; rw [HD.out] at this; exact this), R3.out.drewN _⟩
                case measure => simp [intOf]; omega
            · have I4 := Lib.hid (I3.out.node (fun z hz => N3.out z (by rw [List.take_of_length_le (by rw [← HM.out]; omega), Hl.out]; exact hz)))
              have hg2 := Hg2.out
              go_wp2
              go_roundg (g2 - 1)
              case rel => exact ⟨c3, x + 1, D, by go_num, by omega, I4.out, R3.out⟩
              case measure => omega
        · have I3 := Lib.hid (show DInv S.1 (j + 1) 0 D2 from DInv.round (by have := I2.out; rw [show x = S.1.length by have := Hla.out; omega] at this; exact this))
          have hg := Hg.out
          go_wp2
          go_roundg (go - 1)
          case rel => exact ⟨c2, j + 1, D2, by go_num, by omega, I3.out, R2.out⟩
          case measure => omega
    · have HD := Lib.hid (show numsN n D = numsN n (fun y => depI S (y : Nat)) from numsN_congr fun y hy => DInv.done Gd.out (by have := I.out; rw [show j = S.1.length by have := Hla.out; omega] at this; exact this) y (by have := Hla.out; omega))
      go_wp2
      go_ret
      rw [← HD.out]
      exact ⟨db, rfl, c1, R.out.st, R.out.tab⟩

theorem r13depths_p {c : Nat → Nat} {k : Nat} {w : World} {S : GS} {vs : List Value} {n : Nat} {ao : Option Addr} {cap : Nat} {bo : Option Addr} {bcap : Nat} (h : RefIs c k w S.1 S.2 vs n ao cap bo bcap) (gd : GoodS S) (kr : Nat) :
    Calls Try.prog 95 #[.agg #[.slice ao n cap, .slice bo n bcap]] w fun e w' => ∃ db, e = .returned (.slice (some ⟨db, 0, none⟩) n n) ∧ ∃ c', Stp (fun _ => False) c c' w w' ∧ Blk c' kr w' db (numsN n (fun y => depI S (y : Nat))) 3 := by
  refine (r13depths_any h.recol gd (k + 70) (k + 71) (by unfold GJ; omega) (by omega)).mono ?_
  rintro e w' ⟨db, rfl, c', st, hr⟩
  exact ⟨db, rfl, _, st.pure (fun i => recol_ne c k _ ⟨by omega, by omega⟩ i) c kr, hr.fresh st (recol_ne c k _ ⟨by omega, by omega⟩) c kr⟩
end Go.Proofs.Ytmhhhiegioniaaa
