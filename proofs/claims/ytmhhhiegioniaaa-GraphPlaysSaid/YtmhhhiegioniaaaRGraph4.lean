/- The contract of the document's table. No condition beyond the contract's own. -/
import Derived.Test.YtmhhhiegioniaaaRGraph3
namespace Go.Proofs.Ytmhhhiegioniaaa
open Go.RowKit Go.Deep

theorem Try.infoSbool : (Try.prog.info? 76).map (fun i => (i.zero, i.size, i.bytes)) = some (some (.slice none 0 0), 1, 24) := by kernel_rfl

/-- Part of the way: the graph, its box, the table. -/
structure ARel2 (c : Nat → Nat) (k : Nat) (w : World) (pb : Nat) (A : List (List Nat)) (G : List Bool) (vs : List Value) (n : Nat) (ao : Option Addr) (cap : Nat) (bo : Option Addr) (bcap : Nat) (ta : Option Addr) (N tcap : Nat) (B : Nat → Nat) (T : Nat → Nat → Bool) (c' : Nat → Nat) (wr : World) : Prop where
  rf : RefIs c' k wr A G vs n ao cap bo bcap
  box : Blk c' (k + 101) wr pb [.slice ao n cap, .slice bo n bcap] 134
  tab : TabIs c' (fun i => k + 102 + i) wr ta N tcap n B T
  st : Stp (k + 102 ≤ ·) c c' w wr

section
variable {c : Nat → Nat} {k : Nat} {w : World} {pb : Nat} {A : List (List Nat)} {G : List Bool} {vs : List Value} {n : Nat} {ao : Option Addr} {cap : Nat} {bo : Option Addr} {bcap : Nat} {ta : Option Addr} {N tcap : Nat} {B : Nat → Nat} {T : Nat → Nat → Bool} {c' c2 : Nat → Nat} {wr w2 : World}

theorem ARel2.start (h : RefIs c k w A G vs n ao cap bo bcap) (B : Nat → Nat) (T : Nat → Nat → Bool) :
    ARel2 c k w w.heap.size A G vs n ao cap bo bcap none 0 0 B T (paint c w.heap.size (k + 101)) (w.alloc (.cells #[.slice ao n cap, .slice bo n bcap] 134)) :=
  ⟨h.stp ((Stp.refl (fun _ => False) c w).alloc _ (k + 101)) (fun _ h => h.elim), Blk.new c (k + 101) w _ _, ⟨Row.nil _ _ _ _ _, fun _ hi => absurd hi (Nat.not_lt_zero _)⟩, (Stp.refl _ c w).alloc _ _⟩

theorem ARel2.step (h : ARel2 c k w pb A G vs n ao cap bo bcap ta N tcap B T c' wr) {j : Nat} (hj : k + 102 + N < j) (s : Stp (· = j) c' c2 wr w2) : ARel2 c k w pb A G vs n ao cap bo bcap ta N tcap B T c2 w2 :=
  ⟨h.rf.stp s (fun q hq => by unfold GJ; omega), h.box.stp s (by omega), h.tab.stp s (fun i hi => by omega), h.st.trans (s.mono fun q hq => by omega)⟩

theorem ARel2.facts (h : ARel2 c k w pb A G vs n ao cap bo bcap ta N tcap B T c' wr) : wr.cell? ⟨pb, 0, none⟩ = some (.slice ao n cap) ∧ pb < wr.heap.size := ⟨by simpa using h.box.cell 0, h.box.lt⟩

theorem ARel2.push (h : ARel2 c k w pb A G vs n ao cap bo bcap ta N tcap B T c' wr) {b : Nat} {S : Nat → Bool} (hb : Blk c' (k + 102 + (N + 1)) wr b (bitsN n S) 4) {ta2 : Option Addr} {tcap2 : Nat}
    (hr : Row c2 (k + 102) w2 76 1 ta2 (N + 1) tcap2 ((List.range N).map (fun i => Value.slice (some ⟨B i, 0, none⟩) n n) ++ [.slice (some ⟨b, 0, none⟩) n n])) (s : Stp (· = k + 102) c' c2 wr w2) :
    ARel2 c k w pb A G vs n ao cap bo bcap ta2 (N + 1) tcap2 (fun i => if i = N then b else B i) (fun i => if i = N then S else T i) c2 w2 := by
  refine ⟨h.rf.stp s (fun q hq => by unfold GJ; omega), h.box.stp s (by omega), ⟨?_, fun i hi => ?_⟩, h.st.trans (s.mono fun q hq => by omega)⟩
  · rw [List.range_succ, List.map_append, List.map_singleton, if_pos rfl]
    have e : (List.range N).map (fun i => Value.slice (some ⟨if i = N then b else B i, 0, none⟩) n n) = (List.range N).map (fun i => Value.slice (some ⟨B i, 0, none⟩) n n) := by
      apply List.map_congr_left
      intro i hi
      rw [if_neg (by have := List.mem_range.1 hi; omega)]
    rw [e]
    exact hr
  · by_cases e : i = N
    · subst e
      rw [if_pos rfl, if_pos rfl]
      exact hb.stp s (by omega)
    · rw [if_neg e, if_neg e]
      exact (h.tab.hr i (by omega)).stp s (by omega)

theorem ARel2.set (h : ARel2 c k w pb A G vs n ao cap bo bcap ta N tcap B T c' wr) {i : Nat} (hi : i < N) (j : Nat) :
    ARel2 c k w pb A G vs n ao cap bo bcap ta N tcap B (fun a => if a = i then upd (T i) j else T a) c' (wr.setCell ⟨B i, j, none⟩ (.bool true)) := by
  have hc := (h.tab.hr i hi).1
  have s := (Stp.refl (· = k + 102 + (i + 1)) c' wr).setCell (p := ⟨B i, j, none⟩) (.bool true) hc
  exact ⟨h.rf.stp s (fun q hq => by unfold GJ; omega), h.box.stp s (by omega), h.tab.set (fun a b e => by omega) hi j, h.st.trans (s.mono fun q hq => by omega)⟩

theorem ARel2.congr {T' : Nat → Nat → Bool} (h : ARel2 c k w pb A G vs n ao cap bo bcap ta N tcap B T c' wr) (e : ∀ i, i < N → T i = T' i) : ARel2 c k w pb A G vs n ao cap bo bcap ta N tcap B T' c' wr :=
  ⟨h.rf, h.box, h.tab.congr e, h.st⟩
end

set_option maxRecDepth 100000 in
set_option maxHeartbeats 2000000 in
theorem r13ahead_any {c : Nat → Nat} {k : Nat} {w : World} {A : List (List Nat)} {G : List Bool} {vs : List Value} {n : Nat} {ao : Option Addr} {cap : Nat} {bo : Option Addr} {bcap : Nat} (h : RefIs c k w A G vs n ao cap bo bcap) (gd : Good A G) :
    Calls Try.prog 94 #[.agg #[.slice ao n cap, .slice bo n bcap]] w fun e w' => ∃ ta tcap B, e = .returned (.slice ta n tcap) ∧ ∃ c', Stp (k + 102 ≤ ·) c c' w w' ∧ TabIs c' (fun i => k + 102 + i) w' ta n tcap n B (fw A n) := by
  have Gd := Lib.hid gd
  have Hla := Lib.hid h.la
  have hle := h.le
  obtain ⟨i0, hi, hz0, hz1, hz2⟩ := info_parts Try.infoBoolG
  have hmk : ∀ wx : World, (Instr.makeSlice 76 (.int .i64 (n : Int)) (.int .i64 (n : Int))).run Try.prog wx = .ok (.slice (some ⟨wx.heap.size, 0, none⟩) n n) (wx.alloc (.cells (bitsN n fun _ => false).toArray 4)) := fun wx => by
    have := run_make (P := Try.prog) wx 76 4 i0 (.bool false) Try.underlying76 hi hz0 .i64 .i64 n n (by omega) (Int.le_refl _) (by rw [hz2]; omega) (by omega)
    rw [hz1, show (Value.bool false).cells = #[.bool false] from rfl, Int.toNat_natCast, Nat.mul_one, made_bits] at this
    exact this
  have R0 := Lib.hid (ARel2.start h (fun _ => 0) (fun i j => decide (j ∈ A.getD i [])))
  obtain ⟨pb, hpb⟩ : ∃ pb, pb = w.heap.size := ⟨_, rfl⟩
  clear h gd hi hz0 hz1 hz2
  go_enter Try.func94, Try.ntmps94
  go_wp2
  rw [← hpb] at R0
  rw [← hpb]
  clear hpb
  go_loopg [4, 5] n (fun gh v i wr => ∃ (c' : Nat → Nat) (j : Nat) (ta : Option Addr) (tcap : Nat) (B : Nat → Nat), v = .slice ta j tcap ∧ i = .int .i64 j ∧ gh + j = n ∧ ARel2 c k w pb A G vs n ao cap bo bcap ta j tcap B (fun i j => decide (j ∈ A.getD i [])) c' wr)
  case atStart => exact ⟨_, 0, none, 0, _, rfl, rfl, by omega, R0.out⟩
  case round =>
    obtain ⟨c1, j, ta, tcap, B, rfl, rfl, hg, hr⟩ := hrel
    have R := Lib.hid hr
    obtain ⟨b0, bl⟩ := hr.facts
    clear hr R0
    obtain ⟨wo, rfl⟩ : ∃ wo : World, wo = wr := ⟨_, rfl⟩
    obtain ⟨go, rfl⟩ : ∃ go : Nat, go = gk := ⟨_, rfl⟩
    by_cases hlt : j < n
    · have Hg := Lib.hid (show go - 1 + (j + 1) = n ∧ go - 1 < go by omega)
      obtain ⟨c2, hc2, A2⟩ := ((Stp.refl (· = k + 102 + (j + 1)) c1 wo).alloc (.cells (bitsN n fun _ => false).toArray 4) (k + 102 + (j + 1))).name
      have R2 := Lib.hid (R.out.step (by omega) A2.out)
      obtain ⟨l, hl⟩ : ∃ l, l = A.getD j [] := ⟨_, rfl⟩
      obtain ⟨rb, hrb⟩ : ∃ rb, rb = wo.heap.size := ⟨_, rfl⟩
      have B2 := Lib.hid (show Blk c2 (k + 102 + (j + 1)) (wo.alloc (.cells (bitsN n fun _ => false).toArray 4)) rb (bitsN n (fun y => decide (y ∈ l.take 0))) 4 by
        rw [hc2.out, hrb]; simpa using Blk.new c1 (k + 102 + (j + 1)) wo (bitsN n fun _ => false) 4)
      have Hl := Lib.hid hl
      obtain ⟨L, hL⟩ : ∃ L, L = l.length := ⟨_, rfl⟩
      have HL := Lib.hid hL
      have hL64 : L ≤ 64 := by rw [hL, hl]; exact Gd.out.small j
      have Hjn := Lib.hid hlt
      clear hl hL hc2 A2 hg
      go_wp2
      rw [← hrb]
      clear hrb R b0 bl
      go_loopw [7] (fun i wr => ∃ (c' : Nat → Nat) (q : Nat), i = .int .i64 q ∧ q ≤ L ∧ ARel2 c k w pb A G vs n ao cap bo bcap ta j tcap B (fun i j => decide (j ∈ A.getD i [])) c' wr ∧ Blk c' (k + 102 + (j + 1)) wr rb (bitsN n (fun y => decide (y ∈ l.take q))) 4) (fun i _ => L - (intOf i).toNat)
      case atStart => exact ⟨c2, 0, rfl, Nat.zero_le _, R2.out, B2.out⟩
      case round =>
        obtain ⟨c3, q, rfl, hq, hr, hb⟩ := hrel
        have R := Lib.hid hr
        have W := Lib.hid hb
        obtain ⟨b0, bl⟩ := hr.facts
        have hjn := Hjn.out
        obtain ⟨g, off, oi, ci, he, -, hgl, y0, -, hrow⟩ := hr.rf.node hjn
        subst he
        rw [← Hl.out] at y0 hrow
        rw [← HL.out] at y0 hrow
        have HR := Lib.hid hrow
        clear hr hb hrow R2 B2
        by_cases hlt2 : q < L
        · have hql : q < l.length := by rw [← HL.out]; exact hlt2
          obtain ⟨z, hz⟩ : ∃ z, z = l[q] := ⟨_, rfl⟩
          have hzn : z < n := by have := Gd.out.lt (x := j) (y := z) (by rw [← Hl.out, hz]; exact List.getElem_mem hql); have := Hla.out; omega
          have Hst := Lib.hid (show upd (fun y => decide (y ∈ l.take q)) z = fun y => decide (y ∈ l.take (q + 1)) by rw [upd_mem, List.take_succ_eq_append_getElem hql, ← hz])
          obtain ⟨a9, ha9, hs9, hc9, -, hadd9, -⟩ := HR.out.cell (j := q) (v := .int .i64 (z : Nat)) (by rw [getD_val _ _ hql]; simp [List.getD, hql, hz])
          obtain ⟨g9, off9, sp9⟩ := a9
          simp only at hs9
          subst hs9 ha9
          rw [hadd9] at hc9
          have w0 := W.out.cell z
          have wf := W.out.free z
          have wl := W.out.lt
          rw [bitsN_get hzn] at w0
          have hz2 : (z : Int) < n := by omega
          have W2 := Lib.hid (show Blk c3 (k + 102 + (j + 1)) (wr.setCell ⟨rb, z, none⟩ (.bool true)) rb (bitsN n (fun y => decide (y ∈ l.take (q + 1)))) 4 by rw [← Hst.out, ← bitsN_set]; exact W.out.set z (.bool true))
          have R2 := Lib.hid (R.out.step (j := k + 102 + (j + 1)) (by omega) ((Stp.refl (· = k + 102 + (j + 1)) c3 wr).setCell (p := ⟨rb, z, none⟩) (.bool true) W.out.1))
          clear hz hadd9 hql
          go_wp2
          go_roundw
          case rel => exact ⟨c3, q + 1, by go_num, by omega, R2.out, W2.out⟩
          case measure => simp [intOf]; omega
        · have W2 := Lib.hid (show Blk c3 (k + 102 + (j + 1)) wr rb (bitsN n (fun y => decide (y ∈ A.getD j []))) 4 by
            have := W.out
            rw [List.take_of_length_le (by rw [← HL.out]; omega), Hl.out] at this
            exact this)
          have d1 : Hid (j + 1 ≤ maxLen) := Lib.hid (by unfold maxLen; omega)
          have d2 : Hid ((j + 1) * 24 ≤ 140737488355328) := Lib.hid (by omega)
          clear W
          go_wp2_with (at_builtin; refine wpList_append_row _ rfl (.tmp 41) (.tmp 43) 143 rfl (paint c3 wr.heap.size (k + 102)) (k + 102) 76 (.slice none 0 0) 1 24 Try.underlying143 Try.infoSbool rfl ta j tcap ((List.range j).map (fun i => Value.slice (some ⟨B i, 0, none⟩) n n)) rfl (R.out.tab.ho.alloc _ (k + 102)) _ 1 [.slice (some ⟨rb, 0, none⟩) n n] rfl (Src.one wr _ 76) (by simp [Value.oneCell']) d1.out d2.out ?_)
          intro ta2 tcap2 w2 hr2 st2 _
          have R2 := Lib.hid ((R.out.push W2.out hr2 (((Stp.refl (· = k + 102) c3 wr).alloc (.cells #[.slice (some ⟨rb, 0, none⟩) n n] 76) (k + 102)).trans st2)).congr (T' := fun i j => decide (j ∈ A.getD i [])) (fun i _ => by
            by_cases e : i = j
            · rw [if_pos e, e]
            · rw [if_neg e]))
          have Hg2 := Hg.out
          clear hr2 st2 y0 b0 bl
          go_wp2
          go_roundg (go - 1)
          case rel => exact ⟨_, j + 1, ta2, tcap2, _, rfl, by go_num, by omega, R2.out⟩
          case measure => omega
    · obtain rfl : n = j := by omega
      have R2 := Lib.hid (show ARel2 c k w pb A G vs n ao cap bo bcap ta n tcap B (fw A 0) c1 wo from R.out.congr (fun i _ => by funext j; rw [fw]))
      clear R b0 bl hg hlt
      go_wp2
      go_loopw [8] (fun i wr => ∃ (c' : Nat → Nat) (kk : Nat), i = .int .i64 kk ∧ kk ≤ n ∧ ARel2 c k w pb A G vs n ao cap bo bcap ta n tcap B (fw A kk) c' wr) (fun i _ => n - (intOf i).toNat)
      case atStart => exact ⟨c1, 0, rfl, Nat.zero_le _, R2.out⟩
      case round =>
        obtain ⟨c2, kk, rfl, hkk, hr⟩ := hrel
        have R := Lib.hid hr
        clear hr R2
        obtain ⟨w2, rfl⟩ : ∃ wo : World, wo = wr := ⟨_, rfl⟩
        by_cases hk : kk < n
        · have Hk := Lib.hid hk
          have R3 := Lib.hid (R.out.congr (T' := fwP A kk 0 0) (fun i _ => by rw [fwP_start]))
          clear R
          go_wp2
          go_loopw [9] (fun i wr => ∃ (c' : Nat → Nat) (ii : Nat), i = .int .i64 ii ∧ ii ≤ n ∧ ARel2 c k w pb A G vs n ao cap bo bcap ta n tcap B (fwP A kk ii 0) c' wr) (fun i _ => n - (intOf i).toNat)
          case atStart => exact ⟨c2, 0, rfl, Nat.zero_le _, R3.out⟩
          case round =>
            obtain ⟨c3, ii, rfl, hii, hr⟩ := hrel
            have R := Lib.hid hr
            clear hr R3
            obtain ⟨w3, rfl⟩ : ∃ wo : World, wo = wr := ⟨_, rfl⟩
            by_cases hi : ii < n
            · have Hi := Lib.hid hi
              go_wp2
              go_loopw [10] (fun i wr => ∃ (c' : Nat → Nat) (jj : Nat), i = .int .i64 jj ∧ jj ≤ n ∧ ARel2 c k w pb A G vs n ao cap bo bcap ta n tcap B (fwP A kk ii jj) c' wr) (fun i _ => n - (intOf i).toNat)
              case atStart => exact ⟨c3, 0, rfl, Nat.zero_le _, R.out⟩
              case round =>
                obtain ⟨c4, jj, rfl, hjj, hr⟩ := hrel
                have R4 := Lib.hid hr
                clear hr R
                by_cases hj2 : jj < n
                · have hk2 := Hk.out
                  have hi2 := Hi.out
                  obtain ⟨g, off, rfl, hgl, x0, xl, xr⟩ := R4.out.tab.cell hi2
                  obtain ⟨g', off', he, -, y0, yl, yr⟩ := R4.out.tab.cell hk2
                  cases he
                  obtain ⟨x1, -⟩ := xr kk hk2
                  obtain ⟨y1, -⟩ := yr jj hj2
                  obtain ⟨z1, zf⟩ := xr jj hj2
                  have hst := fwP_step A kk ii jj
                  have Hot := Lib.hid (fun a (ha : a ≠ ii) => fwP_other A kk ii jj a ha)
                  obtain ⟨a, ha⟩ : ∃ a, a = fwP A kk ii jj ii kk := ⟨_, rfl⟩
                  obtain ⟨b, hb⟩ : ∃ b, b = fwP A kk ii jj kk jj := ⟨_, rfl⟩
                  obtain ⟨z, hz⟩ : ∃ z, z = fwP A kk ii jj ii jj := ⟨_, rfl⟩
                  rw [← ha] at x1 hst
                  rw [← hb] at y1 hst
                  rw [← hz] at z1
                  have Hst := Lib.hid hst
                  obtain ⟨bi, hbi⟩ : ∃ bi, bi = B ii := ⟨_, rfl⟩
                  obtain ⟨bk, hbk⟩ : ∃ bk, bk = B kk := ⟨_, rfl⟩
                  rw [← hbi] at x0 xl x1 z1 zf
                  rw [← hbk] at y0 yl y1
                  have Hbi := Lib.hid hbi
                  have hkn : (kk : Int) < n := by omega
                  have hin : (ii : Int) < n := by omega
                  clear xr yr hst ha hb hz hbi hbk
                  have Hno := Lib.hid (show (a && b) = false → ARel2 c k w pb A G vs n (ao) cap bo bcap (some ⟨g, off, none⟩) n tcap B (fwP A kk ii (jj + 1)) c4 wr from fun hab => R4.out.congr (fun i _ => by
                    by_cases e : i = ii
                    · rw [e, Hst.out, hab]; simp
                    · rw [Hot.out i e]))
                  cases a
                  · have R5 := Lib.hid (Hno.out rfl)
                    go_wp2
                    go_roundw
                    case rel => exact ⟨c4, jj + 1, by go_num, by omega, R5.out⟩
                    case measure => simp [intOf]; omega
                  · cases b
                    · have R5 := Lib.hid (Hno.out rfl)
                      go_wp2
                      go_roundw
                      case rel => exact ⟨c4, jj + 1, by go_num, by omega, R5.out⟩
                      case measure => simp [intOf]; omega
                    · have R5 := Lib.hid (show ARel2 c k w pb A G vs n ao cap bo bcap (some ⟨g, off, none⟩) n tcap B (fwP A kk ii (jj + 1)) c4 (wr.setCell ⟨bi, jj, none⟩ (.bool true)) from by
                        rw [Hbi.out]
                        exact (R4.out.set Hi.out jj).congr (fun i _ => by
                          by_cases e : i = ii
                          · rw [if_pos e, e, Hst.out]; simp
                          · rw [if_neg e, Hot.out i e]))
                      clear Hno
                      go_wp2
                      go_roundw
                      case rel => exact ⟨c4, jj + 1, by go_num, by omega, R5.out⟩
                      case measure => simp [intOf]; omega
                · obtain rfl : n = jj := by omega
                  have R5 := Lib.hid (R4.out.congr (T' := fwP A kk (ii + 1) 0) (fun i _ => fwP_row A kk ii n i (fun b hb => by
                    rw [fw_out Gd.out _ _ _ (by have := Hla.out; omega), fw_out Gd.out _ _ _ (by have := Hla.out; omega)])))
                  have hi2 := Hi.out
                  clear R4
                  go_wp2
                  go_roundw
                  case rel => exact ⟨c4, ii + 1, by go_num, by omega, R5.out⟩
                  case measure => simp [intOf]; omega
            · obtain rfl : n = ii := by omega
              have R5 := Lib.hid (R.out.congr (T' := fw A (kk + 1)) (fun i hi => fwP_end A kk n i hi))
              have hk2 := Hk.out
              clear R
              go_wp2
              go_roundw
              case rel => exact ⟨c3, kk + 1, by go_num, by omega, R5.out⟩
              case measure => simp [intOf]; omega
        · obtain rfl : n = kk := by omega
          go_wp2
          go_ret
          exact ⟨ta, tcap, B, rfl, c2, R.out.st, R.out.tab⟩

theorem recol_far (c : Nat → Nat) (k : Nat) (j : Nat) (hj : k + 101 ≤ j) (i : Nat) : recol c k i ≠ j := by
  unfold recol
  split <;> omega

theorem Blk.fresh {J : Nat → Prop} {c1 c' : Nat → Nat} {kx : Nat} {w w' : World} {b : Nat} {cs : List Value} {t : TypeId} (hb : Blk c' kx w' b cs t) (st : Stp J c1 c' w w') (hx : ∀ i, c1 i ≠ kx) (c : Nat → Nat) (kr : Nat) : Blk (paint c w.heap.size kr) kr w' b cs t := by
  refine ⟨paint_ge ?_, hb.2⟩
  by_cases hlt : b < w.heap.size
  · exact absurd ((st.col _ hlt).symm.trans hb.1) (hx _)
  · omega

theorem r13ahead_p {c : Nat → Nat} {k : Nat} {w : World} {A : List (List Nat)} {G : List Bool} {vs : List Value} {n : Nat} {ao : Option Addr} {cap : Nat} {bo : Option Addr} {bcap : Nat} (h : RefIs c k w A G vs n ao cap bo bcap) (gd : Good A G) (kr : Nat) :
    Calls Try.prog 94 #[.agg #[.slice ao n cap, .slice bo n bcap]] w fun e w' => ∃ ta tcap B, e = .returned (.slice ta n tcap) ∧ ∃ c', Stp (fun _ => False) c c' w w' ∧ TabIs c' (fun _ => kr) w' ta n tcap n B (reachB A) := by
  refine (r13ahead_any h.recol gd).mono ?_
  rintro e w' ⟨ta, tcap, B, rfl, c', st, ht⟩
  refine ⟨ta, tcap, B, rfl, _, st.pure (fun i hi => recol_far c k _ (by omega) i rfl) c kr, ht.ho.fresh st (recol_far c k _ (by omega)) c kr, fun i hi => ?_⟩
  have e : fw A n i = reachB A i := by funext j; rw [← h.la]; exact fw_all gd i j
  rw [← e]
  exact (ht.hr i hi).fresh st (recol_far c k _ (by omega)) c kr
end Go.Proofs.Ytmhhhiegioniaaa
