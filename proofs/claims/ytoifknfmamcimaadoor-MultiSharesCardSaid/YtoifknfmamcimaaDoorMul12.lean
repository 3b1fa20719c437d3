/- A settled try's Step; Claim in general; Remaining, Gate, Cached of a sequencer. No condition beyond each contract's own. -/
import Derived.Test.YtoifknfmamcimaaDoorMul11
import Derived.Test.YtoifknfmamcimaaDoorMul6
import Derived.Test.YtoifknfmamcimaaDoorMul8
import Derived.Test.YtoifknfmamcimaaDoorBar4b
import Derived.Test.YtoifknfmamcimaaDoorPow5
import Derived.Deep.LoopGhost
namespace Go.Proofs.YtoifknfmamcimaaDoor
open Go.RowKit

set_option maxRecDepth 100000 in
theorem tstep_fin (n stage claimed hi : Int) (ao : Option Addr) (m cap : Nat) (most : Int) (p : Nat) (h5 : decide (5 ≤ stage) = true) (c : Nat → Nat) (w : World) :
    Calls Tryd.prog 41 #[.agg #[.pointer (some ⟨p, 0, none⟩), .int .i64 n, .int .i64 stage, .int .i64 claimed, .int .i64 hi, .slice ao m cap, .int .i64 most]] w fun e w' => e = .returned (.tuple #[.agg #[.pointer (some ⟨p, 0, none⟩), .int .i64 n, .int .i64 stage, .int .i64 claimed, .int .i64 hi, .slice ao m cap, .int .i64 most], .nilIface]) ∧ ∃ c', Stp (fun _ => False) c c' w w' := by
  obtain ⟨c1, t1, B⟩ := TBox.start c 3 w [.pointer (some ⟨p, 0, none⟩), .int .i64 n, .int .i64 stage, .int .i64 claimed, .int .i64 hi, .slice ao m cap, .int .i64 most]
  have T1 := Lib.hid t1
  have B1 := Lib.hid B
  obtain ⟨x, hx⟩ : ∃ x, x = w.heap.size := ⟨_, rfl⟩
  obtain ⟨y, hy⟩ : ∃ y, y = w.heap.size + 1 := ⟨_, rfl⟩
  have Hy := Lib.hid (show w.heap.size ≤ y by omega)
  have H5 := Lib.hid h5
  clear t1 B h5
  go_enter Tryd.func41, Tryd.ntmps41
  go_wp2_with fail
  rw [← hy, ← hx] at B1
  rw [← hy, ← hx]
  clear hx hy
  refine (tdone_any _ _ _ _ _ _ _ _ c1 _ _ (b := true) H5.out).mono ?_
  rintro e w2 ⟨rfl, c2, t2⟩
  have T2 := Lib.hid (T1.out.trans t2)
  have B2 := Lib.hid (B1.out.stp t2 id)
  clear t2 T1 B1
  have x0 := B2.out.bx.cell 0
  have x1 := B2.out.bx.cell 1
  have x2 := B2.out.bx.cell 2
  have x3 := B2.out.bx.cell 3
  have x4 := B2.out.bx.cell 4
  have x5 := B2.out.bx.cell 5
  have x6 := B2.out.bx.cell 6
  have y0 := B2.out.rs.cell 0
  have y1 := B2.out.rs.cell 1
  have y2 := B2.out.rs.cell 2
  have y3 := B2.out.rs.cell 3
  have y4 := B2.out.rs.cell 4
  have y5 := B2.out.rs.cell 5
  have y6 := B2.out.rs.cell 6
  simp at x0 x1 x2 x3 x4 x5 x6 y0 y1 y2 y3 y4 y5 y6
  have g0 := B2.out.rs.free 0
  have g1 := B2.out.rs.free 1
  have g2 := B2.out.rs.free 2
  have g3 := B2.out.rs.free 3
  have g4 := B2.out.rs.free 4
  have g5 := B2.out.rs.free 5
  have g6 := B2.out.rs.free 6
  have ly := B2.out.rs.lt
  go_wp2
  exact bodyPost_ret (v := .tuple #[.agg #[.pointer (some ⟨p, 0, none⟩), .int .i64 n, .int .i64 stage, .int .i64 claimed, .int .i64 hi, .slice ao m cap, .int .i64 most], .nilIface]) (by simp [results, Tryd.results41, go_sem, y0, y1, y2, y3, y4, y5, y6]) rfl ⟨rfl, c2, ((((((T2.out.setNew (p := ⟨y, 0, none⟩) (.pointer (some ⟨p, 0, none⟩)) Hy.out).setNew (p := ⟨y, 1, none⟩) (.int .i64 n) Hy.out).setNew (p := ⟨y, 2, none⟩) (.int .i64 stage) Hy.out).setNew (p := ⟨y, 3, none⟩) (.int .i64 claimed) Hy.out).setNew (p := ⟨y, 4, none⟩) (.int .i64 hi) Hy.out).setNew (p := ⟨y, 5, none⟩) (.slice ao m cap) Hy.out).setNew (p := ⟨y, 6, none⟩) (.int .i64 most) Hy.out⟩

def cellsT (p : Nat) (t : Tr) (ao : Option Addr) (cap : Nat) : List Value :=
  [.pointer (some ⟨p, 0, none⟩), .int .i64 t.n, .int .i64 (t.stage : Int), .int .i64 t.claimed, .int .i64 t.hi, .slice ao t.ids.length cap, .int .i64 t.most]

/-- What Claim answers. -/
def CPost (ef : Int) (tf : Tr) (x : Int) (ev : Value) (c : Nat → Nat) (w : World) : Prop :=
  (ef ≠ 0 ∧ x = 0 ∧ ErrAt c w ev ef) ∨ (ef = 0 ∧ tf.stage = 6 ∧ x = 0 ∧ ErrAt c w ev 10) ∨ (ef = 0 ∧ tf.stage = 5 ∧ x = tf.hi ∧ ev = .nilIface)

/-- Claim's loop. -/
def CRel (c0 : Nat → Nat) (w0 : World) (K p q bp gp : Nat) (S : Sq) (z : Nat) (lf : List Int) (tf : Tr) (ef : Int) (gh : Nat) (ev : Value) (wr : World) : Prop :=
  (ev = .nilIface ∧ ∃ (c : Nat → Nat) (la : List Int) (t : Tr) (ao : Option Addr) (cap m : Nat), gh = m + 1 ∧ RunT S la t m lf tf ef ∧ SqOK la S ∧ TrOK la t ∧ QAt c0 w0 K p q bp gp S la z (cellsT p t ao cap) ao t.ids.length cap t.ids c wr) ∨
  (gh = 0 ∧ ∃ tt vv, ev = .iface tt vv ∧ Hid (ef ≠ 0 ∧ ∃ c, Stp (· = K) c0 c w0 wr ∧ ArenaS c K wr q lf ∧ SeqIs c (K + 1) wr p q bp gp S ∧ ErrAt c wr ev ef))

section
variable {c : Nat → Nat} {K : Nat} {w : World} {p q bp gp : Nat} {S : Sq} {la : List Int}
set_option maxRecDepth 100000 in
set_option maxHeartbeats 2000000 in
theorem mclaim_run (ha : ArenaS c K w q la) (hB : SeqIs c (K + 1) w p q bp gp S) (n : Int) (h1 : 1 ≤ n) (h2 : n ≤ 2 ^ S.sh) (hok : SqOK la S) (hK : 2 ≤ K) {k : Nat} {lf : List Int} {tf : Tr} {ef : Int} (hr : RunT S la (Tr.start n) k lf tf ef) :
    Calls Tryd.prog 24 #[.pointer (some ⟨p, 0, none⟩), .int .i64 n] w fun e w' => ∃ x ev, e = .returned (.tuple #[.int .i64 x, ev]) ∧ ∃ c', Stp (· = K) c c' w w' ∧ ArenaS c' K w' q lf ∧ SeqIs c' (K + 1) w' p q bp gp S ∧ CPost ef tf x ev c' w' := by
  have HB := Lib.hid hB
  have HA := Lib.hid ha
  have H1 := Lib.hid h1
  have H2 := Lib.hid h2
  have Hok := Lib.hid hok
  have HK := Lib.hid hK
  have Hr := Lib.hid hr
  clear ha hB h1 h2 hok hK hr
  go_enter Tryd.func24, Tryd.ntmps24
  go_wp2_with fail
  refine (mtry_ok HB.out n H1.out H2.out).mono ?_
  rintro e w1 ⟨rfl, c1, t1⟩
  obtain ⟨z, hz⟩ : ∃ z, z = w1.heap.size := ⟨_, rfl⟩
  obtain ⟨c2, hc2, T2⟩ := (t1.alloc (.cells #[.pointer (some ⟨p, 0, none⟩), .int .i64 n, .int .i64 0, .int .i64 0, .int .i64 0, .slice none 0 0, .int .i64 0] 73) (K + 6)).name
  have Q2 := Lib.hid (show QAt c w K p q bp gp S la z (cellsT p (Tr.start n) none 0) none (Tr.start n).ids.length 0 (Tr.start n).ids c2 (w1.alloc (.cells #[.pointer (some ⟨p, 0, none⟩), .int .i64 n, .int .i64 0, .int .i64 0, .int .i64 0, .slice none 0 0, .int .i64 0] 73)) from ⟨T2.out.mono (fun _ h => h.elim), HA.out.stp T2.out id, HB.out.stp T2.out id id id, by rw [hc2.out, hz]; exact Blk.new c1 (K + 6) w1 (cellsT p (Tr.start n) none 0) _, In.nil _ _ _ _ _, by rw [hz]; exact t1.size⟩)
  clear t1 hc2 T2
  go_wp2
  rw [← hz]
  clear hz
  go_loopg [7] (k + 1) (fun gh ev wr => CRel c w K p q bp gp S z lf tf ef gh ev wr)
  case atStart => exact .inl ⟨rfl, c2, la, Tr.start n, none, 0, k, rfl, Hr.out, Hok.out, TrOK.start, Q2.out⟩
  case round =>
    rcases hrel with ⟨rfl, c3, lb, t, ao, cap, m, hg, hr, hso, hto, hq⟩ | ⟨hg, tt, vv, rfl, hh⟩
    · have hun := hr.un
      obtain ⟨t0, t1, t2, t3, t4, t5⟩ := t
      have Q := Lib.hid hq
      have So := Lib.hid hso
      have To := Lib.hid hto
      have Hg := Lib.hid hg
      obtain ⟨⟨x0, x1, x2, x3, x4, x5, x6⟩, -, -⟩ := Q.out.xs rfl
      simp only at x0 x1 x2 x3 x4 x5 x6 hun
      clear hq hso hto hr hg Q2
      rcases hun with ⟨a1, a2, a3, a4, a5⟩ | ⟨a1, a2, a3, a4, a5, a6⟩ | ⟨a1, a2, m', a3, a4⟩
      · have d5 : decide ((5 : Int) ≤ (t1 : Int)) = true := by simp; omega
        have D5 := Lib.hid d5
        have A1 := Lib.hid a1
        subst a2 a3 a4 a5
        have h56 : t1 = 5 ∨ t1 = 6 := by have := To.out.st; simp only at this; omega
        clear a1 d5
        go_wp2_with fail
        refine (tdone_any _ _ _ _ _ _ _ _ c3 _ _ (b := true) D5.out).mono ?_
        rintro e w4 ⟨rfl, c4, t4⟩
        have Q4 := Lib.hid (Q.out.stpF t4)
        clear t4 Q x0 x1 x2 x3 x4 x5 x6
        obtain ⟨⟨x0, x1, x2, x3, x4, x5, x6⟩, -, -⟩ := Q4.out.xs rfl
        simp only at x0 x1 x2 x3 x4 x5 x6
        rcases h56 with h6 | h6
        rotate_left
        · have D6 := Lib.hid (show ((t1 : Int) == 6) = true by simp; omega)
          have H6 := Lib.hid h6
          clear h6
          go_wp2_with fail
          refine (tfull_any _ _ _ _ _ _ _ _ _ c4 _ (b := true) D6.out).mono ?_
          rintro e w5 ⟨rfl, c5, t5'⟩
          have Q5 := Lib.hid (Q4.out.stpF t5')
          clear t5' Q4 x0 x1 x2 x3 x4 x5 x6
          obtain ⟨⟨x0, x1, x2, x3, x4, x5, x6⟩, -, -⟩ := Q5.out.xs rfl
          simp only at x0 x1 x2 x3 x4 x5 x6
          go_wp2_with fail
          refine (wrap_some _ _ _ _ _).mono ?_
          rintro e w7 ⟨rfl, rfl⟩
          have S7 := Lib.hid ((Stp.refl (fun _ => False) c5 w5).alloc (.cells #[.string ⟨#[99, 108, 97, 105, 109]⟩, .int .i64 t2, .iface 119 (.int .i64 10)] 152) 1)
          have E7 := Lib.hid (ErrAt.new c5 w5 ⟨#[99, 108, 97, 105, 109]⟩ t2 10)
          go_wp2
          go_ret2
          exact ⟨_, _, rfl, _, Q5.out.st.trans (S7.out.mono (fun _ h => h.elim)), Q5.out.ar.stp S7.out id, Q5.out.sq.stp S7.out id id id, .inr (.inl ⟨rfl, H6.out, rfl, E7.out⟩)⟩
        · have D6 := Lib.hid (show ((t1 : Int) == 6) = false by simp; omega)
          have L6 := Lib.hid (show (t1 : Int) = 5 by omega)
          have H6 := Lib.hid h6
          clear h6
          go_wp2_with fail
          refine (tfull_any _ _ _ _ _ _ _ _ _ c4 _ (b := false) D6.out).mono ?_
          rintro e w5 ⟨rfl, c5, t5'⟩
          have Q5 := Lib.hid (Q4.out.stpF t5')
          clear t5' Q4 x0 x1 x2 x3 x4 x5 x6
          obtain ⟨⟨x0, x1, x2, x3, x4, x5, x6⟩, -, -⟩ := Q5.out.xs rfl
          simp only at x0 x1 x2 x3 x4 x5 x6
          go_wp2_with fail
          refine (tlast_any _ _ _ _ _ _ _ _ _ c5 _).mono ?_
          rintro e w6 ⟨rfl, c6, t6⟩
          rw [if_pos L6.out]
          have Q6 := Lib.hid (Q5.out.stpF t6)
          clear t6 Q5 x0 x1 x2 x3 x4 x5 x6
          go_wp2
          go_ret2
          exact ⟨_, _, rfl, c6, Q6.out.st, Q6.out.ar, Q6.out.sq, .inr (.inr ⟨rfl, H6.out, rfl, rfl⟩)⟩
      · have D5 := Lib.hid (show decide ((5 : Int) ≤ (t1 : Int)) = false by simp; omega)
        have A1 := Lib.hid a1
        have A2 := Lib.hid a2
        have A4 := Lib.hid a4
        have A6 := Lib.hid a6
        clear a1 a2 a3 a4 a5 a6
        go_wp2_with fail
        refine (tdone_any _ _ _ _ _ _ _ _ c3 _ _ (b := false) D5.out).mono ?_
        rintro e w4 ⟨rfl, c4, t4⟩
        have Q4 := Lib.hid (Q.out.stpF t4)
        clear t4 Q x0 x1 x2 x3 x4 x5 x6
        obtain ⟨⟨x0, x1, x2, x3, x4, x5, x6⟩, -, -⟩ := Q4.out.xs rfl
        simp only at x0 x1 x2 x3 x4 x5 x6
        go_wp2_with fail
        refine (tstep_c Q4.out.ar Q4.out.sq Q4.out.sc So.out To.out A1.out HK.out).mono ?_
        rintro e w5 ⟨ao', cap', ev, rfl, c5, t5', a5, i5, hev⟩
        rw [← A4.out] at a5
        rw [← A6.out] at hev
        obtain ⟨t', ht'⟩ : ∃ t', t' = (stepT S lb ⟨t0, t1, t2, t3, t4, t5⟩).2.1 := ⟨_, rfl⟩
        rw [← ht'] at i5 ⊢
        have hef : ef ≠ 0 := by rw [A6.out]; exact A2.out
        rcases hev with ⟨h, -⟩ | ⟨-, hev⟩
        · exact absurd h hef
        have Hef := Lib.hid hef
        have EV := Lib.hid hev
        obtain ⟨tt, vv, rfl⟩ := EV.out.iface'
        have Q5 := Lib.hid (Q4.out.go t5' a5 i5)
        obtain ⟨q0, q1, q2, q3, q4, q5⟩ := t'
        simp only [trV]
        clear t5' a5 i5 Q4 x0 x1 x2 x3 x4 x5 x6 hev ht' hef A1 A2 A4 A6 So To
        obtain ⟨⟨x0, x1, x2, x3, x4, x5, x6⟩, ⟨f0, f1, f2, f3, f4, f5, f6⟩, lz⟩ := Q5.out.xs rfl
        simp only at x0 x1 x2 x3 x4 x5 x6
        have Q6 := Lib.hid (Q5.out.put7 rfl (.pointer (some ⟨p, 0, none⟩)) (.int .i64 q0) (.int .i64 q1) (.int .i64 q2) (.int .i64 q3) (.slice ao' q4.length cap') (.int .i64 q5))
        have E6 := Lib.hid (EV.out.stp (((((((((Stp.refl (· = K + 6) c5 w5).setCell (p := ⟨z, 0, none⟩) (.pointer (some ⟨p, 0, none⟩)) Q5.out.bx.1).setCell (p := ⟨z, 1, none⟩) (.int .i64 q0) Q5.out.bx.1).setCell (p := ⟨z, 2, none⟩) (.int .i64 q1) Q5.out.bx.1).setCell (p := ⟨z, 3, none⟩) (.int .i64 q2) Q5.out.bx.1).setCell (p := ⟨z, 4, none⟩) (.int .i64 q3) Q5.out.bx.1).setCell (p := ⟨z, 5, none⟩) (.slice ao' q4.length cap') Q5.out.bx.1).setCell (p := ⟨z, 6, none⟩) (.int .i64 q5) Q5.out.bx.1)) (by omega))
        clear EV
        go_wp2
        go_roundg (0)
        case rel => exact .inr ⟨rfl, tt, vv, rfl, Lib.hid ⟨Hef.out, c5, Q6.out.st, Q6.out.ar, Q6.out.sq, E6.out⟩⟩
        case measure => have := Hg.out; omega
      · have D5 := Lib.hid (show decide ((5 : Int) ≤ (t1 : Int)) = false by simp; omega)
        have A1 := Lib.hid a1
        have A2 := Lib.hid a2
        have A3 := Lib.hid a3
        have A4 := Lib.hid a4
        clear a1 a2 a3 a4
        go_wp2_with fail
        refine (tdone_any _ _ _ _ _ _ _ _ c3 _ _ (b := false) D5.out).mono ?_
        rintro e w4 ⟨rfl, c4, t4⟩
        have Q4 := Lib.hid (Q.out.stpF t4)
        clear t4 Q x0 x1 x2 x3 x4 x5 x6
        obtain ⟨⟨x0, x1, x2, x3, x4, x5, x6⟩, -, -⟩ := Q4.out.xs rfl
        simp only at x0 x1 x2 x3 x4 x5 x6
        go_wp2_with fail
        refine (tstep_c Q4.out.ar Q4.out.sq Q4.out.sc So.out To.out A1.out HK.out).mono ?_
        rintro e w5 ⟨ao', cap', ev, rfl, c5, t5', a5, i5, hev⟩
        have hts := To.out.step So.out
        have hso := So.out.len (stepT_len S lb ⟨t0, t1, t2, t3, t4, t5⟩)
        have hru := A4.out
        rcases hev with ⟨-, rfl⟩ | ⟨h, -⟩
        rotate_left
        · exact absurd A2.out h
        obtain ⟨t', ht'⟩ : ∃ t', t' = (stepT S lb ⟨t0, t1, t2, t3, t4, t5⟩).2.1 := ⟨_, rfl⟩
        obtain ⟨lc, hlc⟩ : ∃ lc, lc = (stepT S lb ⟨t0, t1, t2, t3, t4, t5⟩).1 := ⟨_, rfl⟩
        rw [← ht'] at i5 hts hru ⊢
        rw [← hlc] at a5 hts hso hru
        have Q5 := Lib.hid (Q4.out.go t5' a5 i5)
        have HR := Lib.hid hru
        have HS := Lib.hid hso
        have HT := Lib.hid hts
        obtain ⟨q0, q1, q2, q3, q4, q5⟩ := t'
        simp only [trV]
        clear t5' a5 i5 Q4 x0 x1 x2 x3 x4 x5 x6 ht' hlc hru hso hts A1 A2 A4 So To
        obtain ⟨⟨x0, x1, x2, x3, x4, x5, x6⟩, ⟨f0, f1, f2, f3, f4, f5, f6⟩, lz⟩ := Q5.out.xs rfl
        simp only at x0 x1 x2 x3 x4 x5 x6
        have Q6 := Lib.hid (Q5.out.put7 rfl (.pointer (some ⟨p, 0, none⟩)) (.int .i64 q0) (.int .i64 q1) (.int .i64 q2) (.int .i64 q3) (.slice ao' q4.length cap') (.int .i64 q5))
        go_wp2
        go_roundg (gk - 1)
        case rel => exact .inl ⟨rfl, c5, lc, ⟨q0, q1, q2, q3, q4, q5⟩, ao', cap', m', by have := Hg.out; have := A3.out; omega, HR.out, HS.out, HT.out, Q6.out⟩
        case measure => have := Hg.out; omega
    · have HH := Lib.hid hh
      clear hh
      obtain ⟨h0, c3, g1, g2, g3, g4⟩ := HH.out.out
      have G := Lib.hid (And.intro h0 (And.intro g1 (And.intro g2 (And.intro g3 g4))))
      clear h0 g1 g2 g3 g4 HH
      go_wp2
      go_ret2
      exact ⟨_, _, rfl, c3, G.out.2.1, G.out.2.2.1, G.out.2.2.2.1, .inl ⟨G.out.1, rfl, G.out.2.2.2.2⟩⟩
end
end Go.Proofs.YtoifknfmamcimaaDoor
