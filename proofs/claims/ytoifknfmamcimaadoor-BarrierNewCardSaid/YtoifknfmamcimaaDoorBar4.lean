/- Contracts of a barrier's Look, New, Alert, After, and of a settled probe's Step. No condition beyond each contract's own. -/
import Derived.Test.YtoifknfmamcimaaDoorBar3
import Derived.Deep.LoopGhost
namespace Go.Proofs.YtoifknfmamcimaaDoor
open Go.RowKit

def cellsP (b : Nat) (p : Pr) (ao : Option Addr) (cap : Nat) : List Value :=
  [.pointer (some ⟨b, 0, none⟩), .int .i64 p.next, .int .i64 (p.stage : Int), .slice ao p.ids.length cap, .int .i64 p.most, .int .i64 p.hi, .int .i64 p.pos, .int .i64 p.sign, .bool p.fin]

/-- Look, part of the way. -/
structure LookR (c0 : Nat → Nat) (w0 : World) (K q b g : Nat) (bv : Option Addr) (la : List Int) (s : Int) (B : Bar) (x : Nat) (cs : List Value) (p : Pr) (j : Nat) (ao : Option Addr) (cap : Nat) (c : Nat → Nat) (w : World) : Prop where
  st : Stp (· = K) c0 c w0 w
  ar : ArenaAt c K w q la (s + j)
  br : BarIs c (K + 1) w b g bv B
  bx : Blk c (K + 6) w x cs 35
  sc : In c (K + 4) w 1 ao p.ids.length cap (p.ids.map (Value.int .i64))
  ok : PrOK la B p
  nx : w0.heap.size ≤ x

section
variable {c0 : Nat → Nat} {w0 : World} {K q b g : Nat} {bv : Option Addr} {la : List Int} {s : Int} {B : Bar} {x : Nat} {cs : List Value} {p p' : Pr} {j : Nat} {ao ao' : Option Addr} {cap cap' : Nat} {c c' : Nat → Nat} {w w' : World}
theorem LookR.stpF (h : LookR c0 w0 K q b g bv la s B x cs p j ao cap c w) (t : Stp (fun _ => False) c c' w w') : LookR c0 w0 K q b g bv la s B x cs p j ao cap c' w' :=
  ⟨h.st.trans (t.mono fun _ h => h.elim), h.ar.stp t id, h.br.stp t id id id, h.bx.stp t id, h.sc.stp t id, h.ok, h.nx⟩
theorem LookR.go (h : LookR c0 w0 K q b g bv la s B x cs p j ao cap c w) (t : Stp (· = K) c c' w w') (ha : ArenaAt c' K w' q la (s + j + 1)) (hs : In c' (K + 4) w' 1 ao' p'.ids.length cap' (p'.ids.map (Value.int .i64))) (hk : PrOK la B p') : LookR c0 w0 K q b g bv la s B x cs p' (j + 1) ao' cap' c' w' :=
  ⟨h.st.trans t, by rw [show (s + ((j + 1 : Nat) : Int)) = s + j + 1 by omega]; exact ha, h.br.stp t (by omega) (by omega) (by omega), h.bx.stp t (by omega), hs, hk, h.nx⟩
theorem LookR.xs (h : LookR c0 w0 K q b g bv la s B x cs p j ao cap c w) {v0 v1 v2 v3 v4 v5 v6 v7 v8 : Value} (e : cs = [v0, v1, v2, v3, v4, v5, v6, v7, v8]) : (w.cell? ⟨x, 0, none⟩ = some v0 ∧ w.cell? ⟨x, 1, none⟩ = some v1 ∧ w.cell? ⟨x, 2, none⟩ = some v2 ∧ w.cell? ⟨x, 3, none⟩ = some v3 ∧ w.cell? ⟨x, 4, none⟩ = some v4 ∧ w.cell? ⟨x, 5, none⟩ = some v5 ∧ w.cell? ⟨x, 6, none⟩ = some v6 ∧ w.cell? ⟨x, 7, none⟩ = some v7 ∧ w.cell? ⟨x, 8, none⟩ = some v8) ∧ (w.frozen? ⟨x, 0, none⟩ = false ∧ w.frozen? ⟨x, 1, none⟩ = false ∧ w.frozen? ⟨x, 2, none⟩ = false ∧ w.frozen? ⟨x, 3, none⟩ = false ∧ w.frozen? ⟨x, 4, none⟩ = false ∧ w.frozen? ⟨x, 5, none⟩ = false ∧ w.frozen? ⟨x, 6, none⟩ = false ∧ w.frozen? ⟨x, 7, none⟩ = false ∧ w.frozen? ⟨x, 8, none⟩ = false) ∧ x < w.heap.size := by
  subst e
  exact ⟨⟨by simpa using h.bx.cell 0, by simpa using h.bx.cell 1, by simpa using h.bx.cell 2, by simpa using h.bx.cell 3, by simpa using h.bx.cell 4, by simpa using h.bx.cell 5, by simpa using h.bx.cell 6, by simpa using h.bx.cell 7, by simpa using h.bx.cell 8⟩,
    ⟨h.bx.free 0, h.bx.free 1, h.bx.free 2, h.bx.free 3, h.bx.free 4, h.bx.free 5, h.bx.free 6, h.bx.free 7, h.bx.free 8⟩, h.bx.lt⟩
theorem LookR.put (h : LookR c0 w0 K q b g bv la s B x cs p j ao cap c w) (i : Nat) (v : Value) : LookR c0 w0 K q b g bv la s B x (cs.set i v) p j ao cap c (w.setCell ⟨x, i, none⟩ v) := by
  have t := (Stp.refl (· = K + 6) c w).setCell (p := ⟨x, i, none⟩) v h.bx.1
  exact ⟨h.st.setNew (p := ⟨x, i, none⟩) _ h.nx, h.ar.stp t (by omega), h.br.stp t (by omega) (by omega) (by omega), h.bx.set i v, h.sc.stp t (by omega), h.ok, h.nx⟩
theorem LookR.put9 (h : LookR c0 w0 K q b g bv la s B x cs p j ao cap c w) (hl : cs.length = 9) (v0 v1 v2 v3 v4 v5 v6 v7 v8 : Value) : LookR c0 w0 K q b g bv la s B x [v0, v1, v2, v3, v4, v5, v6, v7, v8] p j ao cap c (((((((((w.setCell ⟨x, 0, none⟩ v0).setCell ⟨x, 1, none⟩ v1).setCell ⟨x, 2, none⟩ v2).setCell ⟨x, 3, none⟩ v3).setCell ⟨x, 4, none⟩ v4).setCell ⟨x, 5, none⟩ v5).setCell ⟨x, 6, none⟩ v6).setCell ⟨x, 7, none⟩ v7).setCell ⟨x, 8, none⟩ v8) := by
  have := ((((((((h.put 0 v0).put 1 v1).put 2 v2).put 3 v3).put 4 v4).put 5 v5).put 6 v6).put 7 v7).put 8 v8
  match cs, hl with
  | [a0, a1, a2, a3, a4, a5, a6, a7, a8], _ => exact this
end

section
variable {c : Nat → Nat} {K : Nat} {w : World} {q b g : Nat} {bv : Option Addr} {la : List Int} {s : Int} {B : Bar}
theorem PrOK.it (hb : BarOK la B) {p : Pr} (h : PrOK la B p) : ∀ j, PrOK la B (itP B la j p)
  | 0 => h
  | j + 1 => by rw [itP_last]; exact (PrOK.it hb h j).step hb

set_option maxRecDepth 100000 in
set_option maxHeartbeats 1000000 in
theorem blook_ok (ha : ArenaAt c K w q la s) (hB : BarIs c (K + 1) w b g bv B) (hok : BarOK la B) {next : Int} (hn : 0 ≤ next ∧ next ≤ 4611686018427387904) {n : Nat} {r : Pr} (he : EndsP B la (Pr.start next) n r) (s0 : 0 ≤ s) (s1 : s + n < 4611686018427387904) :
    Calls Tryd.prog 19 #[.pointer (some ⟨b, 0, none⟩), .pointer (some ⟨q, 0, none⟩), .int .i64 next] w fun e w' => ∃ ev, e = .returned (.tuple #[.int .i64 r.avail, ev]) ∧ ∃ c', Stp (· = K) c c' w w' ∧ ArenaAt c' K w' q la (s + n) ∧ ((r.sign = 1 ∧ (∃ t v, ev = .iface t v) ∧ ErrAt c' w' ev 13) ∨ (r.sign ≠ 1 ∧ ev = .nilIface)) := by
  have Hok := Lib.hid hok
  have Hn := Lib.hid hn
  have He := Lib.hid he
  have Hs0 := Lib.hid s0
  have Hs1 := Lib.hid s1
  have Ha := Lib.hid ha
  have HB := Lib.hid hB
  clear ha hB hok hn he s0 s1
  go_enter Tryd.func19, Tryd.ntmps19
  go_wp2_with fail
  refine (bprobe_any (some ⟨b, 0, none⟩) next c _).mono ?_
  rintro e w1 ⟨rfl, c1, t1⟩
  obtain ⟨c2, hc2, T2⟩ := (t1.alloc (.cells #[.pointer (some ⟨b, 0, none⟩), .int .i64 next, .int .i64 0, .slice none 0 0, .int .i64 0, .int .i64 0, .int .i64 0, .int .i64 0, .bool false] 35) (K + 6)).name
  have R0 := Lib.hid (show LookR c w K q b g bv la s B w1.heap.size (cellsP b (Pr.start next) none 0) (Pr.start next) 0 none 0 c2 (w1.alloc (.cells #[.pointer (some ⟨b, 0, none⟩), .int .i64 next, .int .i64 0, .slice none 0 0, .int .i64 0, .int .i64 0, .int .i64 0, .int .i64 0, .bool false] 35)) from
    ⟨T2.out.mono (fun _ h => h.elim), by simpa using Ha.out.stp T2.out id, HB.out.stp T2.out id id id, by rw [hc2.out]; exact Blk.new c1 (K + 6) w1 (cellsP b (Pr.start next) none 0) _, In.nil _ _ _ _ _, PrOK.start Hn.out, t1.size⟩)
  obtain ⟨x, hx⟩ : ∃ x, x = w1.heap.size := ⟨_, rfl⟩
  obtain ⟨W, hW⟩ : ∃ W, W = w1.alloc (.cells #[.pointer (some ⟨b, 0, none⟩), .int .i64 next, .int .i64 0, .slice none 0 0, .int .i64 0, .int .i64 0, .int .i64 0, .int .i64 0, .bool false] 35) := ⟨_, rfl⟩
  rw [← hx, ← hW] at R0
  have Hx := Lib.hid hx
  have HW := Lib.hid hW
  have hn0 : 0 < n := by
    rcases Nat.eq_zero_or_pos n with h | h
    · have h1 := He.out.fi
      have h2 := He.out.eq
      rw [h] at h2
      rw [← h2] at h1
      cases h1
    · exact h
  clear hx hW hc2 T2 t1
  go_wp2
  rw [← Hx.out, ← HW.out]
  go_loopg [] n (fun gh wr => ∃ (c' : Nat → Nat) (j : Nat) (ao : Option Addr) (cap : Nat), gh + j = n ∧ 0 < gh ∧ LookR c w K q b g bv la s B x (cellsP b (itP B la j (Pr.start next)) ao cap) (itP B la j (Pr.start next)) j ao cap c' wr)
  case atStart => exact ⟨c2, 0, none, 0, rfl, hn0, R0.out⟩
  case round =>
    obtain ⟨c3, j, ao, cap, hg, hg0, hr⟩ := hrel
    obtain ⟨p, hp⟩ : ∃ p, p = itP B la j (Pr.start next) := ⟨_, rfl⟩
    rw [← hp] at hr
    have hf : p.fin = false := by rw [hp]; exact He.out.un j (by omega)
    obtain ⟨p1, p2, p3, p4, p5, p6, p7, p8⟩ := p
    obtain rfl : p8 = false := hf
    have R := Lib.hid hr
    have Hp := Lib.hid hp
    have Hg := Lib.hid hg
    obtain ⟨⟨x0, x1, x2, x3, x4, x5, x6, x7, x8⟩, ⟨f0, f1, f2, f3, f4, f5, f6, f7, f8⟩, lx⟩ := R.out.xs rfl
    simp only at x0 x1 x2 x3 x4 x5 x6 x7 x8
    clear hr hp R0
    go_wp2_with fail
    refine (pstep_c R.out.ar R.out.br R.out.sc Hok.out R.out.ok rfl (by have := Hs0.out; omega) (by have := Hs1.out; omega)).mono ?_
    rintro e w2 ⟨ao', cap', rfl, c4, t4, a4, i4⟩
    have hk := R.out.ok.step Hok.out
    obtain ⟨p', hp'⟩ : ∃ p', p' = stepP B la ⟨p1, p2, p3, p4, p5, p6, p7, false⟩ := ⟨_, rfl⟩
    rw [← hp'] at hk i4 ⊢
    have hit : p' = itP B la (j + 1) (Pr.start next) := by rw [itP_last, ← Hp.out, hp']
    have R2 := Lib.hid (R.out.go t4 a4 i4 hk)
    have Hit := Lib.hid hit
    obtain ⟨q1, q2, q3, q4, q5, q6, q7, q8⟩ := p'
    simp only [prV]
    clear x0 x1 x2 x3 x4 x5 x6 x7 x8 f0 f1 f2 f3 f4 f5 f6 f7 f8 lx t4 a4 i4 hk hp' hit R Hp
    obtain ⟨⟨x0, x1, x2, x3, x4, x5, x6, x7, x8⟩, ⟨f0, f1, f2, f3, f4, f5, f6, f7, f8⟩, lx⟩ := R2.out.xs rfl
    go_wp2_with fail
    obtain ⟨c0, R3⟩ : ∃ c0, Hid (LookR c w K q b g bv la s B x [.pointer (some ⟨b, 0, none⟩), .int .i64 q1, .int .i64 q2, .slice ao' q3.length cap', .int .i64 q4, .int .i64 q5, .int .i64 q6, .int .i64 q7, .bool q8] ⟨q1, q2, q3, q4, q5, q6, q7, q8⟩ (j + 1) ao' cap' c0 _) := ⟨_, Lib.hid ((R2.out.put9 rfl (.pointer (some ⟨b, 0, none⟩)) (.int .i64 q1) (.int .i64 q2) (.slice ao' q3.length cap') (.int .i64 q4) (.int .i64 q5) (.int .i64 q6) (.int .i64 q7) (.bool q8)).stpF ((Stp.refl (fun _ => False) _ _).alloc (.cells #[.pointer (some ⟨b, 0, none⟩), .int .i64 q1, .int .i64 q2, .slice ao' q3.length cap', .int .i64 q4, .int .i64 q5, .int .i64 q6, .int .i64 q7, .bool q8] 35) 0))⟩
    refine (prdone_any _ _ _ _ _ _ _ _ _ _ c0 _ _).mono ?_
    rintro e w5 ⟨rfl, c5, t5⟩
    have R5 := Lib.hid (R3.out.stpF t5)
    clear x0 x1 x2 x3 x4 x5 x6 x7 x8 f0 f1 f2 f3 f4 f5 f6 f7 f8 lx t5 R3 R2
    cases q8 with
    | false =>
      have hj : j + 1 < n := by
        rcases Nat.lt_or_ge (j + 1) n with h | h
        · exact h
        · have h1 := He.out.eq
          have h2 := He.out.fi
          have : n = j + 1 := by omega
          rw [this, ← Hit.out] at h1
          rw [← h1] at h2
          cases h2
      go_wp2
      go_roundg (gk - 1)
      case rel => exact ⟨c5, j + 1, ao', cap', by omega, by omega, by rw [← Hit.out]; exact R5.out⟩
      case measure => omega
    | true =>
      have hjn : j + 1 = n := by
        rcases Nat.lt_or_ge (j + 1) n with h | h
        · have := He.out.un (j + 1) h
          rw [← Hit.out] at this
          cases this
        · omega
      have hr : r = ⟨q1, q2, q3, q4, q5, q6, q7, true⟩ := by rw [Hit.out, hjn]; exact He.out.eq.symm
      subst hr
      obtain ⟨⟨x0, x1, x2, x3, x4, x5, x6, x7, x8⟩, -, lx⟩ := R5.out.xs rfl
      have Hj := Lib.hid hjn
      have hnx := R5.out.ok.nx
      simp only at hnx
      have HV := Lib.hid (show (Pr.mk q1 q2 q3 q4 q5 q6 q7 true).avail = max q6 (q1 - 1) from if_pos rfl)
      by_cases hs : q7 = 1
      · have t : (q7 == 1) = true := by simpa using hs
        have HS := Lib.hid hs
        clear hjn hs
        go_wp2_with fail
        refine (pravail_any _ _ _ _ _ _ _ _ _ _ _ c5 (by have := hnx; omega) _).mono ?_
        rintro e w6 ⟨rfl, c6, t6⟩
        rw [if_pos rfl]
        have R6 := Lib.hid (R5.out.stpF t6)
        clear t6 hnx
        go_wp2_with fail
        refine (wrap_some _ _ _ _ _).mono ?_
        rintro e w7 ⟨rfl, rfl⟩
        have S7 := Lib.hid ((Stp.refl (fun _ => False) c6 w6).alloc (.cells #[.string ⟨#[108, 111, 111, 107]⟩, .int .i64 next, .iface 119 (.int .i64 13)] 152) 1)
        have E7 := Lib.hid (ErrAt.new c6 w6 ⟨#[108, 111, 111, 107]⟩ next 13)
        go_wp2
        go_ret2
        exact ⟨_, by rw [HV.out]; rfl, _, R6.out.st.trans (S7.out.mono (fun _ h => h.elim)), by rw [← Hj.out]; exact R6.out.ar.stp S7.out id, .inl ⟨HS.out, ⟨_, _, rfl⟩, E7.out⟩⟩
      · have t : (q7 == 1) = false := by simpa using hs
        have HS := Lib.hid hs
        clear hjn hs
        go_wp2_with fail
        refine (pravail_any _ _ _ _ _ _ _ _ _ _ _ c5 (by have := hnx; omega) _).mono ?_
        rintro e w6 ⟨rfl, c6, t6⟩
        rw [if_pos rfl]
        have R6 := Lib.hid (R5.out.stpF t6)
        clear t6 hnx
        go_wp2
        go_ret2
        exact ⟨_, by rw [HV.out]; rfl, c6, R6.out.st, by rw [← Hj.out]; exact R6.out.ar, .inr ⟨HS.out, rfl⟩⟩
end
end Go.Proofs.YtoifknfmamcimaaDoor
