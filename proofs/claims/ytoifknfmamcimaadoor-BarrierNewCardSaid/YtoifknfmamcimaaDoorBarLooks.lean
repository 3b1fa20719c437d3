/- The walk of BarrierLooks. No condition but that the table of math/bits holds what the program lays there. -/
import Derived.Test.YtoifknfmamcimaaDoorBarLooks0
import Derived.Test.YtoifknfmamcimaaDoorBar6
namespace Go.Proofs.YtoifknfmamcimaaDoor
open Go.RowKit

/-- A plan as an argument. -/
structure PlnIn (w : World) (p : Pln) (ao : Option Addr) (cap : Nat) (so : Option Addr) (scap : Nat) : Prop where
  la : In (fun _ => 0) 0 w 1 ao p.after.length cap (p.after.map (Value.int .i64))
  ls : In (fun _ => 0) 0 w 1 so p.shown.length scap (p.shown.map (Value.int .u8))
  ok : ∀ t ∈ p.shown, 0 ≤ t ∧ t ≤ 255
  sh : p.shift ≤ 255
  tb : Tab w

/-- The law's own box of the plan. -/
structure B0 (w0 : World) (p : Pln) (ao : Option Addr) (cap : Nat) (so : Option Addr) (scap : Nat) (x : Nat) (c : Nat → Nat) (w : World) : Prop where
  st : Stp (2 ≤ ·) (fun _ => 0) c w0 w
  bx : Blk c 0 w x (p.cells ao cap so scap) 25

section
variable {w0 : World} {p : Pln} {ao : Option Addr} {cap : Nat} {so : Option Addr} {scap : Nat} {x : Nat} {c c' : Nat → Nat} {w w' : World}
theorem B0.stp {J : Nat → Prop} (h : B0 w0 p ao cap so scap x c w) (t : Stp J c c' w w') (hJ : ∀ k, J k → 2 ≤ k) : B0 w0 p ao cap so scap x c' w' :=
  ⟨h.st.trans (t.mono hJ), h.bx.stp t (fun h => absurd (hJ 0 h) (by decide))⟩
theorem B0.start (p : Pln) (ao : Option Addr) (cap : Nat) (so : Option Addr) (scap : Nat) (w : World) : B0 w p ao cap so scap w.heap.size (paint (fun _ => 0) w.heap.size 0) (w.alloc (.cells #[.int .i64 p.cursor, .slice ao p.after.length cap, .bool p.buffer, .slice so p.shown.length scap, .int .i64 p.alert, .int .u8 p.shift] 25)) :=
  ⟨(Stp.refl (2 ≤ ·) (fun _ => 0) w).alloc _ 0, Blk.new _ 0 w (p.cells ao cap so scap) _⟩
theorem B0.cs (h : B0 w0 p ao cap so scap x c w) : w.cell? ⟨x, 0, none⟩ = some (.int .i64 p.cursor) ∧ w.cell? ⟨x, 1, none⟩ = some (.slice ao p.after.length cap) ∧ w.cell? ⟨x, 2, none⟩ = some (.bool p.buffer) ∧ w.cell? ⟨x, 3, none⟩ = some (.slice so p.shown.length scap) ∧ w.cell? ⟨x, 4, none⟩ = some (.int .i64 p.alert) ∧ w.cell? ⟨x, 5, none⟩ = some (.int .u8 p.shift) ∧ x < w.heap.size :=
  ⟨by simpa [Pln.cells] using h.bx.cell 0, by simpa [Pln.cells] using h.bx.cell 1, by simpa [Pln.cells] using h.bx.cell 2, by simpa [Pln.cells] using h.bx.cell 3, by simpa [Pln.cells] using h.bx.cell 4, by simpa [Pln.cells] using h.bx.cell 5, h.bx.lt⟩

theorem begun_c (hi : PlnIn w0 p ao cap so scap) (p' : Pln) (ha : p'.after = p.after) (hs : p'.shown = p.shown) (hsh : p'.shift = p.shift) (h : B0 w0 p' ao cap so scap x c w) :
    Calls Tryd.prog 13 #[.agg #[.int .i64 p'.cursor, .slice ao p'.after.length cap, .bool p'.buffer, .slice so p'.shown.length scap, .int .i64 p'.alert, .int .u8 p'.shift]] w fun e w' => ∃ c', Hid (B0 w0 p' ao cap so scap x c' w') ∧
      ((e = .returned (.tuple #[.pointer none, .pointer none, .slice none 0 0, .bool false])) ∨
       ∃ q b g bv la left al s lo lcap, e = .returned (.tuple #[.pointer (some ⟨q, 0, none⟩), .pointer (some ⟨b, 0, none⟩), .slice lo left.length lcap, .bool true]) ∧ Hid (BegM c' w' p' q b g bv la left al s lo lcap)) := by
  have hg : (fun _ : Nat => 0) 1 = 0 := rfl
  have hg2 : 1 < w0.heap.size := World.block_lt_of_cell? w0 _ (hi.tb 0 (by decide))
  refine (begun_any p' ao cap so scap (by rw [ha]; exact hi.la.stp h.st (by decide)) (by rw [hs]; exact hi.ls.stp h.st (by decide)) (by rw [hs]; exact hi.ok) (by rw [hsh]; exact hi.sh) (hi.tb.stp h.st (by decide)) (by rw [h.st.col _ hg2])).mono ?_
  rintro e w' ⟨c', t, h'⟩
  refine ⟨c', Lib.hid (h.stp t fun _ h => h), ?_⟩
  rcases h' with h' | ⟨q, b, g, bv, la, left, al, s, lo, lcap, h1, h2⟩
  · exact .inl h'
  · exact .inr ⟨q, b, g, bv, la, left, al, s, lo, lcap, h1, Lib.hid h2⟩

theorem awake12_c (h : B0 w0 p ao cap so scap x c w) : Calls Tryd.prog 14 #[] w fun e w' => e = .returned (.bool true) ∧ ∃ c', Hid (B0 w0 p ao cap so scap x c' w') ∧ Hid (Stp (12 ≤ ·) c c' w w') := by
  refine (awake12k 12 c w).mono ?_
  rintro e w' ⟨rfl, c', t⟩
  exact ⟨rfl, c', Lib.hid (h.stp t (fun _ h => by omega)), Lib.hid t⟩
end

set_option maxRecDepth 100000 in
theorem barlooks_walk (p : Pln) (ao : Option Addr) (cap : Nat) (so : Option Addr) (scap : Nat) (next : Int) (w : World) (hi : PlnIn w p ao cap so scap) :
    Calls Tryd.prog 5 #[.agg #[.int .i64 p.cursor, .slice ao p.after.length cap, .bool p.buffer, .slice so p.shown.length scap, .int .i64 p.alert, .int .u8 p.shift], .int .i64 next] w fun e w' => e = .returned (.bool true) ∧ Below w.heap.size w w' := by
  obtain ⟨x, hx⟩ : ∃ x, x = w.heap.size := ⟨_, rfl⟩
  obtain ⟨cx, B⟩ : ∃ cx, Hid (B0 w p ao cap so scap x cx (w.alloc (.cells #[.int .i64 p.cursor, .slice ao p.after.length cap, .bool p.buffer, .slice so p.shown.length scap, .int .i64 p.alert, .int .u8 p.shift] 25))) := ⟨_, Lib.hid (by rw [hx]; exact B0.start p ao cap so scap w)⟩
  have Hi := Lib.hid hi
  clear hi
  go_enter Tryd.func5, Tryd.ntmps5
  go_wp2_with fail
  refine (begun_c Hi.out p rfl rfl rfl B.out).mono ?_
  rw [← hx]
  clear hx
  rintro e w1 ⟨c1, B1, h⟩
  rcases h with rfl | ⟨q, b, g, bv, la, left, al, s, lo, lcap, rfl, M⟩
  · go_wp2_with fail
    refine (awake12_c B1.out).mono ?_
    rintro e w2 ⟨rfl, c2, B2, -⟩
    go_wp2
    go_ret
    exact ⟨by simp, B2.out.st.fin⟩
  · by_cases hn : 0 ≤ next ∧ next ≤ 1000
    · have n1 : decide (next < 0) = false := by simp; omega
      have n2 : decide ((1000 : Int) < next) = false := by simp; omega
      have Hn := Lib.hid hn
      obtain ⟨x0, x1, x2, x3, x4, -, xl⟩ := B1.out.cs
      clear hn
      go_wp2_with fail
      refine (r12look_plan M.out.ok (Hi.out.la.stp B1.out.st (by decide)) M.out.le Hn.out).mono ?_
      rintro e w2 ⟨want, rfl, rfl, hw⟩
      have Hw := Lib.hid hw
      clear hw
      go_wp2_with fail
      refine (r12steps_any next p.cursor p.after.length p.buffer want Hn.out (Hw.out.bd M.out.ok Hn.out) M.out.ok.an _).mono ?_
      rintro e w2 ⟨rfl, rfl⟩
      obtain ⟨n, r, he, hsg, hn2, hr⟩ := M.out.be.ends M.out.ok Hn.out.1 Hw.out
      have He := Lib.hid he
      have Hsg := Lib.hid hsg
      have Hn2 := Lib.hid hn2
      clear he hsg hn2
      have OK := Lib.hid (M.out.be.ok M.out.ok)
      rcases hr with ⟨h1, hn1, hr1⟩ | ⟨h1, hn1, hr1⟩
      · have t1 : (p.alert == 1) = true := by simpa using h1
        have t2 : (p.alert != 1) = false := by simpa using h1
        have W1 : wrap64 (next - 1) = next - 1 := IntWalk.wrap64_in _ (by have := Hn.out; constructor <;> omega)
        have E1 := Lib.hid (show r.sign = 1 by rw [Hsg.out]; exact h1)
        subst hn1
        have Hr1 := Lib.hid hr1
        clear hr1 h1
        go_wp2_with fail
        refine (steps_any M.out.ar).mono ?_
        rintro e w2 ⟨rfl, rfl⟩
        go_wp2_with fail
        refine (blook_ok M.out.ar M.out.br OK.out (by have := Hn.out; omega) He.out M.out.s0.1 (by have := M.out.s0; omega)).mono ?_
        rintro e w3 ⟨ev, rfl, c3, t3, a3, h⟩
        rw [Hr1.out]
        rcases h with ⟨-, ⟨ty, tv, rfl⟩, he⟩ | ⟨h, -⟩
        · have B3 := Lib.hid (B1.out.stp t3 (by omega))
          have A3 := Lib.hid a3
          have ER := Lib.hid he
          obtain ⟨-, -, -, -, y4, -, yl⟩ := B3.out.cs
          clear t3 a3 he B1 x0 x1 x2 x3 x4 xl
          go_wp2_with fail
          refine (lawis (.inr ⟨by decide, ER.out⟩) 13).mono ?_
          rintro e w4 ⟨rfl, rfl⟩
          go_wp2_with fail
          refine (awake12_c B3.out).mono ?_
          rintro e w5 ⟨rfl, c5, B5, T5⟩
          have A5 := Lib.hid (A3.out.stp T5.out (by decide))
          clear B3 A3 T5 ER y4 yl
          go_wp2_with fail
          refine (steps_any A5.out).mono ?_
          rintro e w6 ⟨rfl, rfl⟩
          go_wp2
          go_ret
          exact ⟨by simp; omega, B5.out.st.fin⟩
        · exact absurd E1.out h
      · have t1 : (p.alert == 1) = false := by simpa using h1
        have t2 : (p.alert != 1) = true := by simpa using h1
        have E1 := Lib.hid (show r.sign ≠ 1 by rw [Hsg.out]; exact h1)
        have Hr1 := Lib.hid hr1
        have Hn1 := Lib.hid hn1
        clear hr1 h1 hn1
        go_wp2_with fail
        refine (steps_any M.out.ar).mono ?_
        rintro e w2 ⟨rfl, rfl⟩
        go_wp2_with fail
        refine (blook_ok M.out.ar M.out.br OK.out (by have := Hn.out; omega) He.out M.out.s0.1 (by have := M.out.s0; have := Hn2.out; omega)).mono ?_
        rintro e w3 ⟨ev, rfl, c3, t3, a3, h⟩
        rw [Hr1.out]
        rcases h with ⟨h, -⟩ | ⟨-, rfl⟩
        · exact absurd h E1.out
        · have B3 := Lib.hid (B1.out.stp t3 (by omega))
          have A3 := Lib.hid a3
          obtain ⟨-, -, -, -, y4, -, yl⟩ := B3.out.cs
          clear t3 a3 B1 x0 x1 x2 x3 x4 xl
          go_wp2_with fail
          refine (awake12_c B3.out).mono ?_
          rintro e w5 ⟨rfl, c5, B5, T5⟩
          have A5 := Lib.hid (A3.out.stp T5.out (by decide))
          clear B3 A3 T5 y4 yl
          go_wp2_with fail
          refine (steps_any A5.out).mono ?_
          rintro e w6 ⟨rfl, rfl⟩
          rw [← Hn1.out]
          have W1 : wrap64 (s + n - s) = n := by rw [show s + (n : Int) - s = n by omega]; exact IntWalk.wrap64_in _ (by have := Hn2.out; constructor <;> omega)
          go_wp2
          go_ret
          exact ⟨by simp, B5.out.st.fin⟩
    · rcases (show decide (next < 0) = true ∨ (decide (next < 0) = false ∧ decide ((1000 : Int) < next) = true) by simp only [decide_eq_true_eq, decide_eq_false_iff_not]; omega) with u1 | ⟨u1, u2⟩
      all_goals
        clear hn
        go_wp2_with fail
        refine (awake12_c B1.out).mono ?_
        rintro e w2 ⟨rfl, c2, B2, -⟩
        go_wp2
        go_ret
        exact ⟨by simp, B2.out.st.fin⟩
end Go.Proofs.YtoifknfmamcimaaDoor
