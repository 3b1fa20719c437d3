/- The walk of the law CellsPlays. No condition. -/
import Derived.Test.YtmhhhiegioniaaaCells7
import Derived.Test.YtmhhhiegioniaaaSwaps
import Derived.Test.YtmhhhiegioniaaaMem6
namespace Go.Proofs.Ytmhhhiegioniaaa
open Go.RowKit Go.ChangeShapes Go.WideShapes Go.Deep Go.Joins

structure Op3 where
  kd : Int
  ix : Int
  old : Int
  v : Int
def Op3.cells (x : Op3) : List Value := [.int .i64 x.kd, .int .i64 x.ix, .int .i64 x.old, .int .i64 x.v]
theorem Op3.len (x : Op3) : x.cells.length = 4 := rfl

def PlRel (w0 : World) (a m : Nat) (n : Nat) (i : Value) (wr : World) : Prop :=
  ∃ (c : Nat → Nat) (l : List Int) (s : Int) (j : Nat), i = .int .i64 j ∧ j ≤ n ∧ Stp (2 ≤ ·) (fun _ => 0) c w0 wr ∧ Both c wr a m l s ∧ l.length ≤ j ∧ s ≤ j

structure PL2 (w0 : World) (a q m : Nat) (sm : Int) (l : List Int) (ao : Option Addr) (cap : Nat) (c : Nat → Nat) (wr : World) (lc : List Int) (s s2 : Int) : Prop where
  st : Stp (2 ≤ ·) (fun _ => 0) c w0 wr
  ar : ArenaAt c 2 wr a l s
  row : Row c 3 wr 2 1 ao l.length cap (l.map (Value.int .i64))
  mb : Blk c 3 wr m [.slice ao l.length cap, .int .i64 sm] 64
  cl : ArenaAt c 5 wr q lc s2
  len : lc.length = l.length
  s0 : 0 ≤ s
  s20 : 0 ≤ s2

theorem PL2.cell {w0 : World} {a q m : Nat} {sm : Int} {l : List Int} {ao : Option Addr} {cap : Nat} {c : Nat → Nat} {wr : World} {lc : List Int} {s s2 : Int} (h : PL2 w0 a q m sm l ao cap c wr lc s s2) {t : Nat} (ht : t < l.length) :
    ∃ g off, ao = some ⟨g, off, none⟩ ∧ wr.cell? ⟨g, off + t, none⟩ = some (.int .i64 (l.getD t 0)) := by
  obtain ⟨b, rfl, hs, hc, -, ha, -⟩ := h.row.cell (j := t) (v := .int .i64 (l.getD t 0)) (by simp [List.getD, ht])
  obtain ⟨g, off, sp⟩ := b
  simp only at hs
  subst hs
  rw [ha] at hc
  exact ⟨g, off, rfl, hc⟩

def CloneRel (w0 : World) (a q m : Nat) (l : List Int) (ao : Option Addr) (cap : Nat) (s : Int) (i : Value) (wr : World) : Prop :=
  ∃ (c : Nat → Nat) (lc : List Int) (s2 : Int) (t : Nat), i = .int .i64 t ∧ t ≤ l.length ∧ PL2 w0 a q m s l ao cap c wr lc s s2 ∧ (∀ i, t ≤ i → lc.getD i 0 = l.getD i 0) ∧ s2 ≤ s + 2 * t

def LastRel (w0 : World) (a q m : Nat) (l lc : List Int) (ao : Option Addr) (cap : Nat) (s s2 : Int) (i : Value) (wr : World) : Prop :=
  ∃ (c : Nat → Nat) (t : Nat) (s' : Int), i = .int .i64 t ∧ t ≤ l.length ∧ PL2 w0 a q m s l ao cap c wr lc s' s2 ∧ s' ≤ s + t

set_option maxRecDepth 100000 in
set_option maxHeartbeats 4000000 in
theorem cplays_in {w : World} (ao : Option Addr) (n cap : Nat) (ops : List Op3) (hl : In (fun _ => 0) 0 w 4 ao n cap (ops.flatMap Op3.cells)) (hlen : ops.length = n) (hok : ∀ x ∈ ops, I64 x.v) (hn : n ≤ 100) :
    Calls Try.prog 6 #[.slice ao n cap] w fun e w' => e = .returned (.bool true) ∧ Below w.heap.size w w' := by
  have Hl := Lib.hid hl
  have Hok := Lib.hid hok
  have Hlen := Lib.hid hlen
  have g1 : decide ((100 : Int) < (n : Int)) = false := by simp; omega
  clear hl hok hlen
  go_enter Try.func6, Try.ntmps6
  go_wp2_with fail
  refine (new_any (fun _ => 0) 2 _).mono ?_
  rintro e w1 ⟨rfl, c1, s1, h1⟩
  obtain ⟨c2, hc2, A2⟩ := ((Stp.refl (· = 3) c1 w1).alloc (.cells #[.slice none 0 0, .int .i64 0] 64) 3).name
  have S2 := Lib.hid ((s1.up (by decide)).trans (A2.out.up (by decide)))
  have B2 := Lib.hid (show Both c2 _ w.heap.size w1.heap.size [] 0 from ⟨h1.stp A2.out (by decide), ⟨none, 0, by rw [hc2.out]; exact Blk.new c1 3 w1 _ _, Row.nil _ _ _ _ _⟩, by simp, Int.le_refl _⟩)
  clear s1 h1 hc2 A2
  go_wp2_with fail
  go_loopw [28] (fun i wr => PlRel w w.heap.size w1.heap.size n i wr) (fun i _ => n - (intOf i).toNat)
  case atStart => exact ⟨c2, [], 0, 0, rfl, Nat.zero_le _, S2.out, B2.out, Nat.le_refl _, by simp⟩
  case round =>
    obtain ⟨c, l, s, j, rfl, hj, st, hb, hll, hsj⟩ := hrel
    have S := Lib.hid st
    have B := Lib.hid hb
    clear st hb S2 B2
    by_cases hlt : j < n
    · have hil : j < ops.length := by rw [Hlen.out]; exact hlt
      obtain ⟨x, hx⟩ : ∃ x, ops[j]? = some x := ⟨_, List.getElem?_eq_getElem hil⟩
      have hInr := Hl.out.stp S.out (by decide)
      obtain ⟨a, ha, y0⟩ := hInr.field Op3.len hx (f := 0) (v := .int .i64 x.kd) rfl
      obtain ⟨a1, ha1, y1⟩ := hInr.field Op3.len hx (f := 1) (v := .int .i64 x.ix) rfl
      obtain ⟨a2, ha2, y2⟩ := hInr.field Op3.len hx (f := 2) (v := .int .i64 x.old) rfl
      obtain ⟨a3, ha3, y3⟩ := hInr.field Op3.len hx (f := 3) (v := .int .i64 x.v) rfl
      subst ha
      cases ha1
      cases ha2
      cases ha3
      have y1' : wr.cell? ⟨(a.add (j * 4)).block, (a.add (j * 4)).off + 1, none⟩ = some (.int .i64 x.ix) := by rw [← add_add'] at y1; exact y1
      have y2' : wr.cell? ⟨(a.add (j * 4)).block, (a.add (j * 4)).off + 2, none⟩ = some (.int .i64 x.old) := by rw [← add_add'] at y2; exact y2
      have y3' : wr.cell? ⟨(a.add (j * 4)).block, (a.add (j * 4)).off + 3, none⟩ = some (.int .i64 x.v) := by rw [← add_add'] at y3; exact y3
      rw [Nat.add_zero] at y0
      have Hxv := Lib.hid (Hok.out x (List.mem_of_getElem? hx))
      clear hInr hx y1 y2 y3 hil
      obtain ⟨c5, -, A5⟩ := ((Stp.refl (fun _ => False) c wr).alloc (.cells #[.int .i64 x.kd, .int .i64 x.ix, .int .i64 x.old, .int .i64 x.v] 66) 0).name
      have B5 := Lib.hid (B.out.stp A5.out id id)
      have S5 := Lib.hid (S.out.trans (A5.out.mono (fun _ h => h.elim)))
      have e1 : s < 1000 := by omega
      have e2 : (l.length : Int) ≤ 1000 := by omega
      have E1 := Lib.hid e1
      have E2 := Lib.hid e2
      clear A5 e1 e2
      go_wp2_with fail
      refine wp_region_any (by kernel_rfl) ?_
      change wpAny _ _ _ _ _ _ _ (World.drew _)
      refine wpAny_take (i := 0) (v := ?_) rfl (by kernel_rfl) (by kernel_rfl) (by kernel_rfl) (fun _ _ _ h => h) (Or.inl ⟨by rfl, ?_⟩) ?_
      rotate_left
      · intro w; go_simp; try with_reducible rfl
      refine wpAny_take (i := 1) (v := ?_) rfl (by kernel_rfl) (by kernel_rfl) (by kernel_rfl) (fun _ _ _ h => h) (Or.inl ⟨by rfl, ?_⟩) ?_
      rotate_left
      · intro w; go_simp; try with_reducible rfl
      refine wpAny_ready (rs := [2]) (by kernel_rfl) (by simp) ?_
      refine AllReady.cons rfl (fun K hK => ?_) (by exact AllReady.nil)
      go_simp
      refine hK _ _ ?_
      clear hK K
      refine wpAny_ready (rs := [3]) (by kernel_rfl) (by simp) ?_
      refine AllReady.cons rfl (fun K hK => ?_) (by exact AllReady.nil)
      go_simp
      refine (play_any (B5.out.stp ((Stp.refl (fun _ => False) c5 _).drew) id id) x.kd x.ix x.old x.v Hxv.out E1.out E2.out).mono ?_
      rintro e w6 ⟨rfl, c6, l6, s6, st6, b6, hl6, hs6⟩
      refine hK _ _ ?_
      clear hK K
      have B6 := Lib.hid b6
      have S6 := Lib.hid ((S5.out.drew).trans st6)
      obtain ⟨ao6, cap6, hb6, hr6⟩ := B6.out.rf
      have k0 := hb6.cell 0
      have k1 := hb6.cell 1
      simp at k0 k1
      clear hb6 hr6 b6 st6
      refine wpAny_quiet_rest4 rfl (by kernel_rfl) (by kernel_rfl) ?_
      repeat (quiet_step ((first
        | (go_at_call 44; exact (len_any (B6.out.ar.stp ((Stp.refl (fun _ => False) _ _).drewN _) id)).mono fun _ _ ⟨he, hw⟩ => ⟨he, _, hw.symm⟩)
        | (go_at_call 45; exact (steps_any (B6.out.ar.stp ((Stp.refl (fun _ => False) _ _).drewN _) id)).mono fun _ _ ⟨he, hw⟩ => ⟨he, _, hw.symm⟩))))
      refine wpQuiet_nil ?_
      intro _ hw'
      obtain ⟨nq, hw''⟩ := hw'
      subst hw''
      go_wp2
      go_roundw
      case rel => exact ⟨c6, l6, s6, j + 1, by go_num, by omega, S6.out.drewN nq, B6.out.stp ((Stp.refl (fun _ => False) _ _).drewN nq) id id, by omega, by omega⟩
      case measure => simp [intOf]; omega
    · have hl2 : (l.length : Int) ≤ 1000000 := by omega
      have Hl2 := Lib.hid hl2
      obtain ⟨ao2, cap2, hb, hr⟩ := B.out.rf
      have Hr := Lib.hid hr
      have Hb := Lib.hid hb
      clear hb hr
      go_wp2_with fail
      refine (clone_ok B.out.ar 5 Hl2.out).mono ?_
      rintro e w5 ⟨q, rfl, c5, s5, a5⟩
      have S5 := Lib.hid (S.out.trans (s5.mono (fun _ h => h.elim)))
      have A5 := Lib.hid a5
      have Ar5 := Lib.hid (B.out.ar.stp s5 id)
      have R5 := Lib.hid (Hr.out.stp s5 id)
      have k0 := (Hb.out.stp s5 id).cell 0
      simp at k0
      have Hs0 := Lib.hid B.out.s0
      have P5 := Lib.hid (show PL2 w w.heap.size q w1.heap.size s l ao2 cap2 c5 w5 l s s from ⟨S5.out, Ar5.out, R5.out, Hb.out.stp s5 id, A5.out, rfl, Hs0.out, Hs0.out⟩)
      have Hs1 := Lib.hid (show s ≤ 100 by omega)
      have Hl3 := Lib.hid (show (l.length : Int) ≤ 100 by omega)
      clear s5 a5 Hb Hr B S5 A5 Ar5 R5 Hs0 hll hsj hj hl2
      go_wp2_with fail
      clear k0
      go_loopw [66] (fun i wr => CloneRel w w.heap.size q w1.heap.size l ao2 cap2 s i wr) (fun i _ => l.length - (intOf i).toNat)
      case atStart => exact ⟨c5, l, s, 0, rfl, Nat.zero_le _, P5.out, fun _ _ => rfl, by omega⟩
      case round =>
        obtain ⟨c7, lc, s2, t, rfl, ht, hp, heq, hs2⟩ := hrel
        have P := Lib.hid hp
        have He := Lib.hid heq
        clear hp heq P5
        by_cases hlt2 : t < l.length
        · obtain ⟨g, off, rfl, y0⟩ := P.out.cell hlt2
          have hq : lc.getD t 0 = l.getD t 0 := He.out t (Nat.le_refl _)
          have Hq := Lib.hid hq
          obtain ⟨x, hx⟩ : ∃ x, x = l.getD t 0 := ⟨_, rfl⟩
          rw [← hx] at y0 hq
          have Hlt := Lib.hid (show t < lc.length by rw [P.out.len]; exact hlt2)
          have Hs2 := Lib.hid hs2
          have Hb2 := Lib.hid (show s2 < 1000 by have := Hs1.out; have := Hl3.out; omega)
          have Hx := Lib.hid hx
          have HqX := Lib.hid hq
          clear hq hx hs2
          go_wp2_with fail
          refine (load_ok P.out.cl t Hlt.out P.out.s20 (by have := Hb2.out; omega)).mono ?_
          rintro e w8 ⟨rfl, c8, s8, a8⟩
          rw [HqX.out]
          have A8 := Lib.hid a8
          have S8 := Lib.hid s8
          clear a8 s8
          go_wp2_with fail
          refine (store_ok A8.out t 7 Hlt.out (by have := P.out.s20; omega) (by have := Hb2.out; omega)).mono ?_
          rintro e w9 ⟨rfl, c9, s9, a9⟩
          have S9 := Lib.hid (S8.out.trans s9)
          have A9 := Lib.hid a9
          have hl3 := Hl3.out
          clear s9 a9 S8 A8
          go_wp2
          go_roundw
          case rel => exact ⟨c9, lc.set t 7, s2 + 1 + 1, t + 1, by go_num, by omega, ⟨P.out.st.trans (S9.out.up (by decide)), P.out.ar.stp S9.out (by decide), P.out.row.stp S9.out (by decide), P.out.mb.stp S9.out (by decide), A9.out, by simpa using P.out.len, P.out.s0, by have := P.out.s20; omega⟩, fun i hi => by
            rw [List.getD_eq_getElem?_getD, List.getElem?_set_ne (by omega), ← List.getD_eq_getElem?_getD]
            exact He.out i (by omega), by have := Hs2.out; omega⟩
          case measure => simp [intOf]; omega
        · have k0 := P.out.mb.cell 0
          simp at k0
          clear hs2
          go_wp2_with fail
          clear He k0
          go_loopw [95] (fun i wr => LastRel w w.heap.size q w1.heap.size l lc ao2 cap2 s s2 i wr) (fun i _ => l.length - (intOf i).toNat)
          case atStart => exact ⟨c7, 0, s, rfl, Nat.zero_le _, P.out, by omega⟩
          case round =>
            obtain ⟨c8, t, s', rfl, ht, hp, hs'⟩ := hrel
            have P8 := Lib.hid hp
            clear hp P
            by_cases hlt3 : t < l.length
            · obtain ⟨g, off, rfl, y0⟩ := P8.out.cell hlt3
              have Hb3 := Lib.hid (show s' < 1000 by have := Hs1.out; have := Hl3.out; omega)
              have Hs' := Lib.hid hs'
              have Hlt := Lib.hid hlt3
              generalize hx : l.getD t 0 = x at y0
              have Hx := Lib.hid hx
              clear hx hs'
              go_wp2_with fail
              refine (load_ok P8.out.ar t Hlt.out P8.out.s0 (by have := Hb3.out; omega)).mono ?_
              rintro e w9 ⟨rfl, c9, s9, a9⟩
              rw [Hx.out]
              have P9 := Lib.hid (show PL2 w w.heap.size q w1.heap.size s l (some ⟨g, off, none⟩) cap2 c9 w9 lc (s' + 1) s2 from ⟨P8.out.st.trans (s9.up (by decide)), a9, P8.out.row.stp s9 (by decide), P8.out.mb.stp s9 (by decide), P8.out.cl.stp s9 (by decide), P8.out.len, by have := P8.out.s0; omega, P8.out.s20⟩)
              have hl3 := Hl3.out
              clear s9 a9
              go_wp2
              go_roundw
              case rel => exact ⟨c9, t + 1, s' + 1, by go_num, by omega, P9.out, by have := Hs'.out; omega⟩
              case measure => simp [intOf]; omega
            · go_wp2_with fail
              refine (awake3 c8 6 _).mono ?_
              rintro e w9 ⟨rfl, c9, s9⟩
              have S9 := Lib.hid (P8.out.st.trans (s9.up (by decide)))
              clear s9
              go_wp2
              go_ret
              exact ⟨rfl, S9.out.fin⟩

set_option maxRecDepth 100000 in
theorem cplays_out {w : World} (ao : Option Addr) (n cap : Nat) (hn : 100 < n) :
    Calls Try.prog 6 #[.slice ao n cap] w fun e w' => e = .returned (.bool true) ∧ Below w.heap.size w w' := by
  have g1 : decide ((100 : Int) < (n : Int)) = true := by simp; omega
  go_enter Try.func6, Try.ntmps6
  go_wp2_with fail
  refine (awake3 (fun _ => 0) 2 _).mono ?_
  rintro e w2 ⟨rfl, c2, s2⟩
  have S2 := Lib.hid (s2.up (by decide))
  clear s2
  go_wp2
  go_ret
  exact ⟨rfl, S2.out.fin⟩

theorem bnd_i64 {x : Int} (h : (Lit.int .i64 x).wf = true) : I64 x := by
  have := bounds_i64 h
  exact this

theorem dec_op3 {H : Type} {enc : TypeId × Value → H} {w : World} {base : Nat} {spare : Nat → Bool} {held : Bool} (n : Nat) (cs : List Value) (y : DataW H × List MemPlace) (h : DataW.trod enc Try.prog w base spare held n 66 cs = some y) : ∃ x : Op3, cs = x.cells ∧ I64 x.v := by
  obtain ⟨hl, n', hf⟩ := dec_fields Try.underlying66 (by kernel_rfl) (by kernel_rfl) h
  obtain ⟨v0, z0, c0, t0⟩ := hf 0 _ rfl
  obtain ⟨v1, z1, c1, t1⟩ := hf 1 _ rfl
  obtain ⟨v2, z2, c2, t2⟩ := hf 2 _ rfl
  obtain ⟨v3, z3, c3, t3⟩ := hf 3 _ rfl
  obtain ⟨x0, e0, _, _⟩ := DataW.trod_int Try.underlying3 t0
  obtain ⟨x1, e1, _, _⟩ := DataW.trod_int Try.underlying3 t1
  obtain ⟨x2, e2, _, _⟩ := DataW.trod_int Try.underlying2 t2
  obtain ⟨x3, e3, _, w3⟩ := DataW.trod_int Try.underlying2 t3
  match cs, hl with
  | [a, b, d, f], _ =>
    simp at c0 c1 c2 c3 e0 e1 e2 e3
    subst c0 c1 c2 c3 e0 e1 e2 e3
    exact ⟨⟨x0, x1, x2, x3⟩, rfl, bnd_i64 w3⟩

theorem cplays_walk {w : World} (ao : Option Addr) (n cap : Nat) (ops : List Op3) (hl : In (fun _ => 0) 0 w 4 ao n cap (ops.flatMap Op3.cells)) (hlen : ops.length = n) (hok : ∀ x ∈ ops, I64 x.v) :
    Calls Try.prog 6 #[.slice ao n cap] w fun e w' => e = .returned (.bool true) ∧ Below w.heap.size w w' := by
  by_cases h : n ≤ 100
  · exact cplays_in ao n cap ops hl hlen hok h
  · exact cplays_out ao n cap (by omega)
end Go.Proofs.Ytmhhhiegioniaaa
