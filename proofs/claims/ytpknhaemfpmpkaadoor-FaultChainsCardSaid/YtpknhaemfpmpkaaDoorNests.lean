/- The walk of the law FaultNests. No condition but that errors.errorType holds what the program lays there. -/
import Derived.Test.YtpknhaemfpmpkaaDoorFlt6
namespace Go.Proofs.YtpknhaemfpmpkaaDoor
open Go.RowKit Go.Extern.Stop Go.Stop Go.Extern Go.Deep

theorem unwrap_c (p : Nat) (u : Value) (w : World) (h : w.cell? ⟨p, 2, none⟩ = some u) :
    Calls Tryd.prog 12 #[.pointer (some ⟨p, 0, none⟩)] w fun e w' => e = .returned u ∧ w' = w := by
  go_enter Tryd.func12, Tryd.ntmps12
  go_wp2
  go_ret
  exact ⟨rfl, rfl⟩

theorem atV_cons (x : ByteArray × Int) (L : List (ByteArray × Int)) : atV (x :: L) = if (atV L).2.2 = true then atV L else (x.1, x.2, true) := by
  rcases List.eq_nil_or_concat L with h | ⟨L', y, h⟩
  · subst h; rfl
  · subst h
    rw [List.concat_eq_append, ← List.cons_append, atV_last, atV_last]
    simp

theorem nests_walk (ao : Option Addr) (n cap : Nat) (l : List (ByteArray × Int)) (k : Int) (o : ByteArray) (s : Int) (hk : 0 ≤ k ∧ k ≤ 255) {W : World} (h : In (fun _ => 0) 0 W 2 ao n cap (l.flatMap lk)) (hln : l.length = n) (hg : ET W) :
    Calls Tryd.prog 3 #[.slice ao n cap, .int .u8 k, .string o, .int .i64 s] W fun e W' => e = .returned (.bool true) ∧ Below W.heap.size W W' := by
  have H := Lib.hid h
  have Hn := Lib.hid hln
  have Hg := Lib.hid hg
  have Hk := Lib.hid hk
  clear h hln hg hk
  go_enter Tryd.func3, Tryd.ntmps3
  go_wp2_with fail
  refine (small_c H.out Hn.out).mono ?_
  rintro e w1 ⟨b, rfl, hb, o1⟩
  have Hb := Lib.hid hb
  have O1 := Lib.hid o1
  clear hb o1
  cases b with
  | false =>
    go_wp2_with fail
    refine (awake01 _ (Hg.out.old O1.out)).mono ?_
    rintro e w2 ⟨rfl, o2⟩
    have O2 := Lib.hid (O1.out.trans o2)
    clear o2
    go_wp2
    go_ret
    exact ⟨rfl, O2.out⟩
  | true =>
    by_cases hz : o.size ≤ 100
    · have g1 : decide ((100 : Int) < o.size) = false := by simp; omega
      have hn50 := Lib.hid (Hb.out rfl).1
      have m1 : k.tmod 18 = k % 18 := Int.tmod_eq_emod_of_nonneg Hk.out.1
      have m2 : IntKind.u8.wrap (k % 18) = k % 18 := by have := Hk.out; simp [IntKind.wrap, IntKind.bits, IntKind.signed]; omega
      go_wp2_with fail
      refine (chain_c (H.out.old O1.out) Hn.out hn50.out _).mono ?_
      rintro e w2 ⟨v, rfl, hv, o2⟩
      have O2 := Lib.hid (O1.out.trans o2)
      have V2 := Lib.hid hv
      obtain ⟨vt, vu, e⟩ := hv.iface
      subst e
      generalize k % 18 + 1 = q at *
      clear hv o2
      go_wp2_with fail
      refine (wrap_c o s vt vu _).mono ?_
      rintro e w3 ⟨rfl, rfl⟩
      go_wp2_with fail
      refine (as_fault ⟨w2.heap.size, 0, none⟩ ⟨w2.heap.size + 1, 0, none⟩ (.pointer none) _ (((Hg.out.old O2.out).alloc _).alloc _) (by simp) (by simp)).mono ?_
      rintro e w4 ⟨rfl, X, hX, rfl⟩
      have hb1 : X.heap[w2.heap.size]? = some (.cells #[.string o, .int .i64 s, .iface vt vu] 33) := hX.blk (((Old.refl _).alloc _).blk (heap_alloc_new w2 _))
      have hb2 : X.heap[w2.heap.size + 1]? = some (.cells #[.pointer none] 29) := hX.blk (by have := heap_alloc_new (w2.alloc (.cells #[.string o, .int .i64 s, .iface vt vu] 33)) (.cells #[.pointer none] 29); simpa using this)
      have hx : Old w2 (X.setCell ⟨w2.heap.size + 1, 0, none⟩ (.pointer (some ⟨w2.heap.size, 0, none⟩))) := ((((Old.refl w2).alloc (.cells #[.string o, .int .i64 s, .iface vt vu] 33)).alloc (.cells #[.pointer none] 29)).trans hX).set (p := ⟨w2.heap.size + 1, 0, none⟩) (by simp) _
      have hcell : (X.setCell ⟨w2.heap.size + 1, 0, none⟩ (.pointer (some ⟨w2.heap.size, 0, none⟩))).cell? ⟨w2.heap.size + 1, 0, none⟩ = some (.pointer (some ⟨w2.heap.size, 0, none⟩)) :=
        cell_set (v := .pointer none) (cs := [.pointer none]) hb2 rfl
      have hblk : (X.setCell ⟨w2.heap.size + 1, 0, none⟩ (.pointer (some ⟨w2.heap.size, 0, none⟩))).heap[w2.heap.size]? = some (.cells #[.string o, .int .i64 s, .iface vt vu] 33) := by
        rw [Below.heap_setCell _ _ _ _ (by simp)]; exact hb1
      generalize (X.setCell ⟨w2.heap.size + 1, 0, none⟩ (.pointer (some ⟨w2.heap.size, 0, none⟩))) = w4 at hx hcell hblk ⊢
      have O4 := Lib.hid (O2.out.trans hx)
      have V4 := Lib.hid (V2.out.old hx)
      have B4 := Lib.hid hblk
      have C4 := Lib.hid hcell
      have F4 := Lib.hid (show Ch w4 ((o, s) :: l) q (.iface 29 (.pointer (some ⟨w2.heap.size, 0, none⟩))) from ⟨_, _, rfl, hblk, V2.out.old hx⟩)
      have k0 : w4.cell? ⟨w2.heap.size, 0, none⟩ = some (.string o) := by simp only [World.cell?, hblk]; rfl
      have k1 : w4.cell? ⟨w2.heap.size, 1, none⟩ = some (.int .i64 s) := by simp only [World.cell?, hblk]; rfl
      have k2 : w4.cell? ⟨w2.heap.size, 2, none⟩ = some (.iface vt vu) := by simp only [World.cell?, hblk]; rfl
      clear hX hb1 hb2 hx hblk
      generalize w2.heap.size = p at *
      go_wp2_with fail
      refine (unwrap_c p _ _ k2).mono ?_
      rintro e w5 ⟨rfl, rfl⟩
      clear k0 k1 k2 hcell
      have hA : atV ((o, s) :: l) = if (atV l).2.2 = true then atV l else (o, s, true) := atV_cons _ _
      obtain ⟨⟨o1, s1, b1⟩, hz1⟩ : ∃ z, z = atV l := ⟨_, rfl⟩
      rw [← hz1] at hA
      simp only at hA
      go_wp2_with fail
      refine (at_c l q (.iface vt vu) _ V4.out (Hg.out.old O4.out)).mono ?_
      rintro e w6 ⟨rfl, o6⟩
      have O6 := Lib.hid o6
      rw [← hz1]
      clear o6
      go_wp2_with fail
      refine (at_c l q (.iface vt vu) _ (V4.out.old O6.out) ((Hg.out.old O4.out).old O6.out)).mono ?_
      rintro e w7 ⟨rfl, o7⟩
      have O7 := Lib.hid (O6.out.trans o7)
      rw [← hz1]
      clear o7 O6
      go_wp2_with fail
      refine (at_c ((o, s) :: l) q _ _ (F4.out.old O7.out) ((Hg.out.old O4.out).old O7.out)).mono ?_
      rintro e w8 ⟨rfl, o8⟩
      have O8 := Lib.hid (O7.out.trans o8)
      clear o8 O7
      rw [hA]
      clear hA hz1
      have hl1 : l.length + 1 < 1000 := by have := hn50.out; have := Hn.out; omega
      have wl : wrap64 ((l.length : Int) + 1) = (l.length : Int) + 1 := IntWalk.wrap64_in _ ⟨by omega, by omega⟩
      have hc2 : ∀ (W' : World), Old w5 W' → W'.cell? ⟨p + 1, 0, none⟩ = some (.pointer (some ⟨p, 0, none⟩)) := fun W' h => (World.cell?_of_block (w := w5) (h.block _ (cell_block C4.out))).trans C4.out
      have hk2 : ∀ (W' : World), Old w5 W' → W'.cell? ⟨p, 2, none⟩ = some (.iface vt vu) := fun W' h => by have := h.blk B4.out; simp only [World.cell?, this]; rfl
      have Hc2 := Lib.hid hc2
      have Hk2 := Lib.hid hk2
      have HL := Lib.hid hl1
      clear hc2 hk2 hl1
      cases b1 with
      | true =>
        simp only [if_pos]
        go_wp2_with fail
        refine (awake01 _ ((Hg.out.old O4.out).old O8.out)).mono ?_
        rintro e w9 ⟨rfl, o9⟩
        have O9 := Lib.hid (O8.out.trans o9)
        clear o9
        go_wp2_with fail
        refine (code_c _ q _ _ (F4.out.old O9.out) ((Hg.out.old O4.out).old O9.out)).mono ?_
        rintro e w10 ⟨rfl, o10⟩
        have O10 := Lib.hid (O9.out.trans o10)
        clear o10 O9
        go_wp2_with fail
        refine (code_c l q (.iface vt vu) _ (V4.out.old O10.out) ((Hg.out.old O4.out).old O10.out)).mono ?_
        rintro e w11 ⟨rfl, o11⟩
        have O11 := Lib.hid (O10.out.trans o11)
        clear o11 O10
        go_wp2_with fail
        refine (deep_c _ q _ _ (F4.out.old O11.out) ((Hg.out.old O4.out).old O11.out) (by simpa using HL.out)).mono ?_
        rintro e w12 ⟨rfl, o12⟩
        have O12 := Lib.hid (O11.out.trans o12)
        clear o12 O11
        go_wp2_with fail
        refine (deep_c l q (.iface vt vu) _ (V4.out.old O12.out) ((Hg.out.old O4.out).old O12.out) (by have := HL.out; omega)).mono ?_
        rintro e w13 ⟨rfl, o13⟩
        have O13 := Lib.hid (O12.out.trans o13)
        clear o13 O12
        have x13 := Hc2.out _ O13.out
        go_wp2_with fail
        refine (unwrap_c p _ _ (Hk2.out _ O13.out)).mono ?_
        rintro e w14 ⟨rfl, rfl⟩
        clear x13
        go_wp2_with fail
        refine (deep_c l q (.iface vt vu) _ (V4.out.old O13.out) ((Hg.out.old O4.out).old O13.out) (by have := HL.out; omega)).mono ?_
        rintro e w15 ⟨rfl, o15⟩
        have O15 := Lib.hid (O13.out.trans o15)
        clear o15 O13
        go_wp2_with fail
        refine (deep_c l q (.iface vt vu) _ (V4.out.old O15.out) ((Hg.out.old O4.out).old O15.out) (by have := HL.out; omega)).mono ?_
        rintro e w16 ⟨rfl, o16⟩
        have O16 := Lib.hid (O15.out.trans o16)
        clear o16 O15
        go_wp2
        go_ret
        exact ⟨rfl, O4.out.trans O16.out⟩
      | false =>
        simp only [Bool.false_eq_true, if_false]
        go_wp2_with fail
        refine (awake01 _ ((Hg.out.old O4.out).old O8.out)).mono ?_
        rintro e w9 ⟨rfl, o9⟩
        have O9 := Lib.hid (O8.out.trans o9)
        clear o9
        go_wp2_with fail
        refine (code_c _ q _ _ (F4.out.old O9.out) ((Hg.out.old O4.out).old O9.out)).mono ?_
        rintro e w10 ⟨rfl, o10⟩
        have O10 := Lib.hid (O9.out.trans o10)
        clear o10 O9
        go_wp2_with fail
        refine (code_c l q (.iface vt vu) _ (V4.out.old O10.out) ((Hg.out.old O4.out).old O10.out)).mono ?_
        rintro e w11 ⟨rfl, o11⟩
        have O11 := Lib.hid (O10.out.trans o11)
        clear o11 O10
        go_wp2_with fail
        refine (deep_c _ q _ _ (F4.out.old O11.out) ((Hg.out.old O4.out).old O11.out) (by simpa using HL.out)).mono ?_
        rintro e w12 ⟨rfl, o12⟩
        have O12 := Lib.hid (O11.out.trans o12)
        clear o12 O11
        go_wp2_with fail
        refine (deep_c l q (.iface vt vu) _ (V4.out.old O12.out) ((Hg.out.old O4.out).old O12.out) (by have := HL.out; omega)).mono ?_
        rintro e w13 ⟨rfl, o13⟩
        have O13 := Lib.hid (O12.out.trans o13)
        clear o13 O12
        have x13 := Hc2.out _ O13.out
        go_wp2_with fail
        refine (unwrap_c p _ _ (Hk2.out _ O13.out)).mono ?_
        rintro e w14 ⟨rfl, rfl⟩
        clear x13
        go_wp2_with fail
        refine (deep_c l q (.iface vt vu) _ (V4.out.old O13.out) ((Hg.out.old O4.out).old O13.out) (by have := HL.out; omega)).mono ?_
        rintro e w15 ⟨rfl, o15⟩
        have O15 := Lib.hid (O13.out.trans o15)
        clear o15 O13
        go_wp2_with fail
        refine (deep_c l q (.iface vt vu) _ (V4.out.old O15.out) ((Hg.out.old O4.out).old O15.out) (by have := HL.out; omega)).mono ?_
        rintro e w16 ⟨rfl, o16⟩
        have O16 := Lib.hid (O15.out.trans o16)
        clear o16 O15
        go_wp2
        go_ret
        exact ⟨rfl, O4.out.trans O16.out⟩
    · have g1 : decide ((100 : Int) < o.size) = true := by simp; omega
      go_wp2_with fail
      refine (awake01 _ (Hg.out.old O1.out)).mono ?_
      rintro e w2 ⟨rfl, o2⟩
      have O2 := Lib.hid (O1.out.trans o2)
      clear o2
      go_wp2
      go_ret
      exact ⟨rfl, O2.out⟩
end Go.Proofs.YtpknhaemfpmpkaaDoor
