/- The walk of the law FaultChains. No condition but that the listed variables hold what the program lays there. -/
import Derived.Test.YtpknhaemfpmpkaaDoorFltF
import Derived.Test.YtpknhaemfpmpkaaDoorNests
namespace Go.Proofs.YtpknhaemfpmpkaaDoor
open Go.RowKit Go.Extern.Stop Go.Stop Go.Extern Go.Deep Go.Great

theorem atV_get {l : List (ByteArray × Int)} (h : l ≠ []) : ∃ z, l[l.length - 1]? = some z ∧ atV l = (z.1, z.2, true) := by
  rcases List.eq_nil_or_concat l with h2 | ⟨L', y, h2⟩
  · exact absurd h2 h
  · subst h2
    rw [List.concat_eq_append]
    exact ⟨y, by simp, atV_last L' y⟩

set_option maxRecDepth 100000 in
set_option maxHeartbeats 4000000 in
theorem chains_walk (ao : Option Addr) (n cap : Nat) (l : List (ByteArray × Int)) (k : Int) (hk : 0 ≤ k ∧ k ≤ 255) {W : World} (h : In (fun _ => 0) 0 W 2 ao n cap (l.flatMap lk)) (hln : l.length = n) (hr : ∀ x ∈ l, -9223372036854775808 ≤ x.2 ∧ x.2 ≤ 9223372036854775807) (hg : ET W) (hp : PT W) :
    Calls Tryd.prog 4 #[.slice ao n cap, .int .u8 k] W fun e W' => e = .returned (.bool true) ∧ Below W.heap.size W W' := by
  have H := Lib.hid h
  have Hn := Lib.hid hln
  have Hg := Lib.hid hg
  have Hp := Lib.hid hp
  have Hk := Lib.hid hk
  have Hr := Lib.hid hr
  clear h hln hg hk hr hp
  go_enter Tryd.func4, Tryd.ntmps4
  go_wp2_with fail
  refine (small_c H.out Hn.out).mono ?_
  rintro e w1 ⟨b, rfl, hb, o1⟩
  have Hb := Lib.hid hb
  have O1 := Lib.hid o1
  clear hb o1
  cases b with
  | false =>
    go_wp2_with fail
    refine (awake01 _ (Hg.out.old O1.out)).mono ?_
    rintro e w2 ⟨rfl, o2⟩
    have O2 := Lib.hid (O1.out.trans o2)
    clear o2
    go_wp2
    go_ret
    exact ⟨rfl, O2.out⟩
  | true =>
    have hn50 := Lib.hid (Hb.out rfl).1
    have Hok := Lib.hid (show okL l from fun x hx => ⟨(Hb.out rfl).2 x hx, Hr.out x hx⟩)
    have m1 : k.tmod 18 = k % 18 := Int.tmod_eq_emod_of_nonneg Hk.out.1
    have m2 : IntKind.u8.wrap (k % 18) = k % 18 := by have := Hk.out; simp [IntKind.wrap, IntKind.bits, IntKind.signed]; omega
    go_wp2_with fail
    refine (chain_c (H.out.old O1.out) Hn.out hn50.out _).mono ?_
    rintro e w2 ⟨v, rfl, hv, o2⟩
    have O2 := Lib.hid (O1.out.trans o2)
    have V2 := Lib.hid hv
    obtain ⟨vt, vu, e⟩ := hv.iface
    subst e
    have hq := Lib.hid (show 1 ≤ k % 18 + 1 ∧ k % 18 + 1 < 19 by have := Hk.out; omega)
    generalize k % 18 + 1 = q at *
    have q1 : (q == q + 1) = false := by simp only [beq_eq_false_iff_ne]; omega
    have q0 := Lib.hid (show q ≠ 0 by have := hq.out; omega)
    have q01 := Lib.hid (show q + 1 ≠ 0 by have := hq.out; omega)
    have wq : wrap64 (q + 1) = q + 1 := IntWalk.wrap64_in _ ⟨by have := hq.out; omega, by have := hq.out; omega⟩
    have Hl1 := Lib.hid (show l.length < 1000 by have := hn50.out; have := Hn.out; omega)
    clear hv o2
    go_wp2_with fail
    refine (at_c l q (.iface vt vu) _ V2.out (Hg.out.old O2.out)).mono ?_
    rintro e w3 ⟨rfl, o3⟩
    have O3 := Lib.hid (O2.out.trans o3)
    have V3 := Lib.hid (V2.out.old o3)
    clear o3
    by_cases hn0 : n = 0
    · subst hn0
      have hl0 : l = [] := List.eq_nil_of_length_eq_zero Hn.out
      subst hl0
      rw [show atV [] = (⟨#[]⟩, 0, false) from rfl]
      go_wp2_with fail
      refine (code_c [] q (.iface vt vu) _ V3.out (Hg.out.old O3.out)).mono ?_
      rintro e w4 ⟨rfl, o4⟩
      have O4 := Lib.hid (O3.out.trans o4)
      have V4 := Lib.hid (V3.out.old o4)
      clear o4
      go_wp2_with fail
      refine (deep_c [] q (.iface vt vu) _ V4.out (Hg.out.old O4.out) Hl1.out).mono ?_
      rintro e w5 ⟨rfl, o5⟩
      have O5 := Lib.hid (O4.out.trans o5)
      have V5 := Lib.hid (V4.out.old o5)
      clear o5
      go_wp2_with fail
      refine (lis_c [] q q (.iface vt vu) _ V5.out q0.out).mono ?_
      rintro e w6 ⟨rfl, rfl⟩
      go_wp2_with fail
      refine (lis_c [] q (q + 1) (.iface vt vu) _ V5.out q01.out).mono ?_
      rintro e w7 ⟨rfl, rfl⟩
      go_wp2_with fail
      refine (lis_0 vt vu _).mono ?_
      rintro e w8 ⟨rfl, rfl⟩
      go_wp2_with fail
      refine (awake01 _ (Hg.out.old O5.out)).mono ?_
      rintro e w9 ⟨rfl, o9⟩
      have O9 := Lib.hid (O5.out.trans o9)
      clear o9
      go_wp2
      go_ret
      exact ⟨rfl, O9.out⟩
    · have hne : l ≠ [] := by intro e; subst e; exact hn0 Hn.out.symm
      obtain ⟨z, hz, hat⟩ := atV_get hne
      rw [hat]
      rw [Hn.out] at hz
      have g0 : decide ((0 : Int) < (n : Int)) = true := by simp; omega
      have g1 : ((n : Int) == 0) = false := by simp; omega
      have Hz := Lib.hid hz
      clear hat hz
      go_wp2_with fail
      refine (code_c l q (.iface vt vu) _ V3.out (Hg.out.old O3.out)).mono ?_
      rintro e w4 ⟨rfl, o4⟩
      have O4 := Lib.hid (O3.out.trans o4)
      have V4 := Lib.hid (V3.out.old o4)
      clear o4
      go_wp2_with fail
      refine (deep_c l q (.iface vt vu) _ V4.out (Hg.out.old O4.out) Hl1.out).mono ?_
      rintro e w5 ⟨rfl, o5⟩
      rw [Hn.out]
      have O5 := Lib.hid (O4.out.trans o5)
      have V5 := Lib.hid (V4.out.old o5)
      clear o5
      go_wp2_with fail
      refine (lis_c l q q (.iface vt vu) _ V5.out q0.out).mono ?_
      rintro e w6 ⟨rfl, rfl⟩
      go_wp2_with fail
      refine (lis_c l q (q + 1) (.iface vt vu) _ V5.out q01.out).mono ?_
      rintro e w7 ⟨rfl, rfl⟩
      go_wp2_with fail
      refine (lis_0 vt vu _).mono ?_
      rintro e w8 ⟨rfl, rfl⟩
      obtain ⟨j, rfl⟩ : ∃ j, n = j + 1 := ⟨n - 1, by omega⟩
      have hz := Hz.out
      rw [Nat.add_sub_cancel] at hz
      obtain ⟨a, ha, y0⟩ := (H.out.old O5.out).field lk_len hz (f := 0) (v := .string z.1) rfl
      obtain ⟨a1, ha1, y1⟩ := (H.out.old O5.out).field lk_len hz (f := 1) (v := .int .i64 z.2) rfl
      subst ha
      cases ha1
      have y1' : w8.cell? ⟨(a.add (j * 2)).block, (a.add (j * 2)).off + 1, none⟩ = some (.int .i64 z.2) := by rw [← add_add'] at y1; exact y1
      rw [Nat.add_zero] at y0
      obtain ⟨x, L, hl⟩ : ∃ x L, l = x :: L := by cases l with | nil => exact absurd rfl hne | cons x L => exact ⟨x, L, rfl⟩
      have wj : wrap64 (j : Int) = (j : Int) := IntWalk.wrap64_in _ ⟨by have := hn50.out; omega, by have := hn50.out; omega⟩
      have i1 : (0 : Int) ≤ (j : Int) := by omega
      have i2 : (j : Int) < ((j + 1 : Nat) : Int) := by omega
      have V5' := V5
      obtain ⟨p, u, e, hb, hu⟩ := (show Ch w8 (x :: L) q (.iface vt vu) by rw [← hl]; exact V5.out)
      injection e with e1 e2
      subst e1 e2
      obtain ⟨ut, uv, e⟩ := hu.iface
      subst e
      have hx0 : l[0]? = some x := by rw [hl]; rfl
      obtain ⟨a0, ha0, x0⟩ := (H.out.old O5.out).field lk_len hx0 (f := 0) (v := .string x.1) rfl
      obtain ⟨a1, ha1, x1⟩ := (H.out.old O5.out).field lk_len hx0 (f := 1) (v := .int .i64 x.2) rfl
      cases ha0
      cases ha1
      have eA0 : a.add (0 * 2 + 0) = a := by simp [Addr.add]
      have eA1 : a.add (0 * 2 + 1) = ⟨a.block, a.off + 1, none⟩ := by simp [Addr.add]
      rw [eA0] at x0
      rw [eA1] at x1
      obtain ⟨zo, zs⟩ := z
      obtain ⟨xo, xs⟩ := x
      simp only at y0 y1' x0 x1 hb
      have Hb8 := Lib.hid hb
      have X0 := Lib.hid x0
      have X1 := Lib.hid x1
      have HL := Lib.hid hl
      clear hb hu x0 x1 hl hx0 eA0 eA1 y1 hz hne hn0
      go_wp2_with fail
      refine (as_fault ⟨p, 0, none⟩ ⟨w8.heap.size + 1, 0, none⟩ (.pointer none) _ (((Hg.out.old O5.out).alloc _).alloc _) (by simp) (by simp)).mono ?_
      rintro e w9 ⟨rfl, X, hX, rfl⟩
      obtain ⟨B, hB⟩ : ∃ B, B = w8.heap.size := ⟨_, rfl⟩
      rw [← hB]
      have ox : Old w8 (X.setCell ⟨B + 1, 0, none⟩ (.pointer (some ⟨p, 0, none⟩))) := ((((Old.refl w8).alloc (.cells #[.string zo, .int .i64 zs] 43)).alloc (.cells #[.pointer none] 29)).trans hX).set (p := ⟨B + 1, 0, none⟩) (by simp only; omega) _
      have hb1 : X.heap[B]? = some (.cells #[.string zo, .int .i64 zs] 43) := hX.blk (((Old.refl _).alloc _).blk (by rw [hB]; exact heap_alloc_new w8 _))
      have hb2 : X.heap[B + 1]? = some (.cells #[.pointer none] 29) := hX.blk (by have := heap_alloc_new (w8.alloc (.cells #[.string zo, .int .i64 zs] 43)) (.cells #[.pointer none] 29); rw [hB]; simpa using this)
      have d2 : (X.setCell ⟨B + 1, 0, none⟩ (.pointer (some ⟨p, 0, none⟩))).cell? ⟨B + 1, 0, none⟩ = some (.pointer (some ⟨p, 0, none⟩)) := cell_set (v := .pointer none) (cs := [.pointer none]) hb2 rfl
      have hb3 : (X.setCell ⟨B + 1, 0, none⟩ (.pointer (some ⟨p, 0, none⟩))).heap[B]? = some (.cells #[.string zo, .int .i64 zs] 43) := by rw [Below.heap_setCell _ _ _ _ (by simp)]; exact hb1
      clear hb1 hb2 hX
      generalize (X.setCell ⟨B + 1, 0, none⟩ (.pointer (some ⟨p, 0, none⟩))) = wD at ox d2 hb3 ⊢
      have d0 : wD.cell? ⟨B, 0, none⟩ = some (.string zo) := by simp only [World.cell?, hb3]; rfl
      have d1 : wD.cell? ⟨B, 1, none⟩ = some (.int .i64 zs) := by simp only [World.cell?, hb3]; rfl
      have hbp := ox.blk Hb8.out
      have d3 : wD.cell? ⟨p, 0, none⟩ = some (.string xo) := by simp only [World.cell?, hbp]; rfl
      have d4 : wD.cell? ⟨p, 1, none⟩ = some (.int .i64 xs) := by simp only [World.cell?, hbp]; rfl
      have d5 : wD.cell? ⟨p, 2, none⟩ = some (.iface ut uv) := by simp only [World.cell?, hbp]; rfl
      have d6 : wD.cell? a = some (.string xo) := (World.cell?_of_block (w := w8) (ox.block _ (cell_block X0.out))).trans X0.out
      have d7 : wD.cell? ⟨a.block, a.off + 1, none⟩ = some (.int .i64 xs) := (World.cell?_of_block (w := w8) (ox.block _ (cell_block X1.out))).trans X1.out
      have keep : ∀ w' : World, Old wD w' → (w'.cell? ⟨B, 0, none⟩ = some (.string zo) ∧ w'.cell? ⟨B, 1, none⟩ = some (.int .i64 zs) ∧ w'.cell? ⟨B + 1, 0, none⟩ = some (.pointer (some ⟨p, 0, none⟩)) ∧ w'.cell? ⟨p, 0, none⟩ = some (.string xo) ∧ w'.cell? ⟨p, 1, none⟩ = some (.int .i64 xs) ∧ w'.cell? ⟨p, 2, none⟩ = some (.iface ut uv) ∧ w'.cell? a = some (.string xo) ∧ w'.cell? ⟨a.block, a.off + 1, none⟩ = some (.int .i64 xs)) := fun w' h =>
        ⟨(World.cell?_of_block (w := wD) (h.block _ (cell_block d0))).trans d0, (World.cell?_of_block (w := wD) (h.block _ (cell_block d1))).trans d1, (World.cell?_of_block (w := wD) (h.block _ (cell_block d2))).trans d2, (World.cell?_of_block (w := wD) (h.block _ (cell_block d3))).trans d3, (World.cell?_of_block (w := wD) (h.block _ (cell_block d4))).trans d4, (World.cell?_of_block (w := wD) (h.block _ (cell_block d5))).trans d5, (World.cell?_of_block (w := wD) (h.block _ (cell_block d6))).trans d6, (World.cell?_of_block (w := wD) (h.block _ (cell_block d7))).trans d7⟩
      have OD := Lib.hid (O5.out.trans ox)
      have VD := Lib.hid (V5'.out.old ox)
      have hA : ∀ W' : World, Old wD W' → Calls Tryd.prog 7 #[] W' fun e w' => e = .returned (.bool true) ∧ Hid (Old wD w') ∧ w'.cell? ⟨B, 0, none⟩ = some (.string zo) ∧ w'.cell? ⟨B, 1, none⟩ = some (.int .i64 zs) ∧ w'.cell? ⟨B + 1, 0, none⟩ = some (.pointer (some ⟨p, 0, none⟩)) ∧ w'.cell? ⟨p, 0, none⟩ = some (.string xo) ∧ w'.cell? ⟨p, 1, none⟩ = some (.int .i64 xs) ∧ w'.cell? ⟨p, 2, none⟩ = some (.iface ut uv) ∧ w'.cell? a = some (.string xo) ∧ w'.cell? ⟨a.block, a.off + 1, none⟩ = some (.int .i64 xs) := fun W' hW =>
        (awake01 W' ((Hg.out.old OD.out).old hW)).mono fun _ w' ⟨he, hq⟩ => ⟨he, Lib.hid (hW.trans hq), keep _ (hW.trans hq)⟩
      obtain ⟨o, ho, ho9⟩ := names_fin q.toNat (by have := hq.out; omega)
      have hF : ∀ W' : World, Old wD W' → Calls Tryd.prog 16 #[.pointer (some ⟨p, 0, none⟩)] W' fun e w' => e = .returned (.string (txt o l)) ∧ Hid (Old wD w') ∧ w'.cell? ⟨B, 0, none⟩ = some (.string zo) ∧ w'.cell? ⟨B, 1, none⟩ = some (.int .i64 zs) ∧ w'.cell? ⟨B + 1, 0, none⟩ = some (.pointer (some ⟨p, 0, none⟩)) ∧ w'.cell? ⟨p, 0, none⟩ = some (.string xo) ∧ w'.cell? ⟨p, 1, none⟩ = some (.int .i64 xs) ∧ w'.cell? ⟨p, 2, none⟩ = some (.iface ut uv) ∧ w'.cell? a = some (.string xo) ∧ w'.cell? ⟨a.block, a.off + 1, none⟩ = some (.int .i64 xs) := fun W' hW => by
        have hc : Ch W' ((xo, xs) :: L) q (.iface 29 (.pointer (some ⟨p, 0, none⟩))) := by rw [← HL.out]; exact VD.out.old hW
        have hok2 : okL ((xo, xs) :: L) := by rw [← HL.out]; exact Hok.out
        have hlen : L.length ≤ 100 := by have h1 := hn50.out; have h2 := Hn.out; rw [HL.out] at h2; simp at h2; omega
        have hqq := hq.out
        refine (ferr_c o q ⟨by omega, hqq.2⟩ ho ho9 L (xo, xs) p W' hok2 hlen hc ((Hg.out.old OD.out).old hW) ((Hp.out.old OD.out).old hW)).mono fun _ w' ⟨he, hq⟩ => ⟨?_, Lib.hid (hW.trans hq), keep _ (hW.trans hq)⟩
        rw [HL.out]; exact he
      have hT : ∀ W' : World, Old wD W' → Calls Tryd.prog 17 #[.slice (some a) (j + 1) cap, .int .i64 q] W' fun e w' => e = .returned (.string (txt o l)) ∧ Hid (Old wD w') ∧ w'.cell? ⟨B, 0, none⟩ = some (.string zo) ∧ w'.cell? ⟨B, 1, none⟩ = some (.int .i64 zs) ∧ w'.cell? ⟨B + 1, 0, none⟩ = some (.pointer (some ⟨p, 0, none⟩)) ∧ w'.cell? ⟨p, 0, none⟩ = some (.string xo) ∧ w'.cell? ⟨p, 1, none⟩ = some (.int .i64 xs) ∧ w'.cell? ⟨p, 2, none⟩ = some (.iface ut uv) ∧ w'.cell? a = some (.string xo) ∧ w'.cell? ⟨a.block, a.off + 1, none⟩ = some (.int .i64 xs) := fun W' hW => by
        have hqq := hq.out
        exact (text_c ((H.out.old OD.out).old hW) Hn.out hn50.out Hok.out q ⟨by omega, hqq.2⟩ o ho ho9).mono fun _ w' ⟨he, hq⟩ => ⟨he, Lib.hid (hW.trans hq), keep _ (hW.trans hq)⟩
      have hU : ∀ W' : World, Old wD W' → Calls Tryd.prog 12 #[.pointer (some ⟨p, 0, none⟩)] W' fun e w' => e = .returned (.iface ut uv) ∧ Hid (Old wD w') ∧ w'.cell? ⟨B, 0, none⟩ = some (.string zo) ∧ w'.cell? ⟨B, 1, none⟩ = some (.int .i64 zs) ∧ w'.cell? ⟨B + 1, 0, none⟩ = some (.pointer (some ⟨p, 0, none⟩)) ∧ w'.cell? ⟨p, 0, none⟩ = some (.string xo) ∧ w'.cell? ⟨p, 1, none⟩ = some (.int .i64 xs) ∧ w'.cell? ⟨p, 2, none⟩ = some (.iface ut uv) ∧ w'.cell? a = some (.string xo) ∧ w'.cell? ⟨a.block, a.off + 1, none⟩ = some (.int .i64 xs) := fun W' hW =>
        (unwrap_c p _ W' (keep _ hW).2.2.2.2.2.1).mono fun _ w' ⟨he, hq⟩ => ⟨he, by subst hq; exact Lib.hid hW, by subst hq; exact keep _ hW⟩
      have HA := Lib.hid hA
      have HF := Lib.hid hF
      have HT := Lib.hid hT
      have HU := Lib.hid hU
      have OO := Lib.hid (Old.refl wD)
      clear keep hA hF hT hU hb3 hbp ox ho ho9 hB y0 y1' g0 g1 m1 m2 q1 wq wj
      go_wp2_with fail
      go_region_held3 (fun w' => w'.cell? ⟨B, 0, none⟩ = some (.string zo) ∧ w'.cell? ⟨B, 1, none⟩ = some (.int .i64 zs) ∧ w'.cell? ⟨B + 1, 0, none⟩ = some (.pointer (some ⟨p, 0, none⟩)) ∧ w'.cell? ⟨p, 0, none⟩ = some (.string xo) ∧ w'.cell? ⟨p, 1, none⟩ = some (.int .i64 xs) ∧ w'.cell? ⟨p, 2, none⟩ = some (.iface ut uv) ∧ w'.cell? a = some (.string xo) ∧ w'.cell? ⟨a.block, a.off + 1, none⟩ = some (.int .i64 xs))
        (first | exact ⟨by assumption, by assumption, by assumption, by assumption, by assumption, by assumption, by assumption, by assumption⟩ | go_keep)
        (first
          | (go_at_call 7; refine (HA.out _ (by first | exact OO.out | exact OO.out.drew)).mono ?_; rintro e w10 ⟨rfl, OO, d0, d1, d2, d3, d4, d5, d6, d7⟩)
          | (go_at_call 16; refine (HF.out _ (by first | exact OO.out | exact OO.out.drew)).mono ?_; rintro e w11 ⟨rfl, OO, d0, d1, d2, d3, d4, d5, d6, d7⟩)
          | (go_at_call 17; refine (HT.out _ (by first | exact OO.out | exact OO.out.drew)).mono ?_; rintro e w12 ⟨rfl, OO, d0, d1, d2, d3, d4, d5, d6, d7⟩)
          | (go_at_call 12; refine (HU.out _ (by first | exact OO.out | exact OO.out.drew)).mono ?_; rintro e w13 ⟨rfl, OO, d0, d1, d2, d3, d4, d5, d6, d7⟩))
      go_wp2
      go_ret
      exact ⟨rfl, OD.out.trans OO.out⟩
end Go.Proofs.YtpknhaemfpmpkaaDoor
