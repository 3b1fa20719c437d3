/- The walk of MultiPlays. No condition but that the table of math/bits holds what the program lays there. -/
import Derived.Test.YtoifknfmamcimaaDoorMPa
import Derived.Test.YtoifknfmamcimaaDoorMul9
import Derived.Test.YtoifknfmamcimaaDoorMem4
import Derived.Deep.RegionHeld3
import Derived.Deep.CutBlock
import Derived.Deep.RegionWith
import Derived.Deep.RegionLaw
namespace Go.Proofs.YtoifknfmamcimaaDoor
open Go.RowKit

theorem Tryd.infoIntP : (Tryd.prog.info? 3).map (fun i => (i.zero, i.size, i.bytes)) = some (some (.int .i64 0), 1, 8) := by kernel_rfl

/-- Something done. -/
structure PO where
  kd : Int
  n : Int
  lo : Int
  hi : Int
def PO.cells (x : PO) : List Value := [.int .i64 x.kd, .int .i64 x.n, .int .i64 x.lo, .int .i64 x.hi]
def PO.ok (x : PO) : Prop := -9223372036854775808 ≤ x.n ∧ x.n ≤ 9223372036854775807
theorem PO.len (x : PO) : x.cells.length = 4 := rfl

theorem pl_w {j : Nat} (h : j ≤ 100) : wrap64 ((j : Int) + 1) = (j : Int) + 1 := IntWalk.wrap64_in _ (by constructor <;> omega)
theorem pl_meas (m j : Nat) (h : j < m) (hm : j ≤ 100) : m - (intOf (.int .i64 (wrap64 ((j : Int) + 1)))).toNat < m - (intOf (.int .i64 (j : Int))).toNat := by
  rw [pl_w hm]
  show m - ((j : Int) + 1).toNat < m - (j : Int).toNat
  omega

/-- The two cells that the region loads. -/
def CellS (x9 : Nat) (v1 v3 : Value) (w : World) : Prop := w.cell? ⟨x9, 1, none⟩ = some v1 ∧ w.cell? ⟨x9, 3, none⟩ = some v3
theorem G3.ms {c0 : Nat → Nat} {w0 : World} {ka kb : Nat} {A B : (Nat → Nat) → World → Prop} {x9 : Nat} {ty : TypeId} {w : World} {v0 v1 v2 v3 v4 v5 v6 : Value} (h : G3 c0 w0 ka kb A B x9 [v0, v1, v2, v3, v4, v5, v6] ty w) : CellS x9 v1 v3 w := ⟨h.m.1, h.m.2.1⟩

theorem wp_last {P : Program} {s : Code} {Q : Exit → Act → World → Prop} {a : Act} {w : World} (h : ∀ K : Act → World → Prop, (∀ a' w', Q .normal a' w' → K a' w') → s.wp P (Exit.then K Q) a w) : s.wp P Q a w :=
  wp_mono (h (Q .normal) (fun _ _ h => h)) (fun e a' w' hq => by cases e <;> exact hq)

theorem asz (w : World) (o : Obj) : w.heap.size + 1 = (w.alloc o).heap.size := by simp

theorem op_cells {c : Nat → Nat} {k : Nat} {w : World} {p : Nat} {ty : TypeId} {v0 v1 v2 v3 : Value} (h : Blk c k w p [v0, v1, v2, v3] ty) : w.cell? ⟨p, 0, none⟩ = some v0 ∧ w.cell? ⟨p, 1, none⟩ = some v1 ∧ w.cell? ⟨p, 2, none⟩ = some v2 ∧ w.cell? ⟨p, 3, none⟩ = some v3 ∧ p < w.heap.size :=
  ⟨by simpa using h.cell 0, by simpa using h.cell 1, by simpa using h.cell 2, by simpa using h.cell 3, h.lt⟩

def PRel (w0 : World) (x9 p q bp gp sh N m : Nat) (v12 i : Value) (wr : World) : Prop :=
  ∃ (c : Nat → Nat) (j k : Nat) (la shown : List Int) (io : Option Addr) (icap : Nat) (go : Option Addr) (gcap : Nat) (so : Option Addr) (scap : Nat),
    v12 = .slice io k icap ∧ i = .int .i64 j ∧ Hid (j ≤ m) ∧ Hid (shown.length ≤ 64 * j) ∧ Hid (POK sh N la k shown) ∧ Hid (LAt w0 p q bp gp sh la (gids N k) c wr) ∧ Hid (MB x9 (2 ^ sh) (la.getD 0 0) (la.getD 1 0) (la.drop N) (gids N k) shown k k io icap go gcap so scap c wr)

set_option maxRecDepth 100000 in
set_option maxHeartbeats 100000000 in
theorem plays_in (s sh N : Nat) (oo : Option Addr) (m ocap : Nat) (ops : List PO) (lo : Int) (w : World) (hsh : s % 7 = sh) (hN : N = 2 + 2 ^ sh) (hm : m ≤ 80) (hlo : lo ≤ 1099511627776)
    (ho : In (fun _ => 0) 0 w 4 oo m ocap (ops.flatMap PO.cells)) (hol : ops.length = m) (hok : ∀ x ∈ ops, x.ok) (ht : Tab w) :
    Calls Tryd.prog 12 #[.int .u8 s, .slice oo m ocap, .int .i64 lo] w fun e w' => e = .returned (.bool true) ∧ Below w.heap.size w w' := by
  have Ho := Lib.hid ho
  have Hol := Lib.hid hol
  have Hok := Lib.hid hok
  have Ht := Lib.hid ht
  have Hm := Lib.hid hm
  have Hlo := Lib.hid hlo
  have HNN := Lib.hid hN
  have Hsh := Lib.hid (show sh < 7 by omega)
  have t1 : decide ((80 : Int) < (m : Int)) = false := by simp; omega
  have t2 : decide ((1099511627776 : Int) < lo) = false := by simp; omega
  have hw2 := wrap_two_pow sh (by omega)
  have hNN : wrap64 (2 ^ (s % 7)) = 2 ^ sh := by rw [hsh, hw2]
  clear ho hol hok ht hm hlo hN hw2 hsh
  obtain ⟨q, hq⟩ : ∃ q, q = w.heap.size := ⟨_, rfl⟩
  go_enter Tryd.func12, Tryd.ntmps12
  go_wp2_with fail
  refine (new_any (fun _ => 0) 2 _).mono ?_
  rintro e w1 ⟨rfl, c1, s1, h1⟩
  have S1 := Lib.hid (s1.up (by decide))
  have A1 := Lib.hid (show ArenaAt c1 2 w1 q [] 0 by rw [hq]; exact h1)
  have T1 := Lib.hid (Ht.out.stp s1 (by decide))
  rw [← hq]
  clear hq s1 h1
  go_wp2_with fail
  try simp only [hNN]
  clear hNN
  refine (mnew_ok A1.out sh (by have := Hsh.out; omega) (by have := two_pow_bd sh (by have := Hsh.out; omega); simp; omega) T1.out (m := 2 ^ sh) rfl).mono ?_
  rintro e w2 ⟨p, bp, gp, rfl, c2, s2, h2, q2⟩
  obtain ⟨la, hla⟩ : ∃ la : List Int, la = -1 :: -1 :: List.replicate (2 ^ sh) (-1) := ⟨_, rfl⟩
  have R2 := Lib.hid (show LAt w p q bp gp sh la (gids N 0) c2 w2 from by rw [hla]; exact ⟨S1.out.trans (s2.up (by decide)), ⟨_, h2⟩, q2⟩)
  have P2 := Lib.hid (show POK sh N la 0 [] from by rw [hla]; exact POK.start Hsh.out HNN.out)
  have Z0 := Lib.hid (show la.getD 0 0 = -1 by rw [hla]; rfl)
  have Z1 := Lib.hid (show la.getD 1 0 = -1 by rw [hla]; rfl)
  have ZD := Lib.hid (show la.drop N = [] by rw [hla]; exact List.drop_eq_nil_of_le (by have := HNN.out; simp; omega))
  clear s2 h2 q2 S1 A1 T1 hla
  go_wp2_with fail
  refine (r10new_any c2 _ (2 ^ sh)).mono ?_
  rintro e w3 ⟨rfl, c3, t3⟩
  obtain ⟨x9, hx9⟩ : ∃ x, x = w3.heap.size := ⟨_, rfl⟩
  obtain ⟨c4, hc4, T4⟩ := ((Stp.refl (fun _ => False) c3 w3).alloc (.cells #[.int .i64 (2 ^ sh), .int .i64 (-1), .int .i64 (-1), .slice none 0 0, .int .i64 (-1), .int .i64 0, .slice none 0 0] 67) 9).name
  have R4 := Lib.hid ((R2.out.stpF t3).stpF T4.out)
  have M4 := Lib.hid (show MB x9 (2 ^ sh) (la.getD 0 0) (la.getD 1 0) (la.drop N) (gids N 0) [] 0 0 none 0 none 0 none 0 c4 (w3.alloc (.cells #[.int .i64 (2 ^ sh), .int .i64 (-1), .int .i64 (-1), .slice none 0 0, .int .i64 (-1), .int .i64 0, .slice none 0 0] 67)) from by
    rw [Z0.out, Z1.out, ZD.out]
    exact ⟨by rw [hc4.out, hx9]; exact Blk.new c3 9 w3 _ _, Row.nil _ _ _ _ _, Row.nil _ _ _ _ _, In.nil _ _ _ _ _⟩)
  clear t3 hc4 T4 R2 Z0 Z1 ZD
  go_wp2_with fail
  rw [← hx9]
  clear hx9
  go_loopw [12, 55] (fun v12 i wr => PRel w x9 p q bp gp sh N m v12 i wr) (fun _ i _ => m - (intOf i).toNat)
  case atStart => exact ⟨c4, 0, 0, la, [], none, 0, none, 0, none, 0, rfl, rfl, Lib.hid (Nat.zero_le _), Lib.hid (by simp), P2, R4, M4⟩
  case round =>
    obtain ⟨c5, j, k, lb, shown, io, icap, go, gcap, so, scap, rfl, rfl, Hj, Hs, P, R, M⟩ := hrel
    clear R4 P2 M4
    by_cases hlt : j < m
    · obtain ⟨x, hx⟩ : ∃ x, ops[j]? = some x := ⟨_, List.getElem?_eq_getElem (show j < ops.length by rw [Hol.out]; exact hlt)⟩
      have hInr := Ho.out.stp R.out.st (by decide)
      obtain ⟨a, ha, y0⟩ := hInr.field (fun x => PO.len x) hx (f := 0) (v := .int .i64 x.kd) rfl
      obtain ⟨a1, ha1, y1⟩ := hInr.field (fun x => PO.len x) hx (f := 1) (v := .int .i64 x.n) rfl
      obtain ⟨a2, ha2, y2⟩ := hInr.field (fun x => PO.len x) hx (f := 2) (v := .int .i64 x.lo) rfl
      obtain ⟨a3, ha3, y3⟩ := hInr.field (fun x => PO.len x) hx (f := 3) (v := .int .i64 x.hi) rfl
      subst ha
      cases ha1
      cases ha2
      cases ha3
      have z1 : wr.cell? ⟨(a.add (j * 4)).block, (a.add (j * 4)).off + 1, none⟩ = some (.int .i64 x.n) := by rw [← add_add'] at y1; exact y1
      have z2 : wr.cell? ⟨(a.add (j * 4)).block, (a.add (j * 4)).off + 2, none⟩ = some (.int .i64 x.lo) := by rw [← add_add'] at y2; exact y2
      have z3 : wr.cell? ⟨(a.add (j * 4)).block, (a.add (j * 4)).off + 3, none⟩ = some (.int .i64 x.hi) := by rw [← add_add'] at y3; exact y3
      rw [Nat.add_zero] at y0
      have hxo := Hok.out x (List.mem_of_getElem? hx)
      clear hInr hx y1 y2 y3
      obtain ⟨kd, xn, xlo, xhi⟩ := x
      simp only at y0 z1 z2 z3
      have XO := Lib.hid (show -9223372036854775808 ≤ xn ∧ xn ≤ 9223372036854775807 from hxo)
      clear hxo
      obtain ⟨xb, hxb⟩ : ∃ x, x = wr.heap.size := ⟨_, rfl⟩
      obtain ⟨c6, hc6, T6⟩ := ((Stp.refl (fun _ => False) c5 wr).alloc (.cells #[.int .i64 kd, .int .i64 xn, .int .i64 xlo, .int .i64 xhi] 101) 15).name
      have R6 := Lib.hid (R.out.stpF T6.out)
      have M6 := Lib.hid (M.out.stpF T6.out)
      have X6 := Lib.hid (show Blk c6 15 (wr.alloc (.cells #[.int .i64 kd, .int .i64 xn, .int .i64 xlo, .int .i64 xhi] 101)) xb [.int .i64 kd, .int .i64 xn, .int .i64 xlo, .int .i64 xhi] 101 by rw [hc6.out, hxb]; exact Blk.new c5 15 wr _ _)
      have Hlt := Lib.hid hlt
      have J80 := Lib.hid (show j < 80 by have := Hm.out; omega)
      have HS2 := Lib.hid (show shown.length ≤ 64 * (j + 1) by have := Hs.out; omega)
      have W8 := pl_w (j := j) (by have := J80.out; omega)
      clear hc6 T6 R M
      go_upto_region 13 with fail
      obtain ⟨wb, hwb⟩ : ∃ wb : World, wb = wr.alloc (.cells #[.int .i64 kd, .int .i64 xn, .int .i64 xlo, .int .i64 xhi] 101) := ⟨_, rfl⟩
      rw [← hwb] at R6 M6 X6 ⊢
      rw [← hxb]
      clear hwb hxb y0 z1 z2 z3
      obtain ⟨q0, q1, q2, q3, lxb⟩ := op_cells X6.out
      by_cases h2 : kd = 2
      · subst h2
        by_cases hk : 0 < k ∧ 0 ≤ xn
        · obtain ⟨hk0, hn0⟩ := hk
          obtain ⟨ix, hid, E1⟩ := hold_pick hn0 hk0
          obtain ⟨d7, hd7, E2⟩ := hold_seven hn0
          have HI := Lib.hid hid
          have HLT0 := Lib.hid (show N + ix < lb.length by have := P.out.len; omega)
          have HW := Lib.hid (P.out.hold_w hid hd7)
          have kz : ((k : Int) == 0) = false := by simp; omega
          have kn : decide (xn < 0) = false := by simpa using hn0
          have DL := Lib.hid P.out.dl
          obtain ⟨ga, hga, hgc, hgf, hgb⟩ := M6.out.gcell (i := ix) (by rw [DL.out]; exact hid)
          obtain ⟨ia, hia, hic⟩ := M6.out.icell (i := ix) (by rw [gids_len]; exact hid)
          subst hga hia
          obtain ⟨cn, hcn⟩ : ∃ cn, cn = N + ix := ⟨_, rfl⟩
          have CN := Lib.hid hcn
          have HLT := Lib.hid (show cn < lb.length by rw [hcn]; exact HLT0.out)
          rw [gids_get hid, ← hcn] at hic
          obtain ⟨⟨m0, m1, m2, m3, m4, m5, m6⟩, -, lm⟩ := M6.out.xs
          obtain ⟨g, hg⟩ : ∃ g, (lb.drop N).getD ix 0 = g := ⟨_, rfl⟩
          have HG := Lib.hid hg
          rw [hg] at hgc HW
          obtain ⟨z0, hz0⟩ : ∃ z, lb.getD 0 0 = z := ⟨_, rfl⟩
          have HZ := Lib.hid hz0
          rw [hz0] at m1 HW
          have v1 := HW.out.1
          have v2 : IntKind.i64.wrap (g + (d7 : Int)) = g + (d7 : Int) := (IntWalk.i64_left _).trans v1
          have hid1 : (ix : Int) < (k : Int) := by clear v1 v2; omega
          have hid0 : (0 : Int) ≤ (ix : Int) := by clear v1 v2; omega
          clear hz0 hg hcn hd7 hn0 hk0
          obtain ⟨y, hy⟩ : ∃ y : Int, (if g + (d7 : Int) < z0 then g + (d7 : Int) else z0) = y := ⟨_, rfl⟩
          have HY := Lib.hid (show g ≤ y ∧ y ≤ z0 by rw [← hy]; have := HW.out.2; clear v1 v2; split <;> omega)
          have HYE := Lib.hid hy
          clear hy
          have HL := Lib.hid (show ix < (lb.drop N).length by rw [DL.out]; exact HI.out)
          have HSL := Lib.hid (show ((lb.drop N).set ix y).length = k by rw [List.length_set]; exact DL.out)
          have HGY := Lib.hid (show ((lb.drop N).set ix y).getD ix 0 = y from getD_set HL.out)
          have HB1 := Lib.hid (show (lb.drop N).getD ix 0 ≤ y by rw [HG.out]; exact HY.out.1)
          have HB2 := Lib.hid (show y ≤ lb.getD 0 0 by rw [HZ.out]; exact HY.out.2)
          go_upto_region 30 with fail
          go_region
          rw [HYE.out]
          have RM := hold_gate M6.out R6.out HL.out y (rfl : some ga = some ga)
          obtain ⟨wd, hwd⟩ : ∃ wd : World, wd = (wb.setCell (ga.add ix) (.int .i64 y)).drew := ⟨_, rfl⟩
          rw [← hwd] at RM ⊢
          clear hwd hgc hgf hgb hic m0 m1 m2 m3 m4 m5 m6 lm q0 q1 q2 q3 lxb v1 v2 E2 E1 HYE HY HG HZ HW DL
          as_aux_lemma =>
          obtain ⟨hic, m3, hgc⟩ := RM.out.2.hcells HI.out HSL.out CN.out HGY.out
          go_upto_region 31 with fail
          go_region_held3 (fun w' => w'.cell? (ia.add ix) = some (.int .i64 (cn : Int)) ∧ w'.cell? ⟨x9, 3, none⟩ = some (.slice (some ga) k gcap) ∧ w'.cell? (ga.add ix) = some (.int .i64 y))
            (first | exact ⟨by assumption, by assumption, by assumption⟩ | go_keep)
            (first
              | (go_at_call 49; refine (hold_store (by first | exact RM.out.1 | exact RM.out.1.stpF (Stp.refl (fun _ => False) _ _).drew | exact RM.out.1.stpF ((Stp.refl (fun _ => False) _ _).drewN _)) (by first | exact RM.out.2 | exact RM.out.2.stpF (Stp.refl (fun _ => False) _ _).drew | exact RM.out.2.stpF ((Stp.refl (fun _ => False) _ _).drewN _)) (by exact HI.out) (by exact HSL.out) (by exact CN.out) (by exact HLT.out) (by exact HGY.out)).mono ?_; rintro e we ⟨rfl, ce, RE, hic, m3, hgc⟩))
          obtain ⟨le, PE, RF, MF⟩ := hold_end P.out HI.out CN.out HB1.out HB2.out RE.out
          clear hic m3 hgc RE
          as_aux_lemma =>
          obtain ⟨d, hd⟩ : ∃ d, roomOf (2 ^ sh) (le.getD 0 0) ((le.drop N).foldl min (le.getD 0 0)) = d := ⟨_, rfl⟩
          have HD := Lib.hid hd
          clear hd
          go_wp2_with fail
          refine (RF.out.remain PE.out.ok).mono ?_
          rintro e wt ⟨rfl, ct, tt, rt⟩
          rw [gids_vals PE.out.len, HD.out]
          have RT := Lib.hid rt
          have MT := Lib.hid (MF.out.stp tt (by decide) (by decide) (by decide) (by decide))
          clear tt rt
          obtain ⟨⟨m0, m1, m2, m3, m4, m5, m6⟩, -, lm⟩ := MT.out.xs
          go_upto_region 40 with fail
          go_region_held3 (fun w' => w'.cell? ⟨x9, 0, none⟩ = some (.int .i64 (2 ^ sh)) ∧ w'.cell? ⟨x9, 1, none⟩ = some (.int .i64 (le.getD 0 0)) ∧ w'.cell? ⟨x9, 2, none⟩ = some (.int .i64 (le.getD 0 0)) ∧ w'.cell? ⟨x9, 3, none⟩ = some (.slice (some ga) k gcap) ∧ w'.cell? ⟨x9, 4, none⟩ = some (.int .i64 (le.getD 1 0)) ∧ w'.cell? ⟨x9, 5, none⟩ = some (.int .i64 0))
            (first | exact ⟨by assumption, by assumption, by assumption, by assumption, by assumption, by assumption⟩ | go_keep)
            (first
              | (go_at_call 57; refine (MB.rremain (by first | exact MT.out | exact MT.out.stpF (Stp.refl (fun _ => False) _ _).drew | exact MT.out.stpF ((Stp.refl (fun _ => False) _ _).drewN _)) (by exact PE.out) (by exact HD.out)).mono ?_; rintro e wu ⟨rfl, cu, tu⟩; have RU := Lib.hid (RT.out.stpF (by first | exact tu | exact (Stp.refl (fun _ => False) _ _).drew.trans tu | exact ((Stp.refl (fun _ => False) _ _).drewN _).trans tu)); have MU := Lib.hid (MT.out.stpF (by first | exact tu | exact (Stp.refl (fun _ => False) _ _).drew.trans tu | exact ((Stp.refl (fun _ => False) _ _).drewN _).trans tu)); clear tu; obtain ⟨⟨m0, m1, m2, m3, m4, m5, m6⟩, -, lm⟩ := MU.out.xs)
              | (go_at_call 43; refine (LAt.claimed (by first | exact RU.out | exact RU.out.stpF (Stp.refl (fun _ => False) _ _).drew | exact RU.out.stpF ((Stp.refl (fun _ => False) _ _).drewN _)) (by exact PE.out.ok)).mono ?_; rintro e wv ⟨rfl, cv, tv, rv⟩; have RV := Lib.hid rv; have MV := Lib.hid (MB.stp (by first | exact MU.out | exact MU.out.stpF (Stp.refl (fun _ => False) _ _).drew | exact MU.out.stpF ((Stp.refl (fun _ => False) _ _).drewN _)) tv (by decide) (by decide) (by decide) (by decide)); clear tv rv; obtain ⟨⟨m0, m1, m2, m3, m4, m5, m6⟩, -, lm⟩ := MV.out.xs))
          go_wp2
          go_roundw
          case rel => exact ⟨cv, j + 1, k, le, shown, (some ia), icap, (some ga), gcap, so, scap, rfl, by go_num, Lib.hid Hlt.out, HS2, PE, RV, MV⟩
          case measure => exact pl_meas m j Hlt.out (Nat.le_trans (Nat.le_of_lt J80.out) (by decide))
        · have hc : ((k : Int) == 0) = true ∨ (((k : Int) == 0) = false ∧ decide (xn < 0) = true) := by
            by_cases h0 : k = 0
            · exact .inl (by simp [h0])
            · exact .inr ⟨by simp; omega, by simp; omega⟩
          clear hk
          rcases hc with k1 | ⟨k1, k2⟩
          all_goals
            go_wp2
            go_roundw
            case rel => exact ⟨c6, j + 1, k, lb, shown, io, icap, go, gcap, so, scap, rfl, by go_num, Lib.hid Hlt.out, HS2, P, R6, M6⟩
            case measure => exact pl_meas m j Hlt.out (Nat.le_trans (Nat.le_of_lt J80.out) (by decide))
      · skip
        go_upto_block 2 with fail
        go_cut [12] (fun v12 wx => ∃ (c' : Nat → Nat) (k' : Nat) (la' shown' : List Int) (io' : Option Addr) (icap' : Nat) (go' : Option Addr) (gcap' : Nat) (so' : Option Addr) (scap' : Nat), v12 = .slice io' k' icap' ∧ Hid (shown'.length ≤ 64 * (j + 1)) ∧ Hid (POK sh N la' k' shown') ∧ Hid (LAt w p q bp gp sh la' (gids N k') c' wx) ∧ Hid (MB x9 (2 ^ sh) (la'.getD 0 0) (la'.getD 1 0) (la'.drop N) (gids N k') shown' k' k' io' icap' go' gcap' so' scap' c' wx))
        case first =>
          by_cases h0 : kd = 0
          · subst h0
            clear h2
            as_aux_lemma =>
            go_wp2_with fail
            refine (R6.out.claim P.out.ok xn).mono ?_
            rintro e w7 ⟨ev, rfl, c7, t7, r7, hev⟩
            have P7 := Lib.hid (P.out.claim xn)
            have D7 := Lib.hid (P.out.claim_drop xn)
            obtain ⟨d0, hd0⟩ : ∃ d, roomOf (2 ^ sh) (lb.getD 0 0) ((lb.drop N).foldl min (lb.getD 0 0)) = d := ⟨_, rfl⟩
            have HD0 := Lib.hid hd0
            have SH := Lib.hid (P.out.short xn hd0)
            have CE := Lib.hid (M6.out.stp t7 (by decide) (by decide) (by decide) (by decide))
            have X7 := Lib.hid (X6.out.stp t7 (by decide))
            have HEV := Lib.hid (show Err c7 w7 ev (claimR ⟨sh, 0, 1, 2, gids N k⟩ lb xn).2.2 from by
              rcases hev with ⟨h1, h2⟩ | ⟨h1, -, h2⟩
              · exact .inl ⟨h1, h2⟩
              · exact .inr ⟨h1, h2⟩)
            have R7 := Lib.hid r7
            clear hd0 t7 r7 hev q0 q1 q2 q3 lxb R6 M6 X6
            obtain ⟨q0, q1, q2, q3, lxb⟩ := op_cells X7.out
            obtain ⟨⟨m0, m1, m2, m3, m4, m5, m6⟩, -, lm⟩ := CE.out.xs
            go_upto_region 18 with fail
            go_region_held3 (fun w' => (w'.cell? ⟨x9, 0, none⟩ = some (.int .i64 (2 ^ sh)) ∧ w'.cell? ⟨x9, 1, none⟩ = some (.int .i64 (lb.getD 0 0)) ∧ w'.cell? ⟨x9, 2, none⟩ = some (.int .i64 (lb.getD 0 0)) ∧ w'.cell? ⟨x9, 3, none⟩ = some (.slice go k gcap) ∧ w'.cell? ⟨x9, 4, none⟩ = some (.int .i64 (lb.getD 1 0)) ∧ w'.cell? ⟨x9, 5, none⟩ = some (.int .i64 0)) ∧ w'.cell? ⟨xb, 1, none⟩ = some (.int .i64 xn))
              (first | exact ⟨⟨by assumption, by assumption, by assumption, by assumption, by assumption, by assumption⟩, by assumption⟩ | go_keep)
              (first
                | (go_at_call 57; refine (MB.rremain (by first | exact CE.out | exact CE.out.stpF (Stp.refl (fun _ => False) _ _).drew | exact CE.out.stpF ((Stp.refl (fun _ => False) _ _).drewN _)) (by exact P.out) (by exact HD0.out)).mono ?_; rintro e w8 ⟨rfl, c8, t8⟩; have T8 := Lib.hid (show Stp (fun _ => False) c7 c8 w7 w8 by first | exact t8 | exact (Stp.refl (fun _ => False) _ _).drew.trans t8 | exact ((Stp.refl (fun _ => False) _ _).drewN _).trans t8); have M8 := Lib.hid (CE.out.stpF T8.out); have X8 := Lib.hid (X7.out.stp T8.out id); clear t8; obtain ⟨⟨m0, m1, m2, m3, m4, m5, m6⟩, -, lm⟩ := M8.out.xs; obtain ⟨q0, q1, q2, q3, lxb⟩ := op_cells X8.out))
            have R8 := Lib.hid (R7.out.stpF T8.out)
            have E8 := Lib.hid (HEV.out.stp T8.out id)
            clear R7 HEV CE X7 T8
            go_wp2_with fail
            refine (M8.out.rclaim P.out xn XO.out.2).mono ?_
            rintro e w9 ⟨rfl, c9, t9⟩
            obtain ⟨CR, hCR⟩ : ∃ CR, CR = claimR ⟨sh, 0, 1, 2, gids N k⟩ lb xn := ⟨_, rfl⟩
            rw [← hCR] at P7 D7 SH R8 E8 ⊢
            clear hCR
            obtain ⟨lc, v, er⟩ := CR
            simp only at P7 D7 SH R8 E8 ⊢
            obtain ⟨z0, hz0⟩ : ∃ z, lc.getD 0 0 = z := ⟨_, rfl⟩
            obtain ⟨z1, hz1⟩ : ∃ z, lc.getD 1 0 = z := ⟨_, rfl⟩
            have HZ := Lib.hid (And.intro hz0 hz1)
            rw [hz0, hz1]
            clear hz0 hz1
            have M9 := Lib.hid (M8.out.stpF t9)
            have R9 := Lib.hid (R8.out.stpF t9)
            have E9 := Lib.hid (E8.out.stp t9 id)
            clear t9 m0 m1 m2 m3 m4 m5 m6 lm q0 q1 q2 q3 lxb M8 R8 E8 X8
            obtain ⟨⟨m0, m1, m2, m3, m4, m5, m6⟩, ⟨f0, f1, f2, f3, f4, f5, f6⟩, lm⟩ := M9.out.xs
            obtain ⟨wd, hwd⟩ : ∃ wd : World, wd = (((((((w9.setCell ⟨x9, 0, none⟩ (.int .i64 (2 ^ sh))).setCell ⟨x9, 1, none⟩ (.int .i64 (z0))).setCell ⟨x9, 2, none⟩ (.int .i64 (z0))).setCell ⟨x9, 3, none⟩ (.slice go k gcap)).setCell ⟨x9, 4, none⟩ (.int .i64 (z1))).setCell ⟨x9, 5, none⟩ (.int .i64 0)).setCell ⟨x9, 6, none⟩ (.slice so shown.length scap)) := ⟨_, rfl⟩
            have MD := Lib.hid (show MB x9 (2 ^ sh) (lc.getD 0 0) (lc.getD 1 0) (lc.drop N) (gids N k) shown k k io icap go gcap so scap c9 wd by rw [hwd, D7.out, HZ.out.1, HZ.out.2]; exact (M9.out.put7 z0 z1 M9.out.sr).1)
            have TD := Lib.hid (show Stp (· = 9) c9 c9 w9 wd by rw [hwd]; exact (M9.out.put7 z0 z1 M9.out.sr).2)
            have RD := Lib.hid (R9.out.stp9 (Stp.mono TD.out (fun _ h => Nat.le_of_eq h.symm)))
            have ED := Lib.hid (E9.out.stp TD.out (by decide))
            go_wp2_with fail
            rw [← hwd]
            clear hwd m0 m1 m2 m3 m4 m5 m6 f0 f1 f2 f3 f4 f5 f6 lm TD R9 E9 M9
            refine (lawis ED.out er).mono ?_
            rintro e wx ⟨rfl, rfl⟩
            by_cases e0 : er = 0
            · have k0 : (er == 0) = true := by simpa using e0
              have k1 : (er == 10) = false := by rw [e0]; rfl
              have k2 : decide (d0 < xn) = false := by simpa using SH.out.1 e0
              clear e0
              go_wp2
              go_meet
              exact ⟨_, k, lc, shown, io, icap, go, gcap, so, scap, rfl, HS2, P7, RD, MD⟩
            · by_cases e10 : er = 10
              · have k0 : (er == 0) = false := by rw [e10]; rfl
                have k1 : (er == 10) = true := by simpa using e10
                have k2 : decide (d0 < xn) = true := by simpa using SH.out.2 e10
                clear e0 e10
                go_wp2
                go_meet
                exact ⟨_, k, lc, shown, io, icap, go, gcap, so, scap, rfl, HS2, P7, RD, MD⟩
              · have k0 : (er == 0) = false := by simpa using e0
                have k1 : (er == 10) = false := by simpa using e10
                clear e0 e10
                go_wp2
                go_meet
                exact ⟨_, k, lc, shown, io, icap, go, gcap, so, scap, rfl, HS2, P7, RD, MD⟩
          · by_cases h1 : kd = 1
            · subst h1
              clear h0 h2
              as_aux_lemma =>
              have hg : (0 ≤ xlo ∧ xlo ≤ xhi ∧ xhi ≤ lb.getD 0 0 ∧ xhi - xlo < 2 ^ sh) ∨ (xlo < 0 ∨ xhi < xlo ∨ lb.getD 0 0 < xhi ∨ 2 ^ sh ≤ xhi - xlo) := by omega
              rcases hg with ⟨g1, g2, g3, g4⟩ | hb
              · go_wp2_with fail
                refine (R6.out.publish P.out xlo xhi g1 g2 g3 g4).mono ?_
                rintro e w7 ⟨rfl, c7, t7, r7⟩
                have PP := P.out.publish (lo := xlo) g1 (xhi - xlo + 1).toNat
                have NS := Lib.hid (show (shown ++ runOf xlo (xhi - xlo + 1).toNat).length ≤ 64 * (j + 1) by have := Hs.out; have := P.out.pw; simp [runOf]; omega)
                have NM := Lib.hid (show shown.length ≤ 10000 by have := Hs.out; have := J80.out; omega)
                have G := Lib.hid (And.intro g1 (And.intro g2 (And.intro g3 g4)))
                obtain ⟨ld, hld⟩ : ∃ ld, ld = showAll lb 2 sh xlo (xhi - xlo + 1).toNat := ⟨_, rfl⟩
                rw [← hld] at r7 PP
                have P7 := Lib.hid PP.1
                have D7 := Lib.hid PP.2
                have R7 := Lib.hid r7
                have M7 := Lib.hid (M6.out.stp t7 (by decide) (by decide) (by decide) (by decide))
                have X7 := Lib.hid (X6.out.stp t7 (by decide))
                clear hld PP t7 r7 g1 g2 g3 g4 q0 q1 q2 q3 lxb R6 M6 X6
                obtain ⟨q0, q1, q2, q3, lxb⟩ := op_cells X7.out
                obtain ⟨⟨m0, m1, m2, m3, m4, m5, m6⟩, -, lm⟩ := M7.out.xs
                go_wp2_with fail
                refine (M7.out.rpub_ok P.out NM.out xlo xhi G.out.1 G.out.2.1 G.out.2.2.1 G.out.2.2.2).mono ?_
                rintro e w8 ⟨so8, scap8, rfl, c8, t8, i8⟩
                obtain ⟨sh8, hsh8⟩ : ∃ s8, s8 = shown ++ runOf xlo (xhi - xlo + 1).toNat := ⟨_, rfl⟩
                rw [← hsh8] at i8 P7 NS ⊢
                obtain ⟨z0, hz0⟩ : ∃ z, lb.getD 0 0 = z := ⟨_, rfl⟩
                obtain ⟨z1, hz1⟩ : ∃ z, lb.getD 1 0 = z := ⟨_, rfl⟩
                have HZ := Lib.hid (And.intro hz0 hz1)
                rw [hz0, hz1]
                clear hz0 hz1
                have R8 := Lib.hid (R7.out.stp9 (Stp.mono t8 (fun _ h => by omega)))
                obtain ⟨wd, hwd⟩ : ∃ wd : World, wd = (((((((w8.setCell ⟨x9, 0, none⟩ (.int .i64 (2 ^ sh))).setCell ⟨x9, 1, none⟩ (.int .i64 (z0))).setCell ⟨x9, 2, none⟩ (.int .i64 (z0))).setCell ⟨x9, 3, none⟩ (.slice go k gcap)).setCell ⟨x9, 4, none⟩ (.int .i64 (z1))).setCell ⟨x9, 5, none⟩ (.int .i64 0)).setCell ⟨x9, 6, none⟩ (.slice so8 sh8.length scap8)) := ⟨_, rfl⟩
                have MD := Lib.hid (show MB x9 (2 ^ sh) (ld.getD 0 0) (ld.getD 1 0) (ld.drop N) (gids N k) sh8 k k io icap go gcap so8 scap8 c8 wd by rw [hwd, D7.out.1, D7.out.2.1, D7.out.2.2]; rw [HZ.out.1, HZ.out.2]; have QQ := M7.out; rw [HZ.out.1, HZ.out.2] at QQ; exact (QQ.pub t8 i8).1)
                have TD := Lib.hid (show Stp (· = 9) c8 c8 w8 wd by rw [hwd]; have QQ := M7.out; rw [HZ.out.1, HZ.out.2] at QQ; exact (QQ.pub t8 i8).2)
                have RD := Lib.hid (R8.out.stp9 (Stp.mono TD.out (fun _ h => Nat.le_of_eq h.symm)))
                have MB8 := M7.out.mb.stp t8 (by decide)
                have lm8 := (cl_f7 MB8).2
                obtain ⟨f0, f1, f2, f3, f4, f5, f6⟩ := (cl_f7 MB8).1
                clear m0 m1 m2 m3 m4 m5 m6 lm
                obtain ⟨m0, m1, m2, m3, m4, m5, m6⟩ := cl_7 MB8
                clear hsh8 t8 i8 R8 M7 R7 MB8 q0 q1 q2 q3 lxb X7
                go_wp2_with fail
                rw [← hwd]
                clear hwd m0 m1 m2 m3 m4 m5 m6 f0 f1 f2 f3 f4 f5 f6 lm8 TD
                refine (lawis (Err.nil c8 wd) 0).mono ?_
                rintro e wx ⟨rfl, rfl⟩
                go_wp2
                go_meet
                exact ⟨_, k, ld, sh8, io, icap, go, gcap, so8, scap8, rfl, NS, P7, RD, MD⟩
              · go_wp2_with fail
                refine (R6.out.publish_bad P.out xlo xhi hb).mono ?_
                rintro e w7 ⟨ev, rfl, c7, t7, r7, e7⟩
                have R7 := Lib.hid r7
                have M7 := Lib.hid (M6.out.stp t7 (by decide) (by decide) (by decide) (by decide))
                have X7 := Lib.hid (X6.out.stp t7 (by decide))
                have E7 := Lib.hid e7
                have DB := Lib.hid (pub_decs (sl := 2 ^ sh) (cl := lb.getD 0 0) hb P.out.cu.2)
                clear t7 r7 e7 hb q0 q1 q2 q3 lxb R6 M6 X6
                obtain ⟨q0, q1, q2, q3, lxb⟩ := op_cells X7.out
                obtain ⟨⟨m0, m1, m2, m3, m4, m5, m6⟩, ⟨f0, f1, f2, f3, f4, f5, f6⟩, lm⟩ := M7.out.xs
                go_wp2_with fail
                refine (r10pub_bad c7 _ (2 ^ sh) (lb.getD 0 0) (lb.getD 0 0) (lb.getD 1 0) 0 go k gcap so shown.length scap xlo xhi DB.out).mono ?_
                rintro e w8 ⟨rfl, c8, t8⟩
                obtain ⟨z0, hz0⟩ : ∃ z, lb.getD 0 0 = z := ⟨_, rfl⟩
                obtain ⟨z1, hz1⟩ : ∃ z, lb.getD 1 0 = z := ⟨_, rfl⟩
                have HZ := Lib.hid (And.intro hz0 hz1)
                try rw [hz0]
                try rw [hz1]
                clear hz0 hz1
                have M8 := Lib.hid (M7.out.stpF t8)
                have R8 := Lib.hid (R7.out.stpF t8)
                have E8 := Lib.hid (E7.out.stp t8 id)
                clear m0 m1 m2 m3 m4 m5 m6 lm f0 f1 f2 f3 f4 f5 f6 t8 M7 R7 E7 X7 q0 q1 q2 q3 lxb
                obtain ⟨⟨m0, m1, m2, m3, m4, m5, m6⟩, ⟨f0, f1, f2, f3, f4, f5, f6⟩, lm⟩ := M8.out.xs
                obtain ⟨wd, hwd⟩ : ∃ wd : World, wd = (((((((w8.setCell ⟨x9, 0, none⟩ (.int .i64 (2 ^ sh))).setCell ⟨x9, 1, none⟩ (.int .i64 (z0))).setCell ⟨x9, 2, none⟩ (.int .i64 (z0))).setCell ⟨x9, 3, none⟩ (.slice go k gcap)).setCell ⟨x9, 4, none⟩ (.int .i64 (z1))).setCell ⟨x9, 5, none⟩ (.int .i64 0)).setCell ⟨x9, 6, none⟩ (.slice so shown.length scap)) := ⟨_, rfl⟩
                have MD := Lib.hid (show MB x9 (2 ^ sh) (lb.getD 0 0) (lb.getD 1 0) (lb.drop N) (gids N k) shown k k io icap go gcap so scap c8 wd by rw [hwd, HZ.out.1, HZ.out.2]; have QQ := M8.out; rw [HZ.out.1, HZ.out.2] at QQ; exact (QQ.put7 z0 z1 M8.out.sr).1)
                have TD := Lib.hid (show Stp (· = 9) c8 c8 w8 wd by rw [hwd]; have QQ := M8.out; rw [HZ.out.1, HZ.out.2] at QQ; exact (QQ.put7 z0 z1 M8.out.sr).2)
                have RD := Lib.hid (R8.out.stp9 (Stp.mono TD.out (fun _ h => Nat.le_of_eq h.symm)))
                have ED := Lib.hid (E8.out.stp TD.out (by decide))
                clear R8 M8 E8
                go_wp2_with fail
                rw [← hwd]
                clear hwd m0 m1 m2 m3 m4 m5 m6 f0 f1 f2 f3 f4 f5 f6 lm TD
                refine (lawis (.inr ⟨by decide, ED.out⟩) 1).mono ?_
                rintro e wx ⟨rfl, rfl⟩
                go_wp2
                go_meet
                exact ⟨_, k, lb, shown, io, icap, go, gcap, so, scap, rfl, HS2, P, RD, MD⟩
            · by_cases h3 : kd = 3
              · subst h3
                clear h0 h1 h2
                as_aux_lemma =>
                by_cases hk : k < 20
                · have kk : decide ((20 : Int) ≤ (k : Int)) = false := by simp; omega
                  have KL := Lib.hid hk
                  have b63 := Lib.hid (show k + 1 ≤ maxLen by unfold maxLen; omega)
                  have bby := Lib.hid (show (k + 1) * 8 ≤ 140737488355328 by omega)
                  obtain ⟨cn, hcn⟩ : ∃ cn, cn = lb.length := ⟨_, rfl⟩
                  have CN := Lib.hid hcn
                  have HD1 := Lib.hid (show cn ≤ 86 by rw [hcn]; exact P.out.ok.max.1)
                  have HD2 := Lib.hid (show (cn : Int) ∉ gids N k by intro hx; obtain ⟨i, hi, he⟩ := gids_mem hx; have := P.out.len; omega)
                  have HD3 := Lib.hid (show (gids N k).length < 20 by rw [gids_len]; exact hk)
                  have OKE := Lib.hid P.out.ok
                  obtain ⟨z0, hz0⟩ : ∃ z, lb.getD 0 0 = z := ⟨_, rfl⟩
                  obtain ⟨z1, hz1⟩ : ∃ z, lb.getD 1 0 = z := ⟨_, rfl⟩
                  have HZ := Lib.hid (And.intro hz0 hz1)
                  have M6z := M6.out
                  rw [hz0, hz1] at M6z
                  have M6' := Lib.hid M6z
                  clear hk M6z
                  clear M6
                  obtain ⟨⟨m0, m1, m2, m3, m4, m5, m6⟩, -, lm⟩ := M6'.out.xs
                  clear hz0 hz1
                  go_wp2_with fail
                  refine (R6.out.alloc OKE.out z0).mono ?_
                  rintro e w7 ⟨rfl, c7, t7, r7⟩
                  rw [← CN.out]
                  have M7 := Lib.hid (M6'.out.stp t7 (by decide) (by decide) (by decide) (by decide))
                  have R7 := Lib.hid r7
                  clear t7 r7 M6' R6 m0 m1 m2 m3 m4 m5 m6 lm q0 q1 q2 q3 lxb X6 hcn
                  go_wp2_with fail
                  refine (R7.out.gate).mono ?_
                  rintro e w7' ⟨rfl, rfl⟩
                  go_wp2_with fail
                  refine (R7.out.add cn HD1.out HD2.out HD3.out).mono ?_
                  rintro e w8 ⟨rfl, c8, t8, r8⟩
                  have R8 := Lib.hid r8
                  have M8 := Lib.hid (M7.out.stp t8 (by decide) (by decide) (by decide) (by decide))
                  clear t8 r8 M7 R7
                  have GG := Lib.hid M8.out.g3
                  obtain ⟨m1, m3, f3, lm⟩ := M8.out.g3.m
                  have IN8 := Lib.hid M8.out.sr
                  clear M8
                  go_upto_region 38 with fail
                  refine wp_last (fun K9 hK9 => ?_)
                  go_cut [12] (fun v12 wx => ∃ (ao1 : Option Addr) (cap1 : Nat) (ao2 : Option Addr) (cap2 : Nat), v12 = .slice ao1 (k + 1) cap1 ∧ Hid (G3 c8 w8 11 10 (R0 11 3 1 ao1 (k + 1) cap1 ((gids N k).map (Value.int .i64) ++ [.int .i64 (cn : Int)])) (R0 10 2 1 ao2 (k + 1) cap2 ((lb.drop N).map (Value.int .i64) ++ [.int .i64 z0])) x9 [.int .i64 (2 ^ sh), .int .i64 z0, .int .i64 z0, .slice ao2 (k + 1) cap2, .int .i64 z1, .int .i64 0, .slice so shown.length scap] 67 wx))
                  case first =>
                    refine wp_region_till (S := CellS x9 (.int .i64 z0) (.slice go k gcap)) (f := 15) (by kernel_rfl) ?_
                    have hS := GG.out.drew.ms
                    refine wpTill_takeL (i := 0) (v := ?_) (l := [11, 3, 0]) rfl (by kernel_rfl) (by kernel_rfl) (by kernel_rfl) (by kernel_rfl) (by kernel_rfl) (by rfl) (fun _ _ _ h => h) (Or.inl ⟨by rfl, ?_⟩) hS ?_
                    rotate_left
                    · intro wy hSy
                      obtain ⟨m1, m3⟩ := hSy
                      go_simp
                      try with_reducible rfl
                    try simp only [Act.put, List.setIfInBounds_toArray, List.set_cons_zero, List.set_cons_succ]
                    refine wpTill_takeL (i := 1) (v := ?_) (l := [11, 3, 2, 1]) rfl (by kernel_rfl) (by kernel_rfl) (by kernel_rfl) (by kernel_rfl) (by kernel_rfl) (by rfl) (fun _ _ _ h => h) (Or.inl ⟨by rfl, ?_⟩) hS ?_
                    rotate_left
                    · intro wy hSy
                      obtain ⟨m1, m3⟩ := hSy
                      go_simp
                      try with_reducible rfl
                    try simp only [Act.put, List.setIfInBounds_toArray, List.set_cons_zero, List.set_cons_succ]
                    refine wpTill_takeL (i := 4) (v := ?_) (l := [11, 6, 5, 4]) rfl (by kernel_rfl) (by kernel_rfl) (by kernel_rfl) (by kernel_rfl) (by kernel_rfl) (by rfl) (fun _ _ _ h => h) (Or.inl ⟨by rfl, ?_⟩) hS ?_
                    rotate_left
                    · intro wy hSy
                      obtain ⟨m1, m3⟩ := hSy
                      go_simp
                      try with_reducible rfl
                    try simp only [Act.put, List.setIfInBounds_toArray, List.set_cons_zero, List.set_cons_succ]
                    refine wpTill_takeL (i := 5) (v := ?_) (l := [11, 6, 5]) rfl (by kernel_rfl) (by kernel_rfl) (by kernel_rfl) (by kernel_rfl) (by kernel_rfl) (by rfl) (fun _ _ _ h => h) (Or.inl ⟨by rfl, ?_⟩) hS ?_
                    rotate_left
                    · intro wy hSy
                      obtain ⟨m1, m3⟩ := hSy
                      go_simp
                      try with_reducible rfl
                    try simp only [Act.put, List.setIfInBounds_toArray, List.set_cons_zero, List.set_cons_succ]
                    refine wpTill_takeL (i := 6) (v := ?_) (l := [11, 6]) rfl (by kernel_rfl) (by kernel_rfl) (by kernel_rfl) (by kernel_rfl) (by kernel_rfl) (by rfl) (fun _ _ _ h => h) (Or.inl ⟨by rfl, ?_⟩) hS ?_
                    rotate_left
                    · intro wy hSy
                      obtain ⟨m1, m3⟩ := hSy
                      go_simp
                      try with_reducible rfl
                    try simp only [Act.put, List.setIfInBounds_toArray, List.set_cons_zero, List.set_cons_succ]
                    refine wpTill_takeL (i := 7) (v := ?_) (l := [11, 10, 9, 8, 7]) rfl (by kernel_rfl) (by kernel_rfl) (by kernel_rfl) (by kernel_rfl) (by kernel_rfl) (by rfl) (fun _ _ _ h => h) (Or.inl ⟨by rfl, ?_⟩) hS ?_
                    rotate_left
                    · intro wy hSy
                      obtain ⟨m1, m3⟩ := hSy
                      go_simp
                      try with_reducible rfl
                    try simp only [Act.put, List.setIfInBounds_toArray, List.set_cons_zero, List.set_cons_succ]
                    refine wpTill_takeL (i := 8) (v := ?_) (l := [11, 10, 9, 8]) rfl (by kernel_rfl) (by kernel_rfl) (by kernel_rfl) (by kernel_rfl) (by kernel_rfl) (by rfl) (fun _ _ _ h => h) (Or.inl ⟨by rfl, ?_⟩) hS ?_
                    rotate_left
                    · intro wy hSy
                      obtain ⟨m1, m3⟩ := hSy
                      go_simp
                      try with_reducible rfl
                    try simp only [Act.put, List.setIfInBounds_toArray, List.set_cons_zero, List.set_cons_succ]
                    refine wpTill_takeL (i := 9) (v := ?_) (l := [11, 10, 9]) rfl (by kernel_rfl) (by kernel_rfl) (by kernel_rfl) (by kernel_rfl) (by kernel_rfl) (by rfl) (fun _ _ _ h => h) (Or.inl ⟨by rfl, ?_⟩) hS ?_
                    rotate_left
                    · intro wy hSy
                      obtain ⟨m1, m3⟩ := hSy
                      go_simp
                      try with_reducible rfl
                    try simp only [Act.put, List.setIfInBounds_toArray, List.set_cons_zero, List.set_cons_succ]
                    refine wpTill_ready (rs := [2, 10]) (by kernel_rfl) (by simp) (AllTill.consL rfl (fun K hK => ?_) (AllTill.consL rfl (fun K hK => ?_) AllTill.nil))
                    · go_simp
                      refine hK.out _ _ (fun _ => by with_reducible first | exact (GG.out.b1 rfl).drew.ms | exact (GG.out.b2 rfl).drew.ms | exact ((GG.out.b1 rfl).b2 (asz _ _)).drew.ms | exact ((GG.out.b2 rfl).b1 (asz _ _)).drew.ms | exact (GG.out.b1 rfl).ms | exact (GG.out.b2 rfl).ms | exact GG.out.ms) ?_
                      clear hK K
                      refine wpTill_ready (rs := [3, 10]) (by kernel_rfl) (by simp) (AllTill.consL rfl (fun K hK => ?_) (AllTill.consL rfl (fun K hK => ?_) AllTill.nil))
                      · refine stepG rfl (.tmp 197) (.tmp 199) 31 rfl 3 (.int .i64 0) 1 8 Tryd.underlying31 Tryd.infoIntP rfl (by with_reducible first | exact (GG.out.b1 rfl).drew | exact ((GG.out.b1 rfl).b2 (asz _ _)).drew | exact ((GG.out.b2 rfl).b1 (asz _ _)).drew | exact GG.out | exact (GG.out.b1 rfl) | fail) rfl rfl rfl (by simp [Value.oneCell']) b63.out bby.out ?_
                        intro ao1 cap1 w9 GG
                        refine hK.out _ _ (fun _ => GG.out.ms) ?_
                        clear hK K
                        try simp only [Act.put, List.setIfInBounds_toArray, List.set_cons_zero, List.set_cons_succ]
                        refine wpTill_ready (rs := [10]) (by kernel_rfl) (by simp) (AllTill.consL rfl (fun K hK => ?_) AllTill.nil)
                        go_simp
                        refine hK.out _ _ (fun _ => by with_reducible first | exact (GG.out.b1 rfl).drew.ms | exact (GG.out.b2 rfl).drew.ms | exact ((GG.out.b1 rfl).b2 (asz _ _)).drew.ms | exact ((GG.out.b2 rfl).b1 (asz _ _)).drew.ms | exact (GG.out.b1 rfl).ms | exact (GG.out.b2 rfl).ms | exact GG.out.ms) ?_
                        clear hK K
                        refine wpTill_ready (rs := [11]) (by kernel_rfl) (by simp) (AllTill.consL rfl (fun K hK => ?_) AllTill.nil)
                        refine stepG rfl (.tmp 203) (.tmp 207) 22 rfl 2 (.int .i64 0) 1 8 Tryd.underlying22 Tryd.info2 rfl (by with_reducible first | exact (GG.out.b2 rfl).drew.swap | exact ((GG.out.b1 rfl).b2 (asz _ _)).drew.swap | exact ((GG.out.b2 rfl).b1 (asz _ _)).drew.swap | exact GG.out.swap | exact (GG.out.b2 rfl).swap | fail) rfl rfl rfl (by simp [Value.oneCell']) b63.out bby.out ?_
                        intro ao2 cap2 w9 GG'
                        have GG := Lib.hid GG'.out.swap
                        clear GG'
                        refine hK.out _ _ (fun _ => GG.out.ms) ?_
                        clear hK K
                        try simp only [Act.put, List.setIfInBounds_toArray, List.set_cons_zero, List.set_cons_succ]
                        refine wpTill_takeL (i := 12) (v := ?_) (l := [12]) rfl (by kernel_rfl) (by kernel_rfl) (by kernel_rfl) (by kernel_rfl) (by kernel_rfl) (by rfl) (fun _ _ _ h => h) (Or.inl ⟨by rfl, ?_⟩) GG.out.ms ?_
                        rotate_left
                        · intro wy hSy
                          obtain ⟨m1, m3⟩ := hSy
                          go_simp
                          try with_reducible rfl
                        try simp only [Act.put, List.setIfInBounds_toArray, List.set_cons_zero, List.set_cons_succ]
                        refine wpTill_takeL (i := 13) (v := ?_) (l := [14, 13]) rfl (by kernel_rfl) (by kernel_rfl) (by kernel_rfl) (by kernel_rfl) (by kernel_rfl) (by rfl) (fun _ _ _ h => h) (Or.inl ⟨by rfl, ?_⟩) GG.out.ms ?_
                        rotate_left
                        · intro wy hSy
                          obtain ⟨m1, m3⟩ := hSy
                          go_simp
                          try with_reducible rfl
                        try simp only [Act.put, List.setIfInBounds_toArray, List.set_cons_zero, List.set_cons_succ]
                        refine wpTill_takeL (i := 14) (v := ?_) (l := [14]) rfl (by kernel_rfl) (by kernel_rfl) (by kernel_rfl) (by kernel_rfl) (by kernel_rfl) (by rfl) (fun _ _ _ h => h) (Or.inl ⟨by rfl, ?_⟩) GG.out.ms ?_
                        rotate_left
                        · intro wy hSy
                          obtain ⟨m1, m3⟩ := hSy
                          go_simp
                          try with_reducible rfl
                        try simp only [Act.put, List.setIfInBounds_toArray, List.set_cons_zero, List.set_cons_succ]
                        refine wpTill_ready (rs := [15]) (by kernel_rfl) (by simp) (AllTill.consL rfl (fun K hK => ?_) AllTill.nil)
                        obtain ⟨m1, m3, f3, lm⟩ := GG.out.m
                        go_simp
                        refine hK.out _ _ (fun h => absurd rfl h) ?_
                        clear hK K
                        refine wpTill_done (by kernel_rfl) ?_ _
                        go_wp2
                        go_meet
                        exact ⟨_, _, _, _, rfl, Lib.hid (GG.out.st (i := 3) (v := .slice ao2 (k + 1) cap2))⟩
                      · go_simp
                        refine hK.out _ _ (fun _ => by with_reducible first | exact (GG.out.b1 rfl).drew.ms | exact (GG.out.b2 rfl).drew.ms | exact ((GG.out.b1 rfl).b2 (asz _ _)).drew.ms | exact ((GG.out.b2 rfl).b1 (asz _ _)).drew.ms | exact (GG.out.b1 rfl).ms | exact (GG.out.b2 rfl).ms | exact GG.out.ms) ?_
                        clear hK K
                        refine wpTill_ready (rs := [3]) (by kernel_rfl) (by simp) (AllTill.consL rfl (fun K hK => ?_) AllTill.nil)
                        refine stepG rfl (.tmp 197) (.tmp 199) 31 rfl 3 (.int .i64 0) 1 8 Tryd.underlying31 Tryd.infoIntP rfl (by with_reducible first | exact (GG.out.b1 rfl).drew | exact ((GG.out.b1 rfl).b2 (asz _ _)).drew | exact ((GG.out.b2 rfl).b1 (asz _ _)).drew | exact GG.out | exact (GG.out.b1 rfl) | fail) rfl rfl rfl (by simp [Value.oneCell']) b63.out bby.out ?_
                        intro ao1 cap1 w9 GG
                        refine hK.out _ _ (fun _ => GG.out.ms) ?_
                        clear hK K
                        try simp only [Act.put, List.setIfInBounds_toArray, List.set_cons_zero, List.set_cons_succ]
                        refine wpTill_ready (rs := [11]) (by kernel_rfl) (by simp) (AllTill.consL rfl (fun K hK => ?_) AllTill.nil)
                        refine stepG rfl (.tmp 203) (.tmp 207) 22 rfl 2 (.int .i64 0) 1 8 Tryd.underlying22 Tryd.info2 rfl (by with_reducible first | exact (GG.out.b2 rfl).drew.swap | exact ((GG.out.b1 rfl).b2 (asz _ _)).drew.swap | exact ((GG.out.b2 rfl).b1 (asz _ _)).drew.swap | exact GG.out.swap | exact (GG.out.b2 rfl).swap | fail) rfl rfl rfl (by simp [Value.oneCell']) b63.out bby.out ?_
                        intro ao2 cap2 w9 GG'
                        have GG := Lib.hid GG'.out.swap
                        clear GG'
                        refine hK.out _ _ (fun _ => GG.out.ms) ?_
                        clear hK K
                        try simp only [Act.put, List.setIfInBounds_toArray, List.set_cons_zero, List.set_cons_succ]
                        refine wpTill_takeL (i := 12) (v := ?_) (l := [12]) rfl (by kernel_rfl) (by kernel_rfl) (by kernel_rfl) (by kernel_rfl) (by kernel_rfl) (by rfl) (fun _ _ _ h => h) (Or.inl ⟨by rfl, ?_⟩) GG.out.ms ?_
                        rotate_left
                        · intro wy hSy
                          obtain ⟨m1, m3⟩ := hSy
                          go_simp
                          try with_reducible rfl
                        try simp only [Act.put, List.setIfInBounds_toArray, List.set_cons_zero, List.set_cons_succ]
                        refine wpTill_takeL (i := 13) (v := ?_) (l := [14, 13]) rfl (by kernel_rfl) (by kernel_rfl) (by kernel_rfl) (by kernel_rfl) (by kernel_rfl) (by rfl) (fun _ _ _ h => h) (Or.inl ⟨by rfl, ?_⟩) GG.out.ms ?_
                        rotate_left
                        · intro wy hSy
                          obtain ⟨m1, m3⟩ := hSy
                          go_simp
                          try with_reducible rfl
                        try simp only [Act.put, List.setIfInBounds_toArray, List.set_cons_zero, List.set_cons_succ]
                        refine wpTill_takeL (i := 14) (v := ?_) (l := [14]) rfl (by kernel_rfl) (by kernel_rfl) (by kernel_rfl) (by kernel_rfl) (by kernel_rfl) (by rfl) (fun _ _ _ h => h) (Or.inl ⟨by rfl, ?_⟩) GG.out.ms ?_
                        rotate_left
                        · intro wy hSy
                          obtain ⟨m1, m3⟩ := hSy
                          go_simp
                          try with_reducible rfl
                        try simp only [Act.put, List.setIfInBounds_toArray, List.set_cons_zero, List.set_cons_succ]
                        refine wpTill_ready (rs := [15]) (by kernel_rfl) (by simp) (AllTill.consL rfl (fun K hK => ?_) AllTill.nil)
                        obtain ⟨m1, m3, f3, lm⟩ := GG.out.m
                        go_simp
                        refine hK.out _ _ (fun h => absurd rfl h) ?_
                        clear hK K
                        refine wpTill_done (by kernel_rfl) ?_ _
                        go_wp2
                        go_meet
                        exact ⟨_, _, _, _, rfl, Lib.hid (GG.out.st (i := 3) (v := .slice ao2 (k + 1) cap2))⟩
                    · go_simp
                      refine hK.out _ _ (fun _ => by with_reducible first | exact (GG.out.b1 rfl).drew.ms | exact (GG.out.b2 rfl).drew.ms | exact ((GG.out.b1 rfl).b2 (asz _ _)).drew.ms | exact ((GG.out.b2 rfl).b1 (asz _ _)).drew.ms | exact (GG.out.b1 rfl).ms | exact (GG.out.b2 rfl).ms | exact GG.out.ms) ?_
                      clear hK K
                      refine wpTill_ready (rs := [2]) (by kernel_rfl) (by simp) (AllTill.consL rfl (fun K hK => ?_) AllTill.nil)
                      go_simp
                      refine hK.out _ _ (fun _ => by with_reducible first | exact (GG.out.b1 rfl).drew.ms | exact (GG.out.b2 rfl).drew.ms | exact ((GG.out.b1 rfl).b2 (asz _ _)).drew.ms | exact ((GG.out.b2 rfl).b1 (asz _ _)).drew.ms | exact (GG.out.b1 rfl).ms | exact (GG.out.b2 rfl).ms | exact GG.out.ms) ?_
                      clear hK K
                      refine wpTill_ready (rs := [3]) (by kernel_rfl) (by simp) (AllTill.consL rfl (fun K hK => ?_) AllTill.nil)
                      refine stepG rfl (.tmp 197) (.tmp 199) 31 rfl 3 (.int .i64 0) 1 8 Tryd.underlying31 Tryd.infoIntP rfl (by with_reducible first | exact (GG.out.b1 rfl).drew | exact ((GG.out.b1 rfl).b2 (asz _ _)).drew | exact ((GG.out.b2 rfl).b1 (asz _ _)).drew | exact GG.out | exact (GG.out.b1 rfl) | fail) rfl rfl rfl (by simp [Value.oneCell']) b63.out bby.out ?_
                      intro ao1 cap1 w9 GG
                      refine hK.out _ _ (fun _ => GG.out.ms) ?_
                      clear hK K
                      try simp only [Act.put, List.setIfInBounds_toArray, List.set_cons_zero, List.set_cons_succ]
                      refine wpTill_ready (rs := [11]) (by kernel_rfl) (by simp) (AllTill.consL rfl (fun K hK => ?_) AllTill.nil)
                      refine stepG rfl (.tmp 203) (.tmp 207) 22 rfl 2 (.int .i64 0) 1 8 Tryd.underlying22 Tryd.info2 rfl (by with_reducible first | exact (GG.out.b2 rfl).drew.swap | exact ((GG.out.b1 rfl).b2 (asz _ _)).drew.swap | exact ((GG.out.b2 rfl).b1 (asz _ _)).drew.swap | exact GG.out.swap | exact (GG.out.b2 rfl).swap | fail) rfl rfl rfl (by simp [Value.oneCell']) b63.out bby.out ?_
                      intro ao2 cap2 w9 GG'
                      have GG := Lib.hid GG'.out.swap
                      clear GG'
                      refine hK.out _ _ (fun _ => GG.out.ms) ?_
                      clear hK K
                      try simp only [Act.put, List.setIfInBounds_toArray, List.set_cons_zero, List.set_cons_succ]
                      refine wpTill_takeL (i := 12) (v := ?_) (l := [12]) rfl (by kernel_rfl) (by kernel_rfl) (by kernel_rfl) (by kernel_rfl) (by kernel_rfl) (by rfl) (fun _ _ _ h => h) (Or.inl ⟨by rfl, ?_⟩) GG.out.ms ?_
                      rotate_left
                      · intro wy hSy
                        obtain ⟨m1, m3⟩ := hSy
                        go_simp
                        try with_reducible rfl
                      try simp only [Act.put, List.setIfInBounds_toArray, List.set_cons_zero, List.set_cons_succ]
                      refine wpTill_takeL (i := 13) (v := ?_) (l := [14, 13]) rfl (by kernel_rfl) (by kernel_rfl) (by kernel_rfl) (by kernel_rfl) (by kernel_rfl) (by rfl) (fun _ _ _ h => h) (Or.inl ⟨by rfl, ?_⟩) GG.out.ms ?_
                      rotate_left
                      · intro wy hSy
                        obtain ⟨m1, m3⟩ := hSy
                        go_simp
                        try with_reducible rfl
                      try simp only [Act.put, List.setIfInBounds_toArray, List.set_cons_zero, List.set_cons_succ]
                      refine wpTill_takeL (i := 14) (v := ?_) (l := [14]) rfl (by kernel_rfl) (by kernel_rfl) (by kernel_rfl) (by kernel_rfl) (by kernel_rfl) (by rfl) (fun _ _ _ h => h) (Or.inl ⟨by rfl, ?_⟩) GG.out.ms ?_
                      rotate_left
                      · intro wy hSy
                        obtain ⟨m1, m3⟩ := hSy
                        go_simp
                        try with_reducible rfl
                      try simp only [Act.put, List.setIfInBounds_toArray, List.set_cons_zero, List.set_cons_succ]
                      refine wpTill_ready (rs := [15]) (by kernel_rfl) (by simp) (AllTill.consL rfl (fun K hK => ?_) AllTill.nil)
                      obtain ⟨m1, m3, f3, lm⟩ := GG.out.m
                      go_simp
                      refine hK.out _ _ (fun h => absurd rfl h) ?_
                      clear hK K
                      refine wpTill_done (by kernel_rfl) ?_ _
                      go_wp2
                      go_meet
                      exact ⟨_, _, _, _, rfl, Lib.hid (GG.out.st (i := 3) (v := .slice ao2 (k + 1) cap2))⟩
                  case rest =>
                    obtain ⟨ao1, cap1, ao2, cap2, rfl, GE⟩ := hcut
                    obtain ⟨ce, le, PE, RE, ME⟩ := more_end P.out KL.out HZ.out.1 HZ.out.2 CN.out R8.out IN8.out GE.out
                    clear GE GG R8 IN8 m1 m3 f3 lm
                    refine hK9 _ _ ?_
                    clear hK9 K9
                    go_wp2
                    go_meet
                    exact ⟨_, k + 1, le, shown, _, _, _, _, so, scap, rfl, HS2, PE, RE, ME⟩
                · have kk : decide ((20 : Int) ≤ (k : Int)) = true := by simp; omega
                  clear hk
                  go_wp2
                  go_roundw
                  case rel => exact ⟨c6, j + 1, k, lb, shown, io, icap, go, gcap, so, scap, rfl, by go_num, Lib.hid Hlt.out, HS2, P, R6, M6⟩
                  case measure => exact pl_meas m j Hlt.out (Nat.le_trans (Nat.le_of_lt J80.out) (by decide))
              · skip
                have k0 : (kd == 0) = false := by simpa using h0
                have k1 : (kd == 1) = false := by simpa using h1
                have k2 : (kd == 2) = false := by simpa using h2
                have k3 : (kd == 3) = false := by simpa using h3
                clear h0 h1 h2 h3
                go_wp2
                go_meet
                exact ⟨_, k, lb, shown, io, icap, go, gcap, so, scap, rfl, HS2, P, R6, M6⟩
        case rest =>
          obtain ⟨c8, k8, ln, sw, io8, icap8, go8, gcap8, so8, scap8, rfl, NS, PN, RN, MN⟩ := hcut
          clear R6 M6 X6 P Hs q0 q1 q2 q3 lxb
          as_aux_lemma =>
          obtain ⟨d, hd⟩ : ∃ d, roomOf (2 ^ sh) (ln.getD 0 0) ((ln.drop N).foldl min (ln.getD 0 0)) = d := ⟨_, rfl⟩
          have HD := Lib.hid hd
          clear hd
          go_wp2_with fail
          refine (RN.out.remain PN.out.ok).mono ?_
          rintro e wt ⟨rfl, ct, tt, rt⟩
          rw [gids_vals PN.out.len, HD.out]
          have RT := Lib.hid rt
          have MT := Lib.hid (MN.out.stp tt (by decide) (by decide) (by decide) (by decide))
          clear tt rt
          obtain ⟨⟨m0, m1, m2, m3, m4, m5, m6⟩, -, lm⟩ := MT.out.xs
          go_upto_region 40 with fail
          go_region_held3 (fun w' => w'.cell? ⟨x9, 0, none⟩ = some (.int .i64 (2 ^ sh)) ∧ w'.cell? ⟨x9, 1, none⟩ = some (.int .i64 (ln.getD 0 0)) ∧ w'.cell? ⟨x9, 2, none⟩ = some (.int .i64 (ln.getD 0 0)) ∧ w'.cell? ⟨x9, 3, none⟩ = some (.slice go8 k8 gcap8) ∧ w'.cell? ⟨x9, 4, none⟩ = some (.int .i64 (ln.getD 1 0)) ∧ w'.cell? ⟨x9, 5, none⟩ = some (.int .i64 0))
            (first | exact ⟨by assumption, by assumption, by assumption, by assumption, by assumption, by assumption⟩ | go_keep)
            (first
              | (go_at_call 57; refine (MB.rremain (by first | exact MT.out | exact MT.out.stpF (Stp.refl (fun _ => False) _ _).drew | exact MT.out.stpF ((Stp.refl (fun _ => False) _ _).drewN _)) (by exact PN.out) (by exact HD.out)).mono ?_; rintro e wu ⟨rfl, cu, tu⟩; have RU := Lib.hid (RT.out.stpF (by first | exact tu | exact (Stp.refl (fun _ => False) _ _).drew.trans tu | exact ((Stp.refl (fun _ => False) _ _).drewN _).trans tu)); have MU := Lib.hid (MT.out.stpF (by first | exact tu | exact (Stp.refl (fun _ => False) _ _).drew.trans tu | exact ((Stp.refl (fun _ => False) _ _).drewN _).trans tu)); clear tu; obtain ⟨⟨m0, m1, m2, m3, m4, m5, m6⟩, -, lm⟩ := MU.out.xs)
              | (go_at_call 43; refine (LAt.claimed (by first | exact RU.out | exact RU.out.stpF (Stp.refl (fun _ => False) _ _).drew | exact RU.out.stpF ((Stp.refl (fun _ => False) _ _).drewN _)) (by exact PN.out.ok)).mono ?_; rintro e wv ⟨rfl, cv, tv, rv⟩; have RV := Lib.hid rv; have MV := Lib.hid (MB.stp (by first | exact MU.out | exact MU.out.stpF (Stp.refl (fun _ => False) _ _).drew | exact MU.out.stpF ((Stp.refl (fun _ => False) _ _).drewN _)) tv (by decide) (by decide) (by decide) (by decide)); clear tv rv; obtain ⟨⟨m0, m1, m2, m3, m4, m5, m6⟩, -, lm⟩ := MV.out.xs))
          go_wp2
          go_roundw
          case rel => exact ⟨cv, j + 1, k8, ln, sw, io8, icap8, go8, gcap8, so8, scap8, rfl, by go_num, Lib.hid Hlt.out, NS, PN, RV, MV⟩
          case measure => exact pl_meas m j Hlt.out (Nat.le_trans (Nat.le_of_lt J80.out) (by decide))
    · have hjn : j = m := by have := Hj.out; omega
      as_aux_lemma =>
      subst hjn
      clear hlt
      have HT := Lib.hid (R.out.tab Ht.out)
      by_cases hl : lo < 0
      · have kl : decide (lo < 0) = true := by simpa using hl
        have HL := Lib.hid hl
        clear hl
        go_wp2_with fail
        refine (mhigh_low R.out.ar R.out.sq P.out.ok.sq.cu rfl lo HL.out).mono ?_
        rintro e w7 ⟨ev, rfl, c7, t7, a7, s7, e7⟩
        have R7 := Lib.hid (show LAt w p q bp gp sh lb (gids N k) c7 w7 from ⟨R.out.st.trans (t7.up (by decide)), a7, s7⟩)
        have E7 := Lib.hid e7
        obtain ⟨tt, vv, rfl⟩ := E7.out.iface'
        clear t7 a7 s7 e7
        go_wp2_with fail
        have HT7 := Lib.hid (R7.out.tab Ht.out)
        refine (awake10k 20 (by decide) c7 _ HT7.out.1 HT7.out.2).mono ?_
        rintro e w8 ⟨rfl, c8, t8⟩
        have S8 := Lib.hid (R7.out.st.trans (Stp.mono t8 (J' := (2 ≤ ·)) (fun _ h => by omega)))
        have E8 := Lib.hid (E7.out.stp t8 (by decide))
        clear t8
        go_wp2_with fail
        refine (is_errat E8.out (by decide) 5).mono ?_
        rintro e wx ⟨rfl, rfl⟩
        go_wp2
        go_ret
        exact ⟨by first | rfl | simp, S8.out.fin⟩
      · have kl : decide (lo < 0) = false := by simpa using hl
        have HL := Lib.hid (show 0 ≤ lo ∧ lo ≤ 4611686018427387904 from ⟨by omega, by have := Hlo.out; omega⟩)
        clear hl
        go_wp2_with fail
        refine (mhigh_ok R.out.ar R.out.sq P.out.ok.sq.cu rfl lo (by have := P.out.len; have := P.out.hN; simp only; omega) HL.out.1 HL.out.2 P.out.cu.2 (by have := P.out.cu; simp only; omega)).mono ?_
        rintro e w7 ⟨x, rfl, hx, c7, t7, a7, s7⟩
        have R7 := Lib.hid (show LAt w p q bp gp sh lb (gids N k) c7 w7 from ⟨R.out.st.trans (t7.up (by decide)), a7, s7⟩)
        have M7 := Lib.hid (M.out.stp t7 (by decide) (by decide) (by decide) (by decide))
        have HX := Lib.hid hx
        clear t7 a7 s7 hx
        go_wp2_with fail
        have HT7 := Lib.hid (R7.out.tab Ht.out)
        refine (awake10k 20 (by decide) c7 _ HT7.out.1 HT7.out.2).mono ?_
        rintro e w8 ⟨rfl, c8, t8⟩
        have S8 := Lib.hid (R7.out.st.trans (Stp.mono t8 (J' := (2 ≤ ·)) (fun _ h => by omega)))
        have M8 := Lib.hid (M7.out.stp t8 (by decide) (by decide) (by decide) (by decide))
        clear t8
        obtain ⟨⟨m0, m1, m2, m3, m4, m5, m6⟩, -, lm⟩ := M8.out.xs
        go_wp2_with fail
        refine (r07high_any M8.out.sr (2 ^ sh) lo (lb.getD 0 0) P.out.sp HL.out.1 HL.out.2 P.out.cu.2 (by have := P.out.cu; omega) P.out.pw.1).mono ?_
        rintro e w9 ⟨y, rfl, hy1, hy2, hy3, hy4, t9⟩
        have S9 := Lib.hid (S8.out.trans (t9.mono (fun _ h => h.elim)))
        have hz : HiAt lb 2 sh lo (lb.getD 0 0) y := ⟨hy1, hy2, fun s a b => by rw [P.out.sa s (by have := HL.out; omega)]; exact hy3 s a b, fun h => by rw [P.out.sa _ (by have := HL.out; omega)]; exact hy4 h⟩
        obtain rfl : x = y := HX.out.uniq hz
        clear hz
        clear t9 hy1 hy2 hy3 hy4
        go_wp2
        go_ret
        exact ⟨by first | rfl | simp, S9.out.fin⟩
end Go.Proofs.YtoifknfmamcimaaDoor
