/- Contracts that the closing theorem wants (End). No condition beyond each law's own. -/
import Derived.Test.YtiphdedfbafhkaaGreatDoorZLw6
import Derived.Deep.LoopGhost
import Derived.Test.YtiphdedfbafhkaaGreatDoorZDq1
import Derived.Test.YtiphdedfbafhkaaGreatDoorZDr1
import Derived.Test.YtiphdedfbafhkaaGreatDoorZLw5
import Derived.Test.YtiphdedfbafhkaaGreatDoorZRgA
import Derived.Test.YtiphdedfbafhkaaGreatDoorZBB
namespace Go.Proofs.YtiphdedfbafhkaaGreatDoor
open Go.RowKit

section
variable {c c' : Nat → Nat} {w w' : World} {k r p ar ck tb tp : Nat} {la : List Int} {now : Int} {tl dl : List Tm} {l : List One} {D : List RD} {ao : Option Addr} {cap : Nat} {ro : Option Addr} {rcap : Nat} {R : List DR}
theorem JW.sa1 (h : JW c w k r p ar ck tb tp la now tl dl l D ao cap ro rcap R) : ∃ lo lcap sa sc, SA1 p tp now lo tl.length lcap ro D.length rcap sa l.length sc w := by
  obtain ⟨lo, lcap, sa, ta, wa, sc, tc, wc, p0, p1, p2, p4, lp, t0, t1, lt, ht⟩ := h.doc.wd.all
  have e1 : tl.length = dl.length := by rw [h.law.ts, srt_len]
  exact ⟨lo, lcap, sa, sc, p0, by rw [e1]; exact p1, p2, by rw [← h.law.len]; exact p4, t0⟩
theorem JW.sa6 (h : JW c w k r p ar ck tb tp la now tl dl l D ao cap ro rcap R) {j : Nat} {x : One} (hj : l[j]? = some x) : ∃ sa ta sc tc, SA6 p tp sa ta l.length sc tc j x.state x.token w := by
  obtain ⟨lo, lcap, sa, ta, wa, sc, tc, wc, p0, p1, p2, p4, lp, t0, t1, lt, ht⟩ := h.doc.wd.all
  obtain ⟨a1, h1, -, z1, -⟩ := ht.rs.cell (j := j) (v := .int .i64 x.state) (by simp [hj, stOf])
  obtain ⟨a2, h2, -, z2, -⟩ := ht.rt.cell (j := j) (v := .bool x.token) (by simp [hj, tkOf])
  subst h1
  subst h2
  exact ⟨a1, a2, sc, tc, p2, t0, t1, z1, z2⟩
theorem size_pos (d : RD) : 1 ≤ d.size := by
  unfold RD.size
  have := Nat.two_pow_pos d.sh
  by_cases h : d.many = true
  · rw [if_pos h]; omega
  · rw [if_neg h]; omega
set_option maxRecDepth 100000 in
set_option maxHeartbeats 8000000 in
theorem alike14 (h : JW c w k r p ar ck tb tp la now tl dl l D ao cap ro rcap R) :
    Calls Tryz.prog 49 #[.pointer (some ⟨r, 0, none⟩), .pointer (some ⟨p, 0, none⟩)] w fun e w' => e = .returned (.bool true) ∧ ∃ c', Stp (3 ≤ ·) c c' w w' ∧ JE c' w' k r p := by
  have H0 := Lib.hid h
  have HL := Lib.hid h.law
  clear h
  obtain ⟨N, hN⟩ : ∃ N, N = l.length := ⟨_, rfl⟩
  have HN := Lib.hid hN
  obtain ⟨M, hM⟩ : ∃ M, M = R.length := ⟨_, rfl⟩
  have HM := Lib.hid hM
  have HB := Lib.hid (show N ≤ 64 ∧ M ≤ 8 by have := HL.out.l64; have := HL.out.d8; have := HL.out.len; omega)
  clear hN hM
  go_enter Tryz.func49, Tryz.ntmps49
  go_wp2
  obtain ⟨lo, lcap, sa, sc, hsa⟩ := (H0.out.stpF ((Stp.refl (fun _ => False) c w).drew)).sa1
  refine Tryz.ral1 H0 (Lib.hid hsa) ?_
  clear hsa
  intro c1 w1 g0 g1 g2 g3 g4 g5 g6 g7 g8 g9 g10 g11 g12 g13 g14 g15 g16 g17 g18 g19 g20 g21 g22 g23 g24 g25 g26 g27 g28 g29 g30 g31 g32 g33 g34 g35 g36 g37 g38 g39 g40 g41 g42 g43 t1
  have H1 := Lib.hid (H0.out.stpF t1.out)
  have T1 := Lib.hid (t1.out.mono (J' := (3 ≤ ·)) (fun _ h => h.elim))
  clear t1 H0
  obtain ⟨lo2, lcap2, sa2, sc2, p0, p1, p2, p4, t0⟩ := H1.out.sa1
  rw [← HN.out] at t0
  have lp := H1.out.doc.r4.2
  go_wp2
  clear p0 p1 p2 p4 t0 lp
  go_loopg [62] N (fun gh iv wr => ∃ (j : Nat) (c2 : Nat → Nat), iv = .int .i64 j ∧ j + gh = N ∧ Hid (JW c2 wr k r p ar ck tb tp la now tl dl l D ao cap ro rcap R) ∧ Hid (Stp (3 ≤ ·) c c2 w wr))
  case atStart => exact ⟨0, c1, rfl, by omega, H1, T1⟩
  case round =>
    obtain ⟨j, c2, rfl, hj, J2, T2⟩ := hrel
    clear H1 T1
    by_cases hlt : j < N
    · have HJ := Lib.hid (show j + 1 + (gk - 1) = N ∧ gk - 1 < gk by omega)
      have hjl : j < l.length := by rw [← HN.out]; exact hlt
      have HX := Lib.hid (List.getElem?_eq_getElem hjl)
      have hj9 : j ≤ 64 := by have := HB.out; omega
      obtain ⟨sa3, ta3, sc3, tc3, h6⟩ := (J2.out.stpF ((Stp.refl (fun _ => False) c2 wr).drew)).sa6 HX.out
      have H6 := Lib.hid h6
      clear h6 hj
      go_wp2_with fail
      refine Tryz.ral6 J2 HX (by omega) (by omega) H6 ?_
      intro c3 w3 g0 g1 g2 g3 g4 g5 g6 g7 g8 g9 g10 g11 g12 g13 g14 g15 g16 g17 g18 g19 g20 g21 g22 g23 g24 g25 g26 g27 g28 g29 g30 t3
      have J3 := Lib.hid (J2.out.stpF t3.out)
      have T3 := Lib.hid (T2.out.trans (t3.out.mono (fun _ h => h.elim)))
      clear t3 J2 T2 H6 HX hjl
      go_wp2
      go_roundg (gk - 1)
      case rel => exact ⟨j + 1, c3, by go_num, HJ.out.1, J3, T3⟩
      case measure => exact HJ.out.2
    · have g4 : decide ((j : Int) < (N : Int)) = false := by simp; omega
      clear hj
      obtain ⟨lo3, lcap3, sa3, sc3, p0, p1, p2, p4, t0⟩ := J2.out.sa1
      rw [← HL.out.len, ← HM.out] at p4
      have lp := J2.out.doc.r4.2
      go_wp2
      clear p0 p1 p2 p4 t0 lp
      go_loopg [103] M (fun gh iv wr => ∃ (j : Nat) (c2 : Nat → Nat), iv = .int .i64 j ∧ j + gh = M ∧ Hid (JW c2 wr k r p ar ck tb tp la now tl dl l D ao cap ro rcap R) ∧ Hid (Stp (3 ≤ ·) c c2 w wr))
      case atStart => exact ⟨0, c2, rfl, by omega, J2, T2⟩
      case round =>
        clear J2 T2 hlt g4
        obtain ⟨j, c2, rfl, hj, J2, T2⟩ := hrel
        by_cases hlt : j < M
        · have HJ := Lib.hid (show j + 1 + (gk - 1) = M ∧ gk - 1 < gk by omega)
          obtain ⟨d, e, hd, he, hr⟩ := HL.out.get (show j < D.length by have := HL.out.len; have := HM.out; omega)
          have HD := Lib.hid hd
          have HE := Lib.hid he
          have HR := Lib.hid hr
          have HC := Lib.hid (show d.cur < la.length by
            have := HL.out.fit j d hd
            have := size_pos d
            omega)
          have HV := Lib.hid (show (if e.many = true then e.cl else e.pub) = la.getD d.cur 0 by
            by_cases hm : d.many = true
            · rw [if_pos (hr.many.trans hm), (hr.two hm).1]
            · have hm' : d.many = false := by simpa using hm
              rw [if_neg (by rw [hr.many, hm']; decide), (hr.one hm').2.1])
          have HMN := Lib.hid (show e.many = d.many ∧ e.n = 2 ^ d.sh from ⟨hr.many, by rw [hr.n, pow_cast]⟩)
          have hj9 : j ≤ 8 := by have := HB.out; omega
          clear hj hd he hr
          go_wp2_with fail
          refine (rmarena_c J2.out.code.rm).mono ?_
          rintro e5 w5 ⟨rfl, rfl⟩
          go_wp2_with fail
          refine (rcursor_c J2.out.code HD.out).mono ?_
          rintro e5 w5 ⟨rfl, rfl⟩
          go_wp2_with fail
          refine (load_s J2.out.code.rm.aa d.cur HC.out).mono ?_
          rintro e5 w5 ⟨rfl, c5, t5, a5⟩
          have J5 := Lib.hid ((J2.out.toJH.stepA t5 (fun _ h => h) (J2.out.code.arena t5 a5)).toJW HL.out)
          have T5 := Lib.hid (T2.out.trans (t5.mono (fun j hj => by omega)))
          clear t5 a5 J2 T2
          obtain ⟨a, hro, -⟩ := J5.out.doc.ringA HE.out
          subst hro
          obtain ⟨sp, zs, hsl, hra⟩ := J5.out.sls j d HD.out
          have HSL := Lib.hid hsl
          have HRA := Lib.hid hra
          clear hsl hra
          go_wp2_with fail
          refine Tryz.ral13 J5 HD HE (by omega) (by have := HM.out; omega) HV HSL HRA (Lib.hid (by have := HR.out.sh; omega)) (Lib.hid (by have := HL.out.wlen HD.out; omega)) (Lib.hid HR.out.wl) HMN ?_
          intro c6 w6 g0 g1 g2 g3 g4 g5 g6 g7 g8 g9 g10 g11 g12 g13 g14 g15 g16 g17 g18 g19 g20 g21 g22 g23 g24 g25 g26 g27 g28 g29 g30 g31 g32 g33 g34 g35 g36 g37 g38 g39 g40 g41 g42 g43 g44 g45 g46 g47 g48 g49 g50 g51 g52 t6
          have J6 := Lib.hid (J5.out.stpF t6.out)
          have T6 := Lib.hid (T5.out.trans (t6.out.mono (fun _ h => h.elim)))
          clear t6 J5 T5 HSL HRA
          go_wp2
          go_roundg (gk - 1)
          case rel => exact ⟨j + 1, c6, by go_num, HJ.out.1, J6, T6⟩
          case measure => exact HJ.out.2
        · have g4 : decide ((j : Int) < (M : Int)) = false := by simp; omega
          clear hj
          go_wp2
          go_ret
          exact ⟨rfl, c2, T2.out, J2.out.toJE⟩
end
end Go.Proofs.YtiphdedfbafhkaaGreatDoor

namespace Go.Proofs.YtiphdedfbafhkaaGreatDoor
open Go.RowKit

section
variable {c c' : Nat → Nat} {w w' : World} {k r p : Nat}

set_option maxRecDepth 100000 in
set_option maxHeartbeats 4000000 in
theorem do14_cl0 {ar ck tb tp : Nat} {la : List Int} {now : Int} {tl dl : List Tm} {l : List One} {D : List RD} {ao : Option Addr} {cap : Nat} {ro : Option Addr} {rcap : Nat} {R : List DR} (h : JW c w k r p ar ck tb tp la now tl dl l D ao cap ro rcap R) (_hk : k < 150) (a b at0 hi : Int) (ha : a < 0 ∨ (D.length : Int) ≤ a) :
    Calls Tryz.prog 46 #[.pointer (some ⟨r, 0, none⟩), .pointer (some ⟨p, 0, none⟩), .agg #[.int .i64 8, .int .i64 a, .int .i64 b, .int .i64 at0, .int .i64 hi]] w fun e w' => e = .returned (.bool true) ∧ ∃ c', Stp (1 ≤ ·) c c' w w' ∧ JE c' w' (k + 1) r p := by
  obtain ⟨xb, hxb⟩ : ∃ x, x = w.heap.size := ⟨_, rfl⟩
  obtain ⟨c1, hc1, t1⟩ := ((Stp.refl (fun _ => False) c w).alloc (.cells #[.int .i64 8, .int .i64 a, .int .i64 b, .int .i64 at0, .int .i64 hi] 91) 0).name
  have X1 := Lib.hid (show Blk c1 0 (w.alloc (.cells #[.int .i64 8, .int .i64 a, .int .i64 b, .int .i64 at0, .int .i64 hi] 91)) xb [.int .i64 8, .int .i64 a, .int .i64 b, .int .i64 at0, .int .i64 hi] 91 by rw [hc1.out, hxb]; exact Blk.new c 0 w _ _)
  have H1 := Lib.hid (h.stpF t1.out)
  have S1 := Lib.hid (t1.out.mono (J' := (1 ≤ ·)) (fun _ h => h.elim))
  clear h hc1 t1
  go_enter Tryz.func46, Tryz.ntmps46
  go_upto_region 1 with fail
  rw [← hxb]
  generalize w.alloc (.cells #[.int .i64 8, .int .i64 a, .int .i64 b, .int .i64 at0, .int .i64 hi] 91) = w1 at X1 H1 S1 ⊢
  clear hxb
  obtain ⟨x0, x1, x2, x3, x4, lx⟩ := ro_blk X1.out
  have HC := Lib.hid (claim14_bad (c := c1) a b 3 (by decide) ((rclaim_none (by decide) H1.out.code a b ha).mono (fun e w' ⟨tt, vv, h1, c', t, _, e1⟩ => ⟨tt, vv, h1, c', t, e1⟩)) (fun c2 W hW => r14trynew_none (H1.out.stpF hW).doc a b (by rw [H1.out.law.len]; exact ha)))
  go_wp2_with fail
  refine HC.out.mono ?_
  rintro e w2 ⟨rfl, c2, t2⟩
  have HJ := Lib.hid (H1.out.stpF t2)
  have S2 := Lib.hid (S1.out.trans (t2.mono (fun _ h => h.elim)))
  clear t2 H1 S1 x0 x1 x2 x3 x4 lx
  go_wp2
  go_ret
  exact ⟨rfl, c2, S2.out, ⟨ar, ck, tb, tp, la, now, tl, dl, l, D, ao, cap, ro, rcap, R, { HJ.out with law := HJ.out.law.mono (Nat.le_succ k) }⟩⟩

theorem rclaim_bad2 {ar ck tb tp : Nat} {la : List Int} {now : Int} {tl dl : List Tm} {l : List One} {D : List RD} {ao : Option Addr} {cap : Nat} {ro : Option Addr} {rcap : Nat} {R : List DR} (h : JW c w k r p ar ck tb tp la now tl dl l D ao cap ro rcap R) {i : Nat} {d : RD} {e : DR} (hd : D[i]? = some d) (he : R[i]? = some e) (b : Int) (hb : b < 1 ∨ 2 ^ d.sh < b) :
    Calls Tryz.prog 8 #[.pointer (some ⟨r, 0, none⟩), .int .i64 (i : Int), .int .i64 b] w fun e w' => ∃ tt vv, e = .returned (.tuple #[.agg #[.bool false, .pointer none, .int .i64 0, .slice none 0 0, .int .i64 0, .bool false, .bool false, .bool false, .pointer none, .int .i64 0, .int .i64 0, .int .i64 0, .int .i64 0, .slice none 0 0, .int .i64 0], .iface tt vv]) ∧ ∃ c', Stp (fun _ => False) c c' w w' ∧ ErrAt c' w' (.iface tt vv) 1 := by
  have hsh := (h.law.rings i d e hd he).sh
  by_cases hm : d.many = true
  · refine (rclaim_mbad (by decide) h.code hd hm b hb).mono ?_
    rintro e1 w1 ⟨tt, vv, h1, c1, t1, -, e1⟩
    exact ⟨tt, vv, h1, c1, t1, e1⟩
  · refine (rclaim_sbad (by decide) h.code hd (by simpa using hm) (by omega) b hb).mono ?_
    rintro e1 w1 ⟨tt, vv, h1, c1, t1, -, e1⟩
    exact ⟨tt, vv, h1, c1, t1, e1⟩

set_option maxRecDepth 100000 in
set_option maxHeartbeats 4000000 in
theorem do14_cl1 {ar ck tb tp : Nat} {la : List Int} {now : Int} {tl dl : List Tm} {l : List One} {D : List RD} {ao : Option Addr} {cap : Nat} {ro : Option Addr} {rcap : Nat} {R : List DR} (h : JW c w k r p ar ck tb tp la now tl dl l D ao cap ro rcap R) (_hk : k < 150) (b at0 hi : Int) {i : Nat} {d : RD} {e : DR} (hd : D[i]? = some d) (he : R[i]? = some e) (hb : b < 1 ∨ 2 ^ d.sh < b) :
    Calls Tryz.prog 46 #[.pointer (some ⟨r, 0, none⟩), .pointer (some ⟨p, 0, none⟩), .agg #[.int .i64 8, .int .i64 (i : Int), .int .i64 b, .int .i64 at0, .int .i64 hi]] w fun e w' => e = .returned (.bool true) ∧ ∃ c', Stp (1 ≤ ·) c c' w w' ∧ JE c' w' (k + 1) r p := by
  obtain ⟨xb, hxb⟩ : ∃ x, x = w.heap.size := ⟨_, rfl⟩
  obtain ⟨c1, hc1, t1⟩ := ((Stp.refl (fun _ => False) c w).alloc (.cells #[.int .i64 8, .int .i64 (i : Int), .int .i64 b, .int .i64 at0, .int .i64 hi] 91) 0).name
  have X1 := Lib.hid (show Blk c1 0 (w.alloc (.cells #[.int .i64 8, .int .i64 (i : Int), .int .i64 b, .int .i64 at0, .int .i64 hi] 91)) xb [.int .i64 8, .int .i64 (i : Int), .int .i64 b, .int .i64 at0, .int .i64 hi] 91 by rw [hc1.out, hxb]; exact Blk.new c 0 w _ _)
  have H1 := Lib.hid (h.stpF t1.out)
  have S1 := Lib.hid (t1.out.mono (J' := (1 ≤ ·)) (fun _ h => h.elim))
  clear h hc1 t1
  go_enter Tryz.func46, Tryz.ntmps46
  go_upto_region 1 with fail
  rw [← hxb]
  generalize w.alloc (.cells #[.int .i64 8, .int .i64 (i : Int), .int .i64 b, .int .i64 at0, .int .i64 hi] 91) = w1 at X1 H1 S1 ⊢
  clear hxb
  obtain ⟨x0, x1, x2, x3, x4, lx⟩ := ro_blk X1.out
  have HC := Lib.hid (claim14_bad (c := c1) (i : Int) b 1 (by decide) (rclaim_bad2 H1.out hd he b hb) (fun c2 W hW => r14trynew_arg (H1.out.stpF hW).doc he b (by rw [(H1.out.law.rings i d e hd he).n, pow_cast]; exact hb)))
  go_wp2_with fail
  refine HC.out.mono ?_
  rintro e w2 ⟨rfl, c2, t2⟩
  have HJ := Lib.hid (H1.out.stpF t2)
  have S2 := Lib.hid (S1.out.trans (t2.mono (fun _ h => h.elim)))
  clear t2 H1 S1 x0 x1 x2 x3 x4 lx
  go_wp2
  go_ret
  exact ⟨rfl, c2, S2.out, ⟨ar, ck, tb, tp, la, now, tl, dl, l, D, ao, cap, ro, rcap, R, { HJ.out with law := HJ.out.law.mono (Nat.le_succ k) }⟩⟩

set_option maxRecDepth 100000 in
set_option maxHeartbeats 4000000 in
theorem do14_cl2 {ar ck tb tp : Nat} {la : List Int} {now : Int} {tl dl : List Tm} {l : List One} {D : List RD} {ao : Option Addr} {cap : Nat} {ro : Option Addr} {rcap : Nat} {R : List DR} (h : JW c w k r p ar ck tb tp la now tl dl l D ao cap ro rcap R) (_hk : k < 150) (b at0 hi : Int) {i : Nat} {d : RD} {e : DR} (hd : D[i]? = some d) (he : R[i]? = some e) (hb : 1 ≤ b ∧ b ≤ 2 ^ d.sh) :
    Calls Tryz.prog 46 #[.pointer (some ⟨r, 0, none⟩), .pointer (some ⟨p, 0, none⟩), .agg #[.int .i64 8, .int .i64 (i : Int), .int .i64 b, .int .i64 at0, .int .i64 hi]] w fun e w' => e = .returned (.bool true) ∧ ∃ c', Stp (1 ≤ ·) c c' w w' ∧ JE c' w' (k + 1) r p := by
  obtain ⟨xb, hxb⟩ : ∃ x, x = w.heap.size := ⟨_, rfl⟩
  obtain ⟨c1, hc1, t1⟩ := ((Stp.refl (fun _ => False) c w).alloc (.cells #[.int .i64 8, .int .i64 (i : Int), .int .i64 b, .int .i64 at0, .int .i64 hi] 91) 0).name
  have X1 := Lib.hid (show Blk c1 0 (w.alloc (.cells #[.int .i64 8, .int .i64 (i : Int), .int .i64 b, .int .i64 at0, .int .i64 hi] 91)) xb [.int .i64 8, .int .i64 (i : Int), .int .i64 b, .int .i64 at0, .int .i64 hi] 91 by rw [hc1.out, hxb]; exact Blk.new c 0 w _ _)
  have H1 := Lib.hid (h.stpF t1.out)
  have S1 := Lib.hid (t1.out.mono (J' := (1 ≤ ·)) (fun _ h => h.elim))
  clear h hc1 t1
  go_enter Tryz.func46, Tryz.ntmps46
  go_upto_region 1 with fail
  rw [← hxb]
  generalize w.alloc (.cells #[.int .i64 8, .int .i64 (i : Int), .int .i64 b, .int .i64 at0, .int .i64 hi] 91) = w1 at X1 H1 S1 ⊢
  clear hxb
  obtain ⟨x0, x1, x2, x3, x4, lx⟩ := ro_blk X1.out
  have HC := Lib.hid (claim14_ok H1.out hd he b hb _hk)
  go_wp2_with fail
  refine HC.out.mono ?_
  rintro e w2 ⟨rfl, c2, t2, j2⟩
  have HJ := Lib.hid j2
  have S2 := Lib.hid (S1.out.trans (t2.mono (fun j hj => by omega)))
  clear t2 j2 H1 S1 x0 x1 x2 x3 x4 lx
  go_wp2
  go_ret
  exact ⟨rfl, c2, S2.out, HJ.out⟩

set_option maxRecDepth 100000 in
set_option maxHeartbeats 4000000 in
theorem do14_other (h : JE c w k r p) (kd a b at0 hi : Int) (hkd : kd < 0 ∨ 10 < kd) :
    Calls Tryz.prog 46 #[.pointer (some ⟨r, 0, none⟩), .pointer (some ⟨p, 0, none⟩), .agg #[.int .i64 kd, .int .i64 a, .int .i64 b, .int .i64 at0, .int .i64 hi]] w fun e w' => e = .returned (.bool true) ∧ ∃ c', Stp (1 ≤ ·) c c' w w' ∧ JE c' w' (k + 1) r p := by
  have g0 : (kd == 0) = false := by simp; omega
  have g1 : (kd == 1) = false := by simp; omega
  have g2 : (kd == 2) = false := by simp; omega
  have g3 : (kd == 3) = false := by simp; omega
  have g4 : (kd == 4) = false := by simp; omega
  have g5 : (kd == 5) = false := by simp; omega
  have g6 : (kd == 6) = false := by simp; omega
  have g7 : (kd == 7) = false := by simp; omega
  have g8 : (kd == 8) = false := by simp; omega
  have g9 : (kd == 9) = false := by simp; omega
  have g10 : (kd == 10) = false := by simp; omega
  clear hkd
  obtain ⟨ar, ck, tb, tp, la, now, tl, dl, l, D, ao, cap, ro, rcap, R, h⟩ := h
  obtain ⟨xb, hxb⟩ : ∃ x, x = w.heap.size := ⟨_, rfl⟩
  obtain ⟨c1, hc1, t1⟩ := ((Stp.refl (fun _ => False) c w).alloc (.cells #[.int .i64 kd, .int .i64 a, .int .i64 b, .int .i64 at0, .int .i64 hi] 91) 0).name
  have X1 := Lib.hid (show Blk c1 0 (w.alloc (.cells #[.int .i64 kd, .int .i64 a, .int .i64 b, .int .i64 at0, .int .i64 hi] 91)) xb [.int .i64 kd, .int .i64 a, .int .i64 b, .int .i64 at0, .int .i64 hi] 91 by rw [hc1.out, hxb]; exact Blk.new c 0 w _ _)
  have H1 := Lib.hid (h.stpF t1.out)
  have S1 := Lib.hid (t1.out.mono (J' := (1 ≤ ·)) (fun _ h => h.elim))
  clear h hc1 t1
  go_enter Tryz.func46, Tryz.ntmps46
  go_upto_region 1 with fail
  rw [← hxb]
  generalize w.alloc (.cells #[.int .i64 kd, .int .i64 a, .int .i64 b, .int .i64 at0, .int .i64 hi] 91) = w1 at X1 H1 S1 ⊢
  clear hxb
  obtain ⟨x0, x1, x2, x3, x4, lx⟩ := ro_blk X1.out
  go_wp2
  go_ret
  exact ⟨rfl, c1, S1.out, ⟨ar, ck, tb, tp, la, now, tl, dl, l, D, ao, cap, ro, rcap, R, { H1.out with law := H1.out.law.mono (Nat.le_succ k) }⟩⟩
/-- Whatever is done. -/
theorem do14_any (h : JE c w k r p) (hk : k < 150) (x : RO) (hs : x.kd = 0 → x.a ≤ 64) :
    Calls Tryz.prog 46 #[.pointer (some ⟨r, 0, none⟩), .pointer (some ⟨p, 0, none⟩), .agg #[.int .i64 x.kd, .int .i64 x.a, .int .i64 x.b, .int .i64 x.at_, .int .i64 x.hi]] w fun e w' => e = .returned (.bool true) ∧ ∃ c', Stp (1 ≤ ·) c c' w w' ∧ JE c' w' (k + 1) r p := by
  obtain ⟨kd, a, b, at0, hi⟩ := x
  simp only at hs ⊢
  by_cases hkd : kd < 0 ∨ 10 < kd
  · exact do14_other h kd a b at0 hi hkd
  have h0 := h
  obtain ⟨ar, ck, tb, tp, la, now, tl, dl, l, D, ao, cap, ro, rcap, R, h⟩ := h
  have ring : ∀ a : Int, (a < 0 ∨ (D.length : Int) ≤ a) ∨ ∃ (i : Nat) (d : RD) (e : DR), a = (i : Int) ∧ D[i]? = some d ∧ R[i]? = some e := fun a => by
    by_cases ha : a < 0 ∨ (D.length : Int) ≤ a
    · exact .inl ha
    · obtain ⟨i, rfl⟩ := Int.eq_ofNat_of_zero_le (show 0 ≤ a by omega)
      obtain ⟨d, e, hd, he, -⟩ := h.law.get (show i < D.length by omega)
      exact .inr ⟨i, d, e, rfl, hd, he⟩
  obtain ⟨q, rfl⟩ := Int.eq_ofNat_of_zero_le (show 0 ≤ kd by omega)
  have hq : q ≤ 10 := by omega
  match q, hq with
  | 0, _ =>
    by_cases hb : b < 0 ∨ 1 < b
    · exact do14_ringk h hk a b at0 hi hb
    · by_cases hn : NoPow a
      · exact do14_rings h hk a b at0 hi (by omega) hn
      · obtain ⟨sh, hsh, hn⟩ : ∃ sh, sh < 21 ∧ a = ((2 ^ sh : Nat) : Int) := by
          refine Decidable.byContradiction fun hc => hn fun sh hsh he => hc ⟨sh, hsh, he⟩
        by_cases hD : 8 ≤ D.length
        · exact do14_ringm h hk a b at0 hi (by omega) hsh hn hD
        · have h6 : sh ≤ 6 := by
            have := hs rfl
            rcases Nat.lt_or_ge sh 7 with hlt | hge
            · omega
            · have : 2 ^ 7 ≤ 2 ^ sh := Nat.pow_le_pow_right (by decide) hge
              omega
          rcases (show b = 0 ∨ b = 1 by omega) with rfl | rfl
          · exact do14_rings1 h hk a at0 hi (by omega) h6 hn
          · exact do14_ringm1 h hk a at0 hi (by omega) h6 hn
  | 1, _ =>
    by_cases hl : l.length < 64
    · exact do14_addo h hk a b at0 hi hl
    · exact do14_addf h hk a b at0 hi (by omega)
  | 2, _ =>
    rcases ring a with ha | ⟨i, d, e, rfl, hd, he⟩
    · exact do14_enl0 h hk a b at0 hi ha
    · exact do14_enl1 h hk b at0 hi hd he
  | 3, _ =>
    rcases ring a with ha | ⟨i, d, e, rfl, hd, he⟩
    · exact do14_sign0 h hk a b at0 hi ha
    · exact do14_sign1 h hk b at0 hi hd he
  | 4, _ => exact do14_park h0 hk a b at0 hi
  | 5, _ => exact do14_wake h0 hk a b at0 hi
  | 6, _ =>
    by_cases h1 : at0 < 1
    · exact do14_tickb h hk a b at0 hi (er := 1) (.inl ⟨h1, rfl⟩)
    · by_cases h2 : 1099511627776 - now < at0
      · exact do14_tickb h hk a b at0 hi (er := 5) (.inr ⟨by omega, h2, rfl⟩)
      · exact do14_ticko h hk a b at0 hi (by omega) (by omega)
  | 7, _ => exact do14_halt h hk a b at0 hi
  | 8, _ =>
    rcases ring a with ha | ⟨i, d, e, rfl, hd, he⟩
    · exact do14_cl0 h hk a b at0 hi ha
    · by_cases hb : b < 1 ∨ 2 ^ d.sh < b
      · exact do14_cl1 h hk b at0 hi hd he hb
      · exact do14_cl2 h hk b at0 hi hd he (by omega)
  | 9, _ =>
    rcases ring a with ha | ⟨i, d, e, rfl, hd, he⟩
    · exact do14_show0 h hk a b at0 hi ha
    · by_cases h1 : hi < at0
      · exact do14_showb h hk b at0 hi hd he h1
      · rcases hm : d.many with _ | _
        · by_cases h2 : hi ≤ e.pub ∨ e.cl < hi
          · exact do14_showsb h hk b at0 hi hd he hm (by omega) h2
          · exact do14_shows h hk b at0 hi hd he hm (by omega) (by omega) (by omega)
        · by_cases h2 : at0 < 0 ∨ e.cl < at0
          · exact do14_showmb h hk b at0 hi hd he hm (by omega) h2
          · exact do14_showm h hk b at0 hi hd he hm (by omega) (by omega) (by omega)
  | 10, _ =>
    rcases ring a with ha | ⟨i, d, e, rfl, hd, he⟩
    · exact do14_pub0 h hk a b at0 hi ha
    · by_cases h1 : at0 < 0 ∨ 4611686018427387904 < at0
      · exact do14_pubr h hk b at0 hi hd he h1
      · rcases hm : d.many with _ | _
        · by_cases h2 : e.pub < at0 - 1
          · exact do14_pubslow h hk b at0 hi hd he hm (by omega) (by omega) h2
          · exact do14_pubs h hk b at0 hi hd he hm (by omega) (by omega) (by omega)
        · exact do14_pubm h hk b at0 hi hd he hm (by omega) (by omega)
end
end Go.Proofs.YtiphdedfbafhkaaGreatDoor

namespace Go.Proofs.YtiphdedfbafhkaaGreatDoor
open Go.RowKit Go.ChangeShapes Go.WideShapes Go.Deep Go.Joins

theorem J14.init : J14 0 [] 0 [] [] [] [] [] :=
  ⟨rfl, fun i d e hd _ => by simp at hd, fun i j d e _ hd _ => by simp at hd, fun i d hd => by simp at hd, by decide, by decide, fun i d hd => by simp at hd, rfl, fun t ht => absurd ht List.not_mem_nil, List.nodup_nil, by decide, fun x hx => absurd hx List.not_mem_nil, by decide⟩
theorem fin1 {c' : Nat → Nat} {w w' : World} (h : Stp (1 ≤ ·) (fun _ => 0) c' w w') : Stp (2 ≤ ·) (fun _ => 0) c' w w' := ⟨h.os, h.tape, h.output, h.size, h.col, fun i hi _ => h.block i hi (by decide)⟩
theorem JE.tabdeb {c : Nat → Nat} {w : World} {k r p : Nat} (h : JE c w k r p) : Tab w ∧ c 1 = 0 := by
  obtain ⟨ar, ck, tb, tp, la, now, tl, dl, l, D, ao, cap, ro, rcap, R, h⟩ := h
  exact ⟨h.tab, h.deb⟩

set_option maxRecDepth 100000 in
set_option maxHeartbeats 8000000 in
theorem rplays_in (oo : Option Addr) (n ocap : Nat) (ops : List RO) (w : World) (ho : In (fun _ => 0) 0 w 5 oo n ocap (ops.flatMap RO.cells)) (hl : ops.length = n) (hs : smallT ops = true) (ht : Tab w) :
    Calls Tryz.prog 6 #[.slice oo n ocap] w fun e w' => e = .returned (.bool true) ∧ Below w.heap.size w w' := by
  have HO := Lib.hid ho
  have HLN := Lib.hid hl
  have HSM := Lib.hid hs
  have HT := Lib.hid ht
  have HK := Lib.hid (show n ≤ 150 by have := (smallT_ok hs).1; omega)
  clear ho hl hs ht
  go_enter Tryz.func6, Tryz.ntmps6
  go_wp2_with fail
  refine (small14_c HO.out HLN.out).mono ?_
  rintro e w1 ⟨rfl, c1, t1⟩
  rw [HSM.out]
  have T1 := Lib.hid (t1.mono (J' := (1 ≤ ·)) (fun _ h => h.elim))
  clear t1
  go_wp2_with fail
  refine (rmnew_c c1 300 w1).mono ?_
  rintro e w2 ⟨r, ar, ck, tb, rfl, c2, t2, m2⟩
  have T2 := Lib.hid (T1.out.trans (t2.mono (fun j hj => by omega)))
  have M2 := Lib.hid (RMs.start m2)
  clear t2 m2 T1
  go_wp2_with fail
  refine (r14new_c c2 w2).mono ?_
  rintro e w3 ⟨p, tp, rfl, c3, t3, d3⟩
  have T3 := Lib.hid (T2.out.trans (t3.mono (fun _ h => h.elim)))
  have J3 := Lib.hid (show JE c3 w3 0 r p from ⟨ar, ck, tb, tp, [], 0, [], [], [], [], none, 0, none, 0, [], ⟨M2.out.stpF t3, d3, J14.init, HT.out.stp T3.out (by decide), T3.out.col _ (World.block_lt_of_cell? w _ (HT.out 0 (by decide))), fun i d hd => by simp at hd⟩⟩)
  clear t3 d3 T2 M2
  go_wp2_with fail
  go_loopg [17] n (fun gh iv wr => ∃ (j : Nat) (c5 : Nat → Nat), iv = .int .i64 j ∧ j + gh = n ∧ Hid (JE c5 wr j r p) ∧ Hid (Stp (1 ≤ ·) (fun _ => 0) c5 w wr))
  case atStart => exact ⟨0, c3, rfl, by omega, J3, T3⟩
  case round =>
    obtain ⟨j, c5, rfl, hj, J5, T5⟩ := hrel
    clear J3 T3
    by_cases hlt : j < n
    · obtain ⟨x, hx⟩ : ∃ x, ops[j]? = some x := ⟨_, List.getElem?_eq_getElem (show j < ops.length by rw [HLN.out]; exact hlt)⟩
      obtain ⟨a, ha, y0, y1, y2, y3, y4⟩ := ro_cells (HO.out.stp T5.out (by decide)) hx
      subst ha
      have HSX := Lib.hid (show x.kd = 0 → x.a ≤ 64 from (smallT_ok HSM.out).2 x (List.mem_of_getElem? hx))
      clear hx
      obtain ⟨kd, xa, xb0, xat, xhi⟩ := x
      simp only at y0 y1 y2 y3 y4
      have HJ := Lib.hid (show j + 1 + (gk - 1) = n ∧ gk - 1 < gk by omega)
      have HJ9 := Lib.hid (show j < 150 by have := HK.out; omega)
      have hj9 : j ≤ 150 := by have := HK.out; omega
      obtain ⟨xb, hxb⟩ : ∃ x, x = wr.heap.size := ⟨_, rfl⟩
      obtain ⟨c6, hc6, t6⟩ := ((Stp.refl (fun _ => False) c5 wr).alloc (.cells #[.int .i64 kd, .int .i64 xa, .int .i64 xb0, .int .i64 xat, .int .i64 xhi] 91) 0).name
      have X6 := Lib.hid (show Blk c6 0 (wr.alloc (.cells #[.int .i64 kd, .int .i64 xa, .int .i64 xb0, .int .i64 xat, .int .i64 xhi] 91)) xb [.int .i64 kd, .int .i64 xa, .int .i64 xb0, .int .i64 xat, .int .i64 xhi] 91 by rw [hc6.out, hxb]; exact Blk.new c5 0 wr _ _)
      have J6 := Lib.hid (J5.out.stpF t6.out)
      have T6 := Lib.hid (T5.out.trans (t6.out.mono (fun _ h => h.elim)))
      clear hc6 t6 J5 T5 hj
      go_upto_region 9 with fail
      rw [← hxb]
      generalize wr.alloc (.cells #[.int .i64 kd, .int .i64 xa, .int .i64 xb0, .int .i64 xat, .int .i64 xhi] 91) = w6 at X6 J6 T6 ⊢
      clear hxb y0 y1 y2 y3 y4
      obtain ⟨x0, x1, x2, x3, x4, lx⟩ := ro_blk X6.out
      go_wp2_with fail
      refine (do14_any J6.out HJ9.out ⟨kd, xa, xb0, xat, xhi⟩ HSX.out).mono ?_
      rintro e w7 ⟨rfl, c7, t7, j7⟩
      have T7 := Lib.hid (T6.out.trans t7)
      obtain ⟨ar, ck, tb, tp, la, now, tl, dl, l, D, ao, cap, ro, rcap, R, h7⟩ := j7
      have J7 := Lib.hid h7
      clear t7 h7 J6 T6 X6 x0 x1 x2 x3 x4 lx
      go_wp2_with fail
      refine (alike14 J7.out).mono ?_
      rintro e w8 ⟨rfl, c8, t8, j8⟩
      have T8 := Lib.hid (T7.out.trans (t8.mono (fun j hj => by omega)))
      have J8 := Lib.hid j8
      clear t8 j8 J7 T7
      go_wp2
      go_roundg (gk - 1)
      case rel => exact ⟨j + 1, c8, by go_num, HJ.out.1, J8, T8⟩
      case measure => exact HJ.out.2
    · have g4 : decide ((j : Int) < (n : Int)) = false := by simp; omega
      have TD := Lib.hid J5.out.tabdeb
      clear hj J5
      go_wp2_with fail
      refine (awake14k 2 (by decide) c5 _ TD.out.1 TD.out.2).mono ?_
      rintro e w9 ⟨rfl, c9, s9⟩
      have S9 := Lib.hid (T5.out.trans (s9.mono (fun j hj => by omega)))
      clear s9 T5
      go_wp2
      go_ret
      exact ⟨rfl, (fin1 S9.out).fin⟩

set_option maxRecDepth 100000 in
theorem rplays_out (oo : Option Addr) (n ocap : Nat) (ops : List RO) (w : World) (ho : In (fun _ => 0) 0 w 5 oo n ocap (ops.flatMap RO.cells)) (hl : ops.length = n) (hs : smallT ops = false) (ht : Tab w) :
    Calls Tryz.prog 6 #[.slice oo n ocap] w fun e w' => e = .returned (.bool true) ∧ Below w.heap.size w w' := by
  have HO := Lib.hid ho
  have HLN := Lib.hid hl
  have HSM := Lib.hid hs
  have HT := Lib.hid ht
  clear ho hl hs ht
  go_enter Tryz.func6, Tryz.ntmps6
  go_wp2_with fail
  refine (small14_c HO.out HLN.out).mono ?_
  rintro e w1 ⟨rfl, c1, t1⟩
  rw [HSM.out]
  have T1 := Lib.hid (t1.mono (J' := (1 ≤ ·)) (fun _ h => h.elim))
  clear t1
  go_wp2_with fail
  refine (awake14k 2 (by decide) c1 _ (HT.out.stp T1.out (by decide)) (T1.out.col _ (World.block_lt_of_cell? w _ (HT.out 0 (by decide))))).mono ?_
  rintro e w9 ⟨rfl, c9, s9⟩
  have S9 := Lib.hid (T1.out.trans (s9.mono (fun j hj => by omega)))
  clear s9 T1
  go_wp2
  go_ret
  exact ⟨rfl, (fin1 S9.out).fin⟩
theorem rplays_walk (oo : Option Addr) (n ocap : Nat) (ops : List RO) (w : World) (ho : In (fun _ => 0) 0 w 5 oo n ocap (ops.flatMap RO.cells)) (hl : ops.length = n) (ht : Tab w) :
    Calls Tryz.prog 6 #[.slice oo n ocap] w fun e w' => e = .returned (.bool true) ∧ Below w.heap.size w w' := by
  rcases hs : smallT ops with _ | _
  · exact rplays_out oo n ocap ops w ho hl hs ht
  · exact rplays_in oo n ocap ops w ho hl hs ht
theorem dec_ro {H : Type} {enc : TypeId × Value → H} {w : World} {base : Nat} {spare : Nat → Bool} {held : Bool} (n : Nat) (cs : List Value) (y : DataW H × List MemPlace) (h : DataW.trod enc Tryz.prog w base spare held n 91 cs = some y) : ∃ x : RO, cs = x.cells ∧ x.ok := by
  obtain ⟨hl, n', hf⟩ := dec_fields Tryz.underlying91 (by kernel_rfl) (by kernel_rfl) h
  obtain ⟨v0, z0, c0, t0⟩ := hf 0 _ rfl
  obtain ⟨v1, z1, c1, t1⟩ := hf 1 _ rfl
  obtain ⟨v2, z2, c2, t2⟩ := hf 2 _ rfl
  obtain ⟨v3, z3, c3, t3⟩ := hf 3 _ rfl
  obtain ⟨v4, z4, c4, t4⟩ := hf 4 _ rfl
  obtain ⟨x0, e0, _, w0⟩ := DataW.trod_int Tryz.underlying3 t0
  obtain ⟨x1, e1, _, w1⟩ := DataW.trod_int Tryz.underlying3 t1
  obtain ⟨x2, e2, _, w2⟩ := DataW.trod_int Tryz.underlying3 t2
  obtain ⟨x3, e3, _, w3⟩ := DataW.trod_int Tryz.underlying2 t3
  obtain ⟨x4, e4, _, w4⟩ := DataW.trod_int Tryz.underlying2 t4
  match cs, hl with
  | [a, b, c, d, e], _ =>
    simp at c0 c1 c2 c3 c4 e0 e1 e2 e3 e4
    subst c0 c1 c2 c3 c4 e0 e1 e2 e3 e4
    exact ⟨⟨x0, x1, x2, x3, x4⟩, rfl, bounds_i64 w0, bounds_i64 w1, bounds_i64 w2, bounds_i64 w3, bounds_i64 w4⟩
end Go.Proofs.YtiphdedfbafhkaaGreatDoor
