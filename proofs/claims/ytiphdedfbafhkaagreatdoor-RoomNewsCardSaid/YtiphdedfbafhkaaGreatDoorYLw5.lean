/- Contracts that the closing theorem wants (Lw5). No condition beyond each law's own. -/
import Derived.Test.YtiphdedfbafhkaaGreatDoorYLw4
import Derived.Test.YtiphdedfbafhkaaGreatDoorYDq1
import Derived.Deep.LoopGhost
import Derived.Deep.QuietTactic
import Derived.BigQuiet
namespace Go.Proofs.YtiphdedfbafhkaaGreatDoor
open Go.RowKit

theorem put15_other {c : Nat → Nat} {w : World} {kk b q : Nat} {cs : List Value} {ty : TypeId} (h : Blk c kk w b cs ty) (v0 v1 v2 v3 v4 v5 v6 v7 v8 v9 v10 v11 v12 v13 v14 : Value) (hq : q ≠ b) : Blk c kk (put15 w q v0 v1 v2 v3 v4 v5 v6 v7 v8 v9 v10 v11 v12 v13 v14) b cs ty := by
  unfold put15
  exact ((((((((((((((h.other (p := ⟨q, 0, none⟩) v0 hq).other (p := ⟨q, 1, none⟩) v1 hq).other (p := ⟨q, 2, none⟩) v2 hq).other (p := ⟨q, 3, none⟩) v3 hq).other (p := ⟨q, 4, none⟩) v4 hq).other (p := ⟨q, 5, none⟩) v5 hq).other (p := ⟨q, 6, none⟩) v6 hq).other (p := ⟨q, 7, none⟩) v7 hq).other (p := ⟨q, 8, none⟩) v8 hq).other (p := ⟨q, 9, none⟩) v9 hq).other (p := ⟨q, 10, none⟩) v10 hq).other (p := ⟨q, 11, none⟩) v11 hq).other (p := ⟨q, 12, none⟩) v12 hq).other (p := ⟨q, 13, none⟩) v13 hq).other (p := ⟨q, 14, none⟩) v14 hq
section
variable {c c' : Nat → Nat} {w w' : World} {k r p : Nat}
set_option maxRecDepth 100000 in
set_option maxHeartbeats 8000000 in
/-- A claim that both refuse. -/
theorem claim14_bad (a n er : Int) (her : er ≠ 0) (hC : Calls Tryz.prog 8 #[.pointer (some ⟨r, 0, none⟩), .int .i64 a, .int .i64 n] w fun e w' => ∃ tt vv, e = .returned (.tuple #[.agg #[.bool false, .pointer none, .int .i64 0, .slice none 0 0, .int .i64 0, .bool false, .bool false, .bool false, .pointer none, .int .i64 0, .int .i64 0, .int .i64 0, .int .i64 0, .slice none 0 0, .int .i64 0], .iface tt vv]) ∧ ∃ c', Stp (fun _ => False) c c' w w' ∧ ErrAt c' w' (.iface tt vv) er)
    (hD : ∀ (c2 : Nat → Nat) (W : World), Stp (fun _ => False) c c2 w W → Calls Tryz.prog 132 #[.pointer (some ⟨p, 0, none⟩), .int .i64 a, .int .i64 n] W fun e w' => e = .returned (.tuple #[.agg #[.int .i64 0, .int .i64 0, .int .i64 0, .int .i64 0, .int .i64 0, .int .i64 0, .slice none 0 0], .int .i64 er]) ∧ ∃ c', Stp (fun _ => False) c2 c' W w') :
    Calls Tryz.prog 98 #[.pointer (some ⟨r, 0, none⟩), .pointer (some ⟨p, 0, none⟩), .int .i64 a, .int .i64 n] w fun e w' => e = .returned (.bool true) ∧ ∃ c', Stp (fun _ => False) c c' w w' := by
  have HC := Lib.hid hC
  have HD := Lib.hid hD
  have g0 : (er == 0) = false := by simpa using her
  have g1 : (er != 0) = true := by simpa using her
  have HER := Lib.hid her
  clear hC hD her
  go_enter Tryz.func98, Tryz.ntmps98
  go_wp2_with fail
  refine HC.out.mono ?_
  rintro e w1 ⟨tt, vv, rfl, c1, t1, e1⟩
  obtain ⟨tb, htb⟩ : ∃ x, x = w1.heap.size := ⟨_, rfl⟩
  obtain ⟨c2, hc2, t2⟩ := (t1.alloc (.cells #[.bool false, .pointer none, .int .i64 0, .slice none 0 0, .int .i64 0, .bool false, .bool false, .bool false, .pointer none, .int .i64 0, .int .i64 0, .int .i64 0, .int .i64 0, .slice none 0 0, .int .i64 0] 38) 0).name
  have B2 := Lib.hid (show Blk c2 0 (w1.alloc (.cells #[.bool false, .pointer none, .int .i64 0, .slice none 0 0, .int .i64 0, .bool false, .bool false, .bool false, .pointer none, .int .i64 0, .int .i64 0, .int .i64 0, .int .i64 0, .slice none 0 0, .int .i64 0] 38)) tb [.bool false, .pointer none, .int .i64 0, .slice none 0 0, .int .i64 0, .bool false, .bool false, .bool false, .pointer none, .int .i64 0, .int .i64 0, .int .i64 0, .int .i64 0, .slice none 0 0, .int .i64 0] 38 by rw [hc2.out, htb]; exact Blk.new c1 0 w1 _ _)
  have E2 := Lib.hid (e1.stp ((Stp.refl (fun _ => False) c1 w1).alloc (.cells #[.bool false, .pointer none, .int .i64 0, .slice none 0 0, .int .i64 0, .bool false, .bool false, .bool false, .pointer none, .int .i64 0, .int .i64 0, .int .i64 0, .int .i64 0, .slice none 0 0, .int .i64 0] 38) 0) id)
  rw [← hc2.out] at E2
  have T2 := Lib.hid t2.out
  clear t1 e1 hc2 t2
  go_wp2_with fail
  rw [← htb]
  generalize w1.alloc (.cells #[.bool false, .pointer none, .int .i64 0, .slice none 0 0, .int .i64 0, .bool false, .bool false, .bool false, .pointer none, .int .i64 0, .int .i64 0, .int .i64 0, .int .i64 0, .slice none 0 0, .int .i64 0] 38) = w2 at B2 E2 T2 ⊢
  clear htb
  refine (HD.out c2 w2 T2.out).mono ?_
  rintro e w3 ⟨rfl, c3, t3⟩
  have T4 := Lib.hid ((T2.out.trans t3).alloc (.cells #[.int .i64 0, .int .i64 0, .int .i64 0, .int .i64 0, .int .i64 0, .int .i64 0, .slice none 0 0] 218) 0)
  have B4 := Lib.hid ((B2.out.stp t3 id).stp ((Stp.refl (fun _ => False) c3 w3).alloc (.cells #[.int .i64 0, .int .i64 0, .int .i64 0, .int .i64 0, .int .i64 0, .int .i64 0, .slice none 0 0] 218) 0) id)
  have E4 := Lib.hid ((E2.out.stp t3 id).stp ((Stp.refl (fun _ => False) c3 w3).alloc (.cells #[.int .i64 0, .int .i64 0, .int .i64 0, .int .i64 0, .int .i64 0, .int .i64 0, .slice none 0 0] 218) 0) id)
  clear t3 T2 B2 E2
  go_wp2_with fail
  refine (lawis_y (E4.out.err HER.out)).mono ?_
  rintro e w4 ⟨rfl, rfl⟩
  obtain ⟨y0, y1, y2, y3, y4, y5, y6, y7, y8, y9, y10, y11, y12, y13, y14⟩ := cells15 B4.out
  go_wp2_with fail
  refine (rcdone_z (paint c3 w3.heap.size 0) _).mono ?_
  rintro e w5 ⟨rfl, c5, t5⟩
  have T5 := Lib.hid (T4.out.trans t5)
  have B5 := Lib.hid (B4.out.stp t5 id)
  clear t5 y0 y1 y2 y3 y4 y5 y6 y7 y8 y9 y10 y11 y12 y13 y14
  obtain ⟨y0, y1, y2, y3, y4, y5, y6, y7, y8, y9, y10, y11, y12, y13, y14⟩ := cells15 B5.out
  go_wp2_with fail
  refine (rclast_z c5 _).mono ?_
  rintro e w6 ⟨rfl, c6, t6⟩
  have T6 := Lib.hid (T5.out.trans t6)
  clear t6 y0 y1 y2 y3 y4 y5 y6 y7 y8 y9 y10 y11 y12 y13 y14
  go_wp2
  go_loopg [12, 13] 0 (fun _ fv iv wr => wr = w6 ∧ fv = .int .i64 er ∧ iv = .int .i64 0)
  case atStart => exact ⟨rfl, rfl, rfl⟩
  case round =>
    obtain ⟨hw, rfl, rfl⟩ := hrel
    subst hw
    go_wp2
    go_quiet (fail)
    go_wp2
    go_ret
    exact ⟨by first | rfl | simp, c6, T6.out.drewN _⟩

theorem last_at {s : Nat} {hi : Int} (h : s < 5) : (if s = 5 then hi else -1) = -1 := by rw [if_neg (by omega)]
set_option maxRecDepth 100000 in
set_option maxHeartbeats 8000000 in
/-- A claim that both begin. -/
theorem claim14_ok {ar ck tb tp : Nat} {la : List Int} {now : Int} {tl dl : List Tm} {l : List One} {D : List RD} {ao : Option Addr} {cap : Nat} {ro : Option Addr} {rcap : Nat} {R : List DR} {i : Nat} {d : RD} {e : DR} (h : JW c w k r p ar ck tb tp la now tl dl l D ao cap ro rcap R) (hd : D[i]? = some d) (he : R[i]? = some e) (n : Int) (hn : 1 ≤ n ∧ n ≤ 2 ^ d.sh) (hk : k < 150) :
    Calls Tryz.prog 98 #[.pointer (some ⟨r, 0, none⟩), .pointer (some ⟨p, 0, none⟩), .int .i64 (i : Int), .int .i64 n] w fun e w' => e = .returned (.bool true) ∧ ∃ c', Stp (2 ≤ ·) c c' w w' ∧ JE c' w' (k + 1) r p := by
  have HC := Lib.hid (CP.start h hd he n hn hk)
  have HKK := Lib.hid hk
  clear h hd he hn hk
  go_enter Tryz.func98, Tryz.ntmps98
  go_wp2_with fail
  refine HC.out.mono ?_
  rintro e w1 ⟨xu, rfl, c1, t1, nx1⟩
  obtain ⟨tb, htb⟩ : ∃ x, x = w1.heap.size := ⟨_, rfl⟩
  obtain ⟨c2, hc2, t2⟩ := ((Stp.refl (· = 2) c1 w1).alloc (.cells #[.bool xu.b, .pointer xu.p1, .int .i64 xu.a, .slice xu.so xu.sn xu.sc, .int .i64 xu.m, .bool xu.s, .bool xu.d, .bool xu.f, .pointer xu.p2, .int .i64 xu.n, .int .i64 xu.st, .int .i64 xu.cl, .int .i64 xu.hi, .slice xu.o2 xu.n2 xu.c2, .int .i64 xu.mo] 38) 2).name
  have B2 := Lib.hid (show Blk c2 2 (w1.alloc (.cells #[.bool xu.b, .pointer xu.p1, .int .i64 xu.a, .slice xu.so xu.sn xu.sc, .int .i64 xu.m, .bool xu.s, .bool xu.d, .bool xu.f, .pointer xu.p2, .int .i64 xu.n, .int .i64 xu.st, .int .i64 xu.cl, .int .i64 xu.hi, .slice xu.o2 xu.n2 xu.c2, .int .i64 xu.mo] 38)) tb [.bool xu.b, .pointer xu.p1, .int .i64 xu.a, .slice xu.so xu.sn xu.sc, .int .i64 xu.m, .bool xu.s, .bool xu.d, .bool xu.f, .pointer xu.p2, .int .i64 xu.n, .int .i64 xu.st, .int .i64 xu.cl, .int .i64 xu.hi, .slice xu.o2 xu.n2 xu.c2, .int .i64 xu.mo] 38 by rw [hc2.out, htb]; exact Blk.new c1 2 w1 _ _)
  have NX2 := Lib.hid (nx1 c2 _ t2.out)
  have T2 := Lib.hid ((t1.mono (J' := (2 ≤ ·)) (fun j hj => by omega)).trans (t2.out.mono (fun j hj => by omega)))
  clear t1 hc2 t2 nx1 HC
  go_wp2_with fail
  rw [← htb]
  generalize w1.alloc (.cells #[.bool xu.b, .pointer xu.p1, .int .i64 xu.a, .slice xu.so xu.sn xu.sc, .int .i64 xu.m, .bool xu.s, .bool xu.d, .bool xu.f, .pointer xu.p2, .int .i64 xu.n, .int .i64 xu.st, .int .i64 xu.cl, .int .i64 xu.hi, .slice xu.o2 xu.n2 xu.c2, .int .i64 xu.mo] 38) = w2 at B2 NX2 T2 ⊢
  clear htb
  refine NX2.out.mono ?_
  rintro e w3 ⟨s, cl, hi, le, rfl, c3, t3, P3⟩
  obtain ⟨ub, hub⟩ : ∃ x, x = w3.heap.size := ⟨_, rfl⟩
  obtain ⟨c4, hc4, t4⟩ := ((Stp.refl (· = 2) c3 w3).alloc (.cells #[.int .i64 (i : Int), .int .i64 n, .int .i64 (s : Int), .int .i64 cl, .int .i64 hi, .int .i64 le, .slice none 0 0] 218) 2).name
  have U4 := Lib.hid (show Blk c4 2 (w3.alloc (.cells #[.int .i64 (i : Int), .int .i64 n, .int .i64 (s : Int), .int .i64 cl, .int .i64 hi, .int .i64 le, .slice none 0 0] 218)) ub [.int .i64 (i : Int), .int .i64 n, .int .i64 (s : Int), .int .i64 cl, .int .i64 hi, .int .i64 le, .slice none 0 0] 218 by rw [hc4.out, hub]; exact Blk.new c3 2 w3 _ _)
  have B4 := Lib.hid (B2.out.stp (t3.trans ((Stp.refl (3 ≤ ·) c3 w3).alloc (.cells #[.int .i64 (i : Int), .int .i64 n, .int .i64 (s : Int), .int .i64 cl, .int .i64 hi, .int .i64 le, .slice none 0 0] 218) 2)) (by decide))
  rw [← hc4.out] at B4
  have P4 := Lib.hid (P3.stp t4.out (fun j hj => .inr hj))
  have T4 := Lib.hid ((T2.out.trans (t3.mono (fun j hj => by omega))).trans (t4.out.mono (fun j hj => by omega)))
  have NE := Lib.hid (show ub ≠ tb by have h1 := (B2.out.stp t3 (by decide)).lt; omega)
  clear t3 P3 hc4 t4 NX2 T2 B2
  go_wp2_with fail
  rw [← hub]
  generalize w3.alloc (.cells #[.int .i64 (i : Int), .int .i64 n, .int .i64 (s : Int), .int .i64 cl, .int .i64 hi, .int .i64 le, .slice none 0 0] 218) = w4 at U4 B4 P4 T4 ⊢
  clear hub
  refine (lawis_y (Err.nil c4 w4)).mono ?_
  rintro e w5 ⟨rfl, rfl⟩
  have HS6 := Lib.hid P4.out.stage
  go_wp2_with fail
  go_loopg [12, 13] (7 - s) (fun gh fv iv wr => ∃ (j s : Nat) (cl hi le : Int) (xu : CV) (c5 : Nat → Nat), fv = .int .i64 0 ∧ iv = .int .i64 j ∧ s + gh = 7 ∧ Hid (j ≤ s) ∧ Hid (CP k r p i n c5 wr s cl hi le xu) ∧ Hid (Blk c5 2 wr tb [.bool xu.b, .pointer xu.p1, .int .i64 xu.a, .slice xu.so xu.sn xu.sc, .int .i64 xu.m, .bool xu.s, .bool xu.d, .bool xu.f, .pointer xu.p2, .int .i64 xu.n, .int .i64 xu.st, .int .i64 xu.cl, .int .i64 xu.hi, .slice xu.o2 xu.n2 xu.c2, .int .i64 xu.mo] 38) ∧ Hid (Blk c5 2 wr ub [.int .i64 (i : Int), .int .i64 n, .int .i64 (s : Int), .int .i64 cl, .int .i64 hi, .int .i64 le, .slice none 0 0] 218) ∧ Hid (Stp (2 ≤ ·) c c5 w wr))
  case atStart => exact ⟨0, s, cl, hi, le, xu, c4, rfl, rfl, by have := HS6.out; omega, Lib.hid (Nat.zero_le _), P4, B4, U4, T4⟩
  case round =>
    clear P4 B4 U4 T4 HS6
    obtain ⟨j, s, cl, hi, le, xu, c5, rfl, rfl, hg, HJ, P5, B5, U5, T5⟩ := hrel
    obtain ⟨u0, u1, u2, u3, u4, u5, u6, lu⟩ := bl_7 U5.out
    by_cases hs : s < 5
    · obtain ⟨y0, y1, y2, y3, y4, y5, y6, y7, y8, y9, y10, y11, y12, y13, y14⟩ := cells15 B5.out
      have HS5 := Lib.hid hs
      have HG := Lib.hid hg
      have d5 := Lib.hid (show decide (5 ≤ s) = false by simp; omega)
      have d6 := Lib.hid (show decide (s = 6) = false by simp; omega)
      clear hg
      go_wp2_with fail
      refine P5.out.done.mono ?_
      rintro e w6 ⟨rfl, c6, t6⟩
      rw [d5.out]
      have P6 := Lib.hid (P5.out.stp t6 (fun _ h => h.elim))
      have B6 := Lib.hid (B5.out.stp t6 id)
      have U6 := Lib.hid (U5.out.stp t6 id)
      have T6 := Lib.hid (T5.out.trans (t6.mono (fun _ h => h.elim)))
      clear t6 P5 B5 U5 T5 y0 y1 y2 y3 y4 y5 y6 y7 y8 y9 y10 y11 y12 y13 y14 u0 u1 u2 u3 u4 u5 u6 lu
      obtain ⟨y0, y1, y2, y3, y4, y5, y6, y7, y8, y9, y10, y11, y12, y13, y14⟩ := cells15 B6.out
      go_wp2_with fail
      refine P6.out.full.mono ?_
      rintro e w7 ⟨rfl, c7, t7⟩
      rw [d6.out]
      have P7 := Lib.hid (P6.out.stp t7 (fun _ h => h.elim))
      have B7 := Lib.hid (B6.out.stp t7 id)
      have U7 := Lib.hid (U6.out.stp t7 id)
      have T7 := Lib.hid (T6.out.trans (t7.mono (fun _ h => h.elim)))
      clear t7 P6 B6 U6 T6 y0 y1 y2 y3 y4 y5 y6 y7 y8 y9 y10 y11 y12 y13 y14
      obtain ⟨y0, y1, y2, y3, y4, y5, y6, y7, y8, y9, y10, y11, y12, y13, y14⟩ := cells15 B7.out
      go_wp2_with fail
      refine P7.out.last.mono ?_
      rintro e w8 ⟨rfl, c8, t8⟩
      rw [last_at HS5.out]
      have P8 := Lib.hid (P7.out.stp t8 (fun _ h => h.elim))
      have B8 := Lib.hid (B7.out.stp t8 id)
      have U8 := Lib.hid (U7.out.stp t8 id)
      have T8 := Lib.hid (T7.out.trans (t8.mono (fun _ h => h.elim)))
      clear t8 P7 B7 U7 T7 y0 y1 y2 y3 y4 y5 y6 y7 y8 y9 y10 y11 y12 y13 y14
      obtain ⟨u0, u1, u2, u3, u4, u5, u6, lu⟩ := bl_7 U8.out
      go_wp2_with fail
      refine (P8.out.step HS5.out HKK.out).mono ?_
      rintro e w9 ⟨s', cl', hi', le', rfl, hlt, hle6, c9, t9, nx⟩
      have B9 := Lib.hid (B8.out.stp t9 (by decide))
      have U9 := Lib.hid (U8.out.stp t9 (by decide))
      have T9 := Lib.hid (T8.out.trans (t9.mono (fun j hj => by omega)))
      have NX := Lib.hid nx
      have HS9 := Lib.hid (And.intro hlt hle6)
      clear t9 nx hlt hle6 P8 B8 U8 T8 u0 u1 u2 u3 u4 u5 u6 lu
      obtain ⟨u0, u1, u2, u3, u4, u5, u6, lu⟩ := bl_7 U9.out
      obtain ⟨f0, f1, f2, f3, f4, f5, f6⟩ := bf_7 U9.out
      have q10 := ((((((((Stp.refl (· = 2) c9 w9).setCell (p := ⟨ub, 0, none⟩) (.int .i64 (i : Int)) U9.out.1).setCell (p := ⟨ub, 1, none⟩) (.int .i64 n) U9.out.1).setCell (p := ⟨ub, 2, none⟩) (.int .i64 (s' : Int)) U9.out.1).setCell (p := ⟨ub, 3, none⟩) (.int .i64 cl') U9.out.1).setCell (p := ⟨ub, 4, none⟩) (.int .i64 hi') U9.out.1).setCell (p := ⟨ub, 5, none⟩) (.int .i64 le') U9.out.1).setCell (p := ⟨ub, 6, none⟩) (.slice none 0 0) U9.out.1)
      have NY := Lib.hid (NX.out c9 _ q10)
      have B10 := Lib.hid (((((((B9.out.other (p := ⟨ub, 0, none⟩) (.int .i64 (i : Int)) NE.out).other (p := ⟨ub, 1, none⟩) (.int .i64 n) NE.out).other (p := ⟨ub, 2, none⟩) (.int .i64 (s' : Int)) NE.out).other (p := ⟨ub, 3, none⟩) (.int .i64 cl') NE.out).other (p := ⟨ub, 4, none⟩) (.int .i64 hi') NE.out).other (p := ⟨ub, 5, none⟩) (.int .i64 le') NE.out).other (p := ⟨ub, 6, none⟩) (.slice none 0 0) NE.out)
      have U10 := Lib.hid (((((((U9.out.set 0 (.int .i64 (i : Int))).set 1 (.int .i64 n)).set 2 (.int .i64 (s' : Int))).set 3 (.int .i64 cl')).set 4 (.int .i64 hi')).set 5 (.int .i64 le')).set 6 (.slice none 0 0))
      have T10 := Lib.hid (T9.out.trans (q10.mono (fun j hj => by omega)))
      clear q10 NX B9 U9 T9
      go_upto_region 11 with fail
      generalize ((((((w9.setCell ⟨ub, 0, none⟩ (.int .i64 (i : Int))).setCell ⟨ub, 1, none⟩ (.int .i64 n)).setCell ⟨ub, 2, none⟩ (.int .i64 (s' : Int))).setCell ⟨ub, 3, none⟩ (.int .i64 cl')).setCell ⟨ub, 4, none⟩ (.int .i64 hi')).setCell ⟨ub, 5, none⟩ (.int .i64 le')).setCell ⟨ub, 6, none⟩ (.slice none 0 0) = w10 at NY B10 U10 T10 ⊢
      clear u0 u1 u2 u3 u4 u5 u6 lu f0 f1 f2 f3 f4 f5 f6
      obtain ⟨y0, y1, y2, y3, y4, y5, y6, y7, y8, y9, y10, y11, y12, y13, y14⟩ := cells15 B10.out
      go_wp2_with fail
      refine NY.out.mono ?_
      rintro e w11 ⟨xv, rfl, c11, t11, p11⟩
      obtain ⟨vb, hvb⟩ : ∃ x, x = w11.heap.size := ⟨_, rfl⟩
      obtain ⟨c12, hc12, t12⟩ := ((Stp.refl (fun _ => False) c11 w11).alloc (.cells #[.bool xv.b, .pointer xv.p1, .int .i64 xv.a, .slice xv.so xv.sn xv.sc, .int .i64 xv.m, .bool xv.s, .bool xv.d, .bool xv.f, .pointer xv.p2, .int .i64 xv.n, .int .i64 xv.st, .int .i64 xv.cl, .int .i64 xv.hi, .slice xv.o2 xv.n2 xv.c2, .int .i64 xv.mo] 38) 2).name
      have V12 := Lib.hid (show Blk c12 2 (w11.alloc (.cells #[.bool xv.b, .pointer xv.p1, .int .i64 xv.a, .slice xv.so xv.sn xv.sc, .int .i64 xv.m, .bool xv.s, .bool xv.d, .bool xv.f, .pointer xv.p2, .int .i64 xv.n, .int .i64 xv.st, .int .i64 xv.cl, .int .i64 xv.hi, .slice xv.o2 xv.n2 xv.c2, .int .i64 xv.mo] 38)) vb [.bool xv.b, .pointer xv.p1, .int .i64 xv.a, .slice xv.so xv.sn xv.sc, .int .i64 xv.m, .bool xv.s, .bool xv.d, .bool xv.f, .pointer xv.p2, .int .i64 xv.n, .int .i64 xv.st, .int .i64 xv.cl, .int .i64 xv.hi, .slice xv.o2 xv.n2 xv.c2, .int .i64 xv.mo] 38 by rw [hc12.out, hvb]; exact Blk.new c11 2 w11 _ _)
      have P12 := Lib.hid (p11.stp t12.out (fun _ h => h.elim))
      have B12 := Lib.hid ((B10.out.stp t11 (by decide)).stp t12.out id)
      have U12 := Lib.hid ((U10.out.stp t11 (by decide)).stp t12.out id)
      have T12 := Lib.hid ((T10.out.trans (t11.mono (fun j hj => by omega))).trans (t12.out.mono (fun _ h => h.elim)))
      have NV := Lib.hid (show vb ≠ tb by
        have h1 := B10.out.lt
        have h2 := t11.size
        omega)
      clear t11 p11 hc12 t12 NY B10 U10 T10 y0 y1 y2 y3 y4 y5 y6 y7 y8 y9 y10 y11 y12 y13 y14
      go_wp2_with fail
      rw [← hvb]
      generalize w11.alloc (.cells #[.bool xv.b, .pointer xv.p1, .int .i64 xv.a, .slice xv.so xv.sn xv.sc, .int .i64 xv.m, .bool xv.s, .bool xv.d, .bool xv.f, .pointer xv.p2, .int .i64 xv.n, .int .i64 xv.st, .int .i64 xv.cl, .int .i64 xv.hi, .slice xv.o2 xv.n2 xv.c2, .int .i64 xv.mo] 38) = w12 at V12 P12 B12 U12 T12 ⊢
      clear hvb
      refine (lawis_y (Err.nil c12 w12)).mono ?_
      rintro e w13 ⟨rfl, rfl⟩
      have g200 : j ≤ 6 := by have := HJ.out; have := HS5.out; omega
      have g201 : decide ((200 : Int) < (j : Int)) = false := by simp; omega
      go_upto_region 14 with fail
      obtain ⟨z0, z1, z2, z3, z4, z5, z6, z7, z8, z9, z10, z11, z12, z13, z14⟩ := cells15 V12.out
      obtain ⟨y0, y1, y2, y3, y4, y5, y6, y7, y8, y9, y10, y11, y12, y13, y14⟩ := cells15 B12.out
      obtain ⟨f0, f1, f2, f3, f4, f5, f6, f7, f8, f9, f10, f11, f12, f13, f14⟩ := frees15 B12.out
      have lb := B12.out.lt
      have q14 := put15_stp (Stp.refl (· = 2) c12 w12) (.bool xv.b) (.pointer xv.p1) (.int .i64 xv.a) (.slice xv.so xv.sn xv.sc) (.int .i64 xv.m) (.bool xv.s) (.bool xv.d) (.bool xv.f) (.pointer xv.p2) (.int .i64 xv.n) (.int .i64 xv.st) (.int .i64 xv.cl) (.int .i64 xv.hi) (.slice xv.o2 xv.n2 xv.c2) (.int .i64 xv.mo) B12.out.1
      have P14 := Lib.hid (P12.out.stp q14 (fun j hj => .inr hj))
      have B14 := Lib.hid (put15_blk B12.out (.bool xv.b) (.pointer xv.p1) (.int .i64 xv.a) (.slice xv.so xv.sn xv.sc) (.int .i64 xv.m) (.bool xv.s) (.bool xv.d) (.bool xv.f) (.pointer xv.p2) (.int .i64 xv.n) (.int .i64 xv.st) (.int .i64 xv.cl) (.int .i64 xv.hi) (.slice xv.o2 xv.n2 xv.c2) (.int .i64 xv.mo))
      have U14 := Lib.hid (put15_other U12.out (.bool xv.b) (.pointer xv.p1) (.int .i64 xv.a) (.slice xv.so xv.sn xv.sc) (.int .i64 xv.m) (.bool xv.s) (.bool xv.d) (.bool xv.f) (.pointer xv.p2) (.int .i64 xv.n) (.int .i64 xv.st) (.int .i64 xv.cl) (.int .i64 xv.hi) (.slice xv.o2 xv.n2 xv.c2) (.int .i64 xv.mo) (Ne.symm NE.out))
      have T14 := Lib.hid (T12.out.trans (q14.mono (fun j hj => by omega)))
      clear q14 P12 B12 U12 T12
      go_wp2
      go_roundg (7 - s')
      case rel => exact ⟨j + 1, s', cl', hi', le', xv, c12, rfl, by go_num, by have := HS9.out; omega, Lib.hid (by have := HS9.out; have := HJ.out; omega), P14, B14, U14, T14⟩
      case measure => have := HS9.out; have := HG.out; omega
    · have hs2 : s = 5 ∨ s = 6 := by have := P5.out.stage; omega
      have hs3 : ¬ (s : Int) < 5 := by omega
      have hs4 : decide ((s : Int) < 5) = false := by simpa using hs3
      have HE := Lib.hid (P5.out.end_ (by omega))
      obtain ⟨bf, lv, b5, h5⟩ : ∃ (bf : Bool) (lv : Int) (b5 : Bool), decide (5 ≤ s) = true ∧ decide (s = 6) = bf ∧ (if s = 5 then hi else -1) = lv ∧ (((s : Nat) : Int) == 6) = bf ∧ (((s : Nat) : Int) == 5) = b5 ∧ (if b5 = true then hi else -1) = lv := by
        rcases hs2 with rfl | rfl
        · exact ⟨false, hi, true, rfl, rfl, rfl, rfl, rfl, rfl⟩
        · exact ⟨true, -1, false, rfl, rfl, rfl, rfl, rfl, rfl⟩
      have H5 := Lib.hid h5
      clear h5
      clear hg hs2
      go_wp2_with fail
      refine Tryz.rcl15 P5 B5 U5 H5 ?_
      intro c6 w6 g0 g1 g2 g3 g4 g5 g6 g7 g8 g9 g10 g11 g12 g13 g14 g15 g16 g17 g18 g19 g20 t6
      have HF := Lib.hid (HE.out.stpF t6.out)
      have T6 := Lib.hid (T5.out.trans (t6.out.mono (fun _ h => h.elim)))
      clear P5 B5 U5 T5 HE t6 u0 u1 u2 u3 u4 u5 u6 lu
      go_wp2
      go_ret
      exact ⟨rfl, c6, T6.out, HF.out⟩
end
end Go.Proofs.YtiphdedfbafhkaaGreatDoor
